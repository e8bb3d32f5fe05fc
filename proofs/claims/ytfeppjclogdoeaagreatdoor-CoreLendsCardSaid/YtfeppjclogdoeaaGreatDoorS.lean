/-
  The functions' clean texts, printed by a program out of the loaded ones.
-/
import Derived.Test.YtfeppjclogdoeaaGreatDoorSA
namespace Go.Cl.S
open Go Go.Cl

/-- watchbill/set.known -/
def b288 : SCode := (
.seq (.ops [⟨some 2, .box (.t 0), none, []⟩,
  ⟨some 3, .box (.t 1), none, []⟩,
  ⟨some 4, .move (.c (.bool false)), none, []⟩] none [2, 3])
(.seq (.seq (.ops [⟨some 5, .fldAddr 0 (.t 3), none, []⟩,
  ⟨some 6, .load none (.t 5), none, []⟩] none [2, 3, 6])
(.block 0 (.seq (.seq (.ops [⟨some 8, .bin .eql (.t 6) (.c (.int .i64 2)), none, []⟩,
    ⟨some 7, .move (.t 8), none, []⟩] none [2, 3, 6, 7])
  (.cond (.t 7)
    (.skip)
    (.ops [⟨some 9, .bin .eql (.t 6) (.c (.int .i64 3)), none, []⟩,
      ⟨some 7, .move (.t 9), none, []⟩] none [2, 3, 6, 7])))
  (.cond (.t 7)
    (.seq (.ops [⟨some 10, .fldAddr 1 (.t 3), none, []⟩,
      ⟨some 11, .load none (.t 10), none, []⟩,
      ⟨some 12, .fldAddr 0 (.t 2), none, []⟩,
      ⟨some 13, .load none (.t 12), none, []⟩,
      ⟨some 14, .bin .lss (.t 11) (.t 13), none, []⟩,
      ⟨some 4, .move (.t 14), none, []⟩] none [4])
    (.ret))
    (.seq (.seq (.ops [⟨some 16, .bin .eql (.t 6) (.c (.int .i64 4)), none, []⟩,
      ⟨some 15, .move (.t 16), none, []⟩] none [2, 3, 6, 15])
    (.cond (.t 15)
      (.skip)
      (.seq (.ops [⟨some 17, .bin .eql (.t 6) (.c (.int .i64 5)), none, []⟩,
        ⟨some 15, .move (.t 17), none, []⟩] none [2, 3, 6, 15])
      (.cond (.t 15)
        (.skip)
        (.ops [⟨some 18, .bin .eql (.t 6) (.c (.int .i64 6)), none, []⟩,
          ⟨some 15, .move (.t 18), none, []⟩] none [2, 3, 15])))))
    (.cond (.t 15)
      (.seq (.ops [⟨some 19, .fldAddr 1 (.t 3), none, []⟩,
        ⟨some 20, .load none (.t 19), none, []⟩,
        ⟨some 21, .fldAddr 1 (.t 2), none, []⟩,
        ⟨some 22, .load none (.t 21), none, []⟩,
        ⟨some 23, .len .sl (.t 22), none, []⟩,
        ⟨some 24, .bin .lss (.t 20) (.t 23), none, []⟩,
        ⟨some 4, .move (.t 24), none, []⟩] none [4])
      (.ret))
      (.skip)))))))
(.seq (.ops [⟨some 25, .fldAddr 4 (.t 3), none, []⟩,
  ⟨some 26, .load none (.t 25), none, []⟩,
  ⟨some 27, .mkfn 298 [(.t 2)], none, []⟩,
  ⟨some 28, .call 235 [(.t 26), (.t 27)], none, []⟩,
  ⟨some 29, .not (.t 28), none, []⟩,
  ⟨some 4, .move (.t 29), none, []⟩] none [4])
(.ret))))
def f288 : SFunc := ⟨b288, [.t 4]⟩

/-- slices.stableCmpFunc[int] -/
def b357 : SCode := (
.seq (.ops [⟨some 6, .move (.c (.int .i64 20)), none, []⟩] none [0, 1, 2, 6])
(.seq (.ops [⟨some 10, .move (.t 6), none, []⟩,
  ⟨some 7, .move (.c (.int .i64 0)), none, []⟩,
  ⟨some 8, .move (.t 10), none, []⟩] none [0, 1, 2, 6, 7, 8])
(.seq (.block 0 (.loop [0, 1, 2, 6, 7, 8] (.seq (.seq (.ops [⟨some 11, .move (.t 8), none, []⟩,
      ⟨some 12, .move (.t 1), none, []⟩,
      ⟨some 13, .bin .leq (.t 11) (.t 12), none, []⟩] none [0, 1, 2, 6, 7, 8, 13])
    (.cond (.t 13)
      (.skip)
      (.exit 0)))
    (.block 1 (.seq (.ops [⟨some 14, .move (.t 0), none, []⟩,
        ⟨some 15, .move (.t 7), none, []⟩,
        ⟨some 16, .move (.t 8), none, []⟩,
        ⟨some 17, .move (.t 2), none, []⟩,
        ⟨some 18, .call 379 [(.t 14), (.t 15), (.t 16), (.t 17)], none, []⟩] none [0, 1, 2, 6, 8])
      (.seq (.ops [⟨some 19, .move (.t 8), none, []⟩,
        ⟨some 7, .move (.t 19), none, []⟩] none [0, 1, 2, 6, 7, 8])
      (.ops [⟨some 20, .move (.t 8), none, []⟩,
        ⟨some 21, .move (.t 6), none, []⟩,
        ⟨some 22, .bin .add (.t 20) (.t 21), none, []⟩,
        ⟨some 8, .move (.t 22), none, []⟩] none [0, 1, 2, 6, 7, 8])))))))
(.seq (.ops [⟨some 23, .move (.t 0), none, []⟩,
  ⟨some 24, .move (.t 7), none, []⟩,
  ⟨some 25, .move (.t 1), none, []⟩,
  ⟨some 26, .move (.t 2), none, []⟩,
  ⟨some 27, .call 379 [(.t 23), (.t 24), (.t 25), (.t 26)], none, []⟩] none [0, 1, 2, 6])
(.block 2 (.loop [0, 1, 2, 6] (.seq (.seq (.ops [⟨some 28, .move (.t 6), none, []⟩,
      ⟨some 29, .move (.t 1), none, []⟩,
      ⟨some 30, .bin .lss (.t 28) (.t 29), none, []⟩] none [0, 1, 2, 6, 30])
    (.cond (.t 30)
      (.skip)
      (.exit 2)))
    (.block 3 (.seq (.ops [⟨some 31, .move (.t 6), none, []⟩,
        ⟨some 32, .bin .mul (.c (.int .i64 2)) (.t 31), none, []⟩,
        ⟨some 7, .move (.c (.int .i64 0)), none, []⟩,
        ⟨some 8, .move (.t 32), none, []⟩] none [0, 1, 2, 6, 7, 8])
      (.seq (.block 4 (.loop [0, 1, 2, 6, 7, 8] (.seq (.seq (.ops [⟨some 33, .move (.t 8), none, []⟩,
            ⟨some 34, .move (.t 1), none, []⟩,
            ⟨some 35, .bin .leq (.t 33) (.t 34), none, []⟩] none [0, 1, 2, 6, 7, 8, 35])
          (.cond (.t 35)
            (.skip)
            (.exit 4)))
          (.block 5 (.seq (.ops [⟨some 36, .move (.t 0), none, []⟩,
              ⟨some 37, .move (.t 7), none, []⟩,
              ⟨some 38, .move (.t 7), none, []⟩,
              ⟨some 39, .move (.t 6), none, []⟩,
              ⟨some 40, .bin .add (.t 38) (.t 39), none, []⟩,
              ⟨some 41, .move (.t 8), none, []⟩,
              ⟨some 42, .move (.t 2), none, []⟩,
              ⟨some 43, .call 380 [(.t 36), (.t 37), (.t 40), (.t 41), (.t 42)], none, []⟩] none [0, 1, 2, 6, 8])
            (.seq (.ops [⟨some 44, .move (.t 8), none, []⟩,
              ⟨some 7, .move (.t 44), none, []⟩] none [0, 1, 2, 6, 7, 8])
            (.ops [⟨some 45, .move (.t 8), none, []⟩,
              ⟨some 46, .move (.t 6), none, []⟩,
              ⟨some 47, .bin .mul (.c (.int .i64 2)) (.t 46), none, []⟩,
              ⟨some 48, .bin .add (.t 45) (.t 47), none, []⟩,
              ⟨some 8, .move (.t 48), none, []⟩] none [0, 1, 2, 6, 7, 8])))))))
      (.seq (.seq (.ops [⟨some 49, .move (.t 7), none, []⟩,
        ⟨some 50, .move (.t 6), none, []⟩,
        ⟨some 51, .bin .add (.t 49) (.t 50), none, []⟩,
        ⟨some 9, .move (.t 51), none, []⟩] none [0, 1, 2, 6, 7, 9])
      (.seq (.ops [⟨some 52, .move (.t 9), none, []⟩,
        ⟨some 53, .move (.t 1), none, []⟩,
        ⟨some 54, .bin .lss (.t 52) (.t 53), none, []⟩] none [0, 1, 2, 6, 7, 9, 54])
      (.cond (.t 54)
        (.ops [⟨some 55, .move (.t 0), none, []⟩,
          ⟨some 56, .move (.t 7), none, []⟩,
          ⟨some 57, .move (.t 9), none, []⟩,
          ⟨some 58, .move (.t 1), none, []⟩,
          ⟨some 59, .move (.t 2), none, []⟩,
          ⟨some 60, .call 380 [(.t 55), (.t 56), (.t 57), (.t 58), (.t 59)], none, []⟩] none [0, 1, 2, 6])
        (.skip))))
      (.ops [⟨some 61, .move (.t 6), none, []⟩,
        ⟨some 62, .bin .mul (.t 61) (.c (.int .i64 2)), none, []⟩,
        ⟨some 6, .move (.t 62), none, []⟩] none [0, 1, 2, 6]))))))))))))
def f357 : SFunc := ⟨b357, []⟩

/-- cmp.isNaN[int64] -/
def b359 : SCode := (
.seq (.ops [⟨some 2, .move (.c (.bool false)), none, []⟩] none [0])
(.seq (.ops [⟨some 3, .move (.t 0), none, []⟩,
  ⟨some 4, .move (.t 0), none, []⟩,
  ⟨some 5, .bin .neq (.t 3) (.t 4), none, []⟩,
  ⟨some 2, .move (.t 5), none, []⟩] none [2])
(.ret)))
def f359 : SFunc := ⟨b359, [.t 2]⟩

/-- slices.Index[[]int,int] -/
def b360 : SCode := (
.seq (.ops [⟨some 4, .move (.c (.int .i64 0)), none, []⟩] none [0, 1])
(.seq (.seq (.ops [⟨some 6, .move (.t 0), none, []⟩,
  ⟨some 7, .len .sl (.t 6), none, []⟩,
  ⟨some 8, .move (.c (.int .i64 0)), none, []⟩] none [0, 1, 7, 8])
(.block 0 (.loop [0, 1, 7, 8] (.seq (.ops [⟨some 9, .bin .lss (.t 8) (.t 7), none, []⟩] none [0, 1, 7, 8, 9])
    (.seq (.cond (.t 9)
      (.skip)
      (.exit 0))
    (.seq (.block 1 (.seq (.ops [⟨some 10, .move (.t 8), none, []⟩,
        ⟨some 5, .move (.t 10), none, []⟩] none [0, 1, 5, 7, 8])
      (.seq (.ops [⟨some 11, .move (.t 1), none, []⟩,
        ⟨some 12, .move (.t 0), none, []⟩,
        ⟨some 13, .move (.t 5), none, []⟩,
        ⟨some 14, .idxAddr 1 (.t 12) (.t 13), none, []⟩,
        ⟨some 15, .load none (.t 14), none, []⟩,
        ⟨some 16, .bin .eql (.t 11) (.t 15), none, []⟩] none [0, 1, 5, 7, 8, 16])
      (.cond (.t 16)
        (.seq (.ops [⟨some 17, .move (.t 5), none, []⟩,
          ⟨some 4, .move (.t 17), none, []⟩] none [4])
        (.ret))
        (.skip)))))
    (.ops [⟨some 18, .bin .add (.t 8) (.c (.int .i64 1)), none, []⟩,
      ⟨some 8, .move (.t 18), none, []⟩] none [0, 1, 7, 8])))))))
(.seq (.ops [⟨some 4, .move (.c (.int .i64 (-1))), none, []⟩] none [4])
(.ret))))
def f360 : SFunc := ⟨b360, [.t 4]⟩

/-- slices.Sort[[]int,int] -/
def b361 : SCode := (
.seq (.ops [⟨some 3, .move (.t 0), none, []⟩,
  ⟨some 4, .len .sl (.t 3), none, []⟩,
  ⟨some 2, .move (.t 4), none, []⟩] none [0, 2])
(.ops [⟨some 5, .move (.t 0), none, []⟩,
  ⟨some 6, .move (.t 2), none, []⟩,
  ⟨some 7, .move (.t 2), none, []⟩,
  ⟨some 8, .conv .u64 (.t 7), none, []⟩,
  ⟨some 9, .call 381 [(.t 8)], none, []⟩,
  ⟨some 10, .call 382 [(.t 5), (.c (.int .i64 0)), (.t 6), (.t 9)], none, []⟩] none []))
def f361 : SFunc := ⟨b361, []⟩

/-- slices.Compact[[]int,int] -/
def b362 : SCode := (
.seq (.ops [⟨some 2, .move (.c .nils), none, []⟩] none [0])
(.seq (.seq (.ops [⟨some 6, .move (.t 0), none, []⟩,
  ⟨some 7, .len .sl (.t 6), none, []⟩,
  ⟨some 8, .bin .lss (.t 7) (.c (.int .i64 2)), none, []⟩] none [0, 8])
(.cond (.t 8)
  (.seq (.ops [⟨some 9, .move (.t 0), none, []⟩,
    ⟨some 2, .move (.t 9), none, []⟩] none [2])
  (.ret))
  (.skip)))
(.seq (.seq (.ops [⟨some 3, .move (.c (.int .i64 1)), none, []⟩] none [0, 3])
(.block 0 (.loop [0, 3] (.seq (.seq (.ops [⟨some 10, .move (.t 3), none, []⟩,
      ⟨some 11, .move (.t 0), none, []⟩,
      ⟨some 12, .len .sl (.t 11), none, []⟩,
      ⟨some 13, .bin .lss (.t 10) (.t 12), none, []⟩] none [0, 3, 13])
    (.cond (.t 13)
      (.skip)
      (.exit 0)))
    (.seq (.block 1 (.seq (.ops [⟨some 16, .move (.t 0), none, []⟩,
        ⟨some 17, .move (.t 3), none, []⟩,
        ⟨some 18, .idxAddr 1 (.t 16) (.t 17), none, []⟩,
        ⟨some 19, .load none (.t 18), none, []⟩,
        ⟨some 20, .move (.t 0), none, []⟩,
        ⟨some 21, .move (.t 3), none, []⟩,
        ⟨some 22, .bin .sub (.t 21) (.c (.int .i64 1)), none, []⟩,
        ⟨some 23, .idxAddr 1 (.t 20) (.t 22), none, []⟩,
        ⟨some 24, .load none (.t 23), none, []⟩,
        ⟨some 25, .bin .eql (.t 19) (.t 24), none, []⟩] (some [(0, []), (1, []), (2, [0, 1]), (3, [2, 0, 1]), (4, []), (5, []), (6, [5]), (7, [4, 6, 5]), (8, [7, 4, 6, 5]), (9, [3, 2, 0, 1, 8, 7, 4, 6, 5])]) [0, 3, 25])
      (.cond (.t 25)
        (.seq (.ops [⟨some 26, .move (.t 0), none, []⟩,
          ⟨some 27, .move (.t 3), none, []⟩,
          ⟨some 28, .slSl 1 (.t 26) (some (.t 27)) none, none, []⟩,
          ⟨some 4, .move (.t 28), none, []⟩] none [0, 3, 4])
        (.seq (.seq (.ops [⟨some 5, .move (.c (.int .i64 1)), none, []⟩] none [0, 3, 4, 5])
        (.block 2 (.loop [0, 3, 4, 5] (.seq (.seq (.ops [⟨some 29, .move (.t 5), none, []⟩,
              ⟨some 30, .move (.t 4), none, []⟩,
              ⟨some 31, .len .sl (.t 30), none, []⟩,
              ⟨some 32, .bin .lss (.t 29) (.t 31), none, []⟩] none [0, 3, 4, 5, 32])
            (.cond (.t 32)
              (.skip)
              (.exit 2)))
            (.seq (.block 3 (.seq (.ops [⟨some 35, .move (.t 4), none, []⟩,
                ⟨some 36, .move (.t 5), none, []⟩,
                ⟨some 37, .idxAddr 1 (.t 35) (.t 36), none, []⟩,
                ⟨some 38, .load none (.t 37), none, []⟩,
                ⟨some 39, .move (.t 4), none, []⟩,
                ⟨some 40, .move (.t 5), none, []⟩,
                ⟨some 41, .bin .sub (.t 40) (.c (.int .i64 1)), none, []⟩,
                ⟨some 42, .idxAddr 1 (.t 39) (.t 41), none, []⟩,
                ⟨some 43, .load none (.t 42), none, []⟩,
                ⟨some 44, .bin .neq (.t 38) (.t 43), none, []⟩] (some [(0, []), (1, []), (2, [0, 1]), (3, [2, 0, 1]), (4, []), (5, []), (6, [5]), (7, [4, 6, 5]), (8, [7, 4, 6, 5]), (9, [3, 2, 0, 1, 8, 7, 4, 6, 5])]) [0, 3, 4, 5, 44])
              (.cond (.t 44)
                (.seq (.ops [⟨some 45, .move (.t 0), none, []⟩,
                  ⟨some 46, .move (.t 3), none, []⟩,
                  ⟨some 47, .move (.t 4), none, []⟩,
                  ⟨some 48, .move (.t 5), none, []⟩,
                  ⟨some 49, .idxAddr 1 (.t 47) (.t 48), none, []⟩,
                  ⟨some 50, .load none (.t 49), none, []⟩,
                  ⟨some 51, .idxAddr 1 (.t 45) (.t 46), none, []⟩,
                  ⟨none, .store none (.t 51) (.t 50), none, []⟩] none [0, 3, 4, 5])
                (.ops [⟨some 52, .move (.t 3), none, []⟩,
                  ⟨some 53, .bin .add (.t 52) (.c (.int .i64 1)), none, []⟩,
                  ⟨some 3, .move (.t 53), none, []⟩] none [0, 3, 4, 5]))
                (.skip))))
            (.ops [⟨some 33, .move (.t 5), none, []⟩,
              ⟨some 34, .bin .add (.t 33) (.c (.int .i64 1)), none, []⟩,
              ⟨some 5, .move (.t 34), none, []⟩] none [0, 3, 4, 5]))))))
        (.seq (.ops [⟨some 54, .move (.t 0), none, []⟩,
          ⟨some 55, .move (.t 3), none, []⟩,
          ⟨some 56, .slSl 1 (.t 54) (some (.t 55)) none, none, []⟩,
          ⟨none, .clr [(.int .i64 0)] (.t 56), none, []⟩] none [0, 3])
        (.seq (.ops [⟨some 57, .move (.t 0), none, []⟩,
          ⟨some 58, .move (.t 3), none, []⟩,
          ⟨some 59, .slSl 1 (.t 57) none (some (.t 58)), none, []⟩,
          ⟨some 2, .move (.t 59), none, []⟩] none [2])
        (.ret)))))
        (.skip))))
    (.ops [⟨some 14, .move (.t 3), none, []⟩,
      ⟨some 15, .bin .add (.t 14) (.c (.int .i64 1)), none, []⟩,
      ⟨some 3, .move (.t 15), none, []⟩] none [0, 3]))))))
(.seq (.ops [⟨some 60, .move (.t 0), none, []⟩,
  ⟨some 2, .move (.t 60), none, []⟩] none [2])
(.ret)))))
def f362 : SFunc := ⟨b362, [.t 2]⟩

/-- watchbill/waitq.Has -/
def b363 : SCode := (
.seq (.ops [⟨some 3, .box (.t 1), none, []⟩,
  ⟨some 4, .move (.c (.bool false)), none, []⟩] none [0, 3])
(.seq (.ops [⟨some 5, .move (.t 0), none, []⟩,
  ⟨some 6, .mkfn 383 [(.t 3)], none, []⟩,
  ⟨some 7, .call 384 [(.t 5), (.t 6)], none, []⟩,
  ⟨some 4, .move (.t 7), none, []⟩] none [4])
(.ret)))
def f363 : SFunc := ⟨b363, [.t 4]⟩

/-- watchbill/waitq.Best -/
def b364 : SCode := (
.seq (.ops [⟨some 4, .move (.c (.int .i64 0)), none, []⟩] none [0, 1])
(.seq (.ops [⟨some 5, .move (.c (.int .i64 (-1))), none, []⟩] none [0, 1, 5])
(.seq (.skip)
(.seq (.seq (.ops [⟨some 9, .move (.t 0), none, []⟩,
  ⟨some 10, .len .sl (.t 9), none, []⟩,
  ⟨some 11, .move (.c (.int .i64 0)), none, []⟩] none [0, 1, 5, 9, 10, 11])
(.block 0 (.loop [0, 1, 5, 9, 10, 11] (.seq (.ops [⟨some 12, .bin .lss (.t 11) (.t 10), none, []⟩] none [0, 1, 5, 9, 10, 11, 12])
    (.seq (.cond (.t 12)
      (.skip)
      (.exit 0))
    (.seq (.block 1 (.seq (.ops [⟨some 13, .move (.t 11), none, []⟩,
        ⟨some 14, .idxAddr 4 (.t 9) (.t 11), none, []⟩,
        ⟨some 15, .load (some 4) (.t 14), none, []⟩,
        ⟨some 7, .alloc (.agg [(.int .i64 0), (.int .i64 0), (.int .i64 0), (.int .i64 0)]), none, []⟩,
        ⟨some 6, .move (.t 13), none, []⟩,
        ⟨none, .store (some 4) (.t 7) (.t 15), none, []⟩] none [0, 1, 5, 6, 7, 9, 10, 11])
      (.seq (.seq (.ops [⟨some 16, .move (.t 5), none, []⟩,
        ⟨some 17, .bin .lss (.t 16) (.c (.int .i64 0)), none, []⟩] none [0, 1, 5, 6, 7, 9, 10, 11, 17])
      (.cond (.t 17)
        (.seq (.ops [⟨some 18, .move (.t 6), none, []⟩,
          ⟨some 5, .move (.t 18), none, []⟩] none [0, 1, 5, 9, 10, 11])
        (.exit 1))
        (.skip)))
      (.seq (.ops [⟨some 19, .move (.t 0), none, []⟩,
        ⟨some 20, .move (.t 5), none, []⟩,
        ⟨some 21, .idxAddr 4 (.t 19) (.t 20), none, []⟩,
        ⟨some 22, .load (some 4) (.t 21), none, []⟩,
        ⟨some 8, .alloc (.agg [(.int .i64 0), (.int .i64 0), (.int .i64 0), (.int .i64 0)]), none, []⟩,
        ⟨none, .store (some 4) (.t 8) (.t 22), none, []⟩] none [0, 1, 5, 6, 7, 8, 9, 10, 11])
      (.seq (.ops [⟨some 23, .move (.t 1), none, []⟩,
        ⟨some 24, .fldAddr 0 (.t 8), none, []⟩,
        ⟨some 25, .load none (.t 24), none, []⟩,
        ⟨some 27, .move (.t 1), none, []⟩,
        ⟨some 28, .fldAddr 0 (.t 7), none, []⟩,
        ⟨some 29, .load none (.t 28), none, []⟩,
        ⟨some 32, .fldAddr 2 (.t 7), none, []⟩,
        ⟨some 33, .load none (.t 32), none, []⟩,
        ⟨some 34, .fldAddr 2 (.t 8), none, []⟩,
        ⟨some 35, .load none (.t 34), none, []⟩,
        ⟨some 26, .call 385 [(.t 23), (.t 25)], none, [5, 7, 9]⟩,
        ⟨some 30, .call 385 [(.t 27), (.t 29)], none, [7, 9]⟩,
        ⟨some 31, .call 386 [(.t 26), (.t 30)], none, [7, 9]⟩,
        ⟨some 36, .call 358 [(.t 33), (.t 35)], none, []⟩,
        ⟨some 37, .buildSl 2 [(.int .i64 0), (.int .i64 0)] [(0, 1, (.t 31)), (1, 1, (.t 36))], none, []⟩,
        ⟨some 38, .call 387 [(.t 37)], none, []⟩,
        ⟨some 39, .bin .lss (.t 38) (.c (.int .i64 0)), none, []⟩] (some [(0, []), (1, []), (2, [1]), (4, []), (5, []), (6, [4]), (9, []), (10, [6]), (11, []), (12, [8]), (3, [0, 2, 1]), (7, [3, 5, 4, 10, 0, 2, 1]), (8, [10, 0, 2, 1, 11, 3, 5, 4]), (13, [7, 6, 9, 8, 12, 10, 0, 2, 1, 11, 3, 5, 4]), (14, [12, 10, 0, 2, 1, 11, 3, 5, 4, 13, 7, 6, 9, 8]), (15, [14, 12, 10, 0, 2, 1, 11, 3, 5, 4, 13, 7, 6, 9, 8]), (16, [15, 14, 12, 10, 0, 2, 1, 11, 3, 5, 4, 13, 7, 6, 9, 8])]) [0, 1, 5, 6, 9, 10, 11, 39])
      (.cond (.t 39)
        (.ops [⟨some 40, .move (.t 6), none, []⟩,
          ⟨some 5, .move (.t 40), none, []⟩] none [0, 1, 5, 9, 10, 11])
        (.skip)))))))
    (.ops [⟨some 41, .bin .add (.t 11) (.c (.int .i64 1)), none, []⟩,
      ⟨some 11, .move (.t 41), none, []⟩] none [0, 1, 5, 9, 10, 11])))))))
(.seq (.ops [⟨some 42, .move (.t 5), none, []⟩,
  ⟨some 4, .move (.t 42), none, []⟩] none [4])
(.ret))))))
def f364 : SFunc := ⟨b364, [.t 4]⟩

/-- (*watchbill/lockq.Lock).Leave -/
def b365 : SCode := (
.seq (.ops [⟨some 4, .move (.c .nils), none, []⟩] none [0, 1, 4])
(.seq (.skip)
(.seq (.seq (.ops [⟨some 7, .move (.t 0), none, []⟩,
  ⟨some 8, .nilck (.t 7), none, []⟩,
  ⟨some 9, .fldAddr 1 (.t 8), none, []⟩,
  ⟨some 10, .load none (.t 9), none, []⟩,
  ⟨some 11, .len .sl (.t 10), none, []⟩,
  ⟨some 12, .move (.c (.int .i64 0)), none, []⟩] none [0, 1, 4, 10, 11, 12])
(.block 0 (.loop [0, 1, 4, 10, 11, 12] (.seq (.ops [⟨some 13, .bin .lss (.t 12) (.t 11), none, []⟩] none [0, 1, 4, 10, 11, 12, 13])
    (.seq (.cond (.t 13)
      (.skip)
      (.exit 0))
    (.seq (.block 1 (.seq (.ops [⟨some 14, .idxAddr 4 (.t 10) (.t 12), none, []⟩,
        ⟨some 15, .load (some 4) (.t 14), none, []⟩,
        ⟨some 6, .alloc (.agg [(.int .i64 0), (.int .i64 0), (.int .i64 0), (.int .i64 0)]), none, []⟩,
        ⟨none, .store (some 4) (.t 6) (.t 15), none, []⟩] none [0, 1, 4, 6, 10, 11, 12])
      (.seq (.seq (.ops [⟨some 16, .fldAddr 0 (.t 6), none, []⟩,
        ⟨some 17, .load none (.t 16), none, []⟩,
        ⟨some 18, .move (.t 1), none, []⟩,
        ⟨some 19, .bin .eql (.t 17) (.t 18), none, []⟩] none [0, 1, 4, 6, 10, 11, 12, 19])
      (.cond (.t 19)
        (.exit 1)
        (.skip)))
      (.ops [⟨some 20, .move (.t 4), none, []⟩,
        ⟨some 21, .load (some 4) (.t 6), none, []⟩,
        ⟨some 22, .buildSl 1 [(.int .i64 0), (.int .i64 0), (.int .i64 0), (.int .i64 0)] [(0, 4, (.t 21))], none, []⟩,
        ⟨some 23, .append 4 (.t 20) (.t 22), none, []⟩,
        ⟨some 4, .move (.t 23), none, []⟩] none [0, 1, 4, 10, 11, 12]))))
    (.ops [⟨some 24, .bin .add (.t 12) (.c (.int .i64 1)), none, []⟩,
      ⟨some 12, .move (.t 24), none, []⟩] none [0, 1, 4, 10, 11, 12])))))))
(.ops [⟨some 25, .move (.t 0), none, []⟩,
  ⟨some 26, .move (.t 4), none, []⟩,
  ⟨some 27, .nilck (.t 25), none, []⟩,
  ⟨some 28, .fldAddr 1 (.t 27), none, []⟩,
  ⟨none, .store none (.t 28) (.t 26), none, []⟩] none []))))
def f365 : SFunc := ⟨b365, []⟩

/-- watchbill/pick.Leave -/
def b366 : SCode := (
.seq (.ops [⟨some 6, .move (.t 0), none, []⟩,
  ⟨some 7, .len .sl (.t 6), none, []⟩,
  ⟨some 8, .move (.c (.int .i64 0)), none, []⟩] none [1, 6, 7, 8])
(.block 0 (.loop [1, 6, 7, 8] (.seq (.ops [⟨some 9, .bin .lss (.t 8) (.t 7), none, []⟩] none [1, 6, 7, 8, 9])
    (.seq (.cond (.t 9)
      (.skip)
      (.exit 0))
    (.seq (.block 1 (.seq (.ops [⟨some 10, .idxAddr 1 (.t 6) (.t 8), none, []⟩,
        ⟨some 11, .load none (.t 10), none, []⟩,
        ⟨some 5, .move (.t 11), none, []⟩] none [1, 5, 6, 7, 8])
      (.ops [⟨some 12, .move (.t 5), none, []⟩,
        ⟨some 13, .move (.t 1), none, []⟩,
        ⟨some 14, .call 388 [(.t 12), (.t 13)], none, []⟩] none [1, 6, 7, 8])))
    (.ops [⟨some 15, .bin .add (.t 8) (.c (.int .i64 1)), none, []⟩,
      ⟨some 8, .move (.t 15), none, []⟩] none [1, 6, 7, 8])))))))
def f366 : SFunc := ⟨b366, []⟩

/-- (*watchbill/timer.Timer).Cancel -/
def b367 : SCode := (
.seq (.ops [⟨some 4, .move (.c (.int .i64 0)), none, []⟩] none [0, 1])
(.seq (.ops [⟨some 6, .move (.t 0), none, []⟩,
  ⟨some 7, .move (.t 1), none, []⟩,
  ⟨some 8, .call 375 [(.t 6), (.t 7)], none, []⟩,
  ⟨some 5, .move (.t 8), none, []⟩] none [0, 5])
(.seq (.seq (.ops [⟨some 9, .move (.t 5), none, []⟩,
  ⟨some 10, .bin .lss (.t 9) (.c (.int .i64 0)), none, []⟩] none [0, 5, 10])
(.cond (.t 10)
  (.seq (.ops [⟨some 4, .move (.c (.int .i64 8)), none, []⟩] none [4])
  (.ret))
  (.skip)))
(.seq (.seq (.ops [⟨some 11, .move (.t 5), none, []⟩,
  ⟨some 12, .bin .add (.t 11) (.c (.int .i64 1)), none, []⟩,
  ⟨some 13, .move (.t 0), none, []⟩,
  ⟨some 14, .nilck (.t 13), none, []⟩,
  ⟨some 15, .fldAddr 0 (.t 14), none, []⟩,
  ⟨some 16, .load none (.t 15), none, []⟩,
  ⟨some 17, .len .sl (.t 16), none, []⟩,
  ⟨some 18, .bin .lss (.t 12) (.t 17), none, []⟩] none [0, 5, 18])
(.cond (.t 18)
  (.ops [⟨some 19, .move (.t 0), none, []⟩,
    ⟨some 20, .nilck (.t 19), none, []⟩,
    ⟨some 21, .fldAddr 0 (.t 20), none, []⟩,
    ⟨some 22, .load none (.t 21), none, []⟩,
    ⟨some 23, .move (.t 5), none, []⟩,
    ⟨some 24, .bin .add (.t 23) (.c (.int .i64 1)), none, []⟩,
    ⟨some 25, .idxAddr 2 (.t 22) (.t 24), none, []⟩,
    ⟨some 26, .fldAddr 1 (.t 25), none, []⟩,
    ⟨some 27, .load none (.t 26), none, []⟩,
    ⟨some 28, .move (.t 0), none, []⟩,
    ⟨some 29, .nilck (.t 28), none, []⟩,
    ⟨some 30, .fldAddr 0 (.t 29), none, []⟩,
    ⟨some 31, .load none (.t 30), none, []⟩,
    ⟨some 32, .move (.t 5), none, []⟩,
    ⟨some 33, .idxAddr 2 (.t 31) (.t 32), none, []⟩,
    ⟨some 34, .fldAddr 1 (.t 33), none, []⟩,
    ⟨some 35, .load none (.t 34), none, []⟩,
    ⟨some 36, .bin .add (.t 27) (.t 35), none, []⟩,
    ⟨some 37, .idxAddr 2 (.t 22) (.t 24), none, []⟩,
    ⟨some 38, .fldAddr 1 (.t 37), none, []⟩,
    ⟨none, .store none (.t 38) (.t 36), none, []⟩] (some [(0, []), (1, [0]), (2, [1, 0]), (3, [2, 1, 0]), (4, []), (5, [4]), (6, [3, 2, 1, 0, 5, 4]), (7, [6, 3, 2, 1, 0, 5, 4]), (8, [7, 6, 3, 2, 1, 0, 5, 4]), (9, []), (10, [9]), (11, [10, 9]), (12, [11, 10, 9]), (13, []), (14, [12, 11, 10, 9, 13]), (15, [14, 12, 11, 10, 9, 13]), (16, [15, 14, 12, 11, 10, 9, 13]), (17, [8, 7, 6, 3, 2, 1, 0, 5, 4, 16, 15, 14, 12, 11, 10, 9, 13]), (18, [3, 2, 1, 0, 5, 4, 6, 7, 8, 9, 10, 11, 12, 13, 14, 15, 16, 17]), (19, [18, 3, 2, 1, 0, 5, 4, 6, 7, 8, 9, 10, 11, 12, 13, 14, 15, 16, 17]), (20, [19, 18, 3, 2, 1, 0, 5, 4, 6, 7, 8, 9, 10, 11, 12, 13, 14, 15, 16, 17])]) [0, 5])
  (.skip)))
(.seq (.ops [⟨some 39, .move (.t 0), none, []⟩,
  ⟨some 40, .move (.t 0), none, []⟩,
  ⟨some 41, .nilck (.t 40), none, []⟩,
  ⟨some 42, .fldAddr 0 (.t 41), none, []⟩,
  ⟨some 43, .load none (.t 42), none, []⟩,
  ⟨some 44, .move (.t 5), none, []⟩,
  ⟨some 45, .move (.t 5), none, []⟩,
  ⟨some 46, .bin .add (.t 45) (.c (.int .i64 1)), none, []⟩,
  ⟨some 47, .call 389 [(.t 43), (.t 44), (.t 46)], none, []⟩,
  ⟨some 48, .nilck (.t 39), none, []⟩,
  ⟨some 49, .fldAddr 0 (.t 48), none, []⟩,
  ⟨none, .store none (.t 49) (.t 47), none, []⟩] none [])
(.seq (.ops [⟨some 4, .move (.c (.int .i64 0)), none, []⟩] none [4])
(.ret)))))))
def f367 : SFunc := ⟨b367, [.t 4]⟩

/-- watchbill/chanq.closed -/
def b368 : SCode := (
.seq (.ops [⟨some 4, .move (.c .nils), none, []⟩] none [0, 1])
(.seq (.ops [⟨some 5, .move (.c .nils), none, []⟩] none [0, 1, 5])
(.seq (.seq (.ops [⟨some 8, .move (.t 0), none, []⟩,
  ⟨some 9, .move (.t 1), none, []⟩,
  ⟨some 10, .call 390 [(.t 8), (.t 9)], none, []⟩,
  ⟨some 11, .len .sl (.t 10), none, []⟩,
  ⟨some 12, .move (.c (.int .i64 0)), none, []⟩] none [0, 5, 10, 11, 12])
(.block 0 (.loop [0, 5, 10, 11, 12] (.seq (.ops [⟨some 13, .bin .lss (.t 12) (.t 11), none, []⟩] none [0, 5, 10, 11, 12, 13])
    (.seq (.cond (.t 13)
      (.skip)
      (.exit 0))
    (.seq (.block 1 (.seq (.ops [⟨some 14, .idxAddr 1 (.t 10) (.t 12), none, []⟩,
        ⟨some 15, .load none (.t 14), none, []⟩,
        ⟨some 7, .move (.t 15), none, []⟩] none [0, 5, 7, 10, 11, 12])
      (.ops [⟨some 16, .move (.t 5), none, []⟩,
        ⟨some 17, .move (.t 0), none, []⟩,
        ⟨some 18, .move (.t 7), none, []⟩,
        ⟨some 19, .idxAddr 4 (.t 17) (.t 18), none, []⟩,
        ⟨some 20, .fldAddr 0 (.t 19), none, []⟩,
        ⟨some 21, .load none (.t 20), none, []⟩,
        ⟨some 22, .move (.t 0), none, []⟩,
        ⟨some 23, .move (.t 7), none, []⟩,
        ⟨some 24, .idxAddr 4 (.t 22) (.t 23), none, []⟩,
        ⟨some 25, .fldAddr 1 (.t 24), none, []⟩,
        ⟨some 26, .load none (.t 25), none, []⟩,
        ⟨some 27, .build [(.int .i64 0), (.int .i64 0), (.int .i64 0), (.int .i64 0)] [(0, 1, (.t 21)), (1, 1, (.t 26)), (2, 1, (.c (.int .i64 0))), (3, 1, (.c (.int .i64 9)))], none, []⟩,
        ⟨some 28, .buildSl 1 [(.int .i64 0), (.int .i64 0), (.int .i64 0), (.int .i64 0)] [(0, 4, (.t 27))], none, []⟩,
        ⟨some 29, .append 4 (.t 16) (.t 28), none, []⟩,
        ⟨some 5, .move (.t 29), none, []⟩] (some [(0, []), (1, []), (2, []), (3, [1, 2]), (4, [3, 1, 2]), (5, [4, 3, 1, 2]), (6, []), (7, []), (8, [6, 7]), (9, [8, 6, 7]), (10, [9, 8, 6, 7]), (11, [5, 4, 3, 1, 2, 10, 9, 8, 6, 7]), (12, [11, 5, 4, 3, 1, 2, 10, 9, 8, 6, 7]), (13, [0, 12, 11, 5, 4, 3, 1, 2, 10, 9, 8, 6, 7]), (14, [13, 0, 12, 11, 5, 4, 3, 1, 2, 10, 9, 8, 6, 7])]) [0, 5, 10, 11, 12])))
    (.ops [⟨some 30, .bin .add (.t 12) (.c (.int .i64 1)), none, []⟩,
      ⟨some 12, .move (.t 30), none, []⟩] none [0, 5, 10, 11, 12])))))))
(.seq (.ops [⟨some 31, .move (.t 5), none, []⟩,
  ⟨some 4, .move (.t 31), none, []⟩] none [4])
(.ret)))))
def f368 : SFunc := ⟨b368, [.t 4]⟩

/-- watchbill/pick.known -/
def b369 : SCode := (
.seq (.ops [⟨some 2, .box (.t 0), none, []⟩,
  ⟨some 4, .move (.c (.bool false)), none, []⟩] none [1, 2])
(.seq (.ops [⟨some 5, .fldAddr 1 (.t 2), none, []⟩,
  ⟨some 6, .load none (.t 5), none, []⟩,
  ⟨some 7, .bin .geq (.t 6) (.c (.int .i64 0)), none, []⟩,
  ⟨some 8, .move (.t 7), none, []⟩,
  ⟨some 9, .fldAddr 1 (.t 2), (some (8, true)), []⟩,
  ⟨some 10, .load none (.t 9), (some (8, true)), []⟩,
  ⟨some 11, .move (.t 1), (some (8, true)), []⟩,
  ⟨some 12, .len .sl (.t 11), (some (8, true)), []⟩,
  ⟨some 13, .bin .lss (.t 10) (.t 12), (some (8, true)), []⟩,
  ⟨some 14, .pick (.t 8) (.t 13) (.c (.bool false)), none, []⟩,
  ⟨some 4, .move (.t 14), none, []⟩] none [4])
(.ret)))
def f369 : SFunc := ⟨b369, [.t 4]⟩

/-- (*watchbill/chanq.Chan).CanSend -/
def b370 : SCode := (
.seq (.ops [⟨some 2, .move (.c (.bool false)), none, []⟩] none [0])
(.seq (.ops [⟨some 3, .move (.t 0), none, []⟩,
  ⟨some 4, .nilck (.t 3), none, []⟩,
  ⟨some 5, .fldAddr 3 (.t 4), none, []⟩,
  ⟨some 6, .load none (.t 5), none, []⟩,
  ⟨some 7, .move (.t 6), none, []⟩,
  ⟨some 8, .move (.t 0), (some (7, false)), []⟩,
  ⟨some 9, .nilck (.t 8), (some (7, false)), []⟩,
  ⟨some 10, .fldAddr 2 (.t 9), (some (7, false)), []⟩,
  ⟨some 11, .load none (.t 10), (some (7, false)), []⟩,
  ⟨some 12, .len .sl (.t 11), (some (7, false)), []⟩,
  ⟨some 13, .bin .gtr (.t 12) (.c (.int .i64 0)), (some (7, false)), []⟩,
  ⟨some 14, .pick (.t 7) (.c (.bool true)) (.t 13), none, []⟩,
  ⟨some 15, .move (.t 14), none, []⟩,
  ⟨some 16, .move (.t 0), (some (15, false)), []⟩,
  ⟨some 17, .nilck (.t 16), (some (15, false)), []⟩,
  ⟨some 18, .fldAddr 0 (.t 17), (some (15, false)), []⟩,
  ⟨some 19, .load none (.t 18), (some (15, false)), []⟩,
  ⟨some 20, .call 391 [(.t 19)], (some (15, false)), []⟩,
  ⟨some 21, .bin .gtr (.t 20) (.c (.int .i64 0)), (some (15, false)), []⟩,
  ⟨some 22, .pick (.t 15) (.c (.bool true)) (.t 21), none, []⟩,
  ⟨some 2, .move (.t 22), none, []⟩] none [2])
(.ret)))
def f370 : SFunc := ⟨b370, [.t 2]⟩

/-- (*watchbill/chanq.Chan).CanRecv -/
def b371 : SCode := (
.seq (.ops [⟨some 2, .move (.c (.bool false)), none, []⟩] none [0])
(.seq (.ops [⟨some 3, .move (.t 0), none, []⟩,
  ⟨some 4, .nilck (.t 3), none, []⟩,
  ⟨some 5, .fldAddr 3 (.t 4), none, []⟩,
  ⟨some 6, .load none (.t 5), none, []⟩,
  ⟨some 7, .move (.t 6), none, []⟩,
  ⟨some 8, .move (.t 0), (some (7, false)), []⟩,
  ⟨some 9, .nilck (.t 8), (some (7, false)), []⟩,
  ⟨some 10, .fldAddr 0 (.t 9), (some (7, false)), []⟩,
  ⟨some 11, .load none (.t 10), (some (7, false)), []⟩,
  ⟨some 12, .call 392 [(.t 11)], (some (7, false)), []⟩,
  ⟨some 13, .bin .gtr (.t 12) (.c (.int .i64 0)), (some (7, false)), []⟩,
  ⟨some 14, .pick (.t 7) (.c (.bool true)) (.t 13), none, []⟩,
  ⟨some 15, .move (.t 14), none, []⟩,
  ⟨some 16, .move (.t 0), (some (15, false)), []⟩,
  ⟨some 17, .nilck (.t 16), (some (15, false)), []⟩,
  ⟨some 18, .fldAddr 1 (.t 17), (some (15, false)), []⟩,
  ⟨some 19, .load none (.t 18), (some (15, false)), []⟩,
  ⟨some 20, .len .sl (.t 19), (some (15, false)), []⟩,
  ⟨some 21, .bin .gtr (.t 20) (.c (.int .i64 0)), (some (15, false)), []⟩,
  ⟨some 22, .pick (.t 15) (.c (.bool true)) (.t 21), none, []⟩,
  ⟨some 2, .move (.t 22), none, []⟩] none [2])
(.ret)))
def f371 : SFunc := ⟨b371, [.t 2]⟩

/-- (*watchbill/chanq.Chan).Recv -/
def b372 : SCode := (
.seq (.ops [⟨some 4, .move (.c (.int .i64 0)), none, []⟩,
  ⟨some 5, .move (.c .nils), none, []⟩,
  ⟨some 6, .move (.c (.int .i64 0)), none, []⟩] none [0, 1])
(.seq (.ops [⟨some 12, .move (.t 0), none, []⟩,
  ⟨some 13, .nilck (.t 12), none, []⟩,
  ⟨some 14, .fldAddr 0 (.t 13), none, []⟩,
  ⟨some 15, .load none (.t 14), none, []⟩,
  ⟨some 16, .call 393 [(.t 15)], none, []⟩,
  ⟨some 11, .move (.t 16), none, []⟩,
  ⟨some 17, .ext 0 (.t 11), none, []⟩,
  ⟨some 18, .ext 1 (.t 11), none, []⟩,
  ⟨some 7, .move (.t 17), none, []⟩,
  ⟨some 8, .move (.t 18), none, []⟩] none [0, 1, 7, 8])
(.seq (.block 0 (.seq (.ops [⟨some 20, .move (.t 8), none, []⟩,
    ⟨some 21, .not (.t 20), none, []⟩,
    ⟨some 22, .move (.t 21), none, []⟩,
    ⟨some 23, .move (.t 0), (some (22, true)), []⟩,
    ⟨some 24, .nilck (.t 23), (some (22, true)), []⟩,
    ⟨some 25, .fldAddr 3 (.t 24), (some (22, true)), []⟩,
    ⟨some 26, .load none (.t 25), (some (22, true)), []⟩,
    ⟨some 27, .pick (.t 22) (.t 26) (.c (.bool false)), none, []⟩,
    ⟨some 19, .move (.t 27), none, []⟩] none [0, 1, 7, 8, 19])
  (.cond (.t 19)
    (.seq (.ops [⟨some 4, .move (.c (.int .i64 0)), none, []⟩,
      ⟨some 5, .move (.c .nils), none, []⟩,
      ⟨some 6, .move (.c (.int .i64 9)), none, []⟩] none [4, 5, 6])
    (.ret))
    (.seq (.ops [⟨some 29, .move (.t 8), none, []⟩,
      ⟨some 30, .not (.t 29), none, []⟩,
      ⟨some 31, .move (.t 30), none, []⟩,
      ⟨some 32, .move (.t 0), (some (31, true)), []⟩,
      ⟨some 33, .nilck (.t 32), (some (31, true)), []⟩,
      ⟨some 34, .fldAddr 1 (.t 33), (some (31, true)), []⟩,
      ⟨some 35, .load none (.t 34), (some (31, true)), []⟩,
      ⟨some 36, .len .sl (.t 35), (some (31, true)), []⟩,
      ⟨some 37, .bin .eql (.t 36) (.c (.int .i64 0)), (some (31, true)), []⟩,
      ⟨some 38, .pick (.t 31) (.t 37) (.c (.bool false)), none, []⟩,
      ⟨some 28, .move (.t 38), none, []⟩] none [0, 1, 7, 8, 28])
    (.cond (.t 28)
      (.seq (.ops [⟨some 4, .move (.c (.int .i64 0)), none, []⟩,
        ⟨some 5, .move (.c .nils), none, []⟩,
        ⟨some 6, .move (.c (.int .i64 8)), none, []⟩] none [4, 5, 6])
      (.ret))
      (.seq (.ops [⟨some 40, .move (.t 0), none, []⟩,
        ⟨some 41, .nilck (.t 40), none, []⟩,
        ⟨some 42, .fldAddr 1 (.t 41), none, []⟩,
        ⟨some 43, .load none (.t 42), none, []⟩,
        ⟨some 44, .len .sl (.t 43), none, []⟩,
        ⟨some 45, .bin .eql (.t 44) (.c (.int .i64 0)), none, []⟩,
        ⟨some 39, .move (.t 45), none, []⟩] none [0, 1, 7, 8, 39])
      (.cond (.t 39)
        (.seq (.ops [⟨some 46, .move (.t 7), none, []⟩,
          ⟨some 4, .move (.t 46), none, []⟩,
          ⟨some 5, .move (.c .nils), none, []⟩,
          ⟨some 6, .move (.c (.int .i64 0)), none, []⟩] none [4, 5, 6])
        (.ret))
        (.skip))))))))
(.seq (.ops [⟨some 48, .move (.t 0), none, []⟩,
  ⟨some 49, .nilck (.t 48), none, []⟩,
  ⟨some 50, .fldAddr 1 (.t 49), none, []⟩,
  ⟨some 51, .load none (.t 50), none, []⟩,
  ⟨some 52, .move (.t 1), none, []⟩,
  ⟨some 53, .call 394 [(.t 51), (.t 52)], none, []⟩,
  ⟨some 47, .move (.t 53), none, []⟩,
  ⟨some 54, .ext 0 (.t 47), none, []⟩,
  ⟨some 55, .ext 1 (.t 47), none, []⟩,
  ⟨some 9, .alloc (.agg [(.int .i64 0), (.int .i64 0), (.int .i64 0), (.int .i64 0)]), none, []⟩,
  ⟨none, .store (some 4) (.t 9) (.t 54), none, []⟩,
  ⟨some 10, .move (.t 55), none, []⟩] none [0, 7, 8, 9, 10])
(.seq (.ops [⟨some 56, .move (.t 0), none, []⟩,
  ⟨some 57, .move (.t 10), none, []⟩,
  ⟨some 58, .nilck (.t 56), none, []⟩,
  ⟨some 59, .fldAddr 1 (.t 58), none, []⟩,
  ⟨none, .store none (.t 59) (.t 57), none, []⟩] none [0, 7, 8, 9])
(.seq (.seq (.ops [⟨some 60, .move (.t 8), none, []⟩] none [0, 7, 9, 60])
(.cond (.t 60)
  (.ops [⟨some 61, .move (.t 0), none, []⟩,
    ⟨some 62, .nilck (.t 61), none, []⟩,
    ⟨some 63, .fldAddr 0 (.t 62), none, []⟩,
    ⟨some 64, .load none (.t 63), none, []⟩,
    ⟨some 65, .fldAddr 3 (.t 9), none, []⟩,
    ⟨some 66, .load none (.t 65), none, []⟩,
    ⟨some 67, .call 395 [(.t 64), (.t 66)], none, []⟩] (some [(0, []), (1, [0]), (2, [1, 0]), (3, [2, 1, 0]), (4, []), (5, [4]), (6, [3, 2, 1, 0, 5, 4])]) [7, 9])
  (.ops [⟨some 68, .fldAddr 3 (.t 9), none, []⟩,
    ⟨some 69, .load none (.t 68), none, []⟩,
    ⟨some 7, .move (.t 69), none, []⟩] none [7, 9])))
(.seq (.ops [⟨some 70, .move (.t 7), none, []⟩,
  ⟨some 71, .fldAddr 0 (.t 9), none, []⟩,
  ⟨some 72, .load none (.t 71), none, []⟩,
  ⟨some 73, .fldAddr 1 (.t 9), none, []⟩,
  ⟨some 74, .load none (.t 73), none, []⟩,
  ⟨some 75, .fldAddr 3 (.t 9), none, []⟩,
  ⟨some 76, .load none (.t 75), none, []⟩,
  ⟨some 77, .build [(.int .i64 0), (.int .i64 0), (.int .i64 0), (.int .i64 0)] [(0, 1, (.t 72)), (1, 1, (.t 74)), (2, 1, (.t 76)), (3, 1, (.c (.int .i64 0)))], none, []⟩,
  ⟨some 78, .buildSl 1 [(.int .i64 0), (.int .i64 0), (.int .i64 0), (.int .i64 0)] [(0, 4, (.t 77))], none, []⟩,
  ⟨some 4, .move (.t 70), none, []⟩,
  ⟨some 5, .move (.t 78), none, []⟩,
  ⟨some 6, .move (.c (.int .i64 0)), none, []⟩] (some [(0, []), (1, []), (2, [1]), (3, []), (4, [3]), (5, []), (6, [5]), (7, [2, 1, 4, 3, 6, 5]), (8, [7, 2, 1, 4, 3, 6, 5]), (9, [0]), (10, [8, 7, 2, 1, 4, 3, 6, 5, 9, 0]), (11, [10, 8, 7, 2, 1, 4, 3, 6, 5, 9, 0])]) [4, 5, 6])
(.ret))))))))
def f372 : SFunc := ⟨b372, [.t 4, .t 5, .t 6]⟩

/-- (*watchbill/chanq.Chan).Wait -/
def b374 : SCode := (
.seq (.ops [⟨some 4, .box (.t 1), none, []⟩,
  ⟨some 6, .move (.c (.int .i64 0)), none, []⟩] none [0, 2, 4])
(.seq (.ops [⟨some 11, .move (.t 0), none, []⟩,
  ⟨some 12, .nilck (.t 11), none, []⟩,
  ⟨some 13, .fldAddr 2 (.t 12), none, []⟩,
  ⟨some 14, .move (.t 0), none, []⟩,
  ⟨some 15, .call 371 [(.t 14)], none, []⟩,
  ⟨some 7, .move (.t 13), none, []⟩,
  ⟨some 8, .move (.t 15), none, []⟩] (some [(0, []), (1, [0]), (2, [1, 0]), (3, []), (4, [3]), (5, [2, 1, 0, 4, 3]), (6, [4, 3, 5, 2, 1, 0])]) [0, 2, 4, 7, 8])
(.seq (.seq (.ops [⟨some 16, .move (.t 2), none, []⟩] none [0, 4, 7, 8, 16])
(.cond (.t 16)
  (.ops [⟨some 17, .move (.t 0), none, []⟩,
    ⟨some 18, .nilck (.t 17), none, []⟩,
    ⟨some 19, .fldAddr 1 (.t 18), none, []⟩,
    ⟨some 20, .move (.t 0), none, []⟩,
    ⟨some 21, .call 370 [(.t 20)], none, []⟩,
    ⟨some 7, .move (.t 19), none, []⟩,
    ⟨some 8, .move (.t 21), none, []⟩] (some [(0, []), (1, [0]), (2, [1, 0]), (3, []), (4, [3]), (5, [2, 1, 0, 4, 3]), (6, [4, 3, 5, 2, 1, 0])]) [4, 7, 8])
  (.skip)))
(.seq (.seq (.ops [⟨some 22, .move (.t 8), none, []⟩] none [4, 7, 22])
(.cond (.t 22)
  (.seq (.ops [⟨some 6, .move (.c (.int .i64 10)), none, []⟩] none [6])
  (.ret))
  (.skip)))
(.seq (.skip)
(.seq (.seq (.ops [⟨some 23, .move (.t 7), none, []⟩,
  ⟨some 24, .nilck (.t 23), none, []⟩,
  ⟨some 25, .load none (.t 24), none, []⟩,
  ⟨some 26, .len .sl (.t 25), none, []⟩,
  ⟨some 27, .move (.c (.int .i64 0)), none, []⟩] none [4, 7, 25, 26, 27])
(.block 0 (.loop [4, 7, 25, 26, 27] (.seq (.ops [⟨some 28, .bin .lss (.t 27) (.t 26), none, []⟩] none [4, 7, 25, 26, 27, 28])
    (.seq (.cond (.t 28)
      (.skip)
      (.exit 0))
    (.seq (.block 1 (.seq (.ops [⟨some 29, .idxAddr 4 (.t 25) (.t 27), none, []⟩,
        ⟨some 30, .load (some 4) (.t 29), none, []⟩,
        ⟨some 10, .alloc (.agg [(.int .i64 0), (.int .i64 0), (.int .i64 0), (.int .i64 0)]), none, []⟩,
        ⟨none, .store (some 4) (.t 10) (.t 30), none, []⟩] none [4, 7, 10, 25, 26, 27])
      (.seq (.seq (.ops [⟨some 31, .fldAddr 0 (.t 10), none, []⟩,
        ⟨some 32, .load none (.t 31), none, []⟩,
        ⟨some 33, .fldAddr 0 (.t 4), none, []⟩,
        ⟨some 34, .load none (.t 33), none, []⟩,
        ⟨some 35, .bin .neq (.t 32) (.t 34), none, []⟩,
        ⟨some 36, .move (.t 35), none, []⟩,
        ⟨some 37, .fldAddr 1 (.t 10), (some (36, false)), []⟩,
        ⟨some 38, .load none (.t 37), (some (36, false)), []⟩,
        ⟨some 39, .fldAddr 1 (.t 4), (some (36, false)), []⟩,
        ⟨some 40, .load none (.t 39), (some (36, false)), []⟩,
        ⟨some 41, .bin .neq (.t 38) (.t 40), (some (36, false)), []⟩,
        ⟨some 42, .pick (.t 36) (.c (.bool true)) (.t 41), none, []⟩] none [4, 7, 25, 26, 27, 42])
      (.cond (.t 42)
        (.exit 1)
        (.skip)))
      (.seq (.ops [⟨some 6, .move (.c (.int .i64 6)), none, []⟩] none [6])
      (.ret)))))
    (.ops [⟨some 43, .bin .add (.t 27) (.c (.int .i64 1)), none, []⟩,
      ⟨some 27, .move (.t 43), none, []⟩] none [4, 7, 25, 26, 27])))))))
(.seq (.ops [⟨some 44, .move (.t 7), none, []⟩,
  ⟨some 45, .move (.t 7), none, []⟩,
  ⟨some 46, .nilck (.t 45), none, []⟩,
  ⟨some 47, .load none (.t 46), none, []⟩,
  ⟨some 49, .load (some 4) (.t 4), none, []⟩,
  ⟨some 50, .buildSl 1 [(.int .i64 0), (.int .i64 0), (.int .i64 0), (.int .i64 0)] [(0, 4, (.t 49))], none, []⟩,
  ⟨some 48, .call 356 [(.t 47)], none, [4]⟩,
  ⟨some 51, .append 4 (.t 48) (.t 50), none, []⟩,
  ⟨some 52, .nilck (.t 44), none, []⟩,
  ⟨none, .store none (.t 52) (.t 51), none, []⟩] (some [(0, []), (1, []), (2, [1]), (3, [2, 1]), (5, []), (6, [4]), (4, [3, 2, 1]), (7, [6, 3, 2, 1, 5, 4]), (8, [0, 1, 2, 3, 6, 4, 5, 7]), (9, [8, 0, 1, 2, 3, 6, 4, 5, 7])]) [])
(.seq (.ops [⟨some 6, .move (.c (.int .i64 0)), none, []⟩] none [6])
(.ret)))))))))
def f374 : SFunc := ⟨b374, [.t 6]⟩

/-- (*watchbill/timer.Timer).find -/
def b375 : SCode := (
.seq (.ops [⟨some 3, .box (.t 1), none, []⟩,
  ⟨some 4, .move (.c (.int .i64 0)), none, []⟩] none [0, 3])
(.seq (.ops [⟨some 5, .move (.t 0), none, []⟩,
  ⟨some 6, .nilck (.t 5), none, []⟩,
  ⟨some 7, .fldAddr 0 (.t 6), none, []⟩,
  ⟨some 8, .load none (.t 7), none, []⟩,
  ⟨some 9, .mkfn 396 [(.t 3)], none, []⟩,
  ⟨some 10, .call 397 [(.t 8), (.t 9)], none, []⟩,
  ⟨some 4, .move (.t 10), none, []⟩] none [4])
(.ret)))
def f375 : SFunc := ⟨b375, [.t 4]⟩

/-- strings.Trim -/
def b124 : SCode := (
.seq (.ops [⟨some 4, .move (.c (.str [])), none, []⟩] none [0, 1])
(.seq (.seq (.ops [⟨some 7, .move (.t 0), none, []⟩,
  ⟨some 8, .bin .eql (.t 7) (.c (.str [])), none, []⟩,
  ⟨some 9, .move (.t 8), none, []⟩,
  ⟨some 10, .move (.t 1), (some (9, false)), []⟩,
  ⟨some 11, .bin .eql (.t 10) (.c (.str [])), (some (9, false)), []⟩,
  ⟨some 12, .pick (.t 9) (.c (.bool true)) (.t 11), none, []⟩] none [0, 1, 12])
(.cond (.t 12)
  (.seq (.ops [⟨some 13, .move (.t 0), none, []⟩,
    ⟨some 4, .move (.t 13), none, []⟩] none [4])
  (.ret))
  (.skip)))
(.seq (.seq (.ops [⟨some 14, .move (.t 1), none, []⟩,
  ⟨some 15, .len .str (.t 14), none, []⟩,
  ⟨some 16, .bin .eql (.t 15) (.c (.int .i64 1)), none, []⟩,
  ⟨some 17, .move (.t 16), none, []⟩,
  ⟨some 18, .move (.t 1), (some (17, true)), []⟩,
  ⟨some 19, .idxStr (.t 18) (.c (.int .i64 0)), (some (17, true)), []⟩,
  ⟨some 20, .bin .lss (.t 19) (.c (.int .u8 128)), (some (17, true)), []⟩,
  ⟨some 21, .pick (.t 17) (.t 20) (.c (.bool false)), none, []⟩] none [0, 1, 21])
(.cond (.t 21)
  (.seq (.ops [⟨some 22, .move (.t 0), none, []⟩,
    ⟨some 23, .move (.t 1), none, []⟩,
    ⟨some 24, .idxStr (.t 23) (.c (.int .i64 0)), none, []⟩,
    ⟨some 26, .move (.t 1), none, []⟩,
    ⟨some 27, .idxStr (.t 26) (.c (.int .i64 0)), none, []⟩,
    ⟨some 25, .call 142 [(.t 22), (.t 24)], none, []⟩,
    ⟨some 28, .call 143 [(.t 25), (.t 27)], none, []⟩,
    ⟨some 4, .move (.t 28), none, []⟩] (some [(0, []), (1, []), (2, [1]), (4, []), (5, [3]), (3, [0, 2, 1]), (6, [5, 0, 2, 1, 4, 3]), (7, [6, 5, 0, 2, 1, 4, 3])]) [4])
  (.ret))
  (.skip)))
(.seq (.seq (.ops [⟨some 30, .move (.t 1), none, []⟩,
  ⟨some 31, .call 144 [(.t 30)], none, []⟩,
  ⟨some 29, .move (.t 31), none, []⟩,
  ⟨some 32, .ext 0 (.t 29), none, []⟩,
  ⟨some 33, .ext 1 (.t 29), none, []⟩,
  ⟨some 5, .alloc (.agg [(.bool false), (.bool false), (.bool false), (.bool false), (.bool false), (.bool false), (.bool false), (.bool false), (.bool false), (.bool false), (.bool false), (.bool false), (.bool false), (.bool false), (.bool false), (.bool false), (.bool false), (.bool false), (.bool false), (.bool false), (.bool false), (.bool false), (.bool false), (.bool false), (.bool false), (.bool false), (.bool false), (.bool false), (.bool false), (.bool false), (.bool false), (.bool false), (.bool false), (.bool false), (.bool false), (.bool false), (.bool false), (.bool false), (.bool false), (.bool false), (.bool false), (.bool false), (.bool false), (.bool false), (.bool false), (.bool false), (.bool false), (.bool false), (.bool false), (.bool false), (.bool false), (.bool false), (.bool false), (.bool false), (.bool false), (.bool false), (.bool false), (.bool false), (.bool false), (.bool false), (.bool false), (.bool false), (.bool false), (.bool false), (.bool false), (.bool false), (.bool false), (.bool false), (.bool false), (.bool false), (.bool false), (.bool false), (.bool false), (.bool false), (.bool false), (.bool false), (.bool false), (.bool false), (.bool false), (.bool false), (.bool false), (.bool false), (.bool false), (.bool false), (.bool false), (.bool false), (.bool false), (.bool false), (.bool false), (.bool false), (.bool false), (.bool false), (.bool false), (.bool false), (.bool false), (.bool false), (.bool false), (.bool false), (.bool false), (.bool false), (.bool false), (.bool false), (.bool false), (.bool false), (.bool false), (.bool false), (.bool false), (.bool false), (.bool false), (.bool false), (.bool false), (.bool false), (.bool false), (.bool false), (.bool false), (.bool false), (.bool false), (.bool false), (.bool false), (.bool false), (.bool false), (.bool false), (.bool false), (.bool false), (.bool false), (.bool false), (.bool false), (.bool false), (.bool false), (.bool false), (.bool false), (.bool false), (.bool false), (.bool false), (.bool false), (.bool false), (.bool false), (.bool false), (.bool false), (.bool false), (.bool false), (.bool false), (.bool false), (.bool false), (.bool false), (.bool false), (.bool false), (.bool false), (.bool false), (.bool false), (.bool false), (.bool false), (.bool false), (.bool false), (.bool false), (.bool false), (.bool false), (.bool false), (.bool false), (.bool false), (.bool false), (.bool false), (.bool false), (.bool false), (.bool false), (.bool false), (.bool false), (.bool false), (.bool false), (.bool false), (.bool false), (.bool false), (.bool false), (.bool false), (.bool false), (.bool false), (.bool false), (.bool false), (.bool false), (.bool false), (.bool false), (.bool false), (.bool false), (.bool false), (.bool false), (.bool false), (.bool false), (.bool false), (.bool false), (.bool false), (.bool false), (.bool false), (.bool false), (.bool false), (.bool false), (.bool false), (.bool false), (.bool false), (.bool false), (.bool false), (.bool false), (.bool false), (.bool false), (.bool false), (.bool false), (.bool false), (.bool false), (.bool false), (.bool false), (.bool false), (.bool false), (.bool false), (.bool false), (.bool false), (.bool false), (.bool false), (.bool false), (.bool false), (.bool false), (.bool false), (.bool false), (.bool false), (.bool false), (.bool false), (.bool false), (.bool false), (.bool false), (.bool false), (.bool false), (.bool false), (.bool false), (.bool false), (.bool false), (.bool false), (.bool false), (.bool false), (.bool false), (.bool false), (.bool false), (.bool false), (.bool false), (.bool false), (.bool false), (.bool false), (.bool false), (.bool false), (.bool false), (.bool false), (.bool false), (.bool false), (.bool false), (.bool false), (.bool false), (.bool false), (.bool false), (.bool false)]), none, []⟩,
  ⟨none, .store (some 256) (.t 5) (.t 32), none, []⟩,
  ⟨some 6, .move (.t 33), none, []⟩] none [0, 1, 5, 6])
(.seq (.ops [⟨some 34, .move (.t 6), none, []⟩] none [0, 1, 5, 34])
(.cond (.t 34)
  (.seq (.ops [⟨some 35, .move (.t 0), none, []⟩,
    ⟨some 36, .call 145 [(.t 35), (.t 5)], none, []⟩,
    ⟨some 37, .call 146 [(.t 36), (.t 5)], none, []⟩,
    ⟨some 4, .move (.t 37), none, []⟩] none [4])
  (.ret))
  (.skip))))
(.seq (.ops [⟨some 38, .move (.t 0), none, []⟩,
  ⟨some 39, .move (.t 1), none, []⟩,
  ⟨some 40, .call 147 [(.t 38), (.t 39)], none, []⟩,
  ⟨some 41, .move (.t 1), none, []⟩,
  ⟨some 42, .call 148 [(.t 40), (.t 41)], none, []⟩,
  ⟨some 4, .move (.t 42), none, []⟩] none [4])
(.ret))))))
def f124 : SFunc := ⟨b124, [.t 4]⟩

/-- watchbill/op.Check -/
def b219 : SCode := (
.seq (.ops [⟨some 1, .box (.t 0), none, []⟩,
  ⟨some 2, .move (.c (.int .i64 0)), none, []⟩] none [1])
(.seq (.seq (.ops [⟨some 4, .fldAddr 0 (.t 1), none, []⟩,
  ⟨some 5, .load none (.t 4), none, []⟩,
  ⟨some 6, .bin .lss (.t 5) (.c (.int .i64 1)), none, []⟩,
  ⟨some 7, .move (.t 6), none, []⟩,
  ⟨some 8, .fldAddr 0 (.t 1), (some (7, false)), []⟩,
  ⟨some 9, .load none (.t 8), (some (7, false)), []⟩,
  ⟨some 10, .bin .gtr (.t 9) (.c (.int .i64 9)), (some (7, false)), []⟩,
  ⟨some 11, .pick (.t 7) (.c (.bool true)) (.t 10), none, []⟩] none [1, 11])
(.cond (.t 11)
  (.seq (.ops [⟨some 2, .move (.c (.int .i64 3)), none, []⟩] none [2])
  (.ret))
  (.skip)))
(.seq (.ops [⟨some 13, .fldAddr 0 (.t 1), none, []⟩,
  ⟨some 14, .load none (.t 13), none, []⟩,
  ⟨some 3, .alloc (.agg [(.str []), (.int .i64 0), (.int .i64 0), (.bool false), (.bool false)]), none, []⟩,
  ⟨some 12, .call 224 [], none, [1]⟩,
  ⟨some 15, .idxAddr 5 (.t 12) (.t 14), none, []⟩,
  ⟨some 16, .load (some 5) (.t 15), none, []⟩,
  ⟨none, .store (some 5) (.t 3) (.t 16), none, []⟩] (some [(1, []), (2, [0]), (5, []), (0, []), (3, [3, 1, 0]), (4, [4, 3, 1, 0]), (6, [2, 5, 4, 3, 1, 0])]) [1, 3])
(.seq (.block 0 (.seq (.ops [⟨some 18, .fldAddr 1 (.t 1), none, []⟩,
    ⟨some 19, .load none (.t 18), none, []⟩,
    ⟨some 20, .fldAddr 1 (.t 3), none, []⟩,
    ⟨some 21, .load none (.t 20), none, []⟩,
    ⟨some 22, .bin .lss (.t 19) (.t 21), none, []⟩,
    ⟨some 23, .move (.t 22), none, []⟩,
    ⟨some 24, .fldAddr 1 (.t 1), (some (23, false)), []⟩,
    ⟨some 25, .load none (.t 24), (some (23, false)), []⟩,
    ⟨some 26, .fldAddr 2 (.t 3), (some (23, false)), []⟩,
    ⟨some 27, .load none (.t 26), (some (23, false)), []⟩,
    ⟨some 28, .bin .gtr (.t 25) (.t 27), (some (23, false)), []⟩,
    ⟨some 29, .pick (.t 23) (.c (.bool true)) (.t 28), none, []⟩,
    ⟨some 30, .move (.t 29), none, []⟩,
    ⟨some 31, .fldAddr 0 (.t 1), (some (30, false)), []⟩,
    ⟨some 32, .load none (.t 31), (some (30, false)), []⟩,
    ⟨some 33, .bin .neq (.t 32) (.c (.int .i64 4)), (some (30, false)), []⟩,
    ⟨some 34, .move (.t 33), (some (30, false)), []⟩,
    ⟨some 35, .fldAddr 2 (.t 1), (some (34, true)), []⟩,
    ⟨some 36, .load none (.t 35), (some (34, true)), []⟩,
    ⟨some 37, .bin .neq (.t 36) (.c (.int .i64 0)), (some (34, true)), []⟩,
    ⟨some 38, .pick (.t 34) (.t 37) (.c (.bool false)), (some (30, false)), []⟩,
    ⟨some 39, .pick (.t 30) (.c (.bool true)) (.t 38), none, []⟩,
    ⟨some 17, .move (.t 39), none, []⟩] none [1, 3, 17])
  (.cond (.t 17)
    (.seq (.ops [⟨some 2, .move (.c (.int .i64 1)), none, []⟩] none [2])
    (.ret))
    (.seq (.ops [⟨some 41, .fldAddr 3 (.t 3), none, []⟩,
      ⟨some 42, .load none (.t 41), none, []⟩,
      ⟨some 43, .not (.t 42), none, []⟩,
      ⟨some 44, .move (.t 43), none, []⟩,
      ⟨some 45, .fldAddr 3 (.t 1), (some (44, true)), []⟩,
      ⟨some 46, .load none (.t 45), (some (44, true)), []⟩,
      ⟨some 47, .bin .neq (.t 46) (.c (.int .i64 0)), (some (44, true)), []⟩,
      ⟨some 48, .pick (.t 44) (.t 47) (.c (.bool false)), none, []⟩,
      ⟨some 49, .move (.t 48), none, []⟩,
      ⟨some 50, .fldAddr 3 (.t 1), (some (49, false)), []⟩,
      ⟨some 51, .load none (.t 50), (some (49, false)), []⟩,
      ⟨some 52, .bin .lss (.t 51) (.c (.int .i64 (-1))), (some (49, false)), []⟩,
      ⟨some 53, .pick (.t 49) (.c (.bool true)) (.t 52), none, []⟩,
      ⟨some 54, .move (.t 53), none, []⟩,
      ⟨some 55, .fldAddr 3 (.t 1), (some (54, false)), []⟩,
      ⟨some 56, .load none (.t 55), (some (54, false)), []⟩,
      ⟨some 57, .bin .gtr (.t 56) (.c (.int .i64 1000)), (some (54, false)), []⟩,
      ⟨some 58, .pick (.t 54) (.c (.bool true)) (.t 57), none, []⟩,
      ⟨some 40, .move (.t 58), none, []⟩] none [1, 3, 40])
    (.cond (.t 40)
      (.seq (.ops [⟨some 2, .move (.c (.int .i64 1)), none, []⟩] none [2])
      (.ret))
      (.seq (.ops [⟨some 60, .fldAddr 4 (.t 3), none, []⟩,
        ⟨some 61, .load none (.t 60), none, []⟩,
        ⟨some 59, .move (.t 61), none, []⟩] none [1, 59])
      (.cond (.t 59)
        (.seq (.ops [⟨some 62, .fldAddr 4 (.t 1), none, []⟩,
          ⟨some 63, .load none (.t 62), none, []⟩,
          ⟨some 64, .call 225 [(.t 63)], none, []⟩,
          ⟨some 2, .move (.t 64), none, []⟩] none [2])
        (.ret))
        (.seq (.ops [⟨some 66, .fldAddr 4 (.t 1), none, []⟩,
          ⟨some 67, .load none (.t 66), none, []⟩,
          ⟨some 68, .len .sl (.t 67), none, []⟩,
          ⟨some 69, .bin .gtr (.t 68) (.c (.int .i64 0)), none, []⟩,
          ⟨some 65, .move (.t 69), none, []⟩] none [65])
        (.cond (.t 65)
          (.seq (.ops [⟨some 2, .move (.c (.int .i64 1)), none, []⟩] none [2])
          (.ret))
          (.skip))))))))))
(.seq (.ops [⟨some 2, .move (.c (.int .i64 0)), none, []⟩] none [2])
(.ret))))))
def f219 : SFunc := ⟨b219, [.t 2]⟩

/-- (*watchbill/prog.order).take -/
def b294 : SCode := (
.seq (.ops [⟨some 3, .box (.t 1), none, []⟩,
  ⟨some 4, .move (.c (.bool false)), none, []⟩] none [0, 3])
(.seq (.ops [⟨some 6, .move (.t 0), none, []⟩,
  ⟨some 7, .nilck (.t 6), none, []⟩,
  ⟨some 8, .fldAddr 1 (.t 7), none, []⟩,
  ⟨some 9, .load none (.t 8), none, []⟩,
  ⟨some 10, .len .sl (.t 9), none, []⟩,
  ⟨some 11, .bin .sub (.t 10) (.c (.int .i64 1)), none, []⟩,
  ⟨some 5, .move (.t 11), none, []⟩] none [0, 3, 5])
(.seq (.seq (.ops [⟨some 12, .fldAddr 0 (.t 3), none, []⟩,
  ⟨some 13, .load none (.t 12), none, []⟩] none [0, 3, 5, 13])
(.block 0 (.seq (.ops [⟨some 26, .bin .eql (.t 13) (.c (.int .i64 8)), none, []⟩,
    ⟨some 25, .move (.t 26), none, []⟩] none [0, 3, 5, 13, 25])
  (.cond (.t 25)
    (.seq (.ops [⟨some 27, .move (.t 0), none, []⟩,
      ⟨some 28, .move (.t 0), none, []⟩,
      ⟨some 29, .nilck (.t 28), none, []⟩,
      ⟨some 30, .fldAddr 1 (.t 29), none, []⟩,
      ⟨some 31, .load none (.t 30), none, []⟩,
      ⟨some 32, .move (.t 0), none, []⟩,
      ⟨some 33, .nilck (.t 32), none, []⟩,
      ⟨some 34, .fldAddr 0 (.t 33), none, []⟩,
      ⟨some 35, .load none (.t 34), none, []⟩,
      ⟨some 36, .call 55 [(.t 35)], none, [4]⟩,
      ⟨some 37, .buildSl 1 [.nils] [(0, 1, (.t 36))], none, []⟩,
      ⟨some 38, .append 1 (.t 31) (.t 37), none, []⟩,
      ⟨some 39, .nilck (.t 27), none, []⟩,
      ⟨some 40, .fldAddr 1 (.t 39), none, []⟩,
      ⟨none, .store none (.t 40) (.t 38), none, []⟩] (some [(0, []), (1, []), (2, [1]), (3, [2, 1]), (4, [3, 2, 1]), (5, []), (6, [5]), (7, [6, 5]), (8, [7, 6, 5]), (9, [8, 7, 6, 5]), (10, [9, 8, 7, 6, 5]), (11, [4, 3, 2, 1, 10, 9, 8, 7, 6, 5]), (12, [0, 1, 2, 3, 4, 5, 6, 7, 8, 9, 10, 11]), (13, [12, 0, 1, 2, 3, 4, 5, 6, 7, 8, 9, 10, 11]), (14, [13, 12, 0, 1, 2, 3, 4, 5, 6, 7, 8, 9, 10, 11])]) [0])
    (.seq (.ops [⟨some 41, .move (.t 0), none, []⟩,
      ⟨some 42, .nilck (.t 41), none, []⟩,
      ⟨some 43, .fldAddr 1 (.t 42), none, []⟩,
      ⟨some 44, .load none (.t 43), none, []⟩,
      ⟨some 45, .len .sl (.t 44), none, []⟩,
      ⟨some 46, .bin .leq (.t 45) (.c (.int .i64 3)), none, []⟩,
      ⟨some 4, .move (.t 46), none, []⟩] none [4])
    (.ret)))
    (.seq (.ops [⟨some 48, .bin .eql (.t 13) (.c (.int .i64 9)), none, []⟩,
      ⟨some 47, .move (.t 48), none, []⟩] none [0, 3, 5, 13, 47])
    (.cond (.t 47)
      (.seq (.seq (.ops [⟨some 49, .move (.t 5), none, []⟩,
        ⟨some 50, .bin .lss (.t 49) (.c (.int .i64 0)), none, []⟩,
        ⟨some 51, .move (.t 50), none, []⟩,
        ⟨some 52, .move (.t 0), (some (51, false)), []⟩,
        ⟨some 53, .nilck (.t 52), (some (51, false)), []⟩,
        ⟨some 54, .fldAddr 1 (.t 53), (some (51, false)), []⟩,
        ⟨some 55, .load none (.t 54), (some (51, false)), []⟩,
        ⟨some 56, .move (.t 5), (some (51, false)), []⟩,
        ⟨some 57, .idxAddr 1 (.t 55) (.t 56), (some (51, false)), []⟩,
        ⟨some 58, .load none (.t 57), (some (51, false)), []⟩,
        ⟨some 59, .move (.t 0), (some (51, false)), []⟩,
        ⟨some 60, .nilck (.t 59), (some (51, false)), []⟩,
        ⟨some 61, .fldAddr 0 (.t 60), (some (51, false)), []⟩,
        ⟨some 62, .load none (.t 61), (some (51, false)), []⟩,
        ⟨some 63, .call 61 [(.t 58), (.t 62)], (some (51, false)), []⟩,
        ⟨some 64, .not (.t 63), (some (51, false)), []⟩,
        ⟨some 65, .pick (.t 51) (.c (.bool true)) (.t 64), none, []⟩] (some [(0, []), (1, [0]), (2, [1, 0]), (3, [2, 1, 0]), (4, [3, 2, 1, 0]), (5, [4, 3, 2, 1, 0]), (6, [5, 4, 3, 2, 1, 0]), (7, [2, 1, 0]), (8, [6, 5, 4, 3, 2, 1, 0, 7]), (9, [8, 6, 5, 4, 3, 2, 1, 0, 7]), (10, [2, 1, 0]), (11, [10, 2, 1, 0]), (12, [11, 10, 2, 1, 0]), (13, [12, 11, 10, 2, 1, 0]), (14, [9, 8, 6, 5, 4, 3, 2, 1, 0, 7, 13, 12, 11, 10]), (15, [14, 9, 8, 6, 5, 4, 3, 2, 1, 0, 7, 13, 12, 11, 10]), (16, [2, 1, 0, 15, 14, 9, 8, 6, 5, 4, 3, 7, 13, 12, 11, 10])]) [0, 5, 65])
      (.cond (.t 65)
        (.seq (.ops [⟨some 4, .move (.c (.bool false)), none, []⟩] none [4])
        (.ret))
        (.skip)))
      (.ops [⟨some 66, .move (.t 0), none, []⟩,
        ⟨some 67, .move (.t 0), none, []⟩,
        ⟨some 68, .nilck (.t 67), none, []⟩,
        ⟨some 69, .fldAddr 1 (.t 68), none, []⟩,
        ⟨some 70, .load none (.t 69), none, []⟩,
        ⟨some 71, .move (.t 5), none, []⟩,
        ⟨some 72, .slSl 1 (.t 70) none (some (.t 71)), none, []⟩,
        ⟨some 73, .nilck (.t 66), none, []⟩,
        ⟨some 74, .fldAddr 1 (.t 73), none, []⟩,
        ⟨none, .store none (.t 74) (.t 72), none, []⟩] none []))
      (.seq (.ops [⟨some 76, .bin .eql (.t 13) (.c (.int .i64 2)), none, []⟩,
        ⟨some 75, .move (.t 76), none, []⟩] none [0, 3, 13, 75])
      (.cond (.t 75)
        (.seq (.seq (.ops [⟨some 77, .move (.t 0), none, []⟩,
          ⟨some 78, .nilck (.t 77), none, []⟩,
          ⟨some 79, .fldAddr 0 (.t 78), none, []⟩,
          ⟨some 80, .load none (.t 79), none, []⟩,
          ⟨some 81, .len .sl (.t 80), none, []⟩,
          ⟨some 82, .bin .gtr (.t 81) (.c (.int .i64 0)), none, []⟩,
          ⟨some 83, .move (.t 82), none, []⟩,
          ⟨some 84, .move (.t 0), (some (83, true)), []⟩,
          ⟨some 85, .nilck (.t 84), (some (83, true)), []⟩,
          ⟨some 86, .fldAddr 0 (.t 85), (some (83, true)), []⟩,
          ⟨some 87, .load none (.t 86), (some (83, true)), []⟩,
          ⟨some 88, .move (.t 0), (some (83, true)), []⟩,
          ⟨some 89, .nilck (.t 88), (some (83, true)), []⟩,
          ⟨some 90, .fldAddr 0 (.t 89), (some (83, true)), []⟩,
          ⟨some 91, .load none (.t 90), (some (83, true)), []⟩,
          ⟨some 92, .len .sl (.t 91), (some (83, true)), []⟩,
          ⟨some 93, .bin .sub (.t 92) (.c (.int .i64 1)), (some (83, true)), []⟩,
          ⟨some 94, .idxAddr 1 (.t 87) (.t 93), (some (83, true)), []⟩,
          ⟨some 95, .load none (.t 94), (some (83, true)), []⟩,
          ⟨some 96, .fldAddr 1 (.t 3), (some (83, true)), []⟩,
          ⟨some 97, .load none (.t 96), (some (83, true)), []⟩,
          ⟨some 98, .bin .geq (.t 95) (.t 97), (some (83, true)), []⟩,
          ⟨some 99, .pick (.t 83) (.t 98) (.c (.bool false)), none, []⟩] (some [(0, []), (1, [0]), (2, [1, 0]), (3, [2, 1, 0]), (4, [3, 2, 1, 0]), (5, [4, 3, 2, 1, 0]), (6, [5, 4, 3, 2, 1, 0]), (7, [6, 5, 4, 3, 2, 1, 0]), (8, [7, 6, 5, 4, 3, 2, 1, 0]), (9, [8, 7, 6, 5, 4, 3, 2, 1, 0]), (10, [9, 8, 7, 6, 5, 4, 3, 2, 1, 0]), (11, [6, 5, 4, 3, 2, 1, 0]), (12, [11, 6, 5, 4, 3, 2, 1, 0]), (13, [12, 11, 6, 5, 4, 3, 2, 1, 0]), (14, [13, 12, 11, 6, 5, 4, 3, 2, 1, 0]), (15, [14, 13, 12, 11, 6, 5, 4, 3, 2, 1, 0]), (16, [15, 14, 13, 12, 11, 6, 5, 4, 3, 2, 1, 0]), (17, [10, 9, 8, 7, 6, 5, 4, 3, 2, 1, 0, 16, 15, 14, 13, 12, 11]), (18, [17, 10, 9, 8, 7, 6, 5, 4, 3, 2, 1, 0, 16, 15, 14, 13, 12, 11]), (19, [6, 5, 4, 3, 2, 1, 0]), (20, [19, 6, 5, 4, 3, 2, 1, 0]), (21, [18, 17, 10, 9, 8, 7, 6, 5, 4, 3, 2, 1, 0, 16, 15, 14, 13, 12, 11, 20, 19]), (22, [6, 5, 4, 3, 2, 1, 0, 21, 18, 17, 10, 9, 8, 7, 16, 15, 14, 13, 12, 11, 20, 19])]) [0, 3, 99])
        (.cond (.t 99)
          (.seq (.ops [⟨some 4, .move (.c (.bool false)), none, []⟩] none [4])
          (.ret))
          (.skip)))
        (.ops [⟨some 100, .move (.t 0), none, []⟩,
          ⟨some 101, .move (.t 0), none, []⟩,
          ⟨some 102, .nilck (.t 101), none, []⟩,
          ⟨some 103, .fldAddr 0 (.t 102), none, []⟩,
          ⟨some 104, .load none (.t 103), none, []⟩,
          ⟨some 105, .fldAddr 1 (.t 3), none, []⟩,
          ⟨some 106, .load none (.t 105), none, []⟩,
          ⟨some 107, .buildSl 1 [(.int .i64 0)] [(0, 1, (.t 106))], none, []⟩,
          ⟨some 108, .append 1 (.t 104) (.t 107), none, []⟩,
          ⟨some 109, .nilck (.t 100), none, []⟩,
          ⟨some 110, .fldAddr 0 (.t 109), none, []⟩,
          ⟨none, .store none (.t 110) (.t 108), none, []⟩] (some [(0, []), (1, []), (2, [1]), (3, [2, 1]), (4, [3, 2, 1]), (5, []), (6, [5]), (7, [6, 5]), (8, [4, 3, 2, 1, 7, 6, 5]), (9, [0, 1, 2, 3, 4, 5, 6, 7, 8]), (10, [9, 0, 1, 2, 3, 4, 5, 6, 7, 8]), (11, [10, 9, 0, 1, 2, 3, 4, 5, 6, 7, 8])]) []))
        (.seq (.ops [⟨some 112, .bin .eql (.t 13) (.c (.int .i64 3)), none, []⟩,
          ⟨some 111, .move (.t 112), none, []⟩] none [0, 3, 111])
        (.cond (.t 111)
          (.seq (.seq (.ops [⟨some 113, .move (.t 0), none, []⟩,
            ⟨some 114, .nilck (.t 113), none, []⟩,
            ⟨some 115, .fldAddr 0 (.t 114), none, []⟩,
            ⟨some 116, .load none (.t 115), none, []⟩,
            ⟨some 117, .len .sl (.t 116), none, []⟩,
            ⟨some 118, .bin .eql (.t 117) (.c (.int .i64 0)), none, []⟩,
            ⟨some 119, .move (.t 118), none, []⟩,
            ⟨some 120, .move (.t 0), (some (119, false)), []⟩,
            ⟨some 121, .nilck (.t 120), (some (119, false)), []⟩,
            ⟨some 122, .fldAddr 0 (.t 121), (some (119, false)), []⟩,
            ⟨some 123, .load none (.t 122), (some (119, false)), []⟩,
            ⟨some 124, .move (.t 0), (some (119, false)), []⟩,
            ⟨some 125, .nilck (.t 124), (some (119, false)), []⟩,
            ⟨some 126, .fldAddr 0 (.t 125), (some (119, false)), []⟩,
            ⟨some 127, .load none (.t 126), (some (119, false)), []⟩,
            ⟨some 128, .len .sl (.t 127), (some (119, false)), []⟩,
            ⟨some 129, .bin .sub (.t 128) (.c (.int .i64 1)), (some (119, false)), []⟩,
            ⟨some 130, .idxAddr 1 (.t 123) (.t 129), (some (119, false)), []⟩,
            ⟨some 131, .load none (.t 130), (some (119, false)), []⟩,
            ⟨some 132, .fldAddr 1 (.t 3), (some (119, false)), []⟩,
            ⟨some 133, .load none (.t 132), (some (119, false)), []⟩,
            ⟨some 134, .bin .neq (.t 131) (.t 133), (some (119, false)), []⟩,
            ⟨some 135, .pick (.t 119) (.c (.bool true)) (.t 134), none, []⟩] (some [(0, []), (1, [0]), (2, [1, 0]), (3, [2, 1, 0]), (4, [3, 2, 1, 0]), (5, [4, 3, 2, 1, 0]), (6, [5, 4, 3, 2, 1, 0]), (7, [6, 5, 4, 3, 2, 1, 0]), (8, [7, 6, 5, 4, 3, 2, 1, 0]), (9, [8, 7, 6, 5, 4, 3, 2, 1, 0]), (10, [9, 8, 7, 6, 5, 4, 3, 2, 1, 0]), (11, [6, 5, 4, 3, 2, 1, 0]), (12, [11, 6, 5, 4, 3, 2, 1, 0]), (13, [12, 11, 6, 5, 4, 3, 2, 1, 0]), (14, [13, 12, 11, 6, 5, 4, 3, 2, 1, 0]), (15, [14, 13, 12, 11, 6, 5, 4, 3, 2, 1, 0]), (16, [15, 14, 13, 12, 11, 6, 5, 4, 3, 2, 1, 0]), (17, [10, 9, 8, 7, 6, 5, 4, 3, 2, 1, 0, 16, 15, 14, 13, 12, 11]), (18, [17, 10, 9, 8, 7, 6, 5, 4, 3, 2, 1, 0, 16, 15, 14, 13, 12, 11]), (19, [6, 5, 4, 3, 2, 1, 0]), (20, [19, 6, 5, 4, 3, 2, 1, 0]), (21, [18, 17, 10, 9, 8, 7, 6, 5, 4, 3, 2, 1, 0, 16, 15, 14, 13, 12, 11, 20, 19]), (22, [6, 5, 4, 3, 2, 1, 0, 21, 18, 17, 10, 9, 8, 7, 16, 15, 14, 13, 12, 11, 20, 19])]) [0, 135])
          (.cond (.t 135)
            (.seq (.ops [⟨some 4, .move (.c (.bool false)), none, []⟩] none [4])
            (.ret))
            (.skip)))
          (.ops [⟨some 136, .move (.t 0), none, []⟩,
            ⟨some 137, .move (.t 0), none, []⟩,
            ⟨some 138, .nilck (.t 137), none, []⟩,
            ⟨some 139, .fldAddr 0 (.t 138), none, []⟩,
            ⟨some 140, .load none (.t 139), none, []⟩,
            ⟨some 141, .move (.t 0), none, []⟩,
            ⟨some 142, .nilck (.t 141), none, []⟩,
            ⟨some 143, .fldAddr 0 (.t 142), none, []⟩,
            ⟨some 144, .load none (.t 143), none, []⟩,
            ⟨some 145, .len .sl (.t 144), none, []⟩,
            ⟨some 146, .bin .sub (.t 145) (.c (.int .i64 1)), none, []⟩,
            ⟨some 147, .slSl 1 (.t 140) none (some (.t 146)), none, []⟩,
            ⟨some 148, .nilck (.t 136), none, []⟩,
            ⟨some 149, .fldAddr 0 (.t 148), none, []⟩,
            ⟨none, .store none (.t 149) (.t 147), none, []⟩] (some [(0, []), (1, []), (2, [1]), (3, [2, 1]), (4, [3, 2, 1]), (5, []), (6, [5]), (7, [6, 5]), (8, [7, 6, 5]), (9, [8, 7, 6, 5]), (10, [9, 8, 7, 6, 5]), (11, [4, 3, 2, 1, 10, 9, 8, 7, 6, 5]), (12, [0, 1, 2, 3, 4, 5, 6, 7, 8, 9, 10, 11]), (13, [12, 0, 1, 2, 3, 4, 5, 6, 7, 8, 9, 10, 11]), (14, [13, 12, 0, 1, 2, 3, 4, 5, 6, 7, 8, 9, 10, 11])]) []))
          (.seq (.ops [⟨some 14, .load (some 5) (.t 3), none, []⟩,
            ⟨some 15, .call 223 [(.t 14)], none, []⟩,
            ⟨some 16, .not (.t 15), none, []⟩,
            ⟨some 17, .move (.t 16), none, []⟩,
            ⟨some 18, .move (.t 0), (some (17, false)), []⟩,
            ⟨some 19, .nilck (.t 18), (some (17, false)), []⟩,
            ⟨some 20, .fldAddr 0 (.t 19), (some (17, false)), []⟩,
            ⟨some 21, .load none (.t 20), (some (17, false)), []⟩,
            ⟨some 22, .len .sl (.t 21), (some (17, false)), []⟩,
            ⟨some 23, .bin .eql (.t 22) (.c (.int .i64 0)), (some (17, false)), []⟩,
            ⟨some 24, .pick (.t 17) (.c (.bool true)) (.t 23), none, []⟩,
            ⟨some 4, .move (.t 24), none, []⟩] none [4])
          (.ret))))))))))))
(.seq (.ops [⟨some 4, .move (.c (.bool true)), none, []⟩] none [4])
(.ret)))))
def f294 : SFunc := ⟨b294, [.t 4]⟩

/-- watchbill/prog.Steps -/
def b295 : SCode := (
.seq (.ops [⟨some 2, .move (.c (.int .i64 0)), none, []⟩] none [0])
(.seq (.ops [⟨some 3, .alloc (.int .i64 0), none, []⟩,
  ⟨none, .store none (.t 3) (.c (.int .i64 0)), none, []⟩] none [0, 3])
(.seq (.ops [⟨some 4, .move (.t 0), none, []⟩,
  ⟨some 5, .mkfn 301 [(.t 3)], none, []⟩,
  ⟨some 6, .call 297 [(.t 4), (.t 5)], none, []⟩] none [3])
(.seq (.ops [⟨some 7, .load none (.t 3), none, []⟩,
  ⟨some 2, .move (.t 7), none, []⟩] none [2])
(.ret)))))
def f295 : SFunc := ⟨b295, [.t 2]⟩

/-- watchbill/prog.each -/
def b297 : SCode := (
.seq (.ops [⟨some 8, .buildSl 1 [(.int .i64 0)] [(0, 1, (.c (.int .i64 1)))], none, []⟩,
  ⟨some 4, .move (.t 8), none, []⟩] none [0, 1, 4])
(.seq (.ops [⟨some 9, .move (.t 0), none, []⟩,
  ⟨some 10, .len .sl (.t 9), none, []⟩,
  ⟨some 11, .move (.c (.int .i64 0)), none, []⟩] none [1, 4, 9, 10, 11])
(.block 0 (.loop [1, 4, 9, 10, 11] (.seq (.ops [⟨some 12, .bin .lss (.t 11) (.t 10), none, []⟩] none [1, 4, 9, 10, 11, 12])
    (.seq (.cond (.t 12)
      (.skip)
      (.exit 0))
    (.seq (.block 1 (.seq (.ops [⟨some 13, .idxAddr 5 (.t 9) (.t 11), none, []⟩,
        ⟨some 14, .load (some 5) (.t 13), none, []⟩,
        ⟨some 6, .alloc (.agg [(.int .i64 0), (.int .i64 0), (.int .i64 0), (.int .i64 0), .nils]), none, []⟩,
        ⟨none, .store (some 5) (.t 6) (.t 14), none, []⟩] none [1, 4, 6, 9, 10, 11])
      (.seq (.ops [⟨some 15, .move (.t 4), none, []⟩,
        ⟨some 16, .move (.t 4), none, []⟩,
        ⟨some 17, .len .sl (.t 16), none, []⟩,
        ⟨some 18, .bin .sub (.t 17) (.c (.int .i64 1)), none, []⟩,
        ⟨some 19, .idxAddr 1 (.t 15) (.t 18), none, []⟩,
        ⟨some 20, .load none (.t 19), none, []⟩,
        ⟨some 7, .move (.t 20), none, []⟩] none [1, 4, 6, 7, 9, 10, 11])
      (.seq (.ops [⟨some 21, .fldAddr 0 (.t 6), none, []⟩,
        ⟨some 22, .load none (.t 21), none, []⟩] none [1, 4, 6, 7, 9, 10, 11, 22])
      (.block 2 (.seq (.ops [⟨some 28, .bin .eql (.t 22) (.c (.int .i64 8)), none, []⟩,
          ⟨some 27, .move (.t 28), none, []⟩] none [1, 4, 6, 7, 9, 10, 11, 22, 27])
        (.cond (.t 27)
          (.ops [⟨some 29, .move (.t 4), none, []⟩,
            ⟨some 30, .move (.t 7), none, []⟩,
            ⟨some 31, .fldAddr 1 (.t 6), none, []⟩,
            ⟨some 32, .load none (.t 31), none, []⟩,
            ⟨some 33, .bin .mul (.t 30) (.t 32), none, []⟩,
            ⟨some 34, .buildSl 1 [(.int .i64 0)] [(0, 1, (.t 33))], none, []⟩,
            ⟨some 35, .append 1 (.t 29) (.t 34), none, []⟩,
            ⟨some 4, .move (.t 35), none, []⟩] none [1, 4, 9, 10, 11])
          (.seq (.ops [⟨some 37, .bin .eql (.t 22) (.c (.int .i64 9)), none, []⟩,
            ⟨some 36, .move (.t 37), none, []⟩] none [1, 4, 6, 7, 9, 10, 11, 36])
          (.cond (.t 36)
            (.ops [⟨some 38, .move (.t 4), none, []⟩,
              ⟨some 39, .move (.t 4), none, []⟩,
              ⟨some 40, .len .sl (.t 39), none, []⟩,
              ⟨some 41, .bin .sub (.t 40) (.c (.int .i64 1)), none, []⟩,
              ⟨some 42, .mx [(.t 41), (.c (.int .i64 1))], none, []⟩,
              ⟨some 43, .slSl 1 (.t 38) none (some (.t 42)), none, []⟩,
              ⟨some 4, .move (.t 43), none, []⟩] none [1, 4, 9, 10, 11])
            (.ops [⟨some 23, .move (.t 1), none, []⟩,
              ⟨some 24, .load (some 5) (.t 6), none, []⟩,
              ⟨some 25, .move (.t 7), none, []⟩,
              ⟨some 26, .callv (.t 23) [(.t 24), (.t 25)], none, []⟩] none [1, 4, 9, 10, 11]))))))))))
    (.ops [⟨some 44, .bin .add (.t 11) (.c (.int .i64 1)), none, []⟩,
      ⟨some 11, .move (.t 44), none, []⟩] none [1, 4, 9, 10, 11]))))))))
def f297 : SFunc := ⟨b297, []⟩

/-- watchbill/prog.Cost$1 -/
def b296 : SCode := (
.seq (.ops [⟨some 3, .box (.t 0), none, []⟩] none [1, 2, 3])
(.seq (.ops [⟨some 5, .fldAddr 0 (.t 3), none, []⟩,
  ⟨some 6, .load none (.t 5), none, []⟩,
  ⟨some 7, .bin .eql (.t 6) (.c (.int .i64 1)), none, []⟩] none [1, 2, 3, 7])
(.cond (.t 7)
  (.ops [⟨some 8, .load none (.t 2), none, []⟩,
    ⟨some 9, .fldAddr 1 (.t 3), none, []⟩,
    ⟨some 10, .load none (.t 9), none, []⟩,
    ⟨some 11, .move (.t 1), none, []⟩,
    ⟨some 12, .bin .mul (.t 10) (.t 11), none, []⟩,
    ⟨some 13, .bin .add (.t 8) (.t 12), none, []⟩,
    ⟨none, .store none (.t 2) (.t 13), none, []⟩] none [])
  (.skip))))
def f296 : SFunc := ⟨b296, []⟩

/-- slices.ContainsFunc[[]watchbill/op.Case,watchbill/op.Case] -/
def b235 : SCode := (
.seq (.ops [⟨some 4, .move (.c (.bool false)), none, []⟩] none [0, 1])
(.seq (.ops [⟨some 5, .move (.t 0), none, []⟩,
  ⟨some 6, .move (.t 1), none, []⟩,
  ⟨some 7, .call 238 [(.t 5), (.t 6)], none, []⟩,
  ⟨some 8, .bin .geq (.t 7) (.c (.int .i64 0)), none, []⟩,
  ⟨some 4, .move (.t 8), none, []⟩] none [4])
(.ret)))
def f235 : SFunc := ⟨b235, [.t 4]⟩

/-- slices.insertionSortCmpFunc[int] -/
def b379 : SCode := (
.seq (.ops [⟨some 10, .move (.t 1), none, []⟩,
  ⟨some 11, .bin .add (.t 10) (.c (.int .i64 1)), none, []⟩,
  ⟨some 8, .move (.t 11), none, []⟩] none [0, 1, 2, 3, 8])
(.block 0 (.loop [0, 1, 2, 3, 8] (.seq (.seq (.ops [⟨some 12, .move (.t 8), none, []⟩,
      ⟨some 13, .move (.t 2), none, []⟩,
      ⟨some 14, .bin .lss (.t 12) (.t 13), none, []⟩] none [0, 1, 2, 3, 8, 14])
    (.cond (.t 14)
      (.skip)
      (.exit 0)))
    (.seq (.block 1 (.seq (.ops [⟨some 17, .move (.t 8), none, []⟩,
        ⟨some 9, .move (.t 17), none, []⟩] none [0, 1, 2, 3, 8, 9])
      (.block 2 (.loop [0, 1, 2, 3, 8, 9] (.seq (.seq (.ops [⟨some 18, .move (.t 9), none, []⟩,
            ⟨some 19, .move (.t 1), none, []⟩,
            ⟨some 20, .bin .gtr (.t 18) (.t 19), none, []⟩,
            ⟨some 21, .move (.t 20), none, []⟩,
            ⟨some 22, .move (.t 3), (some (21, true)), []⟩,
            ⟨some 23, .move (.t 0), (some (21, true)), []⟩,
            ⟨some 24, .move (.t 9), (some (21, true)), []⟩,
            ⟨some 25, .idxAddr 1 (.t 23) (.t 24), (some (21, true)), []⟩,
            ⟨some 26, .load none (.t 25), (some (21, true)), []⟩,
            ⟨some 27, .move (.t 0), (some (21, true)), []⟩,
            ⟨some 28, .move (.t 9), (some (21, true)), []⟩,
            ⟨some 29, .bin .sub (.t 28) (.c (.int .i64 1)), (some (21, true)), []⟩,
            ⟨some 30, .idxAddr 1 (.t 27) (.t 29), (some (21, true)), []⟩,
            ⟨some 31, .load none (.t 30), (some (21, true)), []⟩,
            ⟨some 32, .callv (.t 22) [(.t 26), (.t 31)], (some (21, true)), []⟩,
            ⟨some 33, .bin .lss (.t 32) (.c (.int .i64 0)), (some (21, true)), []⟩,
            ⟨some 34, .pick (.t 21) (.t 33) (.c (.bool false)), none, []⟩] (some [(0, []), (1, []), (2, [0, 1]), (3, [2, 0, 1]), (4, [3, 2, 0, 1]), (5, [3, 2, 0, 1]), (6, [3, 2, 0, 1]), (7, [5, 3, 2, 0, 1, 6]), (8, [7, 5, 3, 2, 0, 1, 6]), (9, [3, 2, 0, 1]), (10, [3, 2, 0, 1]), (11, [10, 3, 2, 0, 1]), (12, [9, 3, 2, 0, 1, 11, 10]), (13, [12, 9, 3, 2, 0, 1, 11, 10]), (14, [4, 3, 2, 0, 1, 8, 7, 5, 6, 13, 12, 9, 11, 10]), (15, [14, 4, 3, 2, 0, 1, 8, 7, 5, 6, 13, 12, 9, 11, 10]), (16, [3, 2, 0, 1, 15, 14, 4, 8, 7, 5, 6, 13, 12, 9, 11, 10])]) [0, 1, 2, 3, 8, 9, 34])
          (.cond (.t 34)
            (.skip)
            (.exit 2)))
          (.seq (.block 3 (.ops [⟨some 37, .move (.t 0), none, []⟩,
              ⟨some 38, .move (.t 9), none, []⟩,
              ⟨some 39, .move (.t 0), none, []⟩,
              ⟨some 40, .move (.t 9), none, []⟩,
              ⟨some 41, .bin .sub (.t 40) (.c (.int .i64 1)), none, []⟩,
              ⟨some 42, .move (.t 0), none, []⟩,
              ⟨some 43, .move (.t 9), none, []⟩,
              ⟨some 44, .bin .sub (.t 43) (.c (.int .i64 1)), none, []⟩,
              ⟨some 45, .idxAddr 1 (.t 42) (.t 44), none, []⟩,
              ⟨some 46, .load none (.t 45), none, []⟩,
              ⟨some 47, .move (.t 0), none, []⟩,
              ⟨some 48, .move (.t 9), none, []⟩,
              ⟨some 49, .idxAddr 1 (.t 47) (.t 48), none, []⟩,
              ⟨some 50, .load none (.t 49), none, []⟩,
              ⟨some 51, .idxAddr 1 (.t 37) (.t 38), none, []⟩,
              ⟨none, .store none (.t 51) (.t 46), none, []⟩,
              ⟨some 52, .idxAddr 1 (.t 39) (.t 41), none, []⟩,
              ⟨none, .store none (.t 52) (.t 50), none, []⟩] (some [(0, []), (1, []), (2, []), (3, []), (4, [3]), (5, []), (6, []), (7, [6]), (8, [5, 7, 6]), (9, [8, 5, 7, 6]), (10, []), (11, []), (12, [10, 11]), (13, [12, 10, 11]), (14, [0, 1, 5, 6, 7, 8, 9, 13, 12, 10, 11]), (15, [14, 0, 1, 5, 6, 7, 8, 9, 13, 12, 10, 11]), (16, [2, 4, 3, 0, 1, 5, 6, 7, 8, 9, 10, 11, 12, 13, 14, 15]), (17, [16, 2, 4, 3, 0, 1, 5, 6, 7, 8, 9, 10, 11, 12, 13, 14, 15])]) [0, 1, 2, 3, 8, 9]))
          (.ops [⟨some 35, .move (.t 9), none, []⟩,
            ⟨some 36, .bin .sub (.t 35) (.c (.int .i64 1)), none, []⟩,
            ⟨some 9, .move (.t 36), none, []⟩] none [0, 1, 2, 3, 8, 9])))))))
    (.ops [⟨some 15, .move (.t 8), none, []⟩,
      ⟨some 16, .bin .add (.t 15) (.c (.int .i64 1)), none, []⟩,
      ⟨some 8, .move (.t 16), none, []⟩] none [0, 1, 2, 3, 8]))))))
def f379 : SFunc := ⟨b379, []⟩

/-- slices.pdqsortOrdered[int] -/
def b382 : SCode := (
.seq (.ops [⟨some 8, .move (.c (.bool true)), none, []⟩] none [0, 1, 2, 3, 8])
(.seq (.ops [⟨some 9, .move (.c (.bool true)), none, []⟩] none [0, 1, 2, 3, 8, 9])
(.block 0 (.loop [0, 1, 2, 3, 8, 9] (.block 1 (.seq (.ops [⟨some 19, .move (.t 2), none, []⟩,
        ⟨some 20, .move (.t 1), none, []⟩,
        ⟨some 21, .bin .sub (.t 19) (.t 20), none, []⟩,
        ⟨some 10, .move (.t 21), none, []⟩] none [0, 1, 2, 3, 8, 9, 10])
      (.seq (.seq (.ops [⟨some 22, .move (.t 10), none, []⟩,
        ⟨some 23, .bin .leq (.t 22) (.c (.int .i64 12)), none, []⟩] none [0, 1, 2, 3, 8, 9, 10, 23])
      (.cond (.t 23)
        (.seq (.ops [⟨some 24, .move (.t 0), none, []⟩,
          ⟨some 25, .move (.t 1), none, []⟩,
          ⟨some 26, .move (.t 2), none, []⟩,
          ⟨some 27, .call 399 [(.t 24), (.t 25), (.t 26)], none, []⟩] none [])
        (.ret))
        (.skip)))
      (.seq (.seq (.ops [⟨some 28, .move (.t 3), none, []⟩,
        ⟨some 29, .bin .eql (.t 28) (.c (.int .i64 0)), none, []⟩] none [0, 1, 2, 3, 8, 9, 10, 29])
      (.cond (.t 29)
        (.seq (.ops [⟨some 30, .move (.t 0), none, []⟩,
          ⟨some 31, .move (.t 1), none, []⟩,
          ⟨some 32, .move (.t 2), none, []⟩,
          ⟨some 33, .call 400 [(.t 30), (.t 31), (.t 32)], none, []⟩] none [])
        (.ret))
        (.skip)))
      (.seq (.seq (.ops [⟨some 34, .move (.t 8), none, []⟩,
        ⟨some 35, .not (.t 34), none, []⟩] none [0, 1, 2, 3, 8, 9, 10, 35])
      (.cond (.t 35)
        (.seq (.ops [⟨some 36, .move (.t 0), none, []⟩,
          ⟨some 37, .move (.t 1), none, []⟩,
          ⟨some 38, .move (.t 2), none, []⟩,
          ⟨some 39, .call 401 [(.t 36), (.t 37), (.t 38)], none, []⟩] none [0, 1, 2, 3, 8, 9, 10])
        (.ops [⟨some 40, .move (.t 3), none, []⟩,
          ⟨some 41, .bin .sub (.t 40) (.c (.int .i64 1)), none, []⟩,
          ⟨some 3, .move (.t 41), none, []⟩] none [0, 1, 2, 3, 8, 9, 10]))
        (.skip)))
      (.seq (.ops [⟨some 43, .move (.t 0), none, []⟩,
        ⟨some 44, .move (.t 1), none, []⟩,
        ⟨some 45, .move (.t 2), none, []⟩,
        ⟨some 46, .call 402 [(.t 43), (.t 44), (.t 45)], none, []⟩,
        ⟨some 42, .move (.t 46), none, []⟩,
        ⟨some 47, .ext 0 (.t 42), none, []⟩,
        ⟨some 48, .ext 1 (.t 42), none, []⟩,
        ⟨some 11, .move (.t 47), none, []⟩,
        ⟨some 12, .move (.t 48), none, []⟩] none [0, 1, 2, 3, 8, 9, 10, 11, 12])
      (.seq (.seq (.ops [⟨some 49, .move (.t 12), none, []⟩,
        ⟨some 50, .bin .eql (.t 49) (.c (.int .i64 2)), none, []⟩] none [0, 1, 2, 3, 8, 9, 10, 11, 12, 50])
      (.cond (.t 50)
        (.seq (.ops [⟨some 51, .move (.t 0), none, []⟩,
          ⟨some 52, .move (.t 1), none, []⟩,
          ⟨some 53, .move (.t 2), none, []⟩,
          ⟨some 54, .call 403 [(.t 51), (.t 52), (.t 53)], none, []⟩] none [0, 1, 2, 3, 8, 9, 10, 11])
        (.seq (.ops [⟨some 55, .move (.t 2), none, []⟩,
          ⟨some 56, .bin .sub (.t 55) (.c (.int .i64 1)), none, []⟩,
          ⟨some 57, .move (.t 11), none, []⟩,
          ⟨some 58, .move (.t 1), none, []⟩,
          ⟨some 59, .bin .sub (.t 57) (.t 58), none, []⟩,
          ⟨some 60, .bin .sub (.t 56) (.t 59), none, []⟩,
          ⟨some 11, .move (.t 60), none, []⟩] none [0, 1, 2, 3, 8, 9, 10, 11])
        (.ops [⟨some 12, .move (.c (.int .i64 1)), none, []⟩] none [0, 1, 2, 3, 8, 9, 10, 11, 12])))
        (.skip)))
      (.seq (.seq (.ops [⟨some 61, .move (.t 8), none, []⟩,
        ⟨some 62, .move (.t 61), none, []⟩,
        ⟨some 63, .move (.t 9), (some (62, true)), []⟩,
        ⟨some 64, .pick (.t 62) (.t 63) (.c (.bool false)), none, []⟩,
        ⟨some 65, .move (.t 64), none, []⟩,
        ⟨some 66, .move (.t 12), (some (65, true)), []⟩,
        ⟨some 67, .bin .eql (.t 66) (.c (.int .i64 1)), (some (65, true)), []⟩,
        ⟨some 68, .pick (.t 65) (.t 67) (.c (.bool false)), none, []⟩] none [0, 1, 2, 3, 8, 9, 10, 11, 68])
      (.cond (.t 68)
        (.seq (.ops [⟨some 69, .move (.t 0), none, []⟩,
          ⟨some 70, .move (.t 1), none, []⟩,
          ⟨some 71, .move (.t 2), none, []⟩,
          ⟨some 72, .call 404 [(.t 69), (.t 70), (.t 71)], none, []⟩] none [0, 1, 2, 3, 8, 9, 10, 11, 72])
        (.cond (.t 72)
          (.ret)
          (.skip)))
        (.skip)))
      (.seq (.seq (.ops [⟨some 73, .move (.t 1), none, []⟩,
        ⟨some 74, .bin .gtr (.t 73) (.c (.int .i64 0)), none, []⟩,
        ⟨some 75, .move (.t 74), none, []⟩,
        ⟨some 76, .move (.t 0), (some (75, true)), []⟩,
        ⟨some 77, .move (.t 1), (some (75, true)), []⟩,
        ⟨some 78, .bin .sub (.t 77) (.c (.int .i64 1)), (some (75, true)), []⟩,
        ⟨some 79, .idxAddr 1 (.t 76) (.t 78), (some (75, true)), []⟩,
        ⟨some 80, .load none (.t 79), (some (75, true)), []⟩,
        ⟨some 81, .move (.t 0), (some (75, true)), []⟩,
        ⟨some 82, .move (.t 11), (some (75, true)), []⟩,
        ⟨some 83, .idxAddr 1 (.t 81) (.t 82), (some (75, true)), []⟩,
        ⟨some 84, .load none (.t 83), (some (75, true)), []⟩,
        ⟨some 85, .call 405 [(.t 80), (.t 84)], (some (75, true)), []⟩,
        ⟨some 86, .not (.t 85), (some (75, true)), []⟩,
        ⟨some 87, .pick (.t 75) (.t 86) (.c (.bool false)), none, []⟩] (some [(0, []), (1, [0]), (2, [1, 0]), (3, [2, 1, 0]), (4, [2, 1, 0]), (5, [4, 2, 1, 0]), (6, [3, 2, 1, 0, 5, 4]), (7, [6, 3, 2, 1, 0, 5, 4]), (8, [2, 1, 0]), (9, [2, 1, 0]), (10, [8, 2, 1, 0, 9]), (11, [10, 8, 2, 1, 0, 9]), (12, [7, 6, 3, 2, 1, 0, 5, 4, 11, 10, 8, 9]), (13, [12, 7, 6, 3, 2, 1, 0, 5, 4, 11, 10, 8, 9]), (14, [2, 1, 0, 13, 12, 7, 6, 3, 5, 4, 11, 10, 8, 9])]) [0, 1, 2, 3, 8, 9, 10, 11, 87])
      (.cond (.t 87)
        (.seq (.ops [⟨some 88, .move (.t 0), none, []⟩,
          ⟨some 89, .move (.t 1), none, []⟩,
          ⟨some 90, .move (.t 2), none, []⟩,
          ⟨some 91, .move (.t 11), none, []⟩,
          ⟨some 92, .call 406 [(.t 88), (.t 89), (.t 90), (.t 91)], none, []⟩,
          ⟨some 13, .move (.t 92), none, []⟩] none [0, 2, 3, 8, 9, 13])
        (.seq (.ops [⟨some 93, .move (.t 13), none, []⟩,
          ⟨some 1, .move (.t 93), none, []⟩] none [0, 1, 2, 3, 8, 9])
        (.exit 1)))
        (.skip)))
      (.seq (.ops [⟨some 95, .move (.t 0), none, []⟩,
        ⟨some 96, .move (.t 1), none, []⟩,
        ⟨some 97, .move (.t 2), none, []⟩,
        ⟨some 98, .move (.t 11), none, []⟩,
        ⟨some 99, .call 407 [(.t 95), (.t 96), (.t 97), (.t 98)], none, []⟩,
        ⟨some 94, .move (.t 99), none, []⟩,
        ⟨some 100, .ext 0 (.t 94), none, []⟩,
        ⟨some 101, .ext 1 (.t 94), none, []⟩,
        ⟨some 14, .move (.t 100), none, []⟩,
        ⟨some 15, .move (.t 101), none, []⟩] none [0, 1, 2, 3, 10, 14, 15])
      (.seq (.ops [⟨some 102, .move (.t 15), none, []⟩,
        ⟨some 9, .move (.t 102), none, []⟩] none [0, 1, 2, 3, 9, 10, 14])
      (.seq (.ops [⟨some 103, .move (.t 14), none, []⟩,
        ⟨some 104, .move (.t 1), none, []⟩,
        ⟨some 105, .bin .sub (.t 103) (.t 104), none, []⟩,
        ⟨some 106, .move (.t 2), none, []⟩,
        ⟨some 107, .move (.t 14), none, []⟩,
        ⟨some 108, .bin .sub (.t 106) (.t 107), none, []⟩,
        ⟨some 16, .move (.t 105), none, []⟩,
        ⟨some 17, .move (.t 108), none, []⟩] none [0, 1, 2, 3, 9, 10, 14, 16, 17])
      (.seq (.ops [⟨some 109, .move (.t 10), none, []⟩,
        ⟨some 110, .bin .quo (.t 109) (.c (.int .i64 8)), none, []⟩,
        ⟨some 18, .move (.t 110), none, []⟩] none [0, 1, 2, 3, 9, 14, 16, 17, 18])
      (.seq (.ops [⟨some 111, .move (.t 16), none, []⟩,
        ⟨some 112, .move (.t 17), none, []⟩,
        ⟨some 113, .bin .lss (.t 111) (.t 112), none, []⟩] none [0, 1, 2, 3, 9, 14, 16, 17, 18, 113])
      (.cond (.t 113)
        (.seq (.ops [⟨some 114, .move (.t 16), none, []⟩,
          ⟨some 115, .move (.t 18), none, []⟩,
          ⟨some 116, .bin .geq (.t 114) (.t 115), none, []⟩,
          ⟨some 8, .move (.t 116), none, []⟩] none [0, 1, 2, 3, 8, 9, 14])
        (.seq (.ops [⟨some 117, .move (.t 0), none, []⟩,
          ⟨some 118, .move (.t 1), none, []⟩,
          ⟨some 119, .move (.t 14), none, []⟩,
          ⟨some 120, .move (.t 3), none, []⟩,
          ⟨some 121, .call 382 [(.t 117), (.t 118), (.t 119), (.t 120)], none, []⟩] none [0, 2, 3, 8, 9, 14])
        (.ops [⟨some 122, .move (.t 14), none, []⟩,
          ⟨some 123, .bin .add (.t 122) (.c (.int .i64 1)), none, []⟩,
          ⟨some 1, .move (.t 123), none, []⟩] none [0, 1, 2, 3, 8, 9])))
        (.seq (.ops [⟨some 124, .move (.t 17), none, []⟩,
          ⟨some 125, .move (.t 18), none, []⟩,
          ⟨some 126, .bin .geq (.t 124) (.t 125), none, []⟩,
          ⟨some 8, .move (.t 126), none, []⟩] none [0, 1, 2, 3, 8, 9, 14])
        (.seq (.ops [⟨some 127, .move (.t 0), none, []⟩,
          ⟨some 128, .move (.t 14), none, []⟩,
          ⟨some 129, .bin .add (.t 128) (.c (.int .i64 1)), none, []⟩,
          ⟨some 130, .move (.t 2), none, []⟩,
          ⟨some 131, .move (.t 3), none, []⟩,
          ⟨some 132, .call 382 [(.t 127), (.t 129), (.t 130), (.t 131)], none, []⟩] none [0, 1, 3, 8, 9, 14])
        (.ops [⟨some 133, .move (.t 14), none, []⟩,
          ⟨some 2, .move (.t 133), none, []⟩] none [0, 1, 2, 3, 8, 9]))))))))))))))))))))))
def f382 : SFunc := ⟨b382, []⟩

/-- math/bits.Len -/
def b381 : SCode := (
.seq (.ops [⟨some 2, .move (.c (.int .i64 0)), none, []⟩] none [0])
(.seq (.cond (.c (.bool false))
  (.seq (.ops [⟨some 3, .move (.t 0), none, []⟩,
    ⟨some 4, .conv .u32 (.t 3), none, []⟩,
    ⟨some 5, .call 422 [(.t 4)], none, []⟩,
    ⟨some 2, .move (.t 5), none, []⟩] none [2])
  (.ret))
  (.skip))
(.seq (.ops [⟨some 6, .move (.t 0), none, []⟩,
  ⟨some 7, .call 188 [(.t 6)], none, []⟩,
  ⟨some 2, .move (.t 7), none, []⟩] none [2])
(.ret))))
def f381 : SFunc := ⟨b381, [.t 2]⟩

/-- slices.ContainsFunc[watchbill/waitq.Queue,watchbill/waitq.Waiter] -/
def b384 : SCode := (
.seq (.ops [⟨some 4, .move (.c (.bool false)), none, []⟩] none [0, 1])
(.seq (.ops [⟨some 5, .move (.t 0), none, []⟩,
  ⟨some 6, .move (.t 1), none, []⟩,
  ⟨some 7, .call 408 [(.t 5), (.t 6)], none, []⟩,
  ⟨some 8, .bin .geq (.t 7) (.c (.int .i64 0)), none, []⟩,
  ⟨some 4, .move (.t 8), none, []⟩] none [4])
(.ret)))
def f384 : SFunc := ⟨b384, [.t 4]⟩

/-- watchbill/waitq.Has$1 -/
def b383 : SCode := (
.seq (.ops [⟨some 2, .box (.t 0), none, []⟩,
  ⟨some 3, .move (.c (.bool false)), none, []⟩] none [1, 2])
(.seq (.ops [⟨some 4, .fldAddr 0 (.t 2), none, []⟩,
  ⟨some 5, .load none (.t 4), none, []⟩,
  ⟨some 6, .load none (.t 1), none, []⟩,
  ⟨some 7, .bin .eql (.t 5) (.t 6), none, []⟩,
  ⟨some 3, .move (.t 7), none, []⟩] none [3])
(.ret)))
def f383 : SFunc := ⟨b383, [.t 3]⟩

/-- cmp.Or[int] -/
def b387 : SCode := (
.seq (.ops [⟨some 2, .move (.c (.int .i64 0)), none, []⟩] none [0])
(.seq (.ops [⟨some 3, .move (.c (.int .i64 0)), none, []⟩] none [0, 3])
(.seq (.seq (.ops [⟨some 6, .move (.t 0), none, []⟩,
  ⟨some 7, .len .sl (.t 6), none, []⟩,
  ⟨some 8, .move (.c (.int .i64 0)), none, []⟩] none [3, 6, 7, 8])
(.block 0 (.loop [3, 6, 7, 8] (.seq (.ops [⟨some 9, .bin .lss (.t 8) (.t 7), none, []⟩] none [3, 6, 7, 8, 9])
    (.seq (.cond (.t 9)
      (.skip)
      (.exit 0))
    (.seq (.block 1 (.seq (.ops [⟨some 10, .idxAddr 1 (.t 6) (.t 8), none, []⟩,
        ⟨some 11, .load none (.t 10), none, []⟩,
        ⟨some 5, .move (.t 11), none, []⟩] none [3, 5, 6, 7, 8])
      (.seq (.ops [⟨some 12, .move (.t 5), none, []⟩,
        ⟨some 13, .move (.t 3), none, []⟩,
        ⟨some 14, .bin .neq (.t 12) (.t 13), none, []⟩] none [3, 5, 6, 7, 8, 14])
      (.cond (.t 14)
        (.seq (.ops [⟨some 15, .move (.t 5), none, []⟩,
          ⟨some 2, .move (.t 15), none, []⟩] none [2])
        (.ret))
        (.skip)))))
    (.ops [⟨some 16, .bin .add (.t 8) (.c (.int .i64 1)), none, []⟩,
      ⟨some 8, .move (.t 16), none, []⟩] none [3, 6, 7, 8])))))))
(.seq (.ops [⟨some 17, .move (.t 3), none, []⟩,
  ⟨some 2, .move (.t 17), none, []⟩] none [2])
(.ret)))))
def f387 : SFunc := ⟨b387, [.t 2]⟩

/-- cmp.Compare[int] -/
def b386 : SCode := (
.seq (.ops [⟨some 4, .move (.c (.int .i64 0)), none, []⟩] none [0, 1])
(.seq (.ops [⟨some 7, .move (.t 0), none, []⟩,
  ⟨some 8, .call 409 [(.t 7)], none, []⟩,
  ⟨some 5, .move (.t 8), none, []⟩] none [0, 1, 5])
(.seq (.ops [⟨some 9, .move (.t 1), none, []⟩,
  ⟨some 10, .call 409 [(.t 9)], none, []⟩,
  ⟨some 6, .move (.t 10), none, []⟩] none [0, 1, 5, 6])
(.seq (.seq (.ops [⟨some 11, .move (.t 5), none, []⟩] none [0, 1, 6, 11])
(.cond (.t 11)
  (.seq (.seq (.ops [⟨some 12, .move (.t 6), none, []⟩] none [12])
  (.cond (.t 12)
    (.seq (.ops [⟨some 4, .move (.c (.int .i64 0)), none, []⟩] none [4])
    (.ret))
    (.skip)))
  (.seq (.ops [⟨some 4, .move (.c (.int .i64 (-1))), none, []⟩] none [4])
  (.ret)))
  (.skip)))
(.seq (.seq (.ops [⟨some 13, .move (.t 6), none, []⟩] none [0, 1, 13])
(.cond (.t 13)
  (.seq (.ops [⟨some 4, .move (.c (.int .i64 1)), none, []⟩] none [4])
  (.ret))
  (.skip)))
(.seq (.seq (.ops [⟨some 14, .move (.t 0), none, []⟩,
  ⟨some 15, .move (.t 1), none, []⟩,
  ⟨some 16, .bin .lss (.t 14) (.t 15), none, []⟩] none [0, 1, 16])
(.cond (.t 16)
  (.seq (.ops [⟨some 4, .move (.c (.int .i64 (-1))), none, []⟩] none [4])
  (.ret))
  (.skip)))
(.seq (.seq (.ops [⟨some 17, .move (.t 0), none, []⟩,
  ⟨some 18, .move (.t 1), none, []⟩,
  ⟨some 19, .bin .gtr (.t 17) (.t 18), none, []⟩] none [19])
(.cond (.t 19)
  (.seq (.ops [⟨some 4, .move (.c (.int .i64 1)), none, []⟩] none [4])
  (.ret))
  (.skip)))
(.seq (.ops [⟨some 4, .move (.c (.int .i64 0)), none, []⟩] none [4])
(.ret)))))))))
def f386 : SFunc := ⟨b386, [.t 4]⟩

/-- watchbill/waitq.prio -/
def b385 : SCode := (
.seq (.ops [⟨some 4, .move (.c (.int .i64 0)), none, []⟩] none [0, 1])
(.seq (.seq (.ops [⟨some 5, .move (.t 1), none, []⟩,
  ⟨some 6, .bin .lss (.t 5) (.c (.int .i64 0)), none, []⟩,
  ⟨some 7, .move (.t 6), none, []⟩,
  ⟨some 8, .move (.t 1), (some (7, false)), []⟩,
  ⟨some 9, .move (.t 0), (some (7, false)), []⟩,
  ⟨some 10, .len .sl (.t 9), (some (7, false)), []⟩,
  ⟨some 11, .bin .geq (.t 8) (.t 10), (some (7, false)), []⟩,
  ⟨some 12, .pick (.t 7) (.c (.bool true)) (.t 11), none, []⟩] none [0, 1, 12])
(.cond (.t 12)
  (.seq (.ops [⟨some 4, .move (.c (.int .i64 0)), none, []⟩] none [4])
  (.ret))
  (.skip)))
(.seq (.ops [⟨some 13, .move (.t 0), none, []⟩,
  ⟨some 14, .move (.t 1), none, []⟩,
  ⟨some 15, .idxAddr 1 (.t 13) (.t 14), none, []⟩,
  ⟨some 16, .load none (.t 15), none, []⟩,
  ⟨some 4, .move (.t 16), none, []⟩] none [4])
(.ret))))
def f385 : SFunc := ⟨b385, [.t 4]⟩

/-- (*watchbill/chanq.Chan).Leave -/
def b388 : SCode := (
.ops [⟨some 4, .move (.t 0), none, []⟩,
  ⟨some 5, .move (.t 0), none, []⟩,
  ⟨some 6, .move (.t 0), none, []⟩,
  ⟨some 7, .nilck (.t 6), none, []⟩,
  ⟨some 8, .fldAddr 1 (.t 7), none, []⟩,
  ⟨some 9, .load none (.t 8), none, []⟩,
  ⟨some 10, .move (.t 1), none, []⟩,
  ⟨some 12, .move (.t 0), none, []⟩,
  ⟨some 13, .nilck (.t 12), none, []⟩,
  ⟨some 14, .fldAddr 2 (.t 13), none, []⟩,
  ⟨some 15, .load none (.t 14), none, []⟩,
  ⟨some 16, .move (.t 1), none, []⟩,
  ⟨some 11, .call 410 [(.t 9), (.t 10)], none, [10]⟩,
  ⟨some 17, .call 410 [(.t 15), (.t 16)], none, []⟩,
  ⟨some 18, .nilck (.t 4), none, []⟩,
  ⟨some 19, .fldAddr 1 (.t 18), none, []⟩,
  ⟨none, .store none (.t 19) (.t 11), none, []⟩,
  ⟨some 20, .nilck (.t 5), none, []⟩,
  ⟨some 21, .fldAddr 2 (.t 20), none, []⟩,
  ⟨none, .store none (.t 21) (.t 17), none, []⟩] (some [(0, []), (1, []), (2, []), (3, [2]), (4, [3, 2]), (5, [4, 3, 2]), (6, []), (8, []), (9, [7]), (10, [8, 7]), (11, [9, 8, 7]), (12, []), (7, [5, 4, 3, 2, 6]), (13, [10, 9, 8, 7, 11, 12, 5, 4, 3, 2, 6]), (14, [0, 2, 3, 4, 5, 6, 12, 10, 9, 8, 7, 13, 11]), (15, [14, 0, 2, 3, 4, 5, 6, 12, 10, 9, 8, 7, 13, 11]), (16, [15, 14, 0, 2, 3, 4, 5, 6, 12, 10, 9, 8, 7, 13, 11]), (17, [1, 0, 2, 3, 4, 5, 6, 12, 7, 8, 9, 10, 11, 13, 14, 15, 16]), (18, [17, 1, 0, 2, 3, 4, 5, 6, 12, 7, 8, 9, 10, 11, 13, 14, 15, 16]), (19, [18, 17, 1, 0, 2, 3, 4, 5, 6, 12, 7, 8, 9, 10, 11, 13, 14, 15, 16])]) [])
def f388 : SFunc := ⟨b388, []⟩

/-- watchbill/waitq.Order -/
def b390 : SCode := (
.seq (.ops [⟨some 2, .box (.t 0), none, []⟩,
  ⟨some 3, .box (.t 1), none, []⟩,
  ⟨some 4, .move (.c .nils), none, []⟩] none [2, 3])
(.seq (.ops [⟨some 5, .move (.c .nils), none, []⟩] none [2, 3, 5])
(.seq (.seq (.ops [⟨some 7, .load none (.t 2), none, []⟩,
  ⟨some 8, .len .sl (.t 7), none, []⟩,
  ⟨some 9, .move (.c (.int .i64 0)), none, []⟩] none [2, 3, 5, 8, 9])
(.block 0 (.loop [2, 3, 5, 8, 9] (.seq (.ops [⟨some 10, .bin .lss (.t 9) (.t 8), none, []⟩] none [2, 3, 5, 8, 9, 10])
    (.seq (.cond (.t 10)
      (.skip)
      (.exit 0))
    (.seq (.block 1 (.seq (.ops [⟨some 11, .move (.t 9), none, []⟩,
        ⟨some 6, .move (.t 11), none, []⟩] none [2, 3, 5, 6, 8, 9])
      (.ops [⟨some 12, .move (.t 5), none, []⟩,
        ⟨some 13, .move (.t 6), none, []⟩,
        ⟨some 14, .buildSl 1 [(.int .i64 0)] [(0, 1, (.t 13))], none, []⟩,
        ⟨some 15, .append 1 (.t 12) (.t 14), none, []⟩,
        ⟨some 5, .move (.t 15), none, []⟩] none [2, 3, 5, 8, 9])))
    (.ops [⟨some 16, .bin .add (.t 9) (.c (.int .i64 1)), none, []⟩,
      ⟨some 9, .move (.t 16), none, []⟩] none [2, 3, 5, 8, 9])))))))
(.seq (.ops [⟨some 17, .move (.t 5), none, []⟩,
  ⟨some 18, .mkfn 411 [(.t 3), (.t 2)], none, []⟩,
  ⟨some 19, .call 338 [(.t 17), (.t 18)], none, []⟩] none [5])
(.seq (.ops [⟨some 20, .move (.t 5), none, []⟩,
  ⟨some 4, .move (.t 20), none, []⟩] none [4])
(.ret))))))
def f390 : SFunc := ⟨b390, [.t 4]⟩

/-- (*watchbill/ring.Ring).Room -/
def b391 : SCode := (
.seq (.ops [⟨some 2, .move (.c (.int .i64 0)), none, []⟩] none [0])
(.seq (.ops [⟨some 3, .move (.t 0), none, []⟩,
  ⟨some 4, .nilck (.t 3), none, []⟩,
  ⟨some 5, .fldAddr 0 (.t 4), none, []⟩,
  ⟨some 6, .load none (.t 5), none, []⟩,
  ⟨some 7, .capc (.t 6), none, []⟩,
  ⟨some 8, .move (.t 0), none, []⟩,
  ⟨some 9, .nilck (.t 8), none, []⟩,
  ⟨some 10, .fldAddr 0 (.t 9), none, []⟩,
  ⟨some 11, .load none (.t 10), none, []⟩,
  ⟨some 12, .len .ch (.t 11), none, []⟩,
  ⟨some 13, .bin .sub (.t 7) (.t 12), none, []⟩,
  ⟨some 2, .move (.t 13), none, []⟩] (some [(0, []), (1, [0]), (2, [1, 0]), (3, [2, 1, 0]), (4, [3, 2, 1, 0]), (5, []), (6, [5]), (7, [6, 5]), (8, [7, 6, 5]), (9, [8, 7, 6, 5, 4, 3, 2, 1, 0]), (10, [4, 3, 2, 1, 0, 9, 8, 7, 6, 5]), (11, [10, 4, 3, 2, 1, 0, 9, 8, 7, 6, 5])]) [2])
(.ret)))
def f391 : SFunc := ⟨b391, [.t 2]⟩

/-- (*watchbill/ring.Ring).Len -/
def b392 : SCode := (
.seq (.ops [⟨some 2, .move (.c (.int .i64 0)), none, []⟩] none [0])
(.seq (.ops [⟨some 3, .move (.t 0), none, []⟩,
  ⟨some 4, .nilck (.t 3), none, []⟩,
  ⟨some 5, .fldAddr 0 (.t 4), none, []⟩,
  ⟨some 6, .load none (.t 5), none, []⟩,
  ⟨some 7, .len .ch (.t 6), none, []⟩,
  ⟨some 2, .move (.t 7), none, []⟩] none [2])
(.ret)))
def f392 : SFunc := ⟨b392, [.t 2]⟩

/-- watchbill/chanq.best -/
def b394 : SCode := (
.seq (.ops [⟨some 4, .alloc (.agg [(.int .i64 0), (.int .i64 0), (.int .i64 0), (.int .i64 0)]), none, []⟩,
  ⟨some 5, .move (.c .nils), none, []⟩] none [0, 1, 4])
(.seq (.ops [⟨some 7, .move (.t 0), none, []⟩,
  ⟨some 8, .move (.t 1), none, []⟩,
  ⟨some 9, .call 364 [(.t 7), (.t 8)], none, []⟩,
  ⟨some 6, .move (.t 9), none, []⟩] none [0, 4, 6])
(.seq (.ops [⟨some 10, .move (.t 0), none, []⟩,
  ⟨some 11, .move (.t 6), none, []⟩,
  ⟨some 12, .idxAddr 4 (.t 10) (.t 11), none, []⟩,
  ⟨some 13, .load (some 4) (.t 12), none, []⟩,
  ⟨some 14, .move (.t 0), none, []⟩,
  ⟨some 16, .move (.t 6), none, []⟩,
  ⟨some 17, .move (.t 6), none, []⟩,
  ⟨some 18, .bin .add (.t 17) (.c (.int .i64 1)), none, []⟩,
  ⟨some 15, .call 356 [(.t 14)], none, [3]⟩,
  ⟨some 19, .call 412 [(.t 15), (.t 16), (.t 18)], none, [3]⟩,
  ⟨none, .store (some 4) (.t 4) (.t 13), none, []⟩,
  ⟨some 5, .move (.t 19), none, []⟩] (some [(0, []), (1, []), (2, [0, 1]), (3, [2, 0, 1]), (4, []), (6, []), (7, []), (8, [6]), (5, [4]), (9, [8, 4, 5, 7, 6]), (10, [3, 2, 0, 1, 9, 8, 4, 5, 7, 6]), (11, [9, 8, 4, 5, 7, 6, 10, 3, 2, 0, 1])]) [4, 5])
(.ret))))
def f394 : SFunc := ⟨b394, [.cell (some 4) 4, .t 5]⟩

/-- slices.IndexFunc[[]watchbill/timer.due,watchbill/timer.due] -/
def b397 : SCode := (
.seq (.ops [⟨some 4, .move (.c (.int .i64 0)), none, []⟩] none [0, 1])
(.seq (.seq (.ops [⟨some 6, .move (.t 0), none, []⟩,
  ⟨some 7, .len .sl (.t 6), none, []⟩,
  ⟨some 8, .move (.c (.int .i64 0)), none, []⟩] none [0, 1, 7, 8])
(.block 0 (.loop [0, 1, 7, 8] (.seq (.ops [⟨some 9, .bin .lss (.t 8) (.t 7), none, []⟩] none [0, 1, 7, 8, 9])
    (.seq (.cond (.t 9)
      (.skip)
      (.exit 0))
    (.seq (.block 1 (.seq (.ops [⟨some 10, .move (.t 8), none, []⟩,
        ⟨some 5, .move (.t 10), none, []⟩] none [0, 1, 5, 7, 8])
      (.seq (.ops [⟨some 11, .move (.t 1), none, []⟩,
        ⟨some 12, .move (.t 0), none, []⟩,
        ⟨some 13, .move (.t 5), none, []⟩,
        ⟨some 14, .idxAddr 2 (.t 12) (.t 13), none, []⟩,
        ⟨some 15, .load (some 2) (.t 14), none, []⟩,
        ⟨some 16, .callv (.t 11) [(.t 15)], none, []⟩] none [0, 1, 5, 7, 8, 16])
      (.cond (.t 16)
        (.seq (.ops [⟨some 17, .move (.t 5), none, []⟩,
          ⟨some 4, .move (.t 17), none, []⟩] none [4])
        (.ret))
        (.skip)))))
    (.ops [⟨some 18, .bin .add (.t 8) (.c (.int .i64 1)), none, []⟩,
      ⟨some 8, .move (.t 18), none, []⟩] none [0, 1, 7, 8])))))))
(.seq (.ops [⟨some 4, .move (.c (.int .i64 (-1))), none, []⟩] none [4])
(.ret))))
def f397 : SFunc := ⟨b397, [.t 4]⟩

/-- strings.makeASCIISet -/
def b144 : SCode := (
.seq (.ops [⟨some 2, .alloc (.agg [(.bool false), (.bool false), (.bool false), (.bool false), (.bool false), (.bool false), (.bool false), (.bool false), (.bool false), (.bool false), (.bool false), (.bool false), (.bool false), (.bool false), (.bool false), (.bool false), (.bool false), (.bool false), (.bool false), (.bool false), (.bool false), (.bool false), (.bool false), (.bool false), (.bool false), (.bool false), (.bool false), (.bool false), (.bool false), (.bool false), (.bool false), (.bool false), (.bool false), (.bool false), (.bool false), (.bool false), (.bool false), (.bool false), (.bool false), (.bool false), (.bool false), (.bool false), (.bool false), (.bool false), (.bool false), (.bool false), (.bool false), (.bool false), (.bool false), (.bool false), (.bool false), (.bool false), (.bool false), (.bool false), (.bool false), (.bool false), (.bool false), (.bool false), (.bool false), (.bool false), (.bool false), (.bool false), (.bool false), (.bool false), (.bool false), (.bool false), (.bool false), (.bool false), (.bool false), (.bool false), (.bool false), (.bool false), (.bool false), (.bool false), (.bool false), (.bool false), (.bool false), (.bool false), (.bool false), (.bool false), (.bool false), (.bool false), (.bool false), (.bool false), (.bool false), (.bool false), (.bool false), (.bool false), (.bool false), (.bool false), (.bool false), (.bool false), (.bool false), (.bool false), (.bool false), (.bool false), (.bool false), (.bool false), (.bool false), (.bool false), (.bool false), (.bool false), (.bool false), (.bool false), (.bool false), (.bool false), (.bool false), (.bool false), (.bool false), (.bool false), (.bool false), (.bool false), (.bool false), (.bool false), (.bool false), (.bool false), (.bool false), (.bool false), (.bool false), (.bool false), (.bool false), (.bool false), (.bool false), (.bool false), (.bool false), (.bool false), (.bool false), (.bool false), (.bool false), (.bool false), (.bool false), (.bool false), (.bool false), (.bool false), (.bool false), (.bool false), (.bool false), (.bool false), (.bool false), (.bool false), (.bool false), (.bool false), (.bool false), (.bool false), (.bool false), (.bool false), (.bool false), (.bool false), (.bool false), (.bool false), (.bool false), (.bool false), (.bool false), (.bool false), (.bool false), (.bool false), (.bool false), (.bool false), (.bool false), (.bool false), (.bool false), (.bool false), (.bool false), (.bool false), (.bool false), (.bool false), (.bool false), (.bool false), (.bool false), (.bool false), (.bool false), (.bool false), (.bool false), (.bool false), (.bool false), (.bool false), (.bool false), (.bool false), (.bool false), (.bool false), (.bool false), (.bool false), (.bool false), (.bool false), (.bool false), (.bool false), (.bool false), (.bool false), (.bool false), (.bool false), (.bool false), (.bool false), (.bool false), (.bool false), (.bool false), (.bool false), (.bool false), (.bool false), (.bool false), (.bool false), (.bool false), (.bool false), (.bool false), (.bool false), (.bool false), (.bool false), (.bool false), (.bool false), (.bool false), (.bool false), (.bool false), (.bool false), (.bool false), (.bool false), (.bool false), (.bool false), (.bool false), (.bool false), (.bool false), (.bool false), (.bool false), (.bool false), (.bool false), (.bool false), (.bool false), (.bool false), (.bool false), (.bool false), (.bool false), (.bool false), (.bool false), (.bool false), (.bool false), (.bool false), (.bool false), (.bool false), (.bool false), (.bool false), (.bool false), (.bool false), (.bool false), (.bool false), (.bool false), (.bool false), (.bool false), (.bool false), (.bool false), (.bool false), (.bool false), (.bool false), (.bool false), (.bool false), (.bool false), (.bool false), (.bool false), (.bool false)]), none, []⟩,
  ⟨some 3, .move (.c (.bool false)), none, []⟩] none [0, 2])
(.seq (.seq (.ops [⟨some 4, .move (.c (.int .i64 0)), none, []⟩] none [0, 2, 4])
(.block 0 (.loop [0, 2, 4] (.seq (.seq (.ops [⟨some 6, .move (.t 4), none, []⟩,
      ⟨some 7, .move (.t 0), none, []⟩,
      ⟨some 8, .len .str (.t 7), none, []⟩,
      ⟨some 9, .bin .lss (.t 6) (.t 8), none, []⟩] none [0, 2, 4, 9])
    (.cond (.t 9)
      (.skip)
      (.exit 0)))
    (.seq (.block 1 (.seq (.ops [⟨some 12, .move (.t 0), none, []⟩,
        ⟨some 13, .move (.t 4), none, []⟩,
        ⟨some 14, .idxStr (.t 12) (.t 13), none, []⟩,
        ⟨some 5, .move (.t 14), none, []⟩] none [0, 2, 4, 5])
      (.seq (.seq (.ops [⟨some 15, .move (.t 5), none, []⟩,
        ⟨some 16, .bin .geq (.t 15) (.c (.int .u8 128)), none, []⟩] none [0, 2, 4, 5, 16])
      (.cond (.t 16)
        (.seq (.ops [⟨some 17, .load (some 256) (.t 2), none, []⟩,
          ⟨none, .store (some 256) (.t 2) (.t 17), none, []⟩,
          ⟨some 3, .move (.c (.bool false)), none, []⟩] none [2, 3])
        (.ret))
        (.skip)))
      (.ops [⟨some 18, .move (.t 5), none, []⟩,
        ⟨some 19, .idxArrAddr 1 256 (.t 2) (.t 18), none, []⟩,
        ⟨none, .store none (.t 19) (.c (.bool true)), none, []⟩] none [0, 2, 4]))))
    (.ops [⟨some 10, .move (.t 4), none, []⟩,
      ⟨some 11, .bin .add (.t 10) (.c (.int .i64 1)), none, []⟩,
      ⟨some 4, .move (.t 11), none, []⟩] none [0, 2, 4]))))))
(.seq (.ops [⟨some 20, .load (some 256) (.t 2), none, []⟩,
  ⟨none, .store (some 256) (.t 2) (.t 20), none, []⟩,
  ⟨some 3, .move (.c (.bool true)), none, []⟩] none [2, 3])
(.ret))))
def f144 : SFunc := ⟨b144, [.cell (some 256) 2, .t 3]⟩

/-- strings.trimLeftASCII -/
def b146 : SCode := (
.seq (.ops [⟨some 4, .move (.c (.str [])), none, []⟩] none [0, 1])
(.seq (.block 0 (.loop [0, 1] (.seq (.seq (.ops [⟨some 5, .move (.t 0), none, []⟩,
      ⟨some 6, .len .str (.t 5), none, []⟩,
      ⟨some 7, .bin .gtr (.t 6) (.c (.int .i64 0)), none, []⟩] none [0, 1, 7])
    (.cond (.t 7)
      (.skip)
      (.exit 0)))
    (.block 1 (.seq (.seq (.ops [⟨some 8, .move (.t 1), none, []⟩,
        ⟨some 9, .move (.t 0), none, []⟩,
        ⟨some 10, .idxStr (.t 9) (.c (.int .i64 0)), none, []⟩,
        ⟨some 11, .call 158 [(.t 8), (.t 10)], none, []⟩,
        ⟨some 12, .not (.t 11), none, []⟩] none [0, 1, 12])
      (.cond (.t 12)
        (.exit 0)
        (.skip)))
      (.ops [⟨some 13, .move (.t 0), none, []⟩,
        ⟨some 14, .slStr (.t 13) (some (.c (.int .i64 1))) none, none, []⟩,
        ⟨some 0, .move (.t 14), none, []⟩] none [0, 1]))))))
(.seq (.ops [⟨some 15, .move (.t 0), none, []⟩,
  ⟨some 4, .move (.t 15), none, []⟩] none [4])
(.ret))))
def f146 : SFunc := ⟨b146, [.t 4]⟩

/-- strings.trimRightASCII -/
def b145 : SCode := (
.seq (.ops [⟨some 4, .move (.c (.str [])), none, []⟩] none [0, 1])
(.seq (.block 0 (.loop [0, 1] (.seq (.seq (.ops [⟨some 5, .move (.t 0), none, []⟩,
      ⟨some 6, .len .str (.t 5), none, []⟩,
      ⟨some 7, .bin .gtr (.t 6) (.c (.int .i64 0)), none, []⟩] none [0, 1, 7])
    (.cond (.t 7)
      (.skip)
      (.exit 0)))
    (.block 1 (.seq (.seq (.ops [⟨some 8, .move (.t 1), none, []⟩,
        ⟨some 9, .move (.t 0), none, []⟩,
        ⟨some 10, .move (.t 0), none, []⟩,
        ⟨some 11, .len .str (.t 10), none, []⟩,
        ⟨some 12, .bin .sub (.t 11) (.c (.int .i64 1)), none, []⟩,
        ⟨some 13, .idxStr (.t 9) (.t 12), none, []⟩,
        ⟨some 14, .call 158 [(.t 8), (.t 13)], none, []⟩,
        ⟨some 15, .not (.t 14), none, []⟩] none [0, 1, 15])
      (.cond (.t 15)
        (.exit 0)
        (.skip)))
      (.ops [⟨some 16, .move (.t 0), none, []⟩,
        ⟨some 17, .move (.t 0), none, []⟩,
        ⟨some 18, .len .str (.t 17), none, []⟩,
        ⟨some 19, .bin .sub (.t 18) (.c (.int .i64 1)), none, []⟩,
        ⟨some 20, .slStr (.t 16) none (some (.t 19)), none, []⟩,
        ⟨some 0, .move (.t 20), none, []⟩] none [0, 1]))))))
(.seq (.ops [⟨some 21, .move (.t 0), none, []⟩,
  ⟨some 4, .move (.t 21), none, []⟩] none [4])
(.ret))))
def f145 : SFunc := ⟨b145, [.t 4]⟩

/-- watchbill/op.kinds -/
def b224 : SCode := (
.seq (.ops [⟨some 0, .move (.c .nils), none, []⟩] none [])
(.seq (.ops [⟨some 1, .build [(.str []), (.int .i64 0), (.int .i64 0), (.bool false), (.bool false)] [], none, []⟩,
  ⟨some 2, .build [(.str []), (.int .i64 0), (.int .i64 0), (.bool false), (.bool false)] [(0, 1, (.c (.str [114, 117, 110]))), (1, 1, (.c (.int .i64 1))), (2, 1, (.c (.int .i64 1000))), (3, 1, (.c (.bool false))), (4, 1, (.c (.bool false)))], none, []⟩,
  ⟨some 3, .build [(.str []), (.int .i64 0), (.int .i64 0), (.bool false), (.bool false)] [(0, 1, (.c (.str [108, 111, 99, 107]))), (1, 1, (.c (.int .i64 0))), (2, 1, (.c (.int .i64 7))), (3, 1, (.c (.bool false))), (4, 1, (.c (.bool false)))], none, []⟩,
  ⟨some 4, .build [(.str []), (.int .i64 0), (.int .i64 0), (.bool false), (.bool false)] [(0, 1, (.c (.str [117, 110, 108, 111, 99, 107]))), (1, 1, (.c (.int .i64 0))), (2, 1, (.c (.int .i64 7))), (3, 1, (.c (.bool false))), (4, 1, (.c (.bool false)))], none, []⟩,
  ⟨some 5, .build [(.str []), (.int .i64 0), (.int .i64 0), (.bool false), (.bool false)] [(0, 1, (.c (.str [115, 101, 110, 100]))), (1, 1, (.c (.int .i64 0))), (2, 1, (.c (.int .i64 7))), (3, 1, (.c (.bool true))), (4, 1, (.c (.bool false)))], none, []⟩,
  ⟨some 6, .build [(.str []), (.int .i64 0), (.int .i64 0), (.bool false), (.bool false)] [(0, 1, (.c (.str [114, 101, 99, 118]))), (1, 1, (.c (.int .i64 0))), (2, 1, (.c (.int .i64 7))), (3, 1, (.c (.bool true))), (4, 1, (.c (.bool false)))], none, []⟩,
  ⟨some 7, .build [(.str []), (.int .i64 0), (.int .i64 0), (.bool false), (.bool false)] [(0, 1, (.c (.str [99, 108, 111, 115, 101]))), (1, 1, (.c (.int .i64 0))), (2, 1, (.c (.int .i64 7))), (3, 1, (.c (.bool false))), (4, 1, (.c (.bool false)))], none, []⟩,
  ⟨some 8, .build [(.str []), (.int .i64 0), (.int .i64 0), (.bool false), (.bool false)] [(0, 1, (.c (.str [115, 101, 108, 101, 99, 116]))), (1, 1, (.c (.int .i64 0))), (2, 1, (.c (.int .i64 0))), (3, 1, (.c (.bool true))), (4, 1, (.c (.bool true)))], none, []⟩,
  ⟨some 9, .build [(.str []), (.int .i64 0), (.int .i64 0), (.bool false), (.bool false)] [(0, 1, (.c (.str [108, 111, 111, 112]))), (1, 1, (.c (.int .i64 1))), (2, 1, (.c (.int .i64 32))), (3, 1, (.c (.bool false))), (4, 1, (.c (.bool false)))], none, []⟩,
  ⟨some 10, .build [(.str []), (.int .i64 0), (.int .i64 0), (.bool false), (.bool false)] [(0, 1, (.c (.str [101, 110, 100]))), (1, 1, (.c (.int .i64 0))), (2, 1, (.c (.int .i64 0))), (3, 1, (.c (.bool false))), (4, 1, (.c (.bool false)))], none, []⟩,
  ⟨some 11, .buildSl 10 [(.str []), (.int .i64 0), (.int .i64 0), (.bool false), (.bool false), (.str []), (.int .i64 0), (.int .i64 0), (.bool false), (.bool false), (.str []), (.int .i64 0), (.int .i64 0), (.bool false), (.bool false), (.str []), (.int .i64 0), (.int .i64 0), (.bool false), (.bool false), (.str []), (.int .i64 0), (.int .i64 0), (.bool false), (.bool false), (.str []), (.int .i64 0), (.int .i64 0), (.bool false), (.bool false), (.str []), (.int .i64 0), (.int .i64 0), (.bool false), (.bool false), (.str []), (.int .i64 0), (.int .i64 0), (.bool false), (.bool false), (.str []), (.int .i64 0), (.int .i64 0), (.bool false), (.bool false), (.str []), (.int .i64 0), (.int .i64 0), (.bool false), (.bool false)] [(0, 5, (.t 1)), (5, 5, (.t 2)), (10, 5, (.t 3)), (15, 5, (.t 4)), (20, 5, (.t 5)), (25, 5, (.t 6)), (30, 5, (.t 7)), (35, 5, (.t 8)), (40, 5, (.t 9)), (45, 5, (.t 10))], none, []⟩,
  ⟨some 0, .move (.t 11), none, []⟩] none [0])
(.ret)))
def f224 : SFunc := ⟨b224, [.t 0]⟩

/-- watchbill/op.Waits -/
def b223 : SCode := (
.seq (.ops [⟨some 1, .box (.t 0), none, []⟩,
  ⟨some 2, .move (.c (.bool false)), none, []⟩] none [1])
(.seq (.ops [⟨some 3, .fldAddr 0 (.t 1), none, []⟩,
  ⟨some 4, .load none (.t 3), none, []⟩,
  ⟨some 5, .bin .eql (.t 4) (.c (.int .i64 4)), none, []⟩,
  ⟨some 6, .move (.t 5), none, []⟩,
  ⟨some 7, .fldAddr 0 (.t 1), (some (6, false)), []⟩,
  ⟨some 8, .load none (.t 7), (some (6, false)), []⟩,
  ⟨some 9, .bin .eql (.t 8) (.c (.int .i64 5)), (some (6, false)), []⟩,
  ⟨some 10, .pick (.t 6) (.c (.bool true)) (.t 9), none, []⟩,
  ⟨some 11, .move (.t 10), none, []⟩,
  ⟨some 12, .fldAddr 0 (.t 1), (some (11, false)), []⟩,
  ⟨some 13, .load none (.t 12), (some (11, false)), []⟩,
  ⟨some 14, .bin .eql (.t 13) (.c (.int .i64 7)), (some (11, false)), []⟩,
  ⟨some 15, .pick (.t 11) (.c (.bool true)) (.t 14), none, []⟩,
  ⟨some 16, .move (.t 15), none, []⟩,
  ⟨some 17, .fldAddr 3 (.t 1), (some (16, true)), []⟩,
  ⟨some 18, .load none (.t 17), (some (16, true)), []⟩,
  ⟨some 19, .bin .neq (.t 18) (.c (.int .i64 0)), (some (16, true)), []⟩,
  ⟨some 20, .pick (.t 16) (.t 19) (.c (.bool false)), none, []⟩,
  ⟨some 2, .move (.t 20), none, []⟩] none [2])
(.ret)))
def f223 : SFunc := ⟨b223, [.t 2]⟩

/-- watchbill/prog.Steps$1 -/
def b301 : SCode := (
.seq (.ops [⟨some 3, .box (.t 0), none, []⟩] none [1, 2])
(.ops [⟨some 5, .load none (.t 2), none, []⟩,
  ⟨some 6, .move (.t 1), none, []⟩,
  ⟨some 7, .bin .add (.t 5) (.t 6), none, []⟩,
  ⟨none, .store none (.t 2) (.t 7), none, []⟩] none []))
def f301 : SFunc := ⟨b301, []⟩

/-- slices.IndexFunc[[]watchbill/op.Case,watchbill/op.Case] -/
def b238 : SCode := (
.seq (.ops [⟨some 4, .move (.c (.int .i64 0)), none, []⟩] none [0, 1])
(.seq (.seq (.ops [⟨some 6, .move (.t 0), none, []⟩,
  ⟨some 7, .len .sl (.t 6), none, []⟩,
  ⟨some 8, .move (.c (.int .i64 0)), none, []⟩] none [0, 1, 7, 8])
(.block 0 (.loop [0, 1, 7, 8] (.seq (.ops [⟨some 9, .bin .lss (.t 8) (.t 7), none, []⟩] none [0, 1, 7, 8, 9])
    (.seq (.cond (.t 9)
      (.skip)
      (.exit 0))
    (.seq (.block 1 (.seq (.ops [⟨some 10, .move (.t 8), none, []⟩,
        ⟨some 5, .move (.t 10), none, []⟩] none [0, 1, 5, 7, 8])
      (.seq (.ops [⟨some 11, .move (.t 1), none, []⟩,
        ⟨some 12, .move (.t 0), none, []⟩,
        ⟨some 13, .move (.t 5), none, []⟩,
        ⟨some 14, .idxAddr 3 (.t 12) (.t 13), none, []⟩,
        ⟨some 15, .load (some 3) (.t 14), none, []⟩,
        ⟨some 16, .callv (.t 11) [(.t 15)], none, []⟩] none [0, 1, 5, 7, 8, 16])
      (.cond (.t 16)
        (.seq (.ops [⟨some 17, .move (.t 5), none, []⟩,
          ⟨some 4, .move (.t 17), none, []⟩] none [4])
        (.ret))
        (.skip)))))
    (.ops [⟨some 18, .bin .add (.t 8) (.c (.int .i64 1)), none, []⟩,
      ⟨some 8, .move (.t 18), none, []⟩] none [0, 1, 7, 8])))))))
(.seq (.ops [⟨some 4, .move (.c (.int .i64 (-1))), none, []⟩] none [4])
(.ret))))
def f238 : SFunc := ⟨b238, [.t 4]⟩

/-- slices.insertionSortOrdered[int] -/
def b399 : SCode := (
.seq (.ops [⟨some 8, .move (.t 1), none, []⟩,
  ⟨some 9, .bin .add (.t 8) (.c (.int .i64 1)), none, []⟩,
  ⟨some 6, .move (.t 9), none, []⟩] none [0, 1, 2, 6])
(.block 0 (.loop [0, 1, 2, 6] (.seq (.seq (.ops [⟨some 10, .move (.t 6), none, []⟩,
      ⟨some 11, .move (.t 2), none, []⟩,
      ⟨some 12, .bin .lss (.t 10) (.t 11), none, []⟩] none [0, 1, 2, 6, 12])
    (.cond (.t 12)
      (.skip)
      (.exit 0)))
    (.seq (.block 1 (.seq (.ops [⟨some 15, .move (.t 6), none, []⟩,
        ⟨some 7, .move (.t 15), none, []⟩] none [0, 1, 2, 6, 7])
      (.block 2 (.loop [0, 1, 2, 6, 7] (.seq (.seq (.ops [⟨some 16, .move (.t 7), none, []⟩,
            ⟨some 17, .move (.t 1), none, []⟩,
            ⟨some 18, .bin .gtr (.t 16) (.t 17), none, []⟩,
            ⟨some 19, .move (.t 18), none, []⟩,
            ⟨some 20, .move (.t 0), (some (19, true)), []⟩,
            ⟨some 21, .move (.t 7), (some (19, true)), []⟩,
            ⟨some 22, .idxAddr 1 (.t 20) (.t 21), (some (19, true)), []⟩,
            ⟨some 23, .load none (.t 22), (some (19, true)), []⟩,
            ⟨some 24, .move (.t 0), (some (19, true)), []⟩,
            ⟨some 25, .move (.t 7), (some (19, true)), []⟩,
            ⟨some 26, .bin .sub (.t 25) (.c (.int .i64 1)), (some (19, true)), []⟩,
            ⟨some 27, .idxAddr 1 (.t 24) (.t 26), (some (19, true)), []⟩,
            ⟨some 28, .load none (.t 27), (some (19, true)), []⟩,
            ⟨some 29, .call 405 [(.t 23), (.t 28)], (some (19, true)), []⟩,
            ⟨some 30, .pick (.t 19) (.t 29) (.c (.bool false)), none, []⟩] (some [(0, []), (1, []), (2, [0, 1]), (3, [2, 0, 1]), (4, [3, 2, 0, 1]), (5, [3, 2, 0, 1]), (6, [4, 3, 2, 0, 1, 5]), (7, [6, 4, 3, 2, 0, 1, 5]), (8, [3, 2, 0, 1]), (9, [3, 2, 0, 1]), (10, [9, 3, 2, 0, 1]), (11, [8, 3, 2, 0, 1, 10, 9]), (12, [11, 8, 3, 2, 0, 1, 10, 9]), (13, [7, 6, 4, 3, 2, 0, 1, 5, 12, 11, 8, 10, 9]), (14, [3, 2, 0, 1, 13, 7, 6, 4, 5, 12, 11, 8, 10, 9])]) [0, 1, 2, 6, 7, 30])
          (.cond (.t 30)
            (.skip)
            (.exit 2)))
          (.seq (.block 3 (.ops [⟨some 33, .move (.t 0), none, []⟩,
              ⟨some 34, .move (.t 7), none, []⟩,
              ⟨some 35, .move (.t 0), none, []⟩,
              ⟨some 36, .move (.t 7), none, []⟩,
              ⟨some 37, .bin .sub (.t 36) (.c (.int .i64 1)), none, []⟩,
              ⟨some 38, .move (.t 0), none, []⟩,
              ⟨some 39, .move (.t 7), none, []⟩,
              ⟨some 40, .bin .sub (.t 39) (.c (.int .i64 1)), none, []⟩,
              ⟨some 41, .idxAddr 1 (.t 38) (.t 40), none, []⟩,
              ⟨some 42, .load none (.t 41), none, []⟩,
              ⟨some 43, .move (.t 0), none, []⟩,
              ⟨some 44, .move (.t 7), none, []⟩,
              ⟨some 45, .idxAddr 1 (.t 43) (.t 44), none, []⟩,
              ⟨some 46, .load none (.t 45), none, []⟩,
              ⟨some 47, .idxAddr 1 (.t 33) (.t 34), none, []⟩,
              ⟨none, .store none (.t 47) (.t 42), none, []⟩,
              ⟨some 48, .idxAddr 1 (.t 35) (.t 37), none, []⟩,
              ⟨none, .store none (.t 48) (.t 46), none, []⟩] (some [(0, []), (1, []), (2, []), (3, []), (4, [3]), (5, []), (6, []), (7, [6]), (8, [5, 7, 6]), (9, [8, 5, 7, 6]), (10, []), (11, []), (12, [10, 11]), (13, [12, 10, 11]), (14, [0, 1, 5, 6, 7, 8, 9, 13, 12, 10, 11]), (15, [14, 0, 1, 5, 6, 7, 8, 9, 13, 12, 10, 11]), (16, [2, 4, 3, 0, 1, 5, 6, 7, 8, 9, 10, 11, 12, 13, 14, 15]), (17, [16, 2, 4, 3, 0, 1, 5, 6, 7, 8, 9, 10, 11, 12, 13, 14, 15])]) [0, 1, 2, 6, 7]))
          (.ops [⟨some 31, .move (.t 7), none, []⟩,
            ⟨some 32, .bin .sub (.t 31) (.c (.int .i64 1)), none, []⟩,
            ⟨some 7, .move (.t 32), none, []⟩] none [0, 1, 2, 6, 7])))))))
    (.ops [⟨some 13, .move (.t 6), none, []⟩,
      ⟨some 14, .bin .add (.t 13) (.c (.int .i64 1)), none, []⟩,
      ⟨some 6, .move (.t 14), none, []⟩] none [0, 1, 2, 6]))))))
def f399 : SFunc := ⟨b399, []⟩

/-- math/bits.Len64 -/
def b188 : SCode := (
.seq (.ops [⟨some 2, .move (.c (.int .i64 0)), none, []⟩] none [0, 2])
(.seq (.seq (.ops [⟨some 3, .move (.t 0), none, []⟩,
  ⟨some 4, .bin .geq (.t 3) (.c (.int .u64 4294967296)), none, []⟩] none [0, 2, 4])
(.cond (.t 4)
  (.seq (.ops [⟨some 5, .move (.t 0), none, []⟩,
    ⟨some 6, .bin .shr (.t 5) (.c (.int .u64 32)), none, []⟩,
    ⟨some 0, .move (.t 6), none, []⟩] none [0])
  (.ops [⟨some 2, .move (.c (.int .i64 32)), none, []⟩] none [0, 2]))
  (.skip)))
(.seq (.seq (.ops [⟨some 7, .move (.t 0), none, []⟩,
  ⟨some 8, .bin .geq (.t 7) (.c (.int .u64 65536)), none, []⟩] none [0, 2, 8])
(.cond (.t 8)
  (.seq (.ops [⟨some 9, .move (.t 0), none, []⟩,
    ⟨some 10, .bin .shr (.t 9) (.c (.int .u64 16)), none, []⟩,
    ⟨some 0, .move (.t 10), none, []⟩] none [0, 2])
  (.ops [⟨some 11, .move (.t 2), none, []⟩,
    ⟨some 12, .bin .add (.t 11) (.c (.int .i64 16)), none, []⟩,
    ⟨some 2, .move (.t 12), none, []⟩] none [0, 2]))
  (.skip)))
(.seq (.seq (.ops [⟨some 13, .move (.t 0), none, []⟩,
  ⟨some 14, .bin .geq (.t 13) (.c (.int .u64 256)), none, []⟩] none [0, 2, 14])
(.cond (.t 14)
  (.seq (.ops [⟨some 15, .move (.t 0), none, []⟩,
    ⟨some 16, .bin .shr (.t 15) (.c (.int .u64 8)), none, []⟩,
    ⟨some 0, .move (.t 16), none, []⟩] none [0, 2])
  (.ops [⟨some 17, .move (.t 2), none, []⟩,
    ⟨some 18, .bin .add (.t 17) (.c (.int .i64 8)), none, []⟩,
    ⟨some 2, .move (.t 18), none, []⟩] none [0, 2]))
  (.skip)))
(.seq (.ops [⟨some 19, .move (.t 2), none, []⟩,
  ⟨some 20, .move (.t 0), none, []⟩,
  ⟨some 21, .conv .u8 (.t 20), none, []⟩,
  ⟨some 22, .idxStr (.c (.str [0, 1, 2, 2, 3, 3, 3, 3, 4, 4, 4, 4, 4, 4, 4, 4, 5, 5, 5, 5, 5, 5, 5, 5, 5, 5, 5, 5, 5, 5, 5, 5, 6, 6, 6, 6, 6, 6, 6, 6, 6, 6, 6, 6, 6, 6, 6, 6, 6, 6, 6, 6, 6, 6, 6, 6, 6, 6, 6, 6, 6, 6, 6, 6, 7, 7, 7, 7, 7, 7, 7, 7, 7, 7, 7, 7, 7, 7, 7, 7, 7, 7, 7, 7, 7, 7, 7, 7, 7, 7, 7, 7, 7, 7, 7, 7, 7, 7, 7, 7, 7, 7, 7, 7, 7, 7, 7, 7, 7, 7, 7, 7, 7, 7, 7, 7, 7, 7, 7, 7, 7, 7, 7, 7, 7, 7, 7, 7, 8, 8, 8, 8, 8, 8, 8, 8, 8, 8, 8, 8, 8, 8, 8, 8, 8, 8, 8, 8, 8, 8, 8, 8, 8, 8, 8, 8, 8, 8, 8, 8, 8, 8, 8, 8, 8, 8, 8, 8, 8, 8, 8, 8, 8, 8, 8, 8, 8, 8, 8, 8, 8, 8, 8, 8, 8, 8, 8, 8, 8, 8, 8, 8, 8, 8, 8, 8, 8, 8, 8, 8, 8, 8, 8, 8, 8, 8, 8, 8, 8, 8, 8, 8, 8, 8, 8, 8, 8, 8, 8, 8, 8, 8, 8, 8, 8, 8, 8, 8, 8, 8, 8, 8, 8, 8, 8, 8, 8, 8, 8, 8, 8, 8, 8, 8, 8, 8, 8, 8, 8, 8, 8, 8, 8, 8, 8, 8])) (.t 21), none, []⟩,
  ⟨some 23, .conv .i64 (.t 22), none, []⟩,
  ⟨some 24, .bin .add (.t 19) (.t 23), none, []⟩,
  ⟨some 2, .move (.t 24), none, []⟩] none [2])
(.ret))))))
def f188 : SFunc := ⟨b188, [.t 2]⟩

/-- slices.IndexFunc[watchbill/waitq.Queue,watchbill/waitq.Waiter] -/
def b408 : SCode := (
.seq (.ops [⟨some 4, .move (.c (.int .i64 0)), none, []⟩] none [0, 1])
(.seq (.seq (.ops [⟨some 6, .move (.t 0), none, []⟩,
  ⟨some 7, .len .sl (.t 6), none, []⟩,
  ⟨some 8, .move (.c (.int .i64 0)), none, []⟩] none [0, 1, 7, 8])
(.block 0 (.loop [0, 1, 7, 8] (.seq (.ops [⟨some 9, .bin .lss (.t 8) (.t 7), none, []⟩] none [0, 1, 7, 8, 9])
    (.seq (.cond (.t 9)
      (.skip)
      (.exit 0))
    (.seq (.block 1 (.seq (.ops [⟨some 10, .move (.t 8), none, []⟩,
        ⟨some 5, .move (.t 10), none, []⟩] none [0, 1, 5, 7, 8])
      (.seq (.ops [⟨some 11, .move (.t 1), none, []⟩,
        ⟨some 12, .move (.t 0), none, []⟩,
        ⟨some 13, .move (.t 5), none, []⟩,
        ⟨some 14, .idxAddr 4 (.t 12) (.t 13), none, []⟩,
        ⟨some 15, .load (some 4) (.t 14), none, []⟩,
        ⟨some 16, .callv (.t 11) [(.t 15)], none, []⟩] none [0, 1, 5, 7, 8, 16])
      (.cond (.t 16)
        (.seq (.ops [⟨some 17, .move (.t 5), none, []⟩,
          ⟨some 4, .move (.t 17), none, []⟩] none [4])
        (.ret))
        (.skip)))))
    (.ops [⟨some 18, .bin .add (.t 8) (.c (.int .i64 1)), none, []⟩,
      ⟨some 8, .move (.t 18), none, []⟩] none [0, 1, 7, 8])))))))
(.seq (.ops [⟨some 4, .move (.c (.int .i64 (-1))), none, []⟩] none [4])
(.ret))))
def f408 : SFunc := ⟨b408, [.t 4]⟩

/-- cmp.isNaN[int] -/
def b409 : SCode := (
.seq (.ops [⟨some 2, .move (.c (.bool false)), none, []⟩] none [0])
(.seq (.ops [⟨some 3, .move (.t 0), none, []⟩,
  ⟨some 4, .move (.t 0), none, []⟩,
  ⟨some 5, .bin .neq (.t 3) (.t 4), none, []⟩,
  ⟨some 2, .move (.t 5), none, []⟩] none [2])
(.ret)))
def f409 : SFunc := ⟨b409, [.t 2]⟩

/-- watchbill/waitq.Without -/
def b410 : SCode := (
.seq (.ops [⟨some 3, .box (.t 1), none, []⟩,
  ⟨some 4, .move (.c .nils), none, []⟩] none [0, 3])
(.seq (.ops [⟨some 5, .move (.t 0), none, []⟩,
  ⟨some 6, .call 356 [(.t 5)], none, []⟩,
  ⟨some 7, .mkfn 423 [(.t 3)], none, []⟩,
  ⟨some 8, .call 424 [(.t 6), (.t 7)], none, []⟩,
  ⟨some 4, .move (.t 8), none, []⟩] none [4])
(.ret)))
def f410 : SFunc := ⟨b410, [.t 4]⟩

/-- watchbill/waitq.Order$1 -/
def b411 : SCode := (
.seq (.ops [⟨some 6, .move (.c (.int .i64 0)), none, []⟩] none [0, 1, 2, 3])
(.seq (.ops [⟨some 7, .load none (.t 2), none, []⟩,
  ⟨some 8, .load none (.t 3), none, []⟩,
  ⟨some 9, .move (.t 1), none, []⟩,
  ⟨some 10, .idxAddr 4 (.t 8) (.t 9), none, []⟩,
  ⟨some 11, .fldAddr 0 (.t 10), none, []⟩,
  ⟨some 12, .load none (.t 11), none, []⟩,
  ⟨some 14, .load none (.t 2), none, []⟩,
  ⟨some 15, .load none (.t 3), none, []⟩,
  ⟨some 16, .move (.t 0), none, []⟩,
  ⟨some 17, .idxAddr 4 (.t 15) (.t 16), none, []⟩,
  ⟨some 18, .fldAddr 0 (.t 17), none, []⟩,
  ⟨some 19, .load none (.t 18), none, []⟩,
  ⟨some 22, .load none (.t 3), none, []⟩,
  ⟨some 23, .move (.t 0), none, []⟩,
  ⟨some 24, .idxAddr 4 (.t 22) (.t 23), none, []⟩,
  ⟨some 25, .fldAddr 2 (.t 24), none, []⟩,
  ⟨some 26, .load none (.t 25), none, []⟩,
  ⟨some 27, .load none (.t 3), none, []⟩,
  ⟨some 28, .move (.t 1), none, []⟩,
  ⟨some 29, .idxAddr 4 (.t 27) (.t 28), none, []⟩,
  ⟨some 30, .fldAddr 2 (.t 29), none, []⟩,
  ⟨some 31, .load none (.t 30), none, []⟩,
  ⟨some 13, .call 385 [(.t 7), (.t 12)], none, [6, 7, 11, 12, 16, 17, 21]⟩,
  ⟨some 20, .call 385 [(.t 14), (.t 19)], none, [12, 16, 17, 21]⟩,
  ⟨some 21, .call 386 [(.t 13), (.t 20)], none, [12, 16, 17, 21]⟩,
  ⟨some 32, .call 358 [(.t 26), (.t 31)], none, []⟩,
  ⟨some 33, .buildSl 2 [(.int .i64 0), (.int .i64 0)] [(0, 1, (.t 21)), (1, 1, (.t 32))], none, []⟩,
  ⟨some 34, .call 387 [(.t 33)], none, []⟩,
  ⟨some 6, .move (.t 34), none, []⟩] (some [(0, []), (1, []), (2, []), (3, [1, 2]), (4, [3, 1, 2]), (5, [4, 3, 1, 2]), (7, []), (8, []), (9, []), (10, [7, 8]), (11, [9, 7, 8]), (12, [10, 9, 7, 8]), (15, []), (16, []), (17, [12, 13]), (18, [14, 12, 13]), (19, [15, 14, 12, 13]), (20, []), (21, []), (22, [17, 18]), (23, [19, 17, 18]), (24, [20, 19, 17, 18]), (6, [0, 5, 4, 3, 1, 2]), (13, [6, 11, 10, 9, 7, 8, 22, 0, 5, 4, 3, 1, 2]), (14, [22, 0, 5, 4, 3, 1, 2, 23, 6, 11, 10, 9, 7, 8]), (25, [16, 15, 14, 12, 13, 21, 20, 19, 17, 18, 24, 22, 0, 5, 4, 3, 1, 2, 23, 6, 11, 10, 9, 7, 8]), (26, [24, 22, 0, 5, 4, 3, 1, 2, 23, 6, 11, 10, 9, 7, 8, 25, 16, 15, 14, 12, 13, 21, 20, 19, 17, 18]), (27, [26, 24, 22, 0, 5, 4, 3, 1, 2, 23, 6, 11, 10, 9, 7, 8, 25, 16, 15, 14, 12, 13, 21, 20, 19, 17, 18]), (28, [27, 26, 24, 22, 0, 5, 4, 3, 1, 2, 23, 6, 11, 10, 9, 7, 8, 25, 16, 15, 14, 12, 13, 21, 20, 19, 17, 18])]) [6])
(.ret)))
def f411 : SFunc := ⟨b411, [.t 6]⟩

/-- slices.Delete[watchbill/waitq.Queue,watchbill/waitq.Waiter] -/
def b412 : SCode := (
.seq (.ops [⟨some 6, .move (.c .nils), none, []⟩] none [0, 1, 2])
(.seq (.ops [⟨some 8, .move (.t 0), none, []⟩,
  ⟨some 9, .move (.t 1), none, []⟩,
  ⟨some 10, .move (.t 2), none, []⟩,
  ⟨some 11, .move (.t 0), none, []⟩,
  ⟨some 12, .len .sl (.t 11), none, []⟩,
  ⟨some 13, .slMax 4 (.t 8) (some (.t 9)) (.t 10) (.t 12), none, []⟩] none [0, 1, 2])
(.seq (.seq (.ops [⟨some 14, .move (.t 1), none, []⟩,
  ⟨some 15, .move (.t 2), none, []⟩,
  ⟨some 16, .bin .eql (.t 14) (.t 15), none, []⟩] none [0, 1, 2, 16])
(.cond (.t 16)
  (.seq (.ops [⟨some 17, .move (.t 0), none, []⟩,
    ⟨some 6, .move (.t 17), none, []⟩] none [6])
  (.ret))
  (.skip)))
(.seq (.ops [⟨some 18, .move (.t 0), none, []⟩,
  ⟨some 19, .len .sl (.t 18), none, []⟩,
  ⟨some 7, .move (.t 19), none, []⟩] none [0, 1, 2, 7])
(.seq (.ops [⟨some 20, .move (.t 0), none, []⟩,
  ⟨some 21, .move (.t 1), none, []⟩,
  ⟨some 22, .slSl 4 (.t 20) none (some (.t 21)), none, []⟩,
  ⟨some 23, .move (.t 0), none, []⟩,
  ⟨some 24, .move (.t 2), none, []⟩,
  ⟨some 25, .slSl 4 (.t 23) (some (.t 24)) none, none, []⟩,
  ⟨some 26, .append 4 (.t 22) (.t 25), none, []⟩,
  ⟨some 0, .move (.t 26), none, []⟩] (some [(0, []), (1, []), (2, [0, 1]), (3, []), (4, []), (5, [3, 4]), (6, [2, 0, 1, 5, 3, 4]), (7, [6, 2, 0, 1, 5, 3, 4])]) [0, 7])
(.seq (.ops [⟨some 27, .move (.t 0), none, []⟩,
  ⟨some 28, .move (.t 0), none, []⟩,
  ⟨some 29, .len .sl (.t 28), none, []⟩,
  ⟨some 30, .move (.t 7), none, []⟩,
  ⟨some 31, .slSl 4 (.t 27) (some (.t 29)) (some (.t 30)), none, []⟩,
  ⟨none, .clr [(.int .i64 0), (.int .i64 0), (.int .i64 0), (.int .i64 0)] (.t 31), none, []⟩] none [0])
(.seq (.ops [⟨some 32, .move (.t 0), none, []⟩,
  ⟨some 6, .move (.t 32), none, []⟩] none [6])
(.ret))))))))
def f412 : SFunc := ⟨b412, [.t 6]⟩

/-- (*strings.asciiSet).contains -/
def b158 : SCode := (
.seq (.ops [⟨some 4, .move (.c (.bool false)), none, []⟩] none [0, 1])
(.seq (.ops [⟨some 5, .move (.t 0), none, []⟩,
  ⟨some 6, .move (.t 1), none, []⟩,
  ⟨some 7, .nilck (.t 5), none, []⟩,
  ⟨some 8, .idxArrAddr 1 256 (.t 7) (.t 6), none, []⟩,
  ⟨some 9, .load none (.t 8), none, []⟩,
  ⟨some 4, .move (.t 9), none, []⟩] none [4])
(.ret)))
def f158 : SFunc := ⟨b158, [.t 4]⟩

/-- slices.DeleteFunc[watchbill/waitq.Queue,watchbill/waitq.Waiter] -/
def b424 : SCode := (
.seq (.ops [⟨some 4, .move (.c .nils), none, []⟩] none [0, 1])
(.seq (.ops [⟨some 8, .move (.t 0), none, []⟩,
  ⟨some 9, .move (.t 1), none, []⟩,
  ⟨some 10, .call 408 [(.t 8), (.t 9)], none, []⟩,
  ⟨some 5, .move (.t 10), none, []⟩] none [0, 1, 5])
(.seq (.seq (.ops [⟨some 11, .move (.t 5), none, []⟩,
  ⟨some 12, .bin .eql (.t 11) (.c (.int .i64 (-1))), none, []⟩] none [0, 1, 5, 12])
(.cond (.t 12)
  (.seq (.ops [⟨some 13, .move (.t 0), none, []⟩,
    ⟨some 4, .move (.t 13), none, []⟩] none [4])
  (.ret))
  (.skip)))
(.seq (.seq (.ops [⟨some 14, .move (.t 5), none, []⟩,
  ⟨some 15, .bin .add (.t 14) (.c (.int .i64 1)), none, []⟩,
  ⟨some 6, .move (.t 15), none, []⟩] none [0, 1, 5, 6])
(.block 0 (.loop [0, 1, 5, 6] (.seq (.seq (.ops [⟨some 16, .move (.t 6), none, []⟩,
      ⟨some 17, .move (.t 0), none, []⟩,
      ⟨some 18, .len .sl (.t 17), none, []⟩,
      ⟨some 19, .bin .lss (.t 16) (.t 18), none, []⟩] none [0, 1, 5, 6, 19])
    (.cond (.t 19)
      (.skip)
      (.exit 0)))
    (.seq (.block 1 (.seq (.ops [⟨some 22, .move (.t 0), none, []⟩,
        ⟨some 23, .move (.t 6), none, []⟩,
        ⟨some 24, .idxAddr 4 (.t 22) (.t 23), none, []⟩,
        ⟨some 25, .load (some 4) (.t 24), none, []⟩,
        ⟨some 7, .alloc (.agg [(.int .i64 0), (.int .i64 0), (.int .i64 0), (.int .i64 0)]), none, []⟩,
        ⟨none, .store (some 4) (.t 7) (.t 25), none, []⟩] none [0, 1, 5, 6, 7])
      (.seq (.ops [⟨some 26, .move (.t 1), none, []⟩,
        ⟨some 27, .load (some 4) (.t 7), none, []⟩,
        ⟨some 28, .callv (.t 26) [(.t 27)], none, []⟩,
        ⟨some 29, .not (.t 28), none, []⟩] none [0, 1, 5, 6, 7, 29])
      (.cond (.t 29)
        (.seq (.ops [⟨some 30, .move (.t 0), none, []⟩,
          ⟨some 31, .move (.t 5), none, []⟩,
          ⟨some 32, .load (some 4) (.t 7), none, []⟩,
          ⟨some 33, .idxAddr 4 (.t 30) (.t 31), none, []⟩,
          ⟨none, .store (some 4) (.t 33) (.t 32), none, []⟩] none [0, 1, 5, 6])
        (.ops [⟨some 34, .move (.t 5), none, []⟩,
          ⟨some 35, .bin .add (.t 34) (.c (.int .i64 1)), none, []⟩,
          ⟨some 5, .move (.t 35), none, []⟩] none [0, 1, 5, 6]))
        (.skip)))))
    (.ops [⟨some 20, .move (.t 6), none, []⟩,
      ⟨some 21, .bin .add (.t 20) (.c (.int .i64 1)), none, []⟩,
      ⟨some 6, .move (.t 21), none, []⟩] none [0, 1, 5, 6]))))))
(.seq (.ops [⟨some 36, .move (.t 0), none, []⟩,
  ⟨some 37, .move (.t 5), none, []⟩,
  ⟨some 38, .slSl 4 (.t 36) (some (.t 37)) none, none, []⟩,
  ⟨none, .clr [(.int .i64 0), (.int .i64 0), (.int .i64 0), (.int .i64 0)] (.t 38), none, []⟩] none [0, 5])
(.seq (.ops [⟨some 39, .move (.t 0), none, []⟩,
  ⟨some 40, .move (.t 5), none, []⟩,
  ⟨some 41, .slSl 4 (.t 39) none (some (.t 40)), none, []⟩,
  ⟨some 4, .move (.t 41), none, []⟩] none [4])
(.ret)))))))
def f424 : SFunc := ⟨b424, [.t 4]⟩

def lk {α : Type} : List (Nat × α) → Nat → Option α
  | [], _ => none
  | (k, v) :: r, i => match Nat.beq i k with | true => some v | false => lk r i

def pgl : List (Nat × SFunc) := [
  (302, f302),
  (311, f311),
  (313, f313),
  (303, f303),
  (304, f304),
  (305, f305),
  (306, f306),
  (307, f307),
  (308, f308),
  (309, f309),
  (310, f310),
  (312, f312),
  (20, f20),
  (314, f314),
  (315, f315),
  (52, f52),
  (316, f316),
  (265, f265),
  (317, f317),
  (318, f318),
  (319, f319),
  (5, f5),
  (320, f320),
  (321, f321),
  (322, f322),
  (323, f323),
  (6, f6),
  (48, f48),
  (324, f324),
  (30, f30),
  (325, f325),
  (326, f326),
  (327, f327),
  (328, f328),
  (329, f329),
  (330, f330),
  (17, f17),
  (331, f331),
  (39, f39),
  (333, f333),
  (55, f55),
  (334, f334),
  (273, f273),
  (335, f335),
  (336, f336),
  (338, f338),
  (337, f337),
  (358, f358),
  (340, f340),
  (339, f339),
  (341, f341),
  (65, f65),
  (36, f36),
  (342, f342),
  (343, f343),
  (43, f43),
  (41, f41),
  (45, f45),
  (344, f344),
  (345, f345),
  (346, f346),
  (347, f347),
  (348, f348),
  (349, f349),
  (350, f350),
  (352, f352),
  (56, f56),
  (354, f354),
  (355, f355),
  (356, f356),
  (97, f97),
  (285, f285),
  (286, f286),
  (287, f287),
  (288, f288),
  (357, f357),
  (359, f359),
  (360, f360),
  (361, f361),
  (362, f362),
  (363, f363),
  (364, f364),
  (365, f365),
  (366, f366),
  (367, f367),
  (368, f368),
  (369, f369),
  (370, f370),
  (371, f371),
  (372, f372),
  (374, f374),
  (375, f375),
  (124, f124),
  (219, f219),
  (294, f294),
  (295, f295),
  (297, f297),
  (296, f296),
  (235, f235),
  (379, f379),
  (382, f382),
  (381, f381),
  (384, f384),
  (383, f383),
  (387, f387),
  (386, f386),
  (385, f385),
  (388, f388),
  (390, f390),
  (391, f391),
  (392, f392),
  (394, f394),
  (397, f397),
  (144, f144),
  (146, f146),
  (145, f145),
  (224, f224),
  (223, f223),
  (301, f301),
  (238, f238),
  (399, f399),
  (188, f188),
  (408, f408),
  (409, f409),
  (410, f410),
  (411, f411),
  (412, f412),
  (158, f158),
  (424, f424)]

def pg : Prog := lk pgl

theorem pg302 : pg 302 = some f302 := rfl
theorem pg311 : pg 311 = some f311 := rfl
theorem pg313 : pg 313 = some f313 := rfl
theorem pg303 : pg 303 = some f303 := rfl
theorem pg304 : pg 304 = some f304 := rfl
theorem pg305 : pg 305 = some f305 := rfl
theorem pg306 : pg 306 = some f306 := rfl
theorem pg307 : pg 307 = some f307 := rfl
theorem pg308 : pg 308 = some f308 := rfl
theorem pg309 : pg 309 = some f309 := rfl
theorem pg310 : pg 310 = some f310 := rfl
theorem pg312 : pg 312 = some f312 := rfl
theorem pg20 : pg 20 = some f20 := rfl
theorem pg314 : pg 314 = some f314 := rfl
theorem pg315 : pg 315 = some f315 := rfl
theorem pg52 : pg 52 = some f52 := rfl
theorem pg316 : pg 316 = some f316 := rfl
theorem pg265 : pg 265 = some f265 := rfl
theorem pg317 : pg 317 = some f317 := rfl
theorem pg318 : pg 318 = some f318 := rfl
theorem pg319 : pg 319 = some f319 := rfl
theorem pg5 : pg 5 = some f5 := rfl
theorem pg320 : pg 320 = some f320 := rfl
theorem pg321 : pg 321 = some f321 := rfl
theorem pg322 : pg 322 = some f322 := rfl
theorem pg323 : pg 323 = some f323 := rfl
theorem pg6 : pg 6 = some f6 := rfl
theorem pg48 : pg 48 = some f48 := rfl
theorem pg324 : pg 324 = some f324 := rfl
theorem pg30 : pg 30 = some f30 := rfl
theorem pg325 : pg 325 = some f325 := rfl
theorem pg326 : pg 326 = some f326 := rfl
theorem pg327 : pg 327 = some f327 := rfl
theorem pg328 : pg 328 = some f328 := rfl
theorem pg329 : pg 329 = some f329 := rfl
theorem pg330 : pg 330 = some f330 := rfl
theorem pg17 : pg 17 = some f17 := rfl
theorem pg331 : pg 331 = some f331 := rfl
theorem pg39 : pg 39 = some f39 := rfl
theorem pg333 : pg 333 = some f333 := rfl
theorem pg55 : pg 55 = some f55 := rfl
theorem pg334 : pg 334 = some f334 := rfl
theorem pg273 : pg 273 = some f273 := rfl
theorem pg335 : pg 335 = some f335 := rfl
theorem pg336 : pg 336 = some f336 := rfl
theorem pg338 : pg 338 = some f338 := rfl
theorem pg337 : pg 337 = some f337 := rfl
theorem pg358 : pg 358 = some f358 := rfl
theorem pg340 : pg 340 = some f340 := rfl
theorem pg339 : pg 339 = some f339 := rfl
theorem pg341 : pg 341 = some f341 := rfl
theorem pg65 : pg 65 = some f65 := rfl
theorem pg36 : pg 36 = some f36 := rfl
theorem pg342 : pg 342 = some f342 := rfl
theorem pg343 : pg 343 = some f343 := rfl
theorem pg43 : pg 43 = some f43 := rfl
theorem pg41 : pg 41 = some f41 := rfl
theorem pg45 : pg 45 = some f45 := rfl
theorem pg344 : pg 344 = some f344 := rfl
theorem pg345 : pg 345 = some f345 := rfl
theorem pg346 : pg 346 = some f346 := rfl
theorem pg347 : pg 347 = some f347 := rfl
theorem pg348 : pg 348 = some f348 := rfl
theorem pg349 : pg 349 = some f349 := rfl
theorem pg350 : pg 350 = some f350 := rfl
theorem pg352 : pg 352 = some f352 := rfl
theorem pg56 : pg 56 = some f56 := rfl
theorem pg354 : pg 354 = some f354 := rfl
theorem pg355 : pg 355 = some f355 := rfl
theorem pg356 : pg 356 = some f356 := rfl
theorem pg97 : pg 97 = some f97 := rfl
theorem pg285 : pg 285 = some f285 := rfl
theorem pg286 : pg 286 = some f286 := rfl
theorem pg287 : pg 287 = some f287 := rfl
theorem pg288 : pg 288 = some f288 := rfl
theorem pg357 : pg 357 = some f357 := rfl
theorem pg359 : pg 359 = some f359 := rfl
theorem pg360 : pg 360 = some f360 := rfl
theorem pg361 : pg 361 = some f361 := rfl
theorem pg362 : pg 362 = some f362 := rfl
theorem pg363 : pg 363 = some f363 := rfl
theorem pg364 : pg 364 = some f364 := rfl
theorem pg365 : pg 365 = some f365 := rfl
theorem pg366 : pg 366 = some f366 := rfl
theorem pg367 : pg 367 = some f367 := rfl
theorem pg368 : pg 368 = some f368 := rfl
theorem pg369 : pg 369 = some f369 := rfl
theorem pg370 : pg 370 = some f370 := rfl
theorem pg371 : pg 371 = some f371 := rfl
theorem pg372 : pg 372 = some f372 := rfl
theorem pg374 : pg 374 = some f374 := rfl
theorem pg375 : pg 375 = some f375 := rfl
theorem pg124 : pg 124 = some f124 := rfl
theorem pg219 : pg 219 = some f219 := rfl
theorem pg294 : pg 294 = some f294 := rfl
theorem pg295 : pg 295 = some f295 := rfl
theorem pg297 : pg 297 = some f297 := rfl
theorem pg296 : pg 296 = some f296 := rfl
theorem pg235 : pg 235 = some f235 := rfl
theorem pg379 : pg 379 = some f379 := rfl
theorem pg382 : pg 382 = some f382 := rfl
theorem pg381 : pg 381 = some f381 := rfl
theorem pg384 : pg 384 = some f384 := rfl
theorem pg383 : pg 383 = some f383 := rfl
theorem pg387 : pg 387 = some f387 := rfl
theorem pg386 : pg 386 = some f386 := rfl
theorem pg385 : pg 385 = some f385 := rfl
theorem pg388 : pg 388 = some f388 := rfl
theorem pg390 : pg 390 = some f390 := rfl
theorem pg391 : pg 391 = some f391 := rfl
theorem pg392 : pg 392 = some f392 := rfl
theorem pg394 : pg 394 = some f394 := rfl
theorem pg397 : pg 397 = some f397 := rfl
theorem pg144 : pg 144 = some f144 := rfl
theorem pg146 : pg 146 = some f146 := rfl
theorem pg145 : pg 145 = some f145 := rfl
theorem pg224 : pg 224 = some f224 := rfl
theorem pg223 : pg 223 = some f223 := rfl
theorem pg301 : pg 301 = some f301 := rfl
theorem pg238 : pg 238 = some f238 := rfl
theorem pg399 : pg 399 = some f399 := rfl
theorem pg188 : pg 188 = some f188 := rfl
theorem pg408 : pg 408 = some f408 := rfl
theorem pg409 : pg 409 = some f409 := rfl
theorem pg410 : pg 410 = some f410 := rfl
theorem pg411 : pg 411 = some f411 := rfl
theorem pg412 : pg 412 = some f412 := rfl
theorem pg158 : pg 158 = some f158 := rfl
theorem pg424 : pg 424 = some f424 := rfl
end Go.Cl.S
