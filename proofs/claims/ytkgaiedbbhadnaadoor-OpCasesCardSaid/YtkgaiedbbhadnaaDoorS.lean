/-
  The functions' clean texts, printed by a program out of the loaded ones.
-/
import Derived.Test.YtkgaiedbbhadnaaDoorM1
namespace Go.Cl.S
open Go Go.Cl

/-- watchbill/watchbilllaw5.OpNumbers -/
def b217 : SCode := (
.seq (.ops [⟨some 4, .move (.c (.bool false)), none, []⟩] none [0, 1])
(.seq (.seq (.ops [⟨some 10, .call 218 [], none, []⟩,
  ⟨some 11, .not (.t 10), none, []⟩] none [0, 1, 11])
(.cond (.t 11)
  (.seq (.ops [⟨some 4, .move (.c (.bool false)), none, []⟩] none [4])
  (.ret))
  (.skip)))
(.seq (.ops [⟨some 12, .move (.t 0), none, []⟩,
  ⟨some 13, .bin .rem (.t 12) (.c (.int .u8 9)), none, []⟩,
  ⟨some 14, .conv .i64 (.t 13), none, []⟩,
  ⟨some 15, .bin .add (.c (.int .i64 1)) (.t 14), none, []⟩,
  ⟨some 5, .move (.t 15), none, []⟩] none [1, 5])
(.seq (.ops [⟨some 16, .move (.t 5), none, []⟩,
  ⟨some 17, .move (.t 1), none, []⟩,
  ⟨some 18, .build [(.int .i64 0), (.int .i64 0), (.int .i64 0), (.int .i64 0), .nils] [(0, 1, (.t 16)), (1, 1, (.t 17))], none, []⟩,
  ⟨some 6, .alloc (.agg [(.int .i64 0), (.int .i64 0), (.int .i64 0), (.int .i64 0), .nils]), none, []⟩,
  ⟨none, .store (some 5) (.t 6) (.t 18), none, []⟩] none [1, 5, 6])
(.seq (.ops [⟨some 7, .move (.c (.int .i64 0)), none, []⟩,
  ⟨some 8, .move (.c (.int .i64 0)), none, []⟩] none [1, 5, 6, 7, 8])
(.seq (.seq (.ops [⟨some 19, .move (.t 5), none, []⟩] none [1, 6, 7, 8, 19])
(.block 0 (.seq (.ops [⟨some 21, .bin .eql (.t 19) (.c (.int .i64 1)), none, []⟩,
    ⟨some 20, .move (.t 21), none, []⟩] none [1, 6, 7, 8, 19, 20])
  (.cond (.t 20)
    (.ops [⟨some 7, .move (.c (.int .i64 1)), none, []⟩,
      ⟨some 8, .move (.c (.int .i64 1000)), none, []⟩] none [1, 6, 7, 8])
    (.seq (.seq (.ops [⟨some 23, .bin .eql (.t 19) (.c (.int .i64 2)), none, []⟩,
      ⟨some 22, .move (.t 23), none, []⟩] none [1, 6, 7, 8, 19, 22])
    (.cond (.t 22)
      (.skip)
      (.seq (.ops [⟨some 24, .bin .eql (.t 19) (.c (.int .i64 3)), none, []⟩,
        ⟨some 22, .move (.t 24), none, []⟩] none [1, 6, 7, 8, 19, 22])
      (.cond (.t 22)
        (.skip)
        (.seq (.ops [⟨some 25, .bin .eql (.t 19) (.c (.int .i64 4)), none, []⟩,
          ⟨some 22, .move (.t 25), none, []⟩] none [1, 6, 7, 8, 19, 22])
        (.cond (.t 22)
          (.skip)
          (.seq (.ops [⟨some 26, .bin .eql (.t 19) (.c (.int .i64 5)), none, []⟩,
            ⟨some 22, .move (.t 26), none, []⟩] none [1, 6, 7, 8, 19, 22])
          (.cond (.t 22)
            (.skip)
            (.ops [⟨some 27, .bin .eql (.t 19) (.c (.int .i64 6)), none, []⟩,
              ⟨some 22, .move (.t 27), none, []⟩] none [1, 6, 7, 8, 19, 22])))))))))
    (.cond (.t 22)
      (.ops [⟨some 8, .move (.c (.int .i64 7)), none, []⟩] none [1, 6, 7, 8])
      (.seq (.ops [⟨some 29, .bin .eql (.t 19) (.c (.int .i64 8)), none, []⟩,
        ⟨some 28, .move (.t 29), none, []⟩] none [1, 6, 7, 8, 19, 28])
      (.cond (.t 28)
        (.ops [⟨some 7, .move (.c (.int .i64 1)), none, []⟩,
          ⟨some 8, .move (.c (.int .i64 32)), none, []⟩] none [1, 6, 7, 8])
        (.seq (.ops [⟨some 31, .bin .eql (.t 19) (.c (.int .i64 7)), none, []⟩,
          ⟨some 30, .move (.t 31), none, []⟩] none [1, 6, 7, 8, 30])
        (.cond (.t 30)
          (.ops [⟨some 32, .build [(.bool false), (.int .i64 0), (.int .i64 0)] [], none, []⟩,
            ⟨some 33, .buildSl 1 [(.bool false), (.int .i64 0), (.int .i64 0)] [(0, 3, (.t 32))], none, []⟩,
            ⟨some 34, .fldAddr 4 (.t 6), none, []⟩,
            ⟨none, .store none (.t 34) (.t 33), none, []⟩] none [1, 6, 7, 8])
          (.skip)))))))))))
(.seq (.ops [⟨some 35, .move (.t 1), none, []⟩,
  ⟨some 36, .move (.t 7), none, []⟩,
  ⟨some 37, .bin .geq (.t 35) (.t 36), none, []⟩,
  ⟨some 38, .move (.t 37), none, []⟩,
  ⟨some 39, .move (.t 1), (some (38, true)), []⟩,
  ⟨some 40, .move (.t 8), (some (38, true)), []⟩,
  ⟨some 41, .bin .leq (.t 39) (.t 40), (some (38, true)), []⟩,
  ⟨some 42, .pick (.t 38) (.t 41) (.c (.bool false)), none, []⟩,
  ⟨some 9, .move (.t 42), none, []⟩] none [6, 9])
(.seq (.ops [⟨some 43, .load (some 5) (.t 6), none, []⟩,
  ⟨some 44, .call 219 [(.t 43)], none, []⟩,
  ⟨some 45, .bin .eql (.t 44) (.c (.int .i64 0)), none, []⟩,
  ⟨some 46, .move (.t 9), none, []⟩,
  ⟨some 47, .eq false .b (.t 45) (.t 46), none, []⟩,
  ⟨some 48, .move (.t 47), none, []⟩,
  ⟨some 49, .move (.t 9), (some (48, true)), []⟩,
  ⟨some 50, .move (.t 49), (some (48, true)), []⟩,
  ⟨some 51, .load (some 5) (.t 6), (some (50, false)), []⟩,
  ⟨some 52, .call 219 [(.t 51)], (some (50, false)), []⟩,
  ⟨some 53, .bin .eql (.t 52) (.c (.int .i64 1)), (some (50, false)), []⟩,
  ⟨some 54, .pick (.t 50) (.c (.bool true)) (.t 53), (some (48, true)), []⟩,
  ⟨some 55, .pick (.t 48) (.t 54) (.c (.bool false)), none, []⟩,
  ⟨some 4, .move (.t 55), none, []⟩] none [4])
(.ret)))))))))
def f217 : SFunc := ⟨b217, [.t 4]⟩

/-- watchbill/watchbilllaw5.OpCases -/
def b220 : SCode := (
.seq (.ops [⟨some 6, .move (.c (.bool false)), none, []⟩] none [0, 1, 2])
(.seq (.seq (.ops [⟨some 16, .call 218 [], none, []⟩,
  ⟨some 17, .not (.t 16), none, []⟩] none [0, 1, 2, 17])
(.cond (.t 17)
  (.seq (.ops [⟨some 6, .move (.c (.bool false)), none, []⟩] none [6])
  (.ret))
  (.skip)))
(.seq (.ops [⟨some 18, .move (.t 0), none, []⟩,
  ⟨some 19, .bin .rem (.t 18) (.c (.int .u8 7)), none, []⟩,
  ⟨some 20, .conv .i64 (.t 19), none, []⟩,
  ⟨some 7, .move (.t 20), none, []⟩] none [1, 2, 7])
(.seq (.ops [⟨some 21, .move (.t 2), none, []⟩,
  ⟨some 22, .conv .i64 (.t 21), none, []⟩,
  ⟨some 23, .build [(.int .i64 0), (.int .i64 0), (.int .i64 0), (.int .i64 0), .nils] [(0, 1, (.c (.int .i64 7))), (3, 1, (.t 22))], none, []⟩,
  ⟨some 8, .alloc (.agg [(.int .i64 0), (.int .i64 0), (.int .i64 0), (.int .i64 0), .nils]), none, []⟩,
  ⟨none, .store (some 5) (.t 8) (.t 23), none, []⟩] none [1, 2, 7, 8])
(.seq (.seq (.ops [⟨some 9, .move (.c (.int .i64 0)), none, []⟩] none [1, 2, 7, 8, 9])
(.block 0 (.loop [1, 2, 7, 8, 9] (.seq (.seq (.ops [⟨some 24, .move (.t 9), none, []⟩,
      ⟨some 25, .move (.t 7), none, []⟩,
      ⟨some 26, .bin .lss (.t 24) (.t 25), none, []⟩] none [1, 2, 7, 8, 9, 26])
    (.cond (.t 26)
      (.skip)
      (.exit 0)))
    (.seq (.block 1 (.seq (.ops [⟨some 29, .move (.t 9), none, []⟩,
        ⟨some 30, .move (.t 9), none, []⟩,
        ⟨some 31, .bin .rem (.t 30) (.c (.int .i64 2)), none, []⟩,
        ⟨some 32, .bin .eql (.t 31) (.c (.int .i64 0)), none, []⟩,
        ⟨some 33, .build [(.bool false), (.int .i64 0), (.int .i64 0)] [(1, 1, (.t 29)), (0, 1, (.t 32))], none, []⟩,
        ⟨some 10, .alloc (.agg [(.bool false), (.int .i64 0), (.int .i64 0)]), none, []⟩,
        ⟨none, .store (some 3) (.t 10) (.t 33), none, []⟩] none [1, 2, 7, 8, 9, 10])
      (.seq (.seq (.ops [⟨some 34, .fldAddr 0 (.t 10), none, []⟩,
        ⟨some 35, .load none (.t 34), none, []⟩] none [1, 2, 7, 8, 9, 10, 35])
      (.cond (.t 35)
        (.ops [⟨some 36, .move (.t 9), none, []⟩,
          ⟨some 37, .bin .sub (.t 36) (.c (.int .i64 3)), none, []⟩,
          ⟨some 38, .fldAddr 2 (.t 10), none, []⟩,
          ⟨none, .store none (.t 38) (.t 37), none, []⟩] none [1, 2, 7, 8, 9, 10])
        (.skip)))
      (.ops [⟨some 39, .fldAddr 4 (.t 8), none, []⟩,
        ⟨some 40, .load none (.t 39), none, []⟩,
        ⟨some 41, .load (some 3) (.t 10), none, []⟩,
        ⟨some 42, .buildSl 1 [(.bool false), (.int .i64 0), (.int .i64 0)] [(0, 3, (.t 41))], none, []⟩,
        ⟨some 43, .append 3 (.t 40) (.t 42), none, []⟩,
        ⟨some 44, .fldAddr 4 (.t 8), none, []⟩,
        ⟨none, .store none (.t 44) (.t 43), none, []⟩] none [1, 2, 7, 8, 9]))))
    (.ops [⟨some 27, .move (.t 9), none, []⟩,
      ⟨some 28, .bin .add (.t 27) (.c (.int .i64 1)), none, []⟩,
      ⟨some 9, .move (.t 28), none, []⟩] none [1, 2, 7, 8, 9]))))))
(.seq (.ops [⟨some 45, .load (some 5) (.t 8), none, []⟩,
  ⟨some 46, .call 219 [(.t 45)], none, []⟩,
  ⟨some 11, .move (.t 46), none, []⟩] none [1, 2, 7, 8, 11])
(.seq (.block 2 (.seq (.ops [⟨some 48, .move (.t 2), none, []⟩,
    ⟨some 49, .bin .lss (.t 48) (.c (.int .i16 (-1))), none, []⟩,
    ⟨some 50, .move (.t 49), none, []⟩,
    ⟨some 51, .move (.t 2), (some (50, false)), []⟩,
    ⟨some 52, .bin .gtr (.t 51) (.c (.int .i16 1000)), (some (50, false)), []⟩,
    ⟨some 53, .pick (.t 50) (.c (.bool true)) (.t 52), none, []⟩,
    ⟨some 47, .move (.t 53), none, []⟩] none [1, 2, 7, 8, 11, 47])
  (.cond (.t 47)
    (.seq (.ops [⟨some 54, .move (.t 11), none, []⟩,
      ⟨some 55, .bin .eql (.t 54) (.c (.int .i64 1)), none, []⟩,
      ⟨some 6, .move (.t 55), none, []⟩] none [6])
    (.ret))
    (.seq (.ops [⟨some 57, .move (.t 7), none, []⟩,
      ⟨some 58, .bin .lss (.t 57) (.c (.int .i64 1)), none, []⟩,
      ⟨some 59, .move (.t 58), none, []⟩,
      ⟨some 60, .move (.t 7), (some (59, false)), []⟩,
      ⟨some 61, .bin .gtr (.t 60) (.c (.int .i64 4)), (some (59, false)), []⟩,
      ⟨some 62, .pick (.t 59) (.c (.bool true)) (.t 61), none, []⟩,
      ⟨some 56, .move (.t 62), none, []⟩] none [1, 2, 7, 8, 11, 56])
    (.cond (.t 56)
      (.seq (.ops [⟨some 63, .move (.t 11), none, []⟩,
        ⟨some 64, .bin .eql (.t 63) (.c (.int .i64 18)), none, []⟩,
        ⟨some 6, .move (.t 64), none, []⟩] none [6])
      (.ret))
      (.skip))))))
(.seq (.ops [⟨some 65, .load (some 5) (.t 8), none, []⟩,
  ⟨some 66, .call 221 [(.t 65)], none, []⟩,
  ⟨some 12, .move (.t 66), none, []⟩] none [1, 2, 7, 8, 11, 12])
(.seq (.ops [⟨some 68, .move (.t 12), none, []⟩,
  ⟨some 69, .call 222 [(.t 68)], none, []⟩,
  ⟨some 67, .move (.t 69), none, []⟩,
  ⟨some 70, .ext 0 (.t 67), none, []⟩,
  ⟨some 71, .ext 1 (.t 67), none, []⟩,
  ⟨some 13, .alloc (.agg [(.int .i64 0), (.int .i64 0), (.int .i64 0), (.int .i64 0), .nils]), none, []⟩,
  ⟨none, .store (some 5) (.t 13) (.t 70), none, []⟩,
  ⟨some 14, .move (.t 71), none, []⟩] none [1, 2, 7, 8, 11, 13, 14])
(.seq (.seq (.ops [⟨some 72, .move (.t 11), none, []⟩,
  ⟨some 73, .move (.t 14), none, []⟩,
  ⟨some 74, .bin .add (.t 72) (.t 73), none, []⟩,
  ⟨some 75, .bin .neq (.t 74) (.c (.int .i64 0)), none, []⟩,
  ⟨some 76, .move (.t 75), none, []⟩,
  ⟨some 77, .load (some 5) (.t 13), (some (76, false)), []⟩,
  ⟨some 78, .load (some 5) (.t 8), (some (76, false)), []⟩,
  ⟨some 79, .call 51 [(.t 77), (.t 78)], (some (76, false)), []⟩,
  ⟨some 80, .not (.t 79), (some (76, false)), []⟩,
  ⟨some 81, .pick (.t 76) (.c (.bool true)) (.t 80), none, []⟩,
  ⟨some 82, .move (.t 81), none, []⟩,
  ⟨some 83, .load (some 5) (.t 8), (some (82, false)), []⟩,
  ⟨some 84, .call 223 [(.t 83)], (some (82, false)), []⟩,
  ⟨some 85, .move (.t 2), (some (82, false)), []⟩,
  ⟨some 86, .bin .neq (.t 85) (.c (.int .i16 0)), (some (82, false)), []⟩,
  ⟨some 87, .eq true .b (.t 84) (.t 86), (some (82, false)), []⟩,
  ⟨some 88, .pick (.t 82) (.c (.bool true)) (.t 87), none, []⟩] none [1, 7, 8, 88])
(.cond (.t 88)
  (.seq (.ops [⟨some 6, .move (.c (.bool false)), none, []⟩] none [6])
  (.ret))
  (.skip)))
(.seq (.seq (.ops [⟨some 89, .move (.t 7), none, []⟩,
  ⟨some 90, .bin .lss (.t 89) (.c (.int .i64 2)), none, []⟩] none [1, 7, 8, 90])
(.cond (.t 90)
  (.seq (.ops [⟨some 6, .move (.c (.bool true)), none, []⟩] none [6])
  (.ret))
  (.skip)))
(.seq (.ops [⟨some 91, .move (.t 1), none, []⟩,
  ⟨some 92, .conv .i64 (.t 91), none, []⟩,
  ⟨some 93, .move (.t 7), none, []⟩,
  ⟨some 94, .bin .sub (.t 93) (.c (.int .i64 1)), none, []⟩,
  ⟨some 95, .bin .rem (.t 92) (.t 94), none, []⟩,
  ⟨some 96, .bin .add (.c (.int .i64 1)) (.t 95), none, []⟩,
  ⟨some 15, .move (.t 96), none, []⟩] none [8, 15])
(.seq (.ops [⟨some 97, .fldAddr 4 (.t 8), none, []⟩,
  ⟨some 98, .load none (.t 97), none, []⟩,
  ⟨some 99, .move (.t 15), none, []⟩,
  ⟨some 100, .fldAddr 4 (.t 8), none, []⟩,
  ⟨some 101, .load none (.t 100), none, []⟩,
  ⟨some 102, .move (.t 15), none, []⟩,
  ⟨some 103, .bin .sub (.t 102) (.c (.int .i64 1)), none, []⟩,
  ⟨some 104, .idxAddr 3 (.t 101) (.t 103), none, []⟩,
  ⟨some 105, .fldAddr 1 (.t 104), none, []⟩,
  ⟨some 106, .load none (.t 105), none, []⟩,
  ⟨some 107, .idxAddr 3 (.t 98) (.t 99), none, []⟩,
  ⟨some 108, .fldAddr 1 (.t 107), none, []⟩,
  ⟨none, .store none (.t 108) (.t 106), none, []⟩] (some [(0, []), (1, [0]), (2, []), (3, []), (4, [3]), (5, []), (6, [5]), (7, [4, 3, 6, 5]), (8, [7, 4, 3, 6, 5]), (9, [8, 7, 4, 3, 6, 5]), (10, [1, 0, 2, 3, 4, 5, 6, 7, 8, 9]), (11, [10, 1, 0, 2, 3, 4, 5, 6, 7, 8, 9]), (12, [11, 10, 1, 0, 2, 3, 4, 5, 6, 7, 8, 9])]) [8])
(.seq (.ops [⟨some 109, .load (some 5) (.t 8), none, []⟩,
  ⟨some 110, .call 219 [(.t 109)], none, []⟩,
  ⟨some 111, .bin .eql (.t 110) (.c (.int .i64 6)), none, []⟩,
  ⟨some 6, .move (.t 111), none, []⟩] none [6])
(.ret)))))))))))))))
def f220 : SFunc := ⟨b220, [.t 6]⟩

/-- watchbill/watchbilllaw5.known -/
def b218 : SCode := (
.seq (.ops [⟨some 0, .move (.c (.bool false)), none, []⟩] none [])
(.seq (.ops [⟨some 1, .move (.c (.str [115, 101, 108, 101, 99, 116, 32, 45, 32, 115, 101, 110, 100, 32, 48, 32, 45, 53, 32, 114, 101, 99, 118, 32, 49])), none, []⟩] none [1])
(.seq (.ops [⟨some 19, .move (.t 1), none, []⟩,
  ⟨some 20, .call 222 [(.t 19)], none, []⟩,
  ⟨some 18, .move (.t 20), none, []⟩,
  ⟨some 21, .ext 0 (.t 18), none, []⟩,
  ⟨some 22, .ext 1 (.t 18), none, []⟩,
  ⟨some 2, .alloc (.agg [(.int .i64 0), (.int .i64 0), (.int .i64 0), (.int .i64 0), .nils]), none, []⟩,
  ⟨none, .store (some 5) (.t 2) (.t 21), none, []⟩,
  ⟨some 3, .move (.t 22), none, []⟩] none [1, 2, 3])
(.seq (.ops [⟨some 24, .call 222 [(.c (.str [115, 101, 108, 101, 99, 116, 32, 51]))], none, []⟩,
  ⟨some 23, .move (.t 24), none, []⟩,
  ⟨some 25, .ext 0 (.t 23), none, []⟩,
  ⟨some 26, .ext 1 (.t 23), none, []⟩,
  ⟨some 4, .alloc (.agg [(.int .i64 0), (.int .i64 0), (.int .i64 0), (.int .i64 0), .nils]), none, []⟩,
  ⟨none, .store (some 5) (.t 4) (.t 25), none, []⟩,
  ⟨some 5, .move (.t 26), none, []⟩] none [1, 2, 3, 5])
(.seq (.ops [⟨some 28, .call 222 [(.c (.str [115, 101, 110, 100, 32, 48, 32, 49]))], none, []⟩,
  ⟨some 27, .move (.t 28), none, []⟩,
  ⟨some 29, .ext 0 (.t 27), none, []⟩,
  ⟨some 30, .ext 1 (.t 27), none, []⟩,
  ⟨some 6, .alloc (.agg [(.int .i64 0), (.int .i64 0), (.int .i64 0), (.int .i64 0), .nils]), none, []⟩,
  ⟨none, .store (some 5) (.t 6) (.t 29), none, []⟩,
  ⟨some 7, .move (.t 30), none, []⟩] none [1, 2, 3, 5, 7])
(.seq (.ops [⟨some 32, .call 222 [(.c (.str [114, 101, 99, 118, 32, 48, 32, 45, 49]))], none, []⟩,
  ⟨some 31, .move (.t 32), none, []⟩,
  ⟨some 33, .ext 0 (.t 31), none, []⟩,
  ⟨some 34, .ext 1 (.t 31), none, []⟩,
  ⟨some 8, .alloc (.agg [(.int .i64 0), (.int .i64 0), (.int .i64 0), (.int .i64 0), .nils]), none, []⟩,
  ⟨none, .store (some 5) (.t 8) (.t 33), none, []⟩,
  ⟨some 9, .move (.t 34), none, []⟩] none [1, 2, 3, 5, 7, 9])
(.seq (.ops [⟨some 36, .call 222 [(.c (.str [114, 117, 110, 32, 48]))], none, []⟩,
  ⟨some 35, .move (.t 36), none, []⟩,
  ⟨some 37, .ext 0 (.t 35), none, []⟩,
  ⟨some 38, .ext 1 (.t 35), none, []⟩,
  ⟨some 10, .alloc (.agg [(.int .i64 0), (.int .i64 0), (.int .i64 0), (.int .i64 0), .nils]), none, []⟩,
  ⟨none, .store (some 5) (.t 10) (.t 37), none, []⟩,
  ⟨some 11, .move (.t 38), none, []⟩] none [1, 2, 3, 5, 7, 9, 11])
(.seq (.ops [⟨some 40, .call 222 [(.c (.str [106, 117, 109, 112, 32, 49]))], none, []⟩,
  ⟨some 39, .move (.t 40), none, []⟩,
  ⟨some 41, .ext 0 (.t 39), none, []⟩,
  ⟨some 42, .ext 1 (.t 39), none, []⟩,
  ⟨some 12, .alloc (.agg [(.int .i64 0), (.int .i64 0), (.int .i64 0), (.int .i64 0), .nils]), none, []⟩,
  ⟨none, .store (some 5) (.t 12) (.t 41), none, []⟩,
  ⟨some 13, .move (.t 42), none, []⟩] none [1, 2, 3, 5, 7, 9, 11, 13])
(.seq (.ops [⟨some 44, .call 222 [(.c (.str [115, 101, 108, 101, 99, 116, 32, 48, 32, 114, 101, 99, 118, 32, 49, 32, 115, 101, 110, 100, 32, 49, 32, 50]))], none, []⟩,
  ⟨some 43, .move (.t 44), none, []⟩,
  ⟨some 45, .ext 0 (.t 43), none, []⟩,
  ⟨some 46, .ext 1 (.t 43), none, []⟩,
  ⟨some 14, .alloc (.agg [(.int .i64 0), (.int .i64 0), (.int .i64 0), (.int .i64 0), .nils]), none, []⟩,
  ⟨none, .store (some 5) (.t 14) (.t 45), none, []⟩,
  ⟨some 15, .move (.t 46), none, []⟩] none [1, 2, 3, 5, 7, 9, 11, 13, 15])
(.seq (.ops [⟨some 48, .call 222 [(.c (.str [101, 110, 100]))], none, []⟩,
  ⟨some 47, .move (.t 48), none, []⟩,
  ⟨some 49, .ext 0 (.t 47), none, []⟩,
  ⟨some 50, .ext 1 (.t 47), none, []⟩,
  ⟨some 16, .alloc (.agg [(.int .i64 0), (.int .i64 0), (.int .i64 0), (.int .i64 0), .nils]), none, []⟩,
  ⟨none, .store (some 5) (.t 16) (.t 49), none, []⟩,
  ⟨some 17, .move (.t 50), none, []⟩] none [1, 2, 3, 5, 7, 9, 11, 13, 15, 16, 17])
(.seq (.ops [⟨some 51, .move (.t 3), none, []⟩,
  ⟨some 52, .move (.t 17), none, []⟩,
  ⟨some 53, .bin .add (.t 51) (.t 52), none, []⟩,
  ⟨some 54, .bin .eql (.t 53) (.c (.int .i64 0)), none, []⟩,
  ⟨some 55, .move (.t 54), none, []⟩,
  ⟨some 56, .fldAddr 3 (.t 2), (some (55, true)), []⟩,
  ⟨some 57, .load none (.t 56), (some (55, true)), []⟩,
  ⟨some 58, .bin .eql (.t 57) (.c (.int .i64 (-1))), (some (55, true)), []⟩,
  ⟨some 59, .pick (.t 55) (.t 58) (.c (.bool false)), none, []⟩,
  ⟨some 60, .move (.t 59), none, []⟩,
  ⟨some 61, .fldAddr 4 (.t 2), (some (60, true)), []⟩,
  ⟨some 62, .load none (.t 61), (some (60, true)), []⟩,
  ⟨some 63, .len .sl (.t 62), (some (60, true)), []⟩,
  ⟨some 64, .bin .eql (.t 63) (.c (.int .i64 2)), (some (60, true)), []⟩,
  ⟨some 65, .pick (.t 60) (.t 64) (.c (.bool false)), none, []⟩,
  ⟨some 66, .move (.t 65), none, []⟩,
  ⟨some 67, .load (some 5) (.t 2), (some (66, true)), []⟩,
  ⟨some 68, .call 221 [(.t 67)], (some (66, true)), []⟩,
  ⟨some 69, .move (.t 1), (some (66, true)), []⟩,
  ⟨some 70, .bin .eql (.t 68) (.t 69), (some (66, true)), []⟩,
  ⟨some 71, .pick (.t 66) (.t 70) (.c (.bool false)), none, []⟩,
  ⟨some 72, .move (.t 71), none, []⟩,
  ⟨some 73, .load (some 5) (.t 2), (some (72, true)), []⟩,
  ⟨some 74, .call 223 [(.t 73)], (some (72, true)), []⟩,
  ⟨some 75, .pick (.t 72) (.t 74) (.c (.bool false)), none, []⟩,
  ⟨some 76, .move (.t 75), none, []⟩,
  ⟨some 77, .load (some 5) (.t 16), (some (76, true)), []⟩,
  ⟨some 78, .call 223 [(.t 77)], (some (76, true)), []⟩,
  ⟨some 79, .not (.t 78), (some (76, true)), []⟩,
  ⟨some 80, .pick (.t 76) (.t 79) (.c (.bool false)), none, []⟩,
  ⟨some 81, .move (.t 80), none, []⟩,
  ⟨some 82, .fldAddr 0 (.t 16), (some (81, true)), []⟩,
  ⟨some 83, .load none (.t 82), (some (81, true)), []⟩,
  ⟨some 84, .bin .eql (.t 83) (.c (.int .i64 9)), (some (81, true)), []⟩,
  ⟨some 85, .pick (.t 81) (.t 84) (.c (.bool false)), none, []⟩,
  ⟨some 86, .move (.t 85), none, []⟩,
  ⟨some 87, .move (.t 5), (some (86, true)), []⟩,
  ⟨some 88, .bin .eql (.t 87) (.c (.int .i64 18)), (some (86, true)), []⟩,
  ⟨some 89, .pick (.t 86) (.t 88) (.c (.bool false)), none, []⟩,
  ⟨some 90, .move (.t 89), none, []⟩,
  ⟨some 91, .move (.t 7), (some (90, true)), []⟩,
  ⟨some 92, .bin .eql (.t 91) (.c (.int .i64 2)), (some (90, true)), []⟩,
  ⟨some 93, .pick (.t 90) (.t 92) (.c (.bool false)), none, []⟩,
  ⟨some 94, .move (.t 93), none, []⟩,
  ⟨some 95, .move (.t 9), (some (94, true)), []⟩,
  ⟨some 96, .bin .eql (.t 95) (.c (.int .i64 2)), (some (94, true)), []⟩,
  ⟨some 97, .pick (.t 94) (.t 96) (.c (.bool false)), none, []⟩,
  ⟨some 98, .move (.t 97), none, []⟩,
  ⟨some 99, .move (.t 11), (some (98, true)), []⟩,
  ⟨some 100, .bin .eql (.t 99) (.c (.int .i64 1)), (some (98, true)), []⟩,
  ⟨some 101, .pick (.t 98) (.t 100) (.c (.bool false)), none, []⟩,
  ⟨some 102, .move (.t 101), none, []⟩,
  ⟨some 103, .move (.t 13), (some (102, true)), []⟩,
  ⟨some 104, .bin .eql (.t 103) (.c (.int .i64 2)), (some (102, true)), []⟩,
  ⟨some 105, .pick (.t 102) (.t 104) (.c (.bool false)), none, []⟩,
  ⟨some 106, .move (.t 105), none, []⟩,
  ⟨some 107, .move (.t 15), (some (106, true)), []⟩,
  ⟨some 108, .bin .eql (.t 107) (.c (.int .i64 6)), (some (106, true)), []⟩,
  ⟨some 109, .pick (.t 106) (.t 108) (.c (.bool false)), none, []⟩,
  ⟨some 110, .move (.t 109), none, []⟩,
  ⟨some 111, .load (some 5) (.t 2), (some (110, true)), []⟩,
  ⟨some 112, .load (some 5) (.t 2), (some (110, true)), []⟩,
  ⟨some 113, .call 51 [(.t 111), (.t 112)], (some (110, true)), []⟩,
  ⟨some 114, .pick (.t 110) (.t 113) (.c (.bool false)), none, []⟩,
  ⟨some 115, .move (.t 114), none, []⟩,
  ⟨some 116, .load (some 5) (.t 2), (some (115, true)), []⟩,
  ⟨some 117, .load (some 5) (.t 16), (some (115, true)), []⟩,
  ⟨some 118, .call 51 [(.t 116), (.t 117)], (some (115, true)), []⟩,
  ⟨some 119, .not (.t 118), (some (115, true)), []⟩,
  ⟨some 120, .pick (.t 115) (.t 119) (.c (.bool false)), none, []⟩,
  ⟨some 121, .move (.t 120), none, []⟩,
  ⟨some 122, .build [(.int .i64 0), (.int .i64 0), (.int .i64 0), (.int .i64 0), .nils] [(0, 1, (.c (.int .i64 10)))], (some (121, true)), []⟩,
  ⟨some 123, .call 219 [(.t 122)], (some (121, true)), []⟩,
  ⟨some 124, .bin .eql (.t 123) (.c (.int .i64 3)), (some (121, true)), []⟩,
  ⟨some 125, .pick (.t 121) (.t 124) (.c (.bool false)), none, []⟩,
  ⟨some 126, .move (.t 125), none, []⟩,
  ⟨some 127, .build [(.int .i64 0), (.int .i64 0), (.int .i64 0), (.int .i64 0), .nils] [(0, 1, (.c (.int .i64 1))), (1, 1, (.c (.int .i64 1))), (2, 1, (.c (.int .i64 1)))], (some (126, true)), []⟩,
  ⟨some 128, .call 219 [(.t 127)], (some (126, true)), []⟩,
  ⟨some 129, .bin .eql (.t 128) (.c (.int .i64 1)), (some (126, true)), []⟩,
  ⟨some 130, .pick (.t 126) (.t 129) (.c (.bool false)), none, []⟩,
  ⟨some 0, .move (.t 130), none, []⟩] none [0])
(.ret))))))))))))
def f218 : SFunc := ⟨b218, [.t 0]⟩

/-- watchbill/op.Check -/
def b219 : SCode := (
.seq (.ops [⟨some 1, .box (.t 0), none, []⟩,
  ⟨some 2, .move (.c (.int .i64 0)), none, []⟩] none [1])
(.seq (.seq (.ops [⟨some 4, .fldAddr 0 (.t 1), none, []⟩,
  ⟨some 5, .load none (.t 4), none, []⟩,
  ⟨some 6, .bin .lss (.t 5) (.c (.int .i64 1)), none, []⟩,
  ⟨some 7, .move (.t 6), none, []⟩,
  ⟨some 8, .fldAddr 0 (.t 1), (some (7, false)), []⟩,
  ⟨some 9, .load none (.t 8), (some (7, false)), []⟩,
  ⟨some 10, .bin .gtr (.t 9) (.c (.int .i64 9)), (some (7, false)), []⟩,
  ⟨some 11, .pick (.t 7) (.c (.bool true)) (.t 10), none, []⟩] none [1, 11])
(.cond (.t 11)
  (.seq (.ops [⟨some 2, .move (.c (.int .i64 3)), none, []⟩] none [2])
  (.ret))
  (.skip)))
(.seq (.ops [⟨some 13, .fldAddr 0 (.t 1), none, []⟩,
  ⟨some 14, .load none (.t 13), none, []⟩,
  ⟨some 3, .alloc (.agg [(.str []), (.int .i64 0), (.int .i64 0), (.bool false), (.bool false)]), none, []⟩,
  ⟨some 12, .call 224 [], none, [1]⟩,
  ⟨some 15, .idxAddr 5 (.t 12) (.t 14), none, []⟩,
  ⟨some 16, .load (some 5) (.t 15), none, []⟩,
  ⟨none, .store (some 5) (.t 3) (.t 16), none, []⟩] (some [(1, []), (2, [0]), (5, []), (0, []), (3, [3, 1, 0]), (4, [4, 3, 1, 0]), (6, [2, 5, 4, 3, 1, 0])]) [1, 3])
(.seq (.block 0 (.seq (.ops [⟨some 18, .fldAddr 1 (.t 1), none, []⟩,
    ⟨some 19, .load none (.t 18), none, []⟩,
    ⟨some 20, .fldAddr 1 (.t 3), none, []⟩,
    ⟨some 21, .load none (.t 20), none, []⟩,
    ⟨some 22, .bin .lss (.t 19) (.t 21), none, []⟩,
    ⟨some 23, .move (.t 22), none, []⟩,
    ⟨some 24, .fldAddr 1 (.t 1), (some (23, false)), []⟩,
    ⟨some 25, .load none (.t 24), (some (23, false)), []⟩,
    ⟨some 26, .fldAddr 2 (.t 3), (some (23, false)), []⟩,
    ⟨some 27, .load none (.t 26), (some (23, false)), []⟩,
    ⟨some 28, .bin .gtr (.t 25) (.t 27), (some (23, false)), []⟩,
    ⟨some 29, .pick (.t 23) (.c (.bool true)) (.t 28), none, []⟩,
    ⟨some 30, .move (.t 29), none, []⟩,
    ⟨some 31, .fldAddr 0 (.t 1), (some (30, false)), []⟩,
    ⟨some 32, .load none (.t 31), (some (30, false)), []⟩,
    ⟨some 33, .bin .neq (.t 32) (.c (.int .i64 4)), (some (30, false)), []⟩,
    ⟨some 34, .move (.t 33), (some (30, false)), []⟩,
    ⟨some 35, .fldAddr 2 (.t 1), (some (34, true)), []⟩,
    ⟨some 36, .load none (.t 35), (some (34, true)), []⟩,
    ⟨some 37, .bin .neq (.t 36) (.c (.int .i64 0)), (some (34, true)), []⟩,
    ⟨some 38, .pick (.t 34) (.t 37) (.c (.bool false)), (some (30, false)), []⟩,
    ⟨some 39, .pick (.t 30) (.c (.bool true)) (.t 38), none, []⟩,
    ⟨some 17, .move (.t 39), none, []⟩] none [1, 3, 17])
  (.cond (.t 17)
    (.seq (.ops [⟨some 2, .move (.c (.int .i64 1)), none, []⟩] none [2])
    (.ret))
    (.seq (.ops [⟨some 41, .fldAddr 3 (.t 3), none, []⟩,
      ⟨some 42, .load none (.t 41), none, []⟩,
      ⟨some 43, .not (.t 42), none, []⟩,
      ⟨some 44, .move (.t 43), none, []⟩,
      ⟨some 45, .fldAddr 3 (.t 1), (some (44, true)), []⟩,
      ⟨some 46, .load none (.t 45), (some (44, true)), []⟩,
      ⟨some 47, .bin .neq (.t 46) (.c (.int .i64 0)), (some (44, true)), []⟩,
      ⟨some 48, .pick (.t 44) (.t 47) (.c (.bool false)), none, []⟩,
      ⟨some 49, .move (.t 48), none, []⟩,
      ⟨some 50, .fldAddr 3 (.t 1), (some (49, false)), []⟩,
      ⟨some 51, .load none (.t 50), (some (49, false)), []⟩,
      ⟨some 52, .bin .lss (.t 51) (.c (.int .i64 (-1))), (some (49, false)), []⟩,
      ⟨some 53, .pick (.t 49) (.c (.bool true)) (.t 52), none, []⟩,
      ⟨some 54, .move (.t 53), none, []⟩,
      ⟨some 55, .fldAddr 3 (.t 1), (some (54, false)), []⟩,
      ⟨some 56, .load none (.t 55), (some (54, false)), []⟩,
      ⟨some 57, .bin .gtr (.t 56) (.c (.int .i64 1000)), (some (54, false)), []⟩,
      ⟨some 58, .pick (.t 54) (.c (.bool true)) (.t 57), none, []⟩,
      ⟨some 40, .move (.t 58), none, []⟩] none [1, 3, 40])
    (.cond (.t 40)
      (.seq (.ops [⟨some 2, .move (.c (.int .i64 1)), none, []⟩] none [2])
      (.ret))
      (.seq (.ops [⟨some 60, .fldAddr 4 (.t 3), none, []⟩,
        ⟨some 61, .load none (.t 60), none, []⟩,
        ⟨some 59, .move (.t 61), none, []⟩] none [1, 59])
      (.cond (.t 59)
        (.seq (.ops [⟨some 62, .fldAddr 4 (.t 1), none, []⟩,
          ⟨some 63, .load none (.t 62), none, []⟩,
          ⟨some 64, .call 225 [(.t 63)], none, []⟩,
          ⟨some 2, .move (.t 64), none, []⟩] none [2])
        (.ret))
        (.seq (.ops [⟨some 66, .fldAddr 4 (.t 1), none, []⟩,
          ⟨some 67, .load none (.t 66), none, []⟩,
          ⟨some 68, .len .sl (.t 67), none, []⟩,
          ⟨some 69, .bin .gtr (.t 68) (.c (.int .i64 0)), none, []⟩,
          ⟨some 65, .move (.t 69), none, []⟩] none [65])
        (.cond (.t 65)
          (.seq (.ops [⟨some 2, .move (.c (.int .i64 1)), none, []⟩] none [2])
          (.ret))
          (.skip))))))))))
(.seq (.ops [⟨some 2, .move (.c (.int .i64 0)), none, []⟩] none [2])
(.ret))))))
def f219 : SFunc := ⟨b219, [.t 2]⟩

/-- watchbill/op.Text -/
def b221 : SCode := (
.seq (.ops [⟨some 1, .box (.t 0), none, []⟩,
  ⟨some 2, .move (.c (.str [])), none, []⟩] none [1])
(.seq (.seq (.ops [⟨some 6, .fldAddr 0 (.t 1), none, []⟩,
  ⟨some 7, .load none (.t 6), none, []⟩,
  ⟨some 8, .bin .lss (.t 7) (.c (.int .i64 1)), none, []⟩,
  ⟨some 9, .move (.t 8), none, []⟩,
  ⟨some 10, .fldAddr 0 (.t 1), (some (9, false)), []⟩,
  ⟨some 11, .load none (.t 10), (some (9, false)), []⟩,
  ⟨some 12, .bin .gtr (.t 11) (.c (.int .i64 9)), (some (9, false)), []⟩,
  ⟨some 13, .pick (.t 9) (.c (.bool true)) (.t 12), none, []⟩] none [1, 13])
(.cond (.t 13)
  (.seq (.ops [⟨some 2, .move (.c (.str [])), none, []⟩] none [2])
  (.ret))
  (.skip)))
(.seq (.ops [⟨some 15, .fldAddr 0 (.t 1), none, []⟩,
  ⟨some 16, .load none (.t 15), none, []⟩,
  ⟨some 14, .call 224 [], none, [1]⟩,
  ⟨some 17, .idxAddr 5 (.t 14) (.t 16), none, []⟩,
  ⟨some 18, .fldAddr 0 (.t 17), none, []⟩,
  ⟨some 19, .load none (.t 18), none, []⟩,
  ⟨some 20, .buildSl 1 [(.str [])] [(0, 1, (.t 19))], none, []⟩,
  ⟨some 3, .move (.t 20), none, []⟩] (some [(1, []), (2, [0]), (0, []), (3, [2, 1, 0]), (4, [3, 2, 1, 0]), (5, [4, 3, 2, 1, 0]), (6, [5, 4, 3, 2, 1, 0]), (7, [6, 5, 4, 3, 2, 1, 0])]) [1, 3])
(.seq (.seq (.ops [⟨some 21, .fldAddr 0 (.t 1), none, []⟩,
  ⟨some 22, .load none (.t 21), none, []⟩] none [1, 3, 22])
(.block 0 (.seq (.ops [⟨some 30, .bin .eql (.t 22) (.c (.int .i64 4)), none, []⟩,
    ⟨some 29, .move (.t 30), none, []⟩] none [1, 3, 22, 29])
  (.cond (.t 29)
    (.ops [⟨some 31, .move (.t 3), none, []⟩,
      ⟨some 32, .fldAddr 1 (.t 1), none, []⟩,
      ⟨some 33, .load none (.t 32), none, []⟩,
      ⟨some 35, .fldAddr 2 (.t 1), none, []⟩,
      ⟨some 36, .load none (.t 35), none, []⟩,
      ⟨some 38, .fldAddr 3 (.t 1), none, []⟩,
      ⟨some 39, .load none (.t 38), none, []⟩,
      ⟨some 34, .call 99 [(.t 33)], none, [4, 6]⟩,
      ⟨some 37, .call 99 [(.t 36)], none, [6]⟩,
      ⟨some 40, .call 226 [(.t 39)], none, []⟩,
      ⟨some 41, .buildSl 3 [(.str []), (.str []), (.str [])] [(0, 1, (.t 34)), (1, 1, (.t 37)), (2, 1, (.t 40))], none, []⟩,
      ⟨some 42, .append 1 (.t 31) (.t 41), none, []⟩,
      ⟨some 3, .move (.t 42), none, []⟩] (some [(0, []), (1, []), (2, [1]), (4, []), (5, [3]), (7, []), (8, [5]), (3, [2, 1]), (6, [4, 3, 7, 2, 1]), (9, [6, 5, 8, 4, 3, 7, 2, 1]), (10, [7, 2, 1, 8, 4, 3, 9, 6, 5]), (11, [0, 10, 7, 2, 1, 8, 4, 3, 9, 6, 5]), (12, [11, 0, 10, 7, 2, 1, 8, 4, 3, 9, 6, 5])]) [3])
    (.seq (.ops [⟨some 44, .bin .eql (.t 22) (.c (.int .i64 5)), none, []⟩,
      ⟨some 43, .move (.t 44), none, []⟩] none [1, 3, 22, 43])
    (.cond (.t 43)
      (.ops [⟨some 45, .move (.t 3), none, []⟩,
        ⟨some 46, .fldAddr 1 (.t 1), none, []⟩,
        ⟨some 47, .load none (.t 46), none, []⟩,
        ⟨some 49, .fldAddr 3 (.t 1), none, []⟩,
        ⟨some 50, .load none (.t 49), none, []⟩,
        ⟨some 48, .call 99 [(.t 47)], none, [4]⟩,
        ⟨some 51, .call 226 [(.t 50)], none, []⟩,
        ⟨some 52, .buildSl 2 [(.str []), (.str [])] [(0, 1, (.t 48)), (1, 1, (.t 51))], none, []⟩,
        ⟨some 53, .append 1 (.t 45) (.t 52), none, []⟩,
        ⟨some 3, .move (.t 53), none, []⟩] (some [(0, []), (1, []), (2, [1]), (4, []), (5, [3]), (3, [2, 1]), (6, [4, 3, 5, 2, 1]), (7, [5, 2, 1, 6, 4, 3]), (8, [0, 7, 5, 2, 1, 6, 4, 3]), (9, [8, 0, 7, 5, 2, 1, 6, 4, 3])]) [3])
      (.seq (.ops [⟨some 55, .bin .eql (.t 22) (.c (.int .i64 7)), none, []⟩,
        ⟨some 54, .move (.t 55), none, []⟩] none [1, 3, 22, 54])
      (.cond (.t 54)
        (.seq (.ops [⟨some 56, .move (.t 3), none, []⟩,
          ⟨some 57, .fldAddr 3 (.t 1), none, []⟩,
          ⟨some 58, .load none (.t 57), none, []⟩,
          ⟨some 59, .call 226 [(.t 58)], none, []⟩,
          ⟨some 60, .buildSl 1 [(.str [])] [(0, 1, (.t 59))], none, []⟩,
          ⟨some 61, .append 1 (.t 56) (.t 60), none, []⟩,
          ⟨some 3, .move (.t 61), none, []⟩] none [1, 3])
        (.seq (.ops [⟨some 62, .fldAddr 4 (.t 1), none, []⟩,
          ⟨some 63, .load none (.t 62), none, []⟩,
          ⟨some 64, .len .sl (.t 63), none, []⟩,
          ⟨some 65, .move (.c (.int .i64 0)), none, []⟩] none [3, 63, 64, 65])
        (.block 1 (.loop [3, 63, 64, 65] (.seq (.ops [⟨some 66, .bin .lss (.t 65) (.t 64), none, []⟩] none [3, 63, 64, 65, 66])
            (.seq (.cond (.t 66)
              (.skip)
              (.exit 1))
            (.seq (.block 2 (.seq (.ops [⟨some 67, .idxAddr 3 (.t 63) (.t 65), none, []⟩,
                ⟨some 68, .load (some 3) (.t 67), none, []⟩,
                ⟨some 5, .alloc (.agg [(.bool false), (.int .i64 0), (.int .i64 0)]), none, []⟩,
                ⟨none, .store (some 3) (.t 5) (.t 68), none, []⟩] none [3, 5, 63, 64, 65])
              (.ops [⟨some 69, .move (.t 3), none, []⟩,
                ⟨some 70, .load (some 3) (.t 5), none, []⟩,
                ⟨some 71, .call 227 [(.t 70)], none, []⟩,
                ⟨some 72, .append 1 (.t 69) (.t 71), none, []⟩,
                ⟨some 3, .move (.t 72), none, []⟩] none [3, 63, 64, 65])))
            (.ops [⟨some 73, .bin .add (.t 65) (.c (.int .i64 1)), none, []⟩,
              ⟨some 65, .move (.t 73), none, []⟩] none [3, 63, 64, 65]))))))))
        (.seq (.ops [⟨some 75, .bin .eql (.t 22) (.c (.int .i64 9)), none, []⟩,
          ⟨some 74, .move (.t 75), none, []⟩] none [1, 3, 74])
        (.cond (.t 74)
          (.skip)
          (.ops [⟨some 23, .move (.t 3), none, []⟩,
            ⟨some 24, .fldAddr 1 (.t 1), none, []⟩,
            ⟨some 25, .load none (.t 24), none, []⟩,
            ⟨some 26, .call 99 [(.t 25)], none, []⟩,
            ⟨some 27, .buildSl 1 [(.str [])] [(0, 1, (.t 26))], none, []⟩,
            ⟨some 28, .append 1 (.t 23) (.t 27), none, []⟩,
            ⟨some 3, .move (.t 28), none, []⟩] none [3])))))))))))
(.seq (.ops [⟨some 76, .move (.t 3), none, []⟩,
  ⟨some 77, .call 128 [(.t 76), (.c (.str [32]))], none, []⟩,
  ⟨some 2, .move (.t 77), none, []⟩] none [2])
(.ret))))))
def f221 : SFunc := ⟨b221, [.t 2]⟩

/-- watchbill/op.Parse -/
def b222 : SCode := (
.seq (.ops [⟨some 2, .alloc (.agg [(.int .i64 0), (.int .i64 0), (.int .i64 0), (.int .i64 0), .nils]), none, []⟩,
  ⟨some 3, .move (.c (.int .i64 0)), none, []⟩] none [0, 2])
(.seq (.ops [⟨some 9, .move (.t 0), none, []⟩,
  ⟨some 10, .call 92 [(.t 9)], none, []⟩,
  ⟨some 8, .move (.t 10), none, []⟩,
  ⟨some 11, .ext 0 (.t 8), none, []⟩,
  ⟨some 12, .ext 1 (.t 8), none, []⟩,
  ⟨some 4, .alloc .nils, none, []⟩,
  ⟨none, .store none (.t 4) (.t 11), none, []⟩,
  ⟨some 5, .move (.t 12), none, []⟩] none [2, 4, 5])
(.seq (.seq (.ops [⟨some 13, .move (.t 5), none, []⟩,
  ⟨some 14, .bin .neq (.t 13) (.c (.int .i64 0)), none, []⟩] none [2, 4, 5, 14])
(.cond (.t 14)
  (.seq (.ops [⟨some 15, .build [(.int .i64 0), (.int .i64 0), (.int .i64 0), (.int .i64 0), .nils] [], none, []⟩,
    ⟨some 16, .move (.t 5), none, []⟩,
    ⟨none, .store (some 5) (.t 2) (.t 15), none, []⟩,
    ⟨some 3, .move (.t 16), none, []⟩] none [2, 3])
  (.ret))
  (.skip)))
(.seq (.ops [⟨some 17, .build [(.int .i64 0), (.int .i64 0), (.int .i64 0), (.int .i64 0), .nils] [], none, []⟩,
  ⟨some 6, .alloc (.agg [(.int .i64 0), (.int .i64 0), (.int .i64 0), (.int .i64 0), .nils]), none, []⟩,
  ⟨none, .store (some 5) (.t 6) (.t 17), none, []⟩] none [2, 4, 6])
(.seq (.seq (.ops [⟨some 18, .load none (.t 4), none, []⟩,
  ⟨some 19, .len .sl (.t 18), none, []⟩,
  ⟨some 20, .bin .gtr (.t 19) (.c (.int .i64 0)), none, []⟩] none [2, 4, 6, 20])
(.cond (.t 20)
  (.ops [⟨some 21, .call 224 [], none, []⟩,
    ⟨some 22, .mkfn 228 [(.t 4)], none, []⟩,
    ⟨some 23, .call 229 [(.t 21), (.t 22)], none, []⟩,
    ⟨some 24, .fldAddr 0 (.t 6), none, []⟩,
    ⟨none, .store none (.t 24) (.t 23), none, []⟩] none [2, 4, 6])
  (.skip)))
(.seq (.seq (.ops [⟨some 25, .fldAddr 0 (.t 6), none, []⟩,
  ⟨some 26, .load none (.t 25), none, []⟩,
  ⟨some 27, .bin .lss (.t 26) (.c (.int .i64 1)), none, []⟩,
  ⟨some 28, .move (.t 27), none, []⟩,
  ⟨some 29, .fldAddr 0 (.t 6), (some (28, false)), []⟩,
  ⟨some 30, .load none (.t 29), (some (28, false)), []⟩,
  ⟨some 31, .load none (.t 4), (some (28, false)), []⟩,
  ⟨some 32, .slSl 1 (.t 31) (some (.c (.int .i64 1))) none, (some (28, false)), []⟩,
  ⟨some 33, .call 230 [(.t 30), (.t 32)], (some (28, false)), []⟩,
  ⟨some 34, .not (.t 33), (some (28, false)), []⟩,
  ⟨some 35, .pick (.t 28) (.c (.bool true)) (.t 34), none, []⟩] (some [(0, []), (1, [0]), (2, [1, 0]), (3, [2, 1, 0]), (4, [3, 2, 1, 0]), (5, [4, 3, 2, 1, 0]), (6, [3, 2, 1, 0]), (7, [6, 3, 2, 1, 0]), (8, [5, 4, 3, 2, 1, 0, 7, 6]), (9, [8, 5, 4, 3, 2, 1, 0, 7, 6]), (10, [3, 2, 1, 0, 9, 8, 5, 4, 7, 6])]) [2, 4, 6, 35])
(.cond (.t 35)
  (.seq (.ops [⟨some 36, .build [(.int .i64 0), (.int .i64 0), (.int .i64 0), (.int .i64 0), .nils] [], none, []⟩,
    ⟨none, .store (some 5) (.t 2) (.t 36), none, []⟩,
    ⟨some 3, .move (.c (.int .i64 2)), none, []⟩] none [2, 3])
  (.ret))
  (.skip)))
(.seq (.ops [⟨some 37, .load none (.t 4), none, []⟩,
  ⟨some 38, .slSl 1 (.t 37) (some (.c (.int .i64 1))) none, none, []⟩,
  ⟨some 39, .build [.nils, (.int .i64 0)] [(0, 1, (.t 38))], none, []⟩,
  ⟨some 40, .box (.t 39), none, []⟩,
  ⟨some 7, .move (.t 40), none, []⟩] none [2, 6, 7])
(.seq (.seq (.ops [⟨some 41, .fldAddr 0 (.t 6), none, []⟩,
  ⟨some 42, .load none (.t 41), none, []⟩,
  ⟨some 43, .bin .neq (.t 42) (.c (.int .i64 7)), none, []⟩,
  ⟨some 44, .move (.t 43), none, []⟩,
  ⟨some 45, .fldAddr 0 (.t 6), (some (44, true)), []⟩,
  ⟨some 46, .load none (.t 45), (some (44, true)), []⟩,
  ⟨some 47, .bin .neq (.t 46) (.c (.int .i64 9)), (some (44, true)), []⟩,
  ⟨some 48, .pick (.t 44) (.t 47) (.c (.bool false)), none, []⟩] none [2, 6, 7, 48])
(.cond (.t 48)
  (.ops [⟨some 49, .move (.t 7), none, []⟩,
    ⟨some 50, .call 231 [(.t 49)], none, []⟩,
    ⟨some 51, .fldAddr 1 (.t 6), none, []⟩,
    ⟨none, .store none (.t 51) (.t 50), none, []⟩] none [2, 6, 7])
  (.skip)))
(.seq (.seq (.ops [⟨some 52, .fldAddr 0 (.t 6), none, []⟩,
  ⟨some 53, .load none (.t 52), none, []⟩,
  ⟨some 54, .bin .eql (.t 53) (.c (.int .i64 4)), none, []⟩] none [2, 6, 7, 54])
(.cond (.t 54)
  (.ops [⟨some 55, .move (.t 7), none, []⟩,
    ⟨some 56, .call 231 [(.t 55)], none, []⟩,
    ⟨some 57, .fldAddr 2 (.t 6), none, []⟩,
    ⟨none, .store none (.t 57) (.t 56), none, []⟩] none [2, 6, 7])
  (.skip)))
(.seq (.seq (.ops [⟨some 59, .fldAddr 0 (.t 6), none, []⟩,
  ⟨some 60, .load none (.t 59), none, []⟩,
  ⟨some 58, .call 224 [], none, [1]⟩,
  ⟨some 61, .idxAddr 5 (.t 58) (.t 60), none, []⟩,
  ⟨some 62, .fldAddr 3 (.t 61), none, []⟩,
  ⟨some 63, .load none (.t 62), none, []⟩] (some [(1, []), (2, [0]), (0, []), (3, [2, 1, 0]), (4, [3, 2, 1, 0]), (5, [4, 3, 2, 1, 0])]) [2, 6, 7, 63])
(.cond (.t 63)
  (.ops [⟨some 64, .move (.t 7), none, []⟩,
    ⟨some 65, .call 232 [(.t 64)], none, []⟩,
    ⟨some 66, .fldAddr 3 (.t 6), none, []⟩,
    ⟨none, .store none (.t 66) (.t 65), none, []⟩] none [2, 6, 7])
  (.skip)))
(.seq (.block 0 (.loop [2, 6, 7] (.seq (.seq (.ops [⟨some 67, .move (.t 7), none, []⟩,
      ⟨some 68, .nilck (.t 67), none, []⟩,
      ⟨some 69, .fldAddr 0 (.t 68), none, []⟩,
      ⟨some 70, .load none (.t 69), none, []⟩,
      ⟨some 71, .len .sl (.t 70), none, []⟩,
      ⟨some 72, .bin .gtr (.t 71) (.c (.int .i64 0)), none, []⟩] none [2, 6, 7, 72])
    (.cond (.t 72)
      (.skip)
      (.exit 0)))
    (.block 1 (.ops [⟨some 73, .fldAddr 4 (.t 6), none, []⟩,
        ⟨some 74, .load none (.t 73), none, []⟩,
        ⟨some 75, .move (.t 7), none, []⟩,
        ⟨some 76, .call 233 [(.t 75)], none, [1]⟩,
        ⟨some 77, .buildSl 1 [(.bool false), (.int .i64 0), (.int .i64 0)] [(0, 3, (.t 76))], none, []⟩,
        ⟨some 78, .append 3 (.t 74) (.t 77), none, []⟩,
        ⟨some 79, .fldAddr 4 (.t 6), none, []⟩,
        ⟨none, .store none (.t 79) (.t 78), none, []⟩] (some [(0, []), (1, [0]), (2, []), (3, [2]), (4, [3, 2]), (5, [1, 0, 4, 3, 2]), (6, [0, 1, 2, 3, 4, 5]), (7, [6, 0, 1, 2, 3, 4, 5])]) [2, 6, 7])))))
(.seq (.seq (.ops [⟨some 80, .move (.t 7), none, []⟩,
  ⟨some 81, .nilck (.t 80), none, []⟩,
  ⟨some 82, .fldAddr 1 (.t 81), none, []⟩,
  ⟨some 83, .load none (.t 82), none, []⟩,
  ⟨some 84, .bin .eql (.t 83) (.c (.int .i64 0)), none, []⟩] none [2, 6, 7, 84])
(.cond (.t 84)
  (.ops [⟨some 85, .move (.t 7), none, []⟩,
    ⟨some 86, .load (some 5) (.t 6), none, []⟩,
    ⟨some 87, .call 219 [(.t 86)], none, []⟩,
    ⟨some 88, .nilck (.t 85), none, []⟩,
    ⟨some 89, .fldAddr 1 (.t 88), none, []⟩,
    ⟨none, .store none (.t 89) (.t 87), none, []⟩] none [2, 6, 7])
  (.skip)))
(.seq (.seq (.ops [⟨some 90, .move (.t 7), none, []⟩,
  ⟨some 91, .nilck (.t 90), none, []⟩,
  ⟨some 92, .fldAddr 1 (.t 91), none, []⟩,
  ⟨some 93, .load none (.t 92), none, []⟩,
  ⟨some 94, .bin .neq (.t 93) (.c (.int .i64 0)), none, []⟩] none [2, 6, 7, 94])
(.cond (.t 94)
  (.seq (.ops [⟨some 95, .build [(.int .i64 0), (.int .i64 0), (.int .i64 0), (.int .i64 0), .nils] [], none, []⟩,
    ⟨some 96, .move (.t 7), none, []⟩,
    ⟨some 97, .nilck (.t 96), none, []⟩,
    ⟨some 98, .fldAddr 1 (.t 97), none, []⟩,
    ⟨some 99, .load none (.t 98), none, []⟩,
    ⟨none, .store (some 5) (.t 2) (.t 95), none, [4]⟩,
    ⟨some 3, .move (.t 99), none, []⟩] (some [(0, []), (1, []), (2, [1]), (3, [2, 1]), (4, [3, 2, 1]), (5, [0]), (6, [4, 3, 2, 1, 5, 0])]) [2, 3])
  (.ret))
  (.skip)))
(.seq (.ops [⟨some 100, .load (some 5) (.t 6), none, []⟩,
  ⟨none, .store (some 5) (.t 2) (.t 100), none, []⟩,
  ⟨some 3, .move (.c (.int .i64 0)), none, []⟩] none [2, 3])
(.ret)))))))))))))))
def f222 : SFunc := ⟨b222, [.cell (some 5) 2, .t 3]⟩

/-- watchbill/op.Same -/
def b51 : SCode := (
.seq (.ops [⟨some 2, .box (.t 0), none, []⟩,
  ⟨some 3, .box (.t 1), none, []⟩,
  ⟨some 4, .move (.c (.bool false)), none, []⟩] none [2, 3])
(.seq (.ops [⟨some 5, .fldAddr 0 (.t 2), none, []⟩,
  ⟨some 6, .load none (.t 5), none, []⟩,
  ⟨some 7, .fldAddr 0 (.t 3), none, []⟩,
  ⟨some 8, .load none (.t 7), none, []⟩,
  ⟨some 9, .bin .eql (.t 6) (.t 8), none, []⟩,
  ⟨some 10, .move (.t 9), none, []⟩,
  ⟨some 11, .fldAddr 1 (.t 2), (some (10, true)), []⟩,
  ⟨some 12, .load none (.t 11), (some (10, true)), []⟩,
  ⟨some 13, .fldAddr 1 (.t 3), (some (10, true)), []⟩,
  ⟨some 14, .load none (.t 13), (some (10, true)), []⟩,
  ⟨some 15, .bin .eql (.t 12) (.t 14), (some (10, true)), []⟩,
  ⟨some 16, .pick (.t 10) (.t 15) (.c (.bool false)), none, []⟩,
  ⟨some 17, .move (.t 16), none, []⟩,
  ⟨some 18, .fldAddr 2 (.t 2), (some (17, true)), []⟩,
  ⟨some 19, .load none (.t 18), (some (17, true)), []⟩,
  ⟨some 20, .fldAddr 2 (.t 3), (some (17, true)), []⟩,
  ⟨some 21, .load none (.t 20), (some (17, true)), []⟩,
  ⟨some 22, .bin .eql (.t 19) (.t 21), (some (17, true)), []⟩,
  ⟨some 23, .pick (.t 17) (.t 22) (.c (.bool false)), none, []⟩,
  ⟨some 24, .move (.t 23), none, []⟩,
  ⟨some 25, .fldAddr 3 (.t 2), (some (24, true)), []⟩,
  ⟨some 26, .load none (.t 25), (some (24, true)), []⟩,
  ⟨some 27, .fldAddr 3 (.t 3), (some (24, true)), []⟩,
  ⟨some 28, .load none (.t 27), (some (24, true)), []⟩,
  ⟨some 29, .bin .eql (.t 26) (.t 28), (some (24, true)), []⟩,
  ⟨some 30, .pick (.t 24) (.t 29) (.c (.bool false)), none, []⟩,
  ⟨some 31, .move (.t 30), none, []⟩,
  ⟨some 32, .fldAddr 4 (.t 2), (some (31, true)), []⟩,
  ⟨some 33, .load none (.t 32), (some (31, true)), []⟩,
  ⟨some 34, .fldAddr 4 (.t 3), (some (31, true)), []⟩,
  ⟨some 35, .load none (.t 34), (some (31, true)), []⟩,
  ⟨some 36, .call 66 [(.t 33), (.t 35)], (some (31, true)), []⟩,
  ⟨some 37, .pick (.t 31) (.t 36) (.c (.bool false)), none, []⟩,
  ⟨some 4, .move (.t 37), none, []⟩] none [4])
(.ret)))
def f51 : SFunc := ⟨b51, [.t 4]⟩

/-- watchbill/op.Waits -/
def b223 : SCode := (
.seq (.ops [⟨some 1, .box (.t 0), none, []⟩,
  ⟨some 2, .move (.c (.bool false)), none, []⟩] none [1])
(.seq (.ops [⟨some 3, .fldAddr 0 (.t 1), none, []⟩,
  ⟨some 4, .load none (.t 3), none, []⟩,
  ⟨some 5, .bin .eql (.t 4) (.c (.int .i64 4)), none, []⟩,
  ⟨some 6, .move (.t 5), none, []⟩,
  ⟨some 7, .fldAddr 0 (.t 1), (some (6, false)), []⟩,
  ⟨some 8, .load none (.t 7), (some (6, false)), []⟩,
  ⟨some 9, .bin .eql (.t 8) (.c (.int .i64 5)), (some (6, false)), []⟩,
  ⟨some 10, .pick (.t 6) (.c (.bool true)) (.t 9), none, []⟩,
  ⟨some 11, .move (.t 10), none, []⟩,
  ⟨some 12, .fldAddr 0 (.t 1), (some (11, false)), []⟩,
  ⟨some 13, .load none (.t 12), (some (11, false)), []⟩,
  ⟨some 14, .bin .eql (.t 13) (.c (.int .i64 7)), (some (11, false)), []⟩,
  ⟨some 15, .pick (.t 11) (.c (.bool true)) (.t 14), none, []⟩,
  ⟨some 16, .move (.t 15), none, []⟩,
  ⟨some 17, .fldAddr 3 (.t 1), (some (16, true)), []⟩,
  ⟨some 18, .load none (.t 17), (some (16, true)), []⟩,
  ⟨some 19, .bin .neq (.t 18) (.c (.int .i64 0)), (some (16, true)), []⟩,
  ⟨some 20, .pick (.t 16) (.t 19) (.c (.bool false)), none, []⟩,
  ⟨some 2, .move (.t 20), none, []⟩] none [2])
(.ret)))
def f223 : SFunc := ⟨b223, [.t 2]⟩

/-- watchbill/op.kinds -/
def b224 : SCode := (
.seq (.ops [⟨some 0, .move (.c .nils), none, []⟩] none [])
(.seq (.ops [⟨some 1, .build [(.str []), (.int .i64 0), (.int .i64 0), (.bool false), (.bool false)] [], none, []⟩,
  ⟨some 2, .build [(.str []), (.int .i64 0), (.int .i64 0), (.bool false), (.bool false)] [(0, 1, (.c (.str [114, 117, 110]))), (1, 1, (.c (.int .i64 1))), (2, 1, (.c (.int .i64 1000))), (3, 1, (.c (.bool false))), (4, 1, (.c (.bool false)))], none, []⟩,
  ⟨some 3, .build [(.str []), (.int .i64 0), (.int .i64 0), (.bool false), (.bool false)] [(0, 1, (.c (.str [108, 111, 99, 107]))), (1, 1, (.c (.int .i64 0))), (2, 1, (.c (.int .i64 7))), (3, 1, (.c (.bool false))), (4, 1, (.c (.bool false)))], none, []⟩,
  ⟨some 4, .build [(.str []), (.int .i64 0), (.int .i64 0), (.bool false), (.bool false)] [(0, 1, (.c (.str [117, 110, 108, 111, 99, 107]))), (1, 1, (.c (.int .i64 0))), (2, 1, (.c (.int .i64 7))), (3, 1, (.c (.bool false))), (4, 1, (.c (.bool false)))], none, []⟩,
  ⟨some 5, .build [(.str []), (.int .i64 0), (.int .i64 0), (.bool false), (.bool false)] [(0, 1, (.c (.str [115, 101, 110, 100]))), (1, 1, (.c (.int .i64 0))), (2, 1, (.c (.int .i64 7))), (3, 1, (.c (.bool true))), (4, 1, (.c (.bool false)))], none, []⟩,
  ⟨some 6, .build [(.str []), (.int .i64 0), (.int .i64 0), (.bool false), (.bool false)] [(0, 1, (.c (.str [114, 101, 99, 118]))), (1, 1, (.c (.int .i64 0))), (2, 1, (.c (.int .i64 7))), (3, 1, (.c (.bool true))), (4, 1, (.c (.bool false)))], none, []⟩,
  ⟨some 7, .build [(.str []), (.int .i64 0), (.int .i64 0), (.bool false), (.bool false)] [(0, 1, (.c (.str [99, 108, 111, 115, 101]))), (1, 1, (.c (.int .i64 0))), (2, 1, (.c (.int .i64 7))), (3, 1, (.c (.bool false))), (4, 1, (.c (.bool false)))], none, []⟩,
  ⟨some 8, .build [(.str []), (.int .i64 0), (.int .i64 0), (.bool false), (.bool false)] [(0, 1, (.c (.str [115, 101, 108, 101, 99, 116]))), (1, 1, (.c (.int .i64 0))), (2, 1, (.c (.int .i64 0))), (3, 1, (.c (.bool true))), (4, 1, (.c (.bool true)))], none, []⟩,
  ⟨some 9, .build [(.str []), (.int .i64 0), (.int .i64 0), (.bool false), (.bool false)] [(0, 1, (.c (.str [108, 111, 111, 112]))), (1, 1, (.c (.int .i64 1))), (2, 1, (.c (.int .i64 32))), (3, 1, (.c (.bool false))), (4, 1, (.c (.bool false)))], none, []⟩,
  ⟨some 10, .build [(.str []), (.int .i64 0), (.int .i64 0), (.bool false), (.bool false)] [(0, 1, (.c (.str [101, 110, 100]))), (1, 1, (.c (.int .i64 0))), (2, 1, (.c (.int .i64 0))), (3, 1, (.c (.bool false))), (4, 1, (.c (.bool false)))], none, []⟩,
  ⟨some 11, .buildSl 10 [(.str []), (.int .i64 0), (.int .i64 0), (.bool false), (.bool false), (.str []), (.int .i64 0), (.int .i64 0), (.bool false), (.bool false), (.str []), (.int .i64 0), (.int .i64 0), (.bool false), (.bool false), (.str []), (.int .i64 0), (.int .i64 0), (.bool false), (.bool false), (.str []), (.int .i64 0), (.int .i64 0), (.bool false), (.bool false), (.str []), (.int .i64 0), (.int .i64 0), (.bool false), (.bool false), (.str []), (.int .i64 0), (.int .i64 0), (.bool false), (.bool false), (.str []), (.int .i64 0), (.int .i64 0), (.bool false), (.bool false), (.str []), (.int .i64 0), (.int .i64 0), (.bool false), (.bool false), (.str []), (.int .i64 0), (.int .i64 0), (.bool false), (.bool false)] [(0, 5, (.t 1)), (5, 5, (.t 2)), (10, 5, (.t 3)), (15, 5, (.t 4)), (20, 5, (.t 5)), (25, 5, (.t 6)), (30, 5, (.t 7)), (35, 5, (.t 8)), (40, 5, (.t 9)), (45, 5, (.t 10))], none, []⟩,
  ⟨some 0, .move (.t 11), none, []⟩] none [0])
(.ret)))
def f224 : SFunc := ⟨b224, [.t 0]⟩

/-- watchbill/op.cases -/
def b225 : SCode := (
.seq (.ops [⟨some 2, .move (.c (.int .i64 0)), none, []⟩] none [0])
(.seq (.seq (.ops [⟨some 5, .move (.t 0), none, []⟩,
  ⟨some 6, .len .sl (.t 5), none, []⟩,
  ⟨some 7, .bin .lss (.t 6) (.c (.int .i64 1)), none, []⟩,
  ⟨some 8, .move (.t 7), none, []⟩,
  ⟨some 9, .move (.t 0), (some (8, false)), []⟩,
  ⟨some 10, .len .sl (.t 9), (some (8, false)), []⟩,
  ⟨some 11, .bin .gtr (.t 10) (.c (.int .i64 4)), (some (8, false)), []⟩,
  ⟨some 12, .pick (.t 8) (.c (.bool true)) (.t 11), none, []⟩] none [0, 12])
(.cond (.t 12)
  (.seq (.ops [⟨some 2, .move (.c (.int .i64 18)), none, []⟩] none [2])
  (.ret))
  (.skip)))
(.seq (.seq (.ops [⟨some 13, .move (.t 0), none, []⟩,
  ⟨some 14, .len .sl (.t 13), none, []⟩,
  ⟨some 15, .move (.c (.int .i64 0)), none, []⟩] none [0, 13, 14, 15])
(.block 0 (.loop [0, 13, 14, 15] (.seq (.ops [⟨some 16, .bin .lss (.t 15) (.t 14), none, []⟩] none [0, 13, 14, 15, 16])
    (.seq (.cond (.t 16)
      (.skip)
      (.exit 0))
    (.seq (.block 1 (.seq (.ops [⟨some 17, .move (.t 15), none, []⟩,
        ⟨some 18, .idxAddr 3 (.t 13) (.t 15), none, []⟩,
        ⟨some 19, .load (some 3) (.t 18), none, []⟩,
        ⟨some 4, .alloc (.agg [(.bool false), (.int .i64 0), (.int .i64 0)]), none, []⟩,
        ⟨some 3, .move (.t 17), none, []⟩,
        ⟨none, .store (some 3) (.t 4) (.t 19), none, []⟩] none [0, 3, 4, 13, 14, 15])
      (.seq (.seq (.ops [⟨some 20, .fldAddr 1 (.t 4), none, []⟩,
        ⟨some 21, .load none (.t 20), none, []⟩,
        ⟨some 22, .bin .lss (.t 21) (.c (.int .i64 0)), none, []⟩,
        ⟨some 23, .move (.t 22), none, []⟩,
        ⟨some 24, .fldAddr 1 (.t 4), (some (23, false)), []⟩,
        ⟨some 25, .load none (.t 24), (some (23, false)), []⟩,
        ⟨some 26, .bin .geq (.t 25) (.c (.int .i64 8)), (some (23, false)), []⟩,
        ⟨some 27, .pick (.t 23) (.c (.bool true)) (.t 26), none, []⟩,
        ⟨some 28, .move (.t 27), none, []⟩,
        ⟨some 29, .fldAddr 0 (.t 4), (some (28, false)), []⟩,
        ⟨some 30, .load none (.t 29), (some (28, false)), []⟩,
        ⟨some 31, .not (.t 30), (some (28, false)), []⟩,
        ⟨some 32, .move (.t 31), (some (28, false)), []⟩,
        ⟨some 33, .fldAddr 2 (.t 4), (some (32, true)), []⟩,
        ⟨some 34, .load none (.t 33), (some (32, true)), []⟩,
        ⟨some 35, .bin .neq (.t 34) (.c (.int .i64 0)), (some (32, true)), []⟩,
        ⟨some 36, .pick (.t 32) (.t 35) (.c (.bool false)), (some (28, false)), []⟩,
        ⟨some 37, .pick (.t 28) (.c (.bool true)) (.t 36), none, []⟩] none [0, 3, 4, 13, 14, 15, 37])
      (.cond (.t 37)
        (.seq (.ops [⟨some 2, .move (.c (.int .i64 1)), none, []⟩] none [2])
        (.ret))
        (.skip)))
      (.seq (.ops [⟨some 38, .move (.t 0), none, []⟩,
        ⟨some 39, .move (.t 3), none, []⟩,
        ⟨some 40, .slSl 3 (.t 38) none (some (.t 39)), none, []⟩,
        ⟨some 41, .mkfn 234 [(.t 4)], none, []⟩,
        ⟨some 42, .call 235 [(.t 40), (.t 41)], none, []⟩] none [0, 13, 14, 15, 42])
      (.cond (.t 42)
        (.seq (.ops [⟨some 2, .move (.c (.int .i64 6)), none, []⟩] none [2])
        (.ret))
        (.skip))))))
    (.ops [⟨some 43, .bin .add (.t 15) (.c (.int .i64 1)), none, []⟩,
      ⟨some 15, .move (.t 43), none, []⟩] none [0, 13, 14, 15])))))))
(.seq (.ops [⟨some 2, .move (.c (.int .i64 0)), none, []⟩] none [2])
(.ret)))))
def f225 : SFunc := ⟨b225, [.t 2]⟩

/-- watchbill/word.Text -/
def b99 : SCode := (
.seq (.ops [⟨some 2, .move (.c (.str [])), none, []⟩] none [0])
(.seq (.ops [⟨some 3, .move (.t 0), none, []⟩,
  ⟨some 4, .call 126 [(.t 3), (.c (.int .i64 10))], none, []⟩,
  ⟨some 2, .move (.t 4), none, []⟩] none [2])
(.ret)))
def f99 : SFunc := ⟨b99, [.t 2]⟩

/-- watchbill/op.wait -/
def b226 : SCode := (
.seq (.ops [⟨some 2, .move (.c (.str [])), none, []⟩] none [0])
(.seq (.seq (.ops [⟨some 3, .move (.t 0), none, []⟩,
  ⟨some 4, .bin .eql (.t 3) (.c (.int .i64 (-1))), none, []⟩] none [0, 4])
(.cond (.t 4)
  (.seq (.ops [⟨some 2, .move (.c (.str [45])), none, []⟩] none [2])
  (.ret))
  (.skip)))
(.seq (.ops [⟨some 5, .move (.t 0), none, []⟩,
  ⟨some 6, .call 99 [(.t 5)], none, []⟩,
  ⟨some 2, .move (.t 6), none, []⟩] none [2])
(.ret))))
def f226 : SFunc := ⟨b226, [.t 2]⟩

/-- watchbill/op.told -/
def b227 : SCode := (
.seq (.ops [⟨some 1, .box (.t 0), none, []⟩,
  ⟨some 2, .move (.c .nils), none, []⟩] none [1])
(.seq (.seq (.ops [⟨some 3, .fldAddr 0 (.t 1), none, []⟩,
  ⟨some 4, .load none (.t 3), none, []⟩] none [1, 4])
(.cond (.t 4)
  (.seq (.ops [⟨some 5, .fldAddr 1 (.t 1), none, []⟩,
    ⟨some 6, .load none (.t 5), none, []⟩,
    ⟨some 8, .fldAddr 2 (.t 1), none, []⟩,
    ⟨some 9, .load none (.t 8), none, []⟩,
    ⟨some 7, .call 99 [(.t 6)], none, [3]⟩,
    ⟨some 10, .call 99 [(.t 9)], none, []⟩,
    ⟨some 11, .buildSl 3 [(.str []), (.str []), (.str [])] [(0, 1, (.c (.str [115, 101, 110, 100]))), (1, 1, (.t 7)), (2, 1, (.t 10))], none, []⟩,
    ⟨some 2, .move (.t 11), none, []⟩] (some [(0, []), (1, [0]), (3, []), (4, [2]), (2, [1, 0]), (5, [3, 2, 4, 1, 0]), (6, [4, 1, 0, 5, 3, 2]), (7, [6, 4, 1, 0, 5, 3, 2])]) [2])
  (.ret))
  (.skip)))
(.seq (.ops [⟨some 12, .fldAddr 1 (.t 1), none, []⟩,
  ⟨some 13, .load none (.t 12), none, []⟩,
  ⟨some 14, .call 99 [(.t 13)], none, []⟩,
  ⟨some 15, .buildSl 2 [(.str []), (.str [])] [(0, 1, (.c (.str [114, 101, 99, 118]))), (1, 1, (.t 14))], none, []⟩,
  ⟨some 2, .move (.t 15), none, []⟩] none [2])
(.ret))))
def f227 : SFunc := ⟨b227, [.t 2]⟩

/-- watchbill/word.Split -/
def b92 : SCode := (
.seq (.ops [⟨some 2, .move (.c .nils), none, []⟩,
  ⟨some 3, .move (.c (.int .i64 0)), none, []⟩] none [0])
(.seq (.seq (.ops [⟨some 8, .move (.t 0), none, []⟩,
  ⟨some 9, .bin .eql (.t 8) (.c (.str [])), none, []⟩] none [0, 9])
(.cond (.t 9)
  (.seq (.ops [⟨some 2, .move (.c .nils), none, []⟩,
    ⟨some 3, .move (.c (.int .i64 0)), none, []⟩] none [2, 3])
  (.ret))
  (.skip)))
(.seq (.ops [⟨some 10, .move (.t 0), none, []⟩,
  ⟨some 11, .call 122 [(.t 10), (.c (.str [32]))], none, []⟩,
  ⟨some 4, .move (.t 11), none, []⟩] none [4])
(.seq (.skip)
(.seq (.seq (.ops [⟨some 12, .move (.t 4), none, []⟩,
  ⟨some 13, .len .sl (.t 12), none, []⟩,
  ⟨some 14, .move (.c (.int .i64 0)), none, []⟩] none [4, 12, 13, 14])
(.block 0 (.loop [4, 12, 13, 14] (.seq (.ops [⟨some 15, .bin .lss (.t 14) (.t 13), none, []⟩] none [4, 12, 13, 14, 15])
    (.seq (.cond (.t 15)
      (.skip)
      (.exit 0))
    (.seq (.block 1 (.seq (.ops [⟨some 16, .idxAddr 1 (.t 12) (.t 14), none, []⟩,
        ⟨some 17, .load none (.t 16), none, []⟩,
        ⟨some 6, .move (.t 17), none, []⟩] none [4, 6, 12, 13, 14])
      (.seq (.seq (.ops [⟨some 18, .move (.t 6), none, []⟩,
        ⟨some 19, .len .str (.t 18), none, []⟩,
        ⟨some 20, .move (.c (.int .i64 0)), none, []⟩] none [4, 6, 12, 13, 14, 19, 20])
      (.block 2 (.loop [4, 6, 12, 13, 14, 19, 20] (.seq (.ops [⟨some 21, .bin .lss (.t 20) (.t 19), none, []⟩] none [4, 6, 12, 13, 14, 19, 20, 21])
          (.seq (.cond (.t 21)
            (.skip)
            (.exit 2))
          (.seq (.block 3 (.seq (.ops [⟨some 22, .move (.t 20), none, []⟩,
              ⟨some 7, .move (.t 22), none, []⟩] none [4, 6, 7, 12, 13, 14, 19, 20])
            (.seq (.ops [⟨some 23, .move (.t 6), none, []⟩,
              ⟨some 24, .move (.t 7), none, []⟩,
              ⟨some 25, .idxStr (.t 23) (.t 24), none, []⟩,
              ⟨some 26, .bin .lss (.t 25) (.c (.int .u8 33)), none, []⟩,
              ⟨some 27, .move (.t 26), none, []⟩,
              ⟨some 28, .move (.t 6), (some (27, false)), []⟩,
              ⟨some 29, .move (.t 7), (some (27, false)), []⟩,
              ⟨some 30, .idxStr (.t 28) (.t 29), (some (27, false)), []⟩,
              ⟨some 31, .bin .gtr (.t 30) (.c (.int .u8 126)), (some (27, false)), []⟩,
              ⟨some 32, .pick (.t 27) (.c (.bool true)) (.t 31), none, []⟩] none [4, 6, 12, 13, 14, 19, 20, 32])
            (.cond (.t 32)
              (.seq (.ops [⟨some 2, .move (.c .nils), none, []⟩,
                ⟨some 3, .move (.c (.int .i64 2)), none, []⟩] none [2, 3])
              (.ret))
              (.skip)))))
          (.ops [⟨some 33, .bin .add (.t 20) (.c (.int .i64 1)), none, []⟩,
            ⟨some 20, .move (.t 33), none, []⟩] none [4, 6, 12, 13, 14, 19, 20])))))))
      (.seq (.seq (.ops [⟨some 34, .move (.t 6), none, []⟩,
        ⟨some 35, .bin .neq (.t 34) (.c (.str [])), none, []⟩] none [4, 12, 13, 14, 35])
      (.cond (.t 35)
        (.exit 1)
        (.skip)))
      (.seq (.ops [⟨some 2, .move (.c .nils), none, []⟩,
        ⟨some 3, .move (.c (.int .i64 2)), none, []⟩] none [2, 3])
      (.ret))))))
    (.ops [⟨some 36, .bin .add (.t 14) (.c (.int .i64 1)), none, []⟩,
      ⟨some 14, .move (.t 36), none, []⟩] none [4, 12, 13, 14])))))))
(.seq (.ops [⟨some 37, .move (.t 4), none, []⟩,
  ⟨some 2, .move (.t 37), none, []⟩,
  ⟨some 3, .move (.c (.int .i64 0)), none, []⟩] none [2, 3])
(.ret)))))))
def f92 : SFunc := ⟨b92, [.t 2, .t 3]⟩

/-- slices.IndexFunc[[]watchbill/op.kind,watchbill/op.kind] -/
def b229 : SCode := (
.seq (.ops [⟨some 4, .move (.c (.int .i64 0)), none, []⟩] none [0, 1])
(.seq (.seq (.ops [⟨some 6, .move (.t 0), none, []⟩,
  ⟨some 7, .len .sl (.t 6), none, []⟩,
  ⟨some 8, .move (.c (.int .i64 0)), none, []⟩] none [0, 1, 7, 8])
(.block 0 (.loop [0, 1, 7, 8] (.seq (.ops [⟨some 9, .bin .lss (.t 8) (.t 7), none, []⟩] none [0, 1, 7, 8, 9])
    (.seq (.cond (.t 9)
      (.skip)
      (.exit 0))
    (.seq (.block 1 (.seq (.ops [⟨some 10, .move (.t 8), none, []⟩,
        ⟨some 5, .move (.t 10), none, []⟩] none [0, 1, 5, 7, 8])
      (.seq (.ops [⟨some 11, .move (.t 1), none, []⟩,
        ⟨some 12, .move (.t 0), none, []⟩,
        ⟨some 13, .move (.t 5), none, []⟩,
        ⟨some 14, .idxAddr 5 (.t 12) (.t 13), none, []⟩,
        ⟨some 15, .load (some 5) (.t 14), none, []⟩,
        ⟨some 16, .callv (.t 11) [(.t 15)], none, []⟩] none [0, 1, 5, 7, 8, 16])
      (.cond (.t 16)
        (.seq (.ops [⟨some 17, .move (.t 5), none, []⟩,
          ⟨some 4, .move (.t 17), none, []⟩] none [4])
        (.ret))
        (.skip)))))
    (.ops [⟨some 18, .bin .add (.t 8) (.c (.int .i64 1)), none, []⟩,
      ⟨some 8, .move (.t 18), none, []⟩] none [0, 1, 7, 8])))))))
(.seq (.ops [⟨some 4, .move (.c (.int .i64 (-1))), none, []⟩] none [4])
(.ret))))
def f229 : SFunc := ⟨b229, [.t 4]⟩

/-- watchbill/op.Parse$1 -/
def b228 : SCode := (
.seq (.ops [⟨some 2, .box (.t 0), none, []⟩,
  ⟨some 3, .move (.c (.bool false)), none, []⟩] none [1, 2])
(.seq (.ops [⟨some 4, .fldAddr 0 (.t 2), none, []⟩,
  ⟨some 5, .load none (.t 4), none, []⟩,
  ⟨some 6, .load none (.t 1), none, []⟩,
  ⟨some 7, .idxAddr 1 (.t 6) (.c (.int .i64 0)), none, []⟩,
  ⟨some 8, .load none (.t 7), none, []⟩,
  ⟨some 9, .bin .eql (.t 5) (.t 8), none, []⟩,
  ⟨some 10, .move (.t 9), none, []⟩,
  ⟨some 11, .load none (.t 1), (some (10, true)), []⟩,
  ⟨some 12, .idxAddr 1 (.t 11) (.c (.int .i64 0)), (some (10, true)), []⟩,
  ⟨some 13, .load none (.t 12), (some (10, true)), []⟩,
  ⟨some 14, .bin .neq (.t 13) (.c (.str [])), (some (10, true)), []⟩,
  ⟨some 15, .pick (.t 10) (.t 14) (.c (.bool false)), none, []⟩,
  ⟨some 3, .move (.t 15), none, []⟩] (some [(0, []), (1, [0]), (2, []), (3, [2]), (4, [3, 2]), (5, [1, 0, 4, 3, 2]), (6, [5, 1, 0, 4, 3, 2]), (7, [6, 5, 1, 0, 4, 3, 2]), (8, [7, 6, 5, 1, 0, 4, 3, 2]), (9, [8, 7, 6, 5, 1, 0, 4, 3, 2]), (10, [9, 8, 7, 6, 5, 1, 0, 4, 3, 2]), (11, [6, 5, 1, 0, 4, 3, 2, 10, 9, 8, 7]), (12, [11, 6, 5, 1, 0, 4, 3, 2, 10, 9, 8, 7])]) [3])
(.ret)))
def f228 : SFunc := ⟨b228, [.t 3]⟩

/-- watchbill/op.count -/
def b230 : SCode := (
.seq (.ops [⟨some 4, .move (.c (.bool false)), none, []⟩] none [0, 1])
(.seq (.seq (.ops [⟨some 5, .move (.t 0), none, []⟩] none [1, 5])
(.block 0 (.seq (.ops [⟨some 7, .bin .eql (.t 5) (.c (.int .i64 4)), none, []⟩,
    ⟨some 6, .move (.t 7), none, []⟩] none [1, 5, 6])
  (.cond (.t 6)
    (.seq (.ops [⟨some 8, .move (.t 1), none, []⟩,
      ⟨some 9, .len .sl (.t 8), none, []⟩,
      ⟨some 10, .bin .eql (.t 9) (.c (.int .i64 3)), none, []⟩,
      ⟨some 4, .move (.t 10), none, []⟩] none [4])
    (.ret))
    (.seq (.ops [⟨some 12, .bin .eql (.t 5) (.c (.int .i64 5)), none, []⟩,
      ⟨some 11, .move (.t 12), none, []⟩] none [1, 5, 11])
    (.cond (.t 11)
      (.seq (.ops [⟨some 13, .move (.t 1), none, []⟩,
        ⟨some 14, .len .sl (.t 13), none, []⟩,
        ⟨some 15, .bin .eql (.t 14) (.c (.int .i64 2)), none, []⟩,
        ⟨some 4, .move (.t 15), none, []⟩] none [4])
      (.ret))
      (.seq (.ops [⟨some 17, .bin .eql (.t 5) (.c (.int .i64 7)), none, []⟩,
        ⟨some 16, .move (.t 17), none, []⟩] none [1, 5, 16])
      (.cond (.t 16)
        (.seq (.ops [⟨some 18, .move (.t 1), none, []⟩,
          ⟨some 19, .len .sl (.t 18), none, []⟩,
          ⟨some 20, .bin .geq (.t 19) (.c (.int .i64 1)), none, []⟩,
          ⟨some 21, .move (.t 20), none, []⟩,
          ⟨some 22, .move (.t 1), (some (21, true)), []⟩,
          ⟨some 23, .slSl 1 (.t 22) (some (.c (.int .i64 1))) none, (some (21, true)), []⟩,
          ⟨some 24, .call 236 [(.t 23)], (some (21, true)), []⟩,
          ⟨some 25, .pick (.t 21) (.t 24) (.c (.bool false)), none, []⟩,
          ⟨some 4, .move (.t 25), none, []⟩] none [4])
        (.ret))
        (.seq (.ops [⟨some 27, .bin .eql (.t 5) (.c (.int .i64 9)), none, []⟩,
          ⟨some 26, .move (.t 27), none, []⟩] none [1, 26])
        (.cond (.t 26)
          (.seq (.ops [⟨some 28, .move (.t 1), none, []⟩,
            ⟨some 29, .len .sl (.t 28), none, []⟩,
            ⟨some 30, .bin .eql (.t 29) (.c (.int .i64 0)), none, []⟩,
            ⟨some 4, .move (.t 30), none, []⟩] none [4])
          (.ret))
          (.skip)))))))))))
(.seq (.ops [⟨some 31, .move (.t 1), none, []⟩,
  ⟨some 32, .len .sl (.t 31), none, []⟩,
  ⟨some 33, .bin .eql (.t 32) (.c (.int .i64 1)), none, []⟩,
  ⟨some 4, .move (.t 33), none, []⟩] none [4])
(.ret))))
def f230 : SFunc := ⟨b230, [.t 4]⟩

/-- (*watchbill/op.reader).number -/
def b231 : SCode := (
.seq (.ops [⟨some 2, .move (.c (.int .i64 0)), none, []⟩] none [0])
(.seq (.ops [⟨some 6, .move (.t 0), none, []⟩,
  ⟨some 7, .call 237 [(.t 6)], none, []⟩,
  ⟨some 3, .move (.t 7), none, []⟩] none [0, 3])
(.seq (.seq (.ops [⟨some 8, .move (.t 0), none, []⟩,
  ⟨some 9, .nilck (.t 8), none, []⟩,
  ⟨some 10, .fldAddr 1 (.t 9), none, []⟩,
  ⟨some 11, .load none (.t 10), none, []⟩,
  ⟨some 12, .bin .neq (.t 11) (.c (.int .i64 0)), none, []⟩] none [0, 3, 12])
(.cond (.t 12)
  (.seq (.ops [⟨some 2, .move (.c (.int .i64 0)), none, []⟩] none [2])
  (.ret))
  (.skip)))
(.seq (.ops [⟨some 14, .move (.t 3), none, []⟩,
  ⟨some 15, .call 94 [(.t 14)], none, []⟩,
  ⟨some 13, .move (.t 15), none, []⟩,
  ⟨some 16, .ext 0 (.t 13), none, []⟩,
  ⟨some 17, .ext 1 (.t 13), none, []⟩,
  ⟨some 4, .move (.t 16), none, []⟩,
  ⟨some 5, .move (.t 17), none, []⟩] none [0, 4, 5])
(.seq (.ops [⟨some 18, .move (.t 0), none, []⟩,
  ⟨some 19, .move (.t 5), none, []⟩,
  ⟨some 20, .nilck (.t 18), none, []⟩,
  ⟨some 21, .fldAddr 1 (.t 20), none, []⟩,
  ⟨none, .store none (.t 21) (.t 19), none, []⟩] none [4])
(.seq (.ops [⟨some 22, .move (.t 4), none, []⟩,
  ⟨some 2, .move (.t 22), none, []⟩] none [2])
(.ret)))))))
def f231 : SFunc := ⟨b231, [.t 2]⟩

/-- (*watchbill/op.reader).wait -/
def b232 : SCode := (
.seq (.ops [⟨some 2, .move (.c (.int .i64 0)), none, []⟩] none [0])
(.seq (.seq (.ops [⟨some 4, .move (.t 0), none, []⟩,
  ⟨some 5, .nilck (.t 4), none, []⟩,
  ⟨some 6, .fldAddr 1 (.t 5), none, []⟩,
  ⟨some 7, .load none (.t 6), none, []⟩,
  ⟨some 8, .bin .neq (.t 7) (.c (.int .i64 0)), none, []⟩] none [0, 8])
(.cond (.t 8)
  (.seq (.ops [⟨some 9, .move (.t 0), none, []⟩,
    ⟨some 10, .call 237 [(.t 9)], none, []⟩] none [])
  (.seq (.ops [⟨some 2, .move (.c (.int .i64 0)), none, []⟩] none [2])
  (.ret)))
  (.skip)))
(.seq (.seq (.ops [⟨some 11, .move (.t 0), none, []⟩,
  ⟨some 12, .nilck (.t 11), none, []⟩,
  ⟨some 13, .fldAddr 0 (.t 12), none, []⟩,
  ⟨some 14, .load none (.t 13), none, []⟩,
  ⟨some 15, .idxAddr 1 (.t 14) (.c (.int .i64 0)), none, []⟩,
  ⟨some 16, .load none (.t 15), none, []⟩,
  ⟨some 17, .bin .eql (.t 16) (.c (.str [45])), none, []⟩] none [0, 17])
(.cond (.t 17)
  (.seq (.ops [⟨some 18, .move (.t 0), none, []⟩,
    ⟨some 19, .call 237 [(.t 18)], none, []⟩] none [])
  (.seq (.ops [⟨some 2, .move (.c (.int .i64 (-1))), none, []⟩] none [2])
  (.ret)))
  (.skip)))
(.seq (.ops [⟨some 20, .move (.t 0), none, []⟩,
  ⟨some 21, .call 231 [(.t 20)], none, []⟩,
  ⟨some 3, .move (.t 21), none, []⟩] none [0, 3])
(.seq (.seq (.ops [⟨some 22, .move (.t 0), none, []⟩,
  ⟨some 23, .nilck (.t 22), none, []⟩,
  ⟨some 24, .fldAddr 1 (.t 23), none, []⟩,
  ⟨some 25, .load none (.t 24), none, []⟩,
  ⟨some 26, .bin .eql (.t 25) (.c (.int .i64 0)), none, []⟩,
  ⟨some 27, .move (.t 26), none, []⟩,
  ⟨some 28, .move (.t 3), (some (27, true)), []⟩,
  ⟨some 29, .bin .lss (.t 28) (.c (.int .i64 0)), (some (27, true)), []⟩,
  ⟨some 30, .pick (.t 27) (.t 29) (.c (.bool false)), none, []⟩] none [0, 3, 30])
(.cond (.t 30)
  (.ops [⟨some 31, .move (.t 0), none, []⟩,
    ⟨some 32, .nilck (.t 31), none, []⟩,
    ⟨some 33, .fldAddr 1 (.t 32), none, []⟩,
    ⟨none, .store none (.t 33) (.c (.int .i64 2)), none, []⟩] none [3])
  (.skip)))
(.seq (.ops [⟨some 34, .move (.t 3), none, []⟩,
  ⟨some 2, .move (.t 34), none, []⟩] none [2])
(.ret)))))))
def f232 : SFunc := ⟨b232, [.t 2]⟩

/-- (*watchbill/op.reader).one -/
def b233 : SCode := (
.seq (.ops [⟨some 2, .alloc (.agg [(.bool false), (.int .i64 0), (.int .i64 0)]), none, []⟩] none [0, 2])
(.seq (.ops [⟨some 5, .move (.t 0), none, []⟩,
  ⟨some 6, .call 237 [(.t 5)], none, []⟩,
  ⟨some 7, .bin .eql (.t 6) (.c (.str [115, 101, 110, 100])), none, []⟩,
  ⟨some 8, .build [(.bool false), (.int .i64 0), (.int .i64 0)] [(0, 1, (.t 7))], none, []⟩,
  ⟨some 3, .alloc (.agg [(.bool false), (.int .i64 0), (.int .i64 0)]), none, []⟩,
  ⟨none, .store (some 3) (.t 3) (.t 8), none, []⟩] none [0, 2, 3])
(.seq (.ops [⟨some 9, .move (.t 0), none, []⟩,
  ⟨some 10, .call 231 [(.t 9)], none, []⟩,
  ⟨some 4, .move (.t 10), none, []⟩] none [0, 2, 3, 4])
(.seq (.ops [⟨some 11, .move (.t 4), none, []⟩,
  ⟨some 12, .mn [(.t 11), (.c (.int .i64 8))], none, []⟩,
  ⟨some 13, .mx [(.t 12), (.c (.int .i64 (-1)))], none, []⟩,
  ⟨some 14, .fldAddr 1 (.t 3), none, []⟩,
  ⟨none, .store none (.t 14) (.t 13), none, []⟩] none [0, 2, 3])
(.seq (.seq (.ops [⟨some 15, .fldAddr 0 (.t 3), none, []⟩,
  ⟨some 16, .load none (.t 15), none, []⟩] none [0, 2, 3, 16])
(.cond (.t 16)
  (.ops [⟨some 17, .move (.t 0), none, []⟩,
    ⟨some 18, .call 231 [(.t 17)], none, []⟩,
    ⟨some 19, .fldAddr 2 (.t 3), none, []⟩,
    ⟨none, .store none (.t 19) (.t 18), none, []⟩] none [2, 3])
  (.skip)))
(.seq (.ops [⟨some 20, .load (some 3) (.t 3), none, []⟩,
  ⟨none, .store (some 3) (.t 2) (.t 20), none, []⟩] none [2])
(.ret)))))))
def f233 : SFunc := ⟨b233, [.cell (some 3) 2]⟩

/-- slices.Equal[[]watchbill/op.Case,watchbill/op.Case] -/
def b66 : SCode := (
.seq (.ops [⟨some 4, .move (.c (.bool false)), none, []⟩] none [0, 1])
(.seq (.seq (.ops [⟨some 6, .move (.t 0), none, []⟩,
  ⟨some 7, .len .sl (.t 6), none, []⟩,
  ⟨some 8, .move (.t 1), none, []⟩,
  ⟨some 9, .len .sl (.t 8), none, []⟩,
  ⟨some 10, .bin .neq (.t 7) (.t 9), none, []⟩] none [0, 1, 10])
(.cond (.t 10)
  (.seq (.ops [⟨some 4, .move (.c (.bool false)), none, []⟩] none [4])
  (.ret))
  (.skip)))
(.seq (.seq (.ops [⟨some 11, .move (.t 0), none, []⟩,
  ⟨some 12, .len .sl (.t 11), none, []⟩,
  ⟨some 13, .move (.c (.int .i64 0)), none, []⟩] none [0, 1, 12, 13])
(.block 0 (.loop [0, 1, 12, 13] (.seq (.ops [⟨some 14, .bin .lss (.t 13) (.t 12), none, []⟩] none [0, 1, 12, 13, 14])
    (.seq (.cond (.t 14)
      (.skip)
      (.exit 0))
    (.seq (.block 1 (.seq (.ops [⟨some 15, .move (.t 13), none, []⟩,
        ⟨some 5, .move (.t 15), none, []⟩] none [0, 1, 5, 12, 13])
      (.seq (.ops [⟨some 16, .move (.t 0), none, []⟩,
        ⟨some 17, .move (.t 5), none, []⟩,
        ⟨some 18, .idxAddr 3 (.t 16) (.t 17), none, []⟩,
        ⟨some 19, .load (some 3) (.t 18), none, []⟩,
        ⟨some 20, .move (.t 1), none, []⟩,
        ⟨some 21, .move (.t 5), none, []⟩,
        ⟨some 22, .idxAddr 3 (.t 20) (.t 21), none, []⟩,
        ⟨some 23, .load (some 3) (.t 22), none, []⟩,
        ⟨some 24, .eq true (.st [.b, .i, .i]) (.t 19) (.t 23), none, []⟩] (some [(0, []), (1, []), (2, [0, 1]), (3, [2, 0, 1]), (4, []), (5, []), (6, [4, 5]), (7, [6, 4, 5]), (8, [3, 2, 0, 1, 7, 6, 4, 5])]) [0, 1, 12, 13, 24])
      (.cond (.t 24)
        (.seq (.ops [⟨some 4, .move (.c (.bool false)), none, []⟩] none [4])
        (.ret))
        (.skip)))))
    (.ops [⟨some 25, .bin .add (.t 13) (.c (.int .i64 1)), none, []⟩,
      ⟨some 13, .move (.t 25), none, []⟩] none [0, 1, 12, 13])))))))
(.seq (.ops [⟨some 4, .move (.c (.bool true)), none, []⟩] none [4])
(.ret)))))
def f66 : SFunc := ⟨b66, [.t 4]⟩

/-- slices.ContainsFunc[[]watchbill/op.Case,watchbill/op.Case] -/
def b235 : SCode := (
.seq (.ops [⟨some 4, .move (.c (.bool false)), none, []⟩] none [0, 1])
(.seq (.ops [⟨some 5, .move (.t 0), none, []⟩,
  ⟨some 6, .move (.t 1), none, []⟩,
  ⟨some 7, .call 238 [(.t 5), (.t 6)], none, []⟩,
  ⟨some 8, .bin .geq (.t 7) (.c (.int .i64 0)), none, []⟩,
  ⟨some 4, .move (.t 8), none, []⟩] none [4])
(.ret)))
def f235 : SFunc := ⟨b235, [.t 4]⟩

/-- watchbill/op.cases$1 -/
def b234 : SCode := (
.seq (.ops [⟨some 2, .box (.t 0), none, []⟩,
  ⟨some 3, .move (.c (.bool false)), none, []⟩] none [1, 2])
(.seq (.ops [⟨some 4, .fldAddr 1 (.t 2), none, []⟩,
  ⟨some 5, .load none (.t 4), none, []⟩,
  ⟨some 6, .fldAddr 1 (.t 1), none, []⟩,
  ⟨some 7, .load none (.t 6), none, []⟩,
  ⟨some 8, .bin .eql (.t 5) (.t 7), none, []⟩,
  ⟨some 3, .move (.t 8), none, []⟩] none [3])
(.ret)))
def f234 : SFunc := ⟨b234, [.t 3]⟩

/-- watchbill/op.shaped -/
def b236 : SCode := (
.seq (.ops [⟨some 2, .move (.c (.bool false)), none, []⟩] none [0])
(.seq (.skip)
(.seq (.block 0 (.loop [0] (.seq (.seq (.ops [⟨some 4, .move (.t 0), none, []⟩,
      ⟨some 5, .len .sl (.t 4), none, []⟩,
      ⟨some 6, .bin .gtr (.t 5) (.c (.int .i64 0)), none, []⟩] none [0, 6])
    (.cond (.t 6)
      (.skip)
      (.exit 0)))
    (.block 1 (.seq (.ops [⟨some 7, .mkmap, none, []⟩,
        ⟨none, .mapup .s (.t 7) (.c (.str [115, 101, 110, 100])) (.c (.int .i64 3)), none, []⟩,
        ⟨none, .mapup .s (.t 7) (.c (.str [114, 101, 99, 118])) (.c (.int .i64 2)), none, []⟩,
        ⟨some 8, .move (.t 7), none, []⟩,
        ⟨some 9, .move (.t 0), none, []⟩,
        ⟨some 10, .idxAddr 1 (.t 9) (.c (.int .i64 0)), none, []⟩,
        ⟨some 11, .load none (.t 10), none, []⟩,
        ⟨some 12, .lookup false .s (.int .i64 0) (.t 8) (.t 11), none, []⟩,
        ⟨some 3, .move (.t 12), none, []⟩] none [0, 3])
      (.seq (.seq (.ops [⟨some 13, .move (.t 3), none, []⟩,
        ⟨some 14, .bin .eql (.t 13) (.c (.int .i64 0)), none, []⟩,
        ⟨some 15, .move (.t 14), none, []⟩,
        ⟨some 16, .move (.t 3), (some (15, false)), []⟩,
        ⟨some 17, .move (.t 0), (some (15, false)), []⟩,
        ⟨some 18, .len .sl (.t 17), (some (15, false)), []⟩,
        ⟨some 19, .bin .gtr (.t 16) (.t 18), (some (15, false)), []⟩,
        ⟨some 20, .pick (.t 15) (.c (.bool true)) (.t 19), none, []⟩] none [0, 3, 20])
      (.cond (.t 20)
        (.seq (.ops [⟨some 2, .move (.c (.bool false)), none, []⟩] none [2])
        (.ret))
        (.skip)))
      (.seq (.ops [⟨some 21, .move (.t 0), none, []⟩,
        ⟨some 22, .move (.t 3), none, []⟩,
        ⟨some 23, .slSl 1 (.t 21) (some (.t 22)) none, none, []⟩,
        ⟨some 0, .move (.t 23), none, []⟩] none [0])
      (.exit 1))))))))
(.seq (.ops [⟨some 2, .move (.c (.bool true)), none, []⟩] none [2])
(.ret)))))
def f236 : SFunc := ⟨b236, [.t 2]⟩

/-- (*watchbill/op.reader).next -/
def b237 : SCode := (
.seq (.ops [⟨some 2, .move (.c (.str [])), none, []⟩] none [0])
(.seq (.ops [⟨some 4, .move (.t 0), none, []⟩,
  ⟨some 5, .nilck (.t 4), none, []⟩,
  ⟨some 6, .fldAddr 0 (.t 5), none, []⟩,
  ⟨some 7, .load none (.t 6), none, []⟩,
  ⟨some 8, .idxAddr 1 (.t 7) (.c (.int .i64 0)), none, []⟩,
  ⟨some 9, .load none (.t 8), none, []⟩,
  ⟨some 3, .move (.t 9), none, []⟩] none [0, 3])
(.seq (.ops [⟨some 10, .move (.t 0), none, []⟩,
  ⟨some 11, .move (.t 0), none, []⟩,
  ⟨some 12, .nilck (.t 11), none, []⟩,
  ⟨some 13, .fldAddr 0 (.t 12), none, []⟩,
  ⟨some 14, .load none (.t 13), none, []⟩,
  ⟨some 15, .slSl 1 (.t 14) (some (.c (.int .i64 1))) none, none, []⟩,
  ⟨some 16, .nilck (.t 10), none, []⟩,
  ⟨some 17, .fldAddr 0 (.t 16), none, []⟩,
  ⟨none, .store none (.t 17) (.t 15), none, []⟩] none [3])
(.seq (.ops [⟨some 18, .move (.t 3), none, []⟩,
  ⟨some 2, .move (.t 18), none, []⟩] none [2])
(.ret)))))
def f237 : SFunc := ⟨b237, [.t 2]⟩

/-- watchbill/word.Number -/
def b94 : SCode := (
.seq (.ops [⟨some 2, .move (.c (.int .i64 0)), none, []⟩,
  ⟨some 3, .move (.c (.int .i64 0)), none, []⟩] none [0])
(.seq (.ops [⟨some 7, .move (.t 0), none, []⟩,
  ⟨some 8, .call 123 [(.t 7), (.c (.str [45]))], none, []⟩,
  ⟨some 4, .move (.t 8), none, []⟩] none [0, 4])
(.seq (.seq (.ops [⟨some 9, .move (.t 4), none, []⟩,
  ⟨some 10, .bin .eql (.t 9) (.c (.str [])), none, []⟩,
  ⟨some 11, .move (.t 10), none, []⟩,
  ⟨some 12, .move (.t 4), (some (11, false)), []⟩,
  ⟨some 13, .call 124 [(.t 12), (.c (.str [48, 49, 50, 51, 52, 53, 54, 55, 56, 57]))], (some (11, false)), []⟩,
  ⟨some 14, .bin .neq (.t 13) (.c (.str [])), (some (11, false)), []⟩,
  ⟨some 15, .pick (.t 11) (.c (.bool true)) (.t 14), none, []⟩,
  ⟨some 16, .move (.t 15), none, []⟩,
  ⟨some 17, .move (.t 4), (some (16, false)), []⟩,
  ⟨some 18, .len .str (.t 17), (some (16, false)), []⟩,
  ⟨some 19, .bin .gtr (.t 18) (.c (.int .i64 1)), (some (16, false)), []⟩,
  ⟨some 20, .move (.t 19), (some (16, false)), []⟩,
  ⟨some 21, .move (.t 4), (some (20, true)), []⟩,
  ⟨some 22, .idxStr (.t 21) (.c (.int .i64 0)), (some (20, true)), []⟩,
  ⟨some 23, .bin .eql (.t 22) (.c (.int .u8 48)), (some (20, true)), []⟩,
  ⟨some 24, .pick (.t 20) (.t 23) (.c (.bool false)), (some (16, false)), []⟩,
  ⟨some 25, .pick (.t 16) (.c (.bool true)) (.t 24), none, []⟩,
  ⟨some 26, .move (.t 25), none, []⟩,
  ⟨some 27, .move (.t 0), (some (26, false)), []⟩,
  ⟨some 28, .bin .eql (.t 27) (.c (.str [45, 48])), (some (26, false)), []⟩,
  ⟨some 29, .pick (.t 26) (.c (.bool true)) (.t 28), none, []⟩] none [0, 29])
(.cond (.t 29)
  (.seq (.ops [⟨some 2, .move (.c (.int .i64 0)), none, []⟩,
    ⟨some 3, .move (.c (.int .i64 2)), none, []⟩] none [2, 3])
  (.ret))
  (.skip)))
(.seq (.ops [⟨some 31, .move (.t 0), none, []⟩,
  ⟨some 32, .call 125 [(.t 31), (.c (.int .i64 10)), (.c (.int .i64 64))], none, []⟩,
  ⟨some 30, .move (.t 32), none, []⟩,
  ⟨some 33, .ext 0 (.t 30), none, []⟩,
  ⟨some 34, .ext 1 (.t 30), none, []⟩,
  ⟨some 5, .move (.t 33), none, []⟩,
  ⟨some 6, .move (.t 34), none, []⟩] none [5, 6])
(.seq (.seq (.ops [⟨some 35, .move (.t 6), none, []⟩,
  ⟨some 36, .eq true .i (.t 35) (.c .nili), none, []⟩] none [5, 36])
(.cond (.t 36)
  (.seq (.ops [⟨some 2, .move (.c (.int .i64 0)), none, []⟩,
    ⟨some 3, .move (.c (.int .i64 14)), none, []⟩] none [2, 3])
  (.ret))
  (.skip)))
(.seq (.ops [⟨some 37, .move (.t 5), none, []⟩,
  ⟨some 2, .move (.t 37), none, []⟩,
  ⟨some 3, .move (.c (.int .i64 0)), none, []⟩] none [2, 3])
(.ret)))))))
def f94 : SFunc := ⟨b94, [.t 2, .t 3]⟩

/-- slices.IndexFunc[[]watchbill/op.Case,watchbill/op.Case] -/
def b238 : SCode := (
.seq (.ops [⟨some 4, .move (.c (.int .i64 0)), none, []⟩] none [0, 1])
(.seq (.seq (.ops [⟨some 6, .move (.t 0), none, []⟩,
  ⟨some 7, .len .sl (.t 6), none, []⟩,
  ⟨some 8, .move (.c (.int .i64 0)), none, []⟩] none [0, 1, 7, 8])
(.block 0 (.loop [0, 1, 7, 8] (.seq (.ops [⟨some 9, .bin .lss (.t 8) (.t 7), none, []⟩] none [0, 1, 7, 8, 9])
    (.seq (.cond (.t 9)
      (.skip)
      (.exit 0))
    (.seq (.block 1 (.seq (.ops [⟨some 10, .move (.t 8), none, []⟩,
        ⟨some 5, .move (.t 10), none, []⟩] none [0, 1, 5, 7, 8])
      (.seq (.ops [⟨some 11, .move (.t 1), none, []⟩,
        ⟨some 12, .move (.t 0), none, []⟩,
        ⟨some 13, .move (.t 5), none, []⟩,
        ⟨some 14, .idxAddr 3 (.t 12) (.t 13), none, []⟩,
        ⟨some 15, .load (some 3) (.t 14), none, []⟩,
        ⟨some 16, .callv (.t 11) [(.t 15)], none, []⟩] none [0, 1, 5, 7, 8, 16])
      (.cond (.t 16)
        (.seq (.ops [⟨some 17, .move (.t 5), none, []⟩,
          ⟨some 4, .move (.t 17), none, []⟩] none [4])
        (.ret))
        (.skip)))))
    (.ops [⟨some 18, .bin .add (.t 8) (.c (.int .i64 1)), none, []⟩,
      ⟨some 8, .move (.t 18), none, []⟩] none [0, 1, 7, 8])))))))
(.seq (.ops [⟨some 4, .move (.c (.int .i64 (-1))), none, []⟩] none [4])
(.ret))))
def f238 : SFunc := ⟨b238, [.t 4]⟩

def lk {α : Type} : List (Nat × α) → Nat → Option α
  | [], _ => none
  | (k, v) :: r, i => match Nat.beq i k with | true => some v | false => lk r i

def pgl : List (Nat × SFunc) := [
  (217, f217),
  (220, f220),
  (218, f218),
  (219, f219),
  (221, f221),
  (222, f222),
  (51, f51),
  (223, f223),
  (224, f224),
  (225, f225),
  (99, f99),
  (226, f226),
  (227, f227),
  (92, f92),
  (229, f229),
  (228, f228),
  (230, f230),
  (231, f231),
  (232, f232),
  (233, f233),
  (66, f66),
  (235, f235),
  (234, f234),
  (236, f236),
  (237, f237),
  (94, f94),
  (238, f238)]

def pg : Prog := lk pgl

theorem pg217 : pg 217 = some f217 := rfl
theorem pg220 : pg 220 = some f220 := rfl
theorem pg218 : pg 218 = some f218 := rfl
theorem pg219 : pg 219 = some f219 := rfl
theorem pg221 : pg 221 = some f221 := rfl
theorem pg222 : pg 222 = some f222 := rfl
theorem pg51 : pg 51 = some f51 := rfl
theorem pg223 : pg 223 = some f223 := rfl
theorem pg224 : pg 224 = some f224 := rfl
theorem pg225 : pg 225 = some f225 := rfl
theorem pg99 : pg 99 = some f99 := rfl
theorem pg226 : pg 226 = some f226 := rfl
theorem pg227 : pg 227 = some f227 := rfl
theorem pg92 : pg 92 = some f92 := rfl
theorem pg229 : pg 229 = some f229 := rfl
theorem pg228 : pg 228 = some f228 := rfl
theorem pg230 : pg 230 = some f230 := rfl
theorem pg231 : pg 231 = some f231 := rfl
theorem pg232 : pg 232 = some f232 := rfl
theorem pg233 : pg 233 = some f233 := rfl
theorem pg66 : pg 66 = some f66 := rfl
theorem pg235 : pg 235 = some f235 := rfl
theorem pg234 : pg 234 = some f234 := rfl
theorem pg236 : pg 236 = some f236 := rfl
theorem pg237 : pg 237 = some f237 := rfl
theorem pg94 : pg 94 = some f94 := rfl
theorem pg238 : pg 238 = some f238 := rfl

end Go.Cl.S
