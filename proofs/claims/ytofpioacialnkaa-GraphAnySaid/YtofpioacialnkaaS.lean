/-
  The functions' clean texts, printed by a program out of the loaded ones.
-/
import Derived.Test.YtofpioacialnkaaCl0
namespace Go.Cl.S
open Go Go.Cl

/-- watchbill/watchbilllaw19.GuardApart -/
def b3 : SCode := (
.seq (.ops [⟨some 4, .move (.c (.bool false)), none, []⟩] none [0, 1])
(.seq (.seq (.ops [⟨some 9, .call 4 [], none, []⟩,
  ⟨some 10, .not (.t 9), none, []⟩] none [0, 1, 10])
(.cond (.t 10)
  (.seq (.ops [⟨some 4, .move (.c (.bool false)), none, []⟩] none [4])
  (.ret))
  (.skip)))
(.seq (.ops [⟨some 11, .move (.t 0), none, []⟩,
  ⟨some 12, .bin .rem (.t 11) (.c (.int .u8 40)), none, []⟩,
  ⟨some 13, .conv .i64 (.t 12), none, []⟩,
  ⟨some 14, .bin .add (.c (.int .i64 1)) (.t 13), none, []⟩,
  ⟨some 5, .move (.t 14), none, []⟩] none [1, 5])
(.seq (.ops [⟨some 15, .move (.t 5), none, []⟩,
  ⟨some 16, .move (.t 5), none, []⟩,
  ⟨some 17, .build [(.int .i64 0), (.int .i64 0), (.int .i64 0), (.int .i64 0), .nils] [(0, 1, (.c (.int .i64 1))), (1, 1, (.c (.int .i64 1)))], none, []⟩,
  ⟨some 18, .buildSl 1 [(.int .i64 0), (.int .i64 0), (.int .i64 0), (.int .i64 0), .nils] [(0, 5, (.t 17))], none, []⟩,
  ⟨some 19, .build [(.str []), (.int .i64 0), (.int .i64 0), (.int .i64 0), .nils] [(0, 1, (.c (.str [97]))), (1, 1, (.t 15)), (2, 1, (.t 16)), (3, 1, (.c (.int .i64 1))), (4, 1, (.t 18))], none, []⟩,
  ⟨some 20, .buildSl 1 [(.str []), (.int .i64 0), (.int .i64 0), (.int .i64 0), .nils] [(0, 5, (.t 19))], none, []⟩,
  ⟨some 21, .build [(.int .i64 0), .nils, .nils] [(2, 1, (.t 20))], none, []⟩,
  ⟨some 22, .call 5 [(.t 21)], none, []⟩,
  ⟨some 6, .move (.t 22), none, []⟩] none [1, 5, 6])
(.seq (.seq (.ops [⟨some 23, .move (.t 6), none, []⟩,
  ⟨some 24, .eq false .p (.t 23) (.c .nilp), none, []⟩] none [1, 5, 6, 24])
(.cond (.t 24)
  (.seq (.ops [⟨some 4, .move (.c (.bool false)), none, []⟩] none [4])
  (.ret))
  (.skip)))
(.seq (.seq (.ops [⟨some 7, .move (.c (.int .i64 0)), none, []⟩] none [1, 5, 6, 7])
(.block 0 (.loop [1, 5, 6, 7] (.seq (.seq (.ops [⟨some 25, .move (.t 7), none, []⟩,
      ⟨some 26, .move (.t 1), none, []⟩,
      ⟨some 27, .conv .i64 (.t 26), none, []⟩,
      ⟨some 28, .bin .lss (.t 25) (.t 27), none, []⟩] none [1, 5, 6, 7, 28])
    (.cond (.t 28)
      (.skip)
      (.exit 0)))
    (.seq (.block 1 (.seq (.ops [⟨some 31, .move (.t 6), none, []⟩,
        ⟨some 32, .move (.t 7), none, []⟩,
        ⟨some 33, .call 6 [(.t 31), (.c (.int .i64 0)), (.t 32), (.c (.bool false))], none, []⟩,
        ⟨some 8, .move (.t 33), none, []⟩] none [1, 5, 6, 7, 8])
      (.seq (.ops [⟨some 34, .move (.t 7), none, []⟩,
        ⟨some 35, .move (.t 5), none, []⟩,
        ⟨some 36, .bin .rem (.t 34) (.t 35), none, []⟩,
        ⟨some 37, .bin .eql (.t 36) (.c (.int .i64 0)), none, []⟩,
        ⟨some 38, .move (.t 37), none, []⟩,
        ⟨some 39, .move (.t 8), (some (38, true)), []⟩,
        ⟨some 40, .bin .neq (.t 39) (.c (.int .i64 0)), (some (38, true)), []⟩,
        ⟨some 41, .pick (.t 38) (.t 40) (.c (.bool false)), none, []⟩,
        ⟨some 42, .move (.t 41), none, []⟩,
        ⟨some 43, .move (.t 7), (some (42, false)), []⟩,
        ⟨some 44, .move (.t 5), (some (42, false)), []⟩,
        ⟨some 45, .bin .rem (.t 43) (.t 44), (some (42, false)), []⟩,
        ⟨some 46, .bin .neq (.t 45) (.c (.int .i64 0)), (some (42, false)), []⟩,
        ⟨some 47, .move (.t 46), (some (42, false)), []⟩,
        ⟨some 48, .move (.t 8), (some (47, true)), []⟩,
        ⟨some 49, .bin .neq (.t 48) (.c (.int .i64 12)), (some (47, true)), []⟩,
        ⟨some 50, .pick (.t 47) (.t 49) (.c (.bool false)), (some (42, false)), []⟩,
        ⟨some 51, .pick (.t 42) (.c (.bool true)) (.t 50), none, []⟩] none [1, 5, 6, 7, 51])
      (.cond (.t 51)
        (.seq (.ops [⟨some 4, .move (.c (.bool false)), none, []⟩] none [4])
        (.ret))
        (.skip)))))
    (.ops [⟨some 29, .move (.t 7), none, []⟩,
      ⟨some 30, .bin .add (.t 29) (.c (.int .i64 1)), none, []⟩,
      ⟨some 7, .move (.t 30), none, []⟩] none [1, 5, 6, 7]))))))
(.seq (.ops [⟨some 4, .move (.c (.bool true)), none, []⟩] none [4])
(.ret))))))))
def f3 : SFunc := ⟨b3, [.t 4]⟩

/-- watchbill/watchbilllaw19.GuardOthers -/
def b7 : SCode := (
.seq (.ops [⟨some 4, .move (.c (.bool false)), none, []⟩] none [0, 1])
(.seq (.seq (.ops [⟨some 18, .call 4 [], none, []⟩,
  ⟨some 19, .not (.t 18), none, []⟩] none [0, 1, 19])
(.cond (.t 19)
  (.seq (.ops [⟨some 4, .move (.c (.bool false)), none, []⟩] none [4])
  (.ret))
  (.skip)))
(.seq (.seq (.ops [⟨some 20, .move (.t 0), none, []⟩,
  ⟨some 21, .len .sl (.t 20), none, []⟩,
  ⟨some 22, .bin .lss (.t 21) (.c (.int .i64 1)), none, []⟩,
  ⟨some 23, .move (.t 22), none, []⟩,
  ⟨some 24, .move (.t 0), (some (23, false)), []⟩,
  ⟨some 25, .len .sl (.t 24), (some (23, false)), []⟩,
  ⟨some 26, .bin .gtr (.t 25) (.c (.int .i64 8)), (some (23, false)), []⟩,
  ⟨some 27, .pick (.t 23) (.c (.bool true)) (.t 26), none, []⟩,
  ⟨some 28, .move (.t 27), none, []⟩,
  ⟨some 29, .move (.t 1), (some (28, false)), []⟩,
  ⟨some 30, .len .sl (.t 29), (some (28, false)), []⟩,
  ⟨some 31, .bin .gtr (.t 30) (.c (.int .i64 60)), (some (28, false)), []⟩,
  ⟨some 32, .pick (.t 28) (.c (.bool true)) (.t 31), none, []⟩] none [0, 1, 32])
(.cond (.t 32)
  (.seq (.ops [⟨some 4, .move (.c (.bool true)), none, []⟩] none [4])
  (.ret))
  (.skip)))
(.seq (.ops [⟨some 33, .build [(.int .i64 0), .nils, .nils] [], none, []⟩,
  ⟨some 5, .alloc (.agg [(.int .i64 0), .nils, .nils]), none, []⟩,
  ⟨none, .store (some 3) (.t 5) (.t 33), none, []⟩] none [0, 1, 5])
(.seq (.seq (.ops [⟨some 6, .move (.c (.int .i64 0)), none, []⟩] none [0, 1, 5, 6])
(.block 0 (.loop [0, 1, 5, 6] (.seq (.seq (.ops [⟨some 34, .move (.t 6), none, []⟩,
      ⟨some 35, .move (.t 0), none, []⟩,
      ⟨some 36, .len .sl (.t 35), none, []⟩,
      ⟨some 37, .bin .lss (.t 34) (.t 36), none, []⟩] none [0, 1, 5, 6, 37])
    (.cond (.t 37)
      (.skip)
      (.exit 0)))
    (.seq (.block 1 (.seq (.ops [⟨some 40, .move (.t 0), none, []⟩,
        ⟨some 41, .move (.t 6), none, []⟩,
        ⟨some 42, .idxAddr 1 (.t 40) (.t 41), none, []⟩,
        ⟨some 43, .load none (.t 42), none, []⟩,
        ⟨some 44, .bin .rem (.t 43) (.c (.int .u8 20)), none, []⟩,
        ⟨some 45, .conv .i64 (.t 44), none, []⟩,
        ⟨some 46, .bin .add (.c (.int .i64 1)) (.t 45), none, []⟩,
        ⟨some 7, .move (.t 46), none, []⟩] none [0, 1, 5, 6, 7])
      (.ops [⟨some 47, .fldAddr 2 (.t 5), none, []⟩,
        ⟨some 48, .load none (.t 47), none, []⟩,
        ⟨some 49, .move (.t 6), none, []⟩,
        ⟨some 50, .bin .add (.c (.int .i64 97)) (.t 49), none, []⟩,
        ⟨some 51, .conv .u8 (.t 50), none, []⟩,
        ⟨some 52, .buildSl 1 [(.int .u8 0)] [(0, 1, (.t 51))], none, []⟩,
        ⟨some 53, .toStr (.t 52), none, []⟩,
        ⟨some 54, .move (.t 7), none, []⟩,
        ⟨some 55, .move (.t 7), none, []⟩,
        ⟨some 56, .build [(.int .i64 0), (.int .i64 0), (.int .i64 0), (.int .i64 0), .nils] [(0, 1, (.c (.int .i64 1))), (1, 1, (.c (.int .i64 1)))], none, []⟩,
        ⟨some 57, .buildSl 1 [(.int .i64 0), (.int .i64 0), (.int .i64 0), (.int .i64 0), .nils] [(0, 5, (.t 56))], none, []⟩,
        ⟨some 58, .build [(.str []), (.int .i64 0), (.int .i64 0), (.int .i64 0), .nils] [(0, 1, (.t 53)), (1, 1, (.t 54)), (2, 1, (.t 55)), (3, 1, (.c (.int .i64 1))), (4, 1, (.t 57))], none, []⟩,
        ⟨some 59, .buildSl 1 [(.str []), (.int .i64 0), (.int .i64 0), (.int .i64 0), .nils] [(0, 5, (.t 58))], none, []⟩,
        ⟨some 60, .append 5 (.t 48) (.t 59), none, []⟩,
        ⟨some 61, .fldAddr 2 (.t 5), none, []⟩,
        ⟨none, .store none (.t 61) (.t 60), none, []⟩] none [0, 1, 5, 6])))
    (.ops [⟨some 38, .move (.t 6), none, []⟩,
      ⟨some 39, .bin .add (.t 38) (.c (.int .i64 1)), none, []⟩,
      ⟨some 6, .move (.t 39), none, []⟩] none [0, 1, 5, 6]))))))
(.seq (.ops [⟨some 62, .load (some 3) (.t 5), none, []⟩,
  ⟨some 63, .call 5 [(.t 62)], none, []⟩,
  ⟨some 8, .move (.t 63), none, []⟩] none [0, 1, 5, 8])
(.seq (.seq (.ops [⟨some 64, .move (.t 8), none, []⟩,
  ⟨some 65, .eq false .p (.t 64) (.c .nilp), none, []⟩] none [0, 1, 5, 8, 65])
(.cond (.t 65)
  (.seq (.ops [⟨some 4, .move (.c (.bool false)), none, []⟩] none [4])
  (.ret))
  (.skip)))
(.seq (.ops [⟨some 9, .alloc (.agg [(.int .i64 0), (.int .i64 0), (.int .i64 0), (.int .i64 0), (.int .i64 0), (.int .i64 0), (.int .i64 0), (.int .i64 0)]), none, []⟩] none [0, 1, 5, 8, 9])
(.seq (.seq (.ops [⟨some 10, .move (.c (.int .i64 0)), none, []⟩] none [0, 1, 5, 8, 9, 10])
(.block 2 (.loop [0, 1, 5, 8, 9, 10] (.seq (.seq (.ops [⟨some 66, .move (.t 10), none, []⟩,
      ⟨some 67, .bin .lss (.t 66) (.c (.int .i64 8)), none, []⟩] none [0, 1, 5, 8, 9, 10, 67])
    (.cond (.t 67)
      (.skip)
      (.exit 2)))
    (.seq (.block 3 (.ops [⟨some 70, .move (.t 10), none, []⟩,
        ⟨some 71, .idxArrAddr 1 8 (.t 9) (.t 70), none, []⟩,
        ⟨none, .store none (.t 71) (.c (.int .i64 (-1000))), none, []⟩] none [0, 1, 5, 8, 9, 10]))
    (.ops [⟨some 68, .move (.t 10), none, []⟩,
      ⟨some 69, .bin .add (.t 68) (.c (.int .i64 1)), none, []⟩,
      ⟨some 10, .move (.t 69), none, []⟩] none [0, 1, 5, 8, 9, 10]))))))
(.seq (.seq (.ops [⟨some 11, .move (.c (.int .i64 0)), none, []⟩] none [0, 1, 5, 8, 9, 11])
(.block 4 (.loop [0, 1, 5, 8, 9, 11] (.seq (.seq (.ops [⟨some 72, .move (.t 11), none, []⟩,
      ⟨some 73, .move (.t 1), none, []⟩,
      ⟨some 74, .len .sl (.t 73), none, []⟩,
      ⟨some 75, .bin .lss (.t 72) (.t 74), none, []⟩] none [0, 1, 5, 8, 9, 11, 75])
    (.cond (.t 75)
      (.skip)
      (.exit 4)))
    (.seq (.block 5 (.seq (.ops [⟨some 78, .move (.t 1), none, []⟩,
        ⟨some 79, .move (.t 11), none, []⟩,
        ⟨some 80, .idxAddr 1 (.t 78) (.t 79), none, []⟩,
        ⟨some 81, .load none (.t 80), none, []⟩,
        ⟨some 82, .conv .i64 (.t 81), none, []⟩,
        ⟨some 83, .move (.t 0), none, []⟩,
        ⟨some 84, .len .sl (.t 83), none, []⟩,
        ⟨some 85, .bin .rem (.t 82) (.t 84), none, []⟩,
        ⟨some 12, .move (.t 85), none, []⟩] none [0, 1, 5, 8, 9, 11, 12])
      (.seq (.ops [⟨some 86, .move (.t 1), none, []⟩,
        ⟨some 87, .move (.t 11), none, []⟩,
        ⟨some 88, .idxAddr 1 (.t 86) (.t 87), none, []⟩,
        ⟨some 89, .load none (.t 88), none, []⟩,
        ⟨some 90, .bin .geq (.t 89) (.c (.int .u8 200)), none, []⟩,
        ⟨some 13, .move (.t 90), none, []⟩] none [0, 1, 5, 8, 9, 11, 12, 13])
      (.seq (.ops [⟨some 91, .move (.t 8), none, []⟩,
        ⟨some 92, .move (.t 12), none, []⟩,
        ⟨some 93, .move (.t 11), none, []⟩,
        ⟨some 94, .move (.t 13), none, []⟩,
        ⟨some 95, .call 6 [(.t 91), (.t 92), (.t 93), (.t 94)], none, []⟩,
        ⟨some 14, .move (.t 95), none, []⟩] none [0, 1, 5, 8, 9, 11, 12, 13, 14])
      (.seq (.ops [⟨some 15, .move (.c (.int .i64 0)), none, []⟩] none [0, 1, 5, 8, 9, 11, 12, 13, 14, 15])
      (.seq (.block 6 (.seq (.ops [⟨some 97, .move (.t 11), none, []⟩,
          ⟨some 98, .move (.t 12), none, []⟩,
          ⟨some 99, .idxArrAddr 1 8 (.t 9) (.t 98), none, []⟩,
          ⟨some 100, .load none (.t 99), none, []⟩,
          ⟨some 101, .bin .sub (.t 97) (.t 100), none, []⟩,
          ⟨some 102, .fldAddr 2 (.t 5), none, []⟩,
          ⟨some 103, .load none (.t 102), none, []⟩,
          ⟨some 104, .move (.t 12), none, []⟩,
          ⟨some 105, .idxAddr 5 (.t 103) (.t 104), none, []⟩,
          ⟨some 106, .fldAddr 1 (.t 105), none, []⟩,
          ⟨some 107, .load none (.t 106), none, []⟩,
          ⟨some 108, .bin .lss (.t 101) (.t 107), none, []⟩,
          ⟨some 96, .move (.t 108), none, []⟩] (some [(0, []), (1, []), (2, [1]), (3, [2, 1]), (4, [0, 3, 2, 1]), (5, []), (6, [5]), (7, []), (8, [6, 5, 7]), (9, [8, 6, 5, 7]), (10, [9, 8, 6, 5, 7]), (11, [4, 0, 3, 2, 1, 10, 9, 8, 6, 5, 7]), (12, [11, 4, 0, 3, 2, 1, 10, 9, 8, 6, 5, 7])]) [0, 1, 5, 8, 9, 11, 12, 13, 14, 15, 96])
        (.cond (.t 96)
          (.ops [⟨some 15, .move (.c (.int .i64 12)), none, []⟩] none [0, 1, 5, 8, 9, 11, 12, 14, 15])
          (.seq (.ops [⟨some 110, .move (.t 13), none, []⟩,
            ⟨some 109, .move (.t 110), none, []⟩] none [0, 1, 5, 8, 9, 11, 12, 14, 15, 109])
          (.cond (.t 109)
            (.ops [⟨some 15, .move (.c (.int .i64 10)), none, []⟩] none [0, 1, 5, 8, 9, 11, 12, 14, 15])
            (.skip))))))
      (.seq (.seq (.ops [⟨some 111, .move (.t 14), none, []⟩,
        ⟨some 112, .move (.t 15), none, []⟩,
        ⟨some 113, .bin .neq (.t 111) (.t 112), none, []⟩] none [0, 1, 5, 8, 9, 11, 12, 14, 113])
      (.cond (.t 113)
        (.seq (.ops [⟨some 4, .move (.c (.bool false)), none, []⟩] none [4])
        (.ret))
        (.skip)))
      (.seq (.seq (.ops [⟨some 114, .move (.t 14), none, []⟩,
        ⟨some 115, .bin .eql (.t 114) (.c (.int .i64 0)), none, []⟩] none [0, 1, 5, 8, 9, 11, 12, 115])
      (.cond (.t 115)
        (.ops [⟨some 116, .move (.t 12), none, []⟩,
          ⟨some 117, .move (.t 11), none, []⟩,
          ⟨some 118, .idxArrAddr 1 8 (.t 9) (.t 116), none, []⟩,
          ⟨none, .store none (.t 118) (.t 117), none, []⟩] none [0, 1, 5, 8, 9, 11, 12])
        (.skip)))
      (.seq (.ops [⟨some 120, .move (.t 8), none, []⟩,
        ⟨some 121, .move (.t 12), none, []⟩,
        ⟨some 122, .call 8 [(.t 120), (.t 121)], none, []⟩,
        ⟨some 119, .move (.t 122), none, []⟩,
        ⟨some 123, .ext 0 (.t 119), none, []⟩,
        ⟨some 124, .ext 1 (.t 119), none, []⟩,
        ⟨some 16, .move (.t 123), none, []⟩,
        ⟨some 17, .move (.t 124), none, []⟩] none [0, 1, 5, 8, 9, 11, 12, 16, 17])
      (.seq (.ops [⟨some 125, .move (.t 17), none, []⟩,
        ⟨some 126, .move (.t 12), none, []⟩,
        ⟨some 127, .idxArrAddr 1 8 (.t 9) (.t 126), none, []⟩,
        ⟨some 128, .load none (.t 127), none, []⟩,
        ⟨some 129, .bin .geq (.t 128) (.c (.int .i64 0)), none, []⟩,
        ⟨some 130, .eq true .b (.t 125) (.t 129), none, []⟩,
        ⟨some 131, .move (.t 130), none, []⟩,
        ⟨some 132, .move (.t 17), (some (131, false)), []⟩,
        ⟨some 133, .move (.t 132), (some (131, false)), []⟩,
        ⟨some 134, .move (.t 16), (some (133, true)), []⟩,
        ⟨some 135, .move (.t 12), (some (133, true)), []⟩,
        ⟨some 136, .idxArrAddr 1 8 (.t 9) (.t 135), (some (133, true)), []⟩,
        ⟨some 137, .load none (.t 136), (some (133, true)), []⟩,
        ⟨some 138, .bin .neq (.t 134) (.t 137), (some (133, true)), []⟩,
        ⟨some 139, .pick (.t 133) (.t 138) (.c (.bool false)), (some (131, false)), []⟩,
        ⟨some 140, .pick (.t 131) (.c (.bool true)) (.t 139), none, []⟩] none [0, 1, 5, 8, 9, 11, 140])
      (.cond (.t 140)
        (.seq (.ops [⟨some 4, .move (.c (.bool false)), none, []⟩] none [4])
        (.ret))
        (.skip))))))))))))
    (.ops [⟨some 76, .move (.t 11), none, []⟩,
      ⟨some 77, .bin .add (.t 76) (.c (.int .i64 1)), none, []⟩,
      ⟨some 11, .move (.t 77), none, []⟩] none [0, 1, 5, 8, 9, 11]))))))
(.seq (.ops [⟨some 4, .move (.c (.bool true)), none, []⟩] none [4])
(.ret))))))))))))
def f7 : SFunc := ⟨b7, [.t 4]⟩

/-- watchbill/watchbilllaw19.GuardPlays -/
def b9 : SCode := (
.seq (.ops [⟨some 4, .move (.c (.bool false)), none, []⟩] none [0, 1])
(.seq (.seq (.ops [⟨some 16, .call 4 [], none, []⟩,
  ⟨some 17, .not (.t 16), none, []⟩] none [0, 1, 17])
(.cond (.t 17)
  (.seq (.ops [⟨some 4, .move (.c (.bool false)), none, []⟩] none [4])
  (.ret))
  (.skip)))
(.seq (.seq (.ops [⟨some 18, .move (.t 0), none, []⟩,
  ⟨some 19, .len .sl (.t 18), none, []⟩,
  ⟨some 20, .bin .lss (.t 19) (.c (.int .i64 1)), none, []⟩,
  ⟨some 21, .move (.t 20), none, []⟩,
  ⟨some 22, .move (.t 0), (some (21, false)), []⟩,
  ⟨some 23, .len .sl (.t 22), (some (21, false)), []⟩,
  ⟨some 24, .bin .gtr (.t 23) (.c (.int .i64 12)), (some (21, false)), []⟩,
  ⟨some 25, .pick (.t 21) (.c (.bool true)) (.t 24), none, []⟩,
  ⟨some 26, .move (.t 25), none, []⟩,
  ⟨some 27, .move (.t 1), (some (26, false)), []⟩,
  ⟨some 28, .len .sl (.t 27), (some (26, false)), []⟩,
  ⟨some 29, .bin .gtr (.t 28) (.c (.int .i64 60)), (some (26, false)), []⟩,
  ⟨some 30, .pick (.t 26) (.c (.bool true)) (.t 29), none, []⟩] none [0, 1, 30])
(.cond (.t 30)
  (.seq (.ops [⟨some 4, .move (.c (.bool true)), none, []⟩] none [4])
  (.ret))
  (.skip)))
(.seq (.ops [⟨some 31, .build [(.int .i64 0), .nils, .nils] [], none, []⟩,
  ⟨some 5, .alloc (.agg [(.int .i64 0), .nils, .nils]), none, []⟩,
  ⟨none, .store (some 3) (.t 5) (.t 31), none, []⟩] none [0, 1, 5])
(.seq (.seq (.ops [⟨some 6, .move (.c (.int .i64 0)), none, []⟩] none [0, 1, 5, 6])
(.block 0 (.loop [0, 1, 5, 6] (.seq (.seq (.ops [⟨some 32, .move (.t 6), none, []⟩,
      ⟨some 33, .move (.t 0), none, []⟩,
      ⟨some 34, .len .sl (.t 33), none, []⟩,
      ⟨some 35, .bin .lss (.t 32) (.t 34), none, []⟩] none [0, 1, 5, 6, 35])
    (.cond (.t 35)
      (.skip)
      (.exit 0)))
    (.seq (.block 1 (.seq (.seq (.ops [⟨some 38, .move (.t 0), none, []⟩,
        ⟨some 39, .move (.t 6), none, []⟩,
        ⟨some 40, .idxAddr 1 (.t 38) (.t 39), none, []⟩,
        ⟨some 41, .load none (.t 40), none, []⟩,
        ⟨some 42, .bin .lss (.t 41) (.c (.int .i64 1)), none, []⟩,
        ⟨some 43, .move (.t 42), none, []⟩,
        ⟨some 44, .move (.t 0), (some (43, false)), []⟩,
        ⟨some 45, .move (.t 6), (some (43, false)), []⟩,
        ⟨some 46, .idxAddr 1 (.t 44) (.t 45), (some (43, false)), []⟩,
        ⟨some 47, .load none (.t 46), (some (43, false)), []⟩,
        ⟨some 48, .bin .gtr (.t 47) (.c (.int .i64 1099511627776)), (some (43, false)), []⟩,
        ⟨some 49, .pick (.t 43) (.c (.bool true)) (.t 48), none, []⟩] none [0, 1, 5, 6, 49])
      (.cond (.t 49)
        (.seq (.ops [⟨some 4, .move (.c (.bool true)), none, []⟩] none [4])
        (.ret))
        (.skip)))
      (.ops [⟨some 50, .fldAddr 2 (.t 5), none, []⟩,
        ⟨some 51, .load none (.t 50), none, []⟩,
        ⟨some 52, .move (.t 6), none, []⟩,
        ⟨some 53, .bin .add (.c (.int .i64 97)) (.t 52), none, []⟩,
        ⟨some 54, .conv .u8 (.t 53), none, []⟩,
        ⟨some 55, .buildSl 1 [(.int .u8 0)] [(0, 1, (.t 54))], none, []⟩,
        ⟨some 56, .toStr (.t 55), none, []⟩,
        ⟨some 57, .move (.t 0), none, []⟩,
        ⟨some 58, .move (.t 6), none, []⟩,
        ⟨some 59, .idxAddr 1 (.t 57) (.t 58), none, []⟩,
        ⟨some 60, .load none (.t 59), none, []⟩,
        ⟨some 61, .move (.t 0), none, []⟩,
        ⟨some 62, .move (.t 6), none, []⟩,
        ⟨some 63, .idxAddr 1 (.t 61) (.t 62), none, []⟩,
        ⟨some 64, .load none (.t 63), none, []⟩,
        ⟨some 65, .build [(.int .i64 0), (.int .i64 0), (.int .i64 0), (.int .i64 0), .nils] [(0, 1, (.c (.int .i64 1))), (1, 1, (.c (.int .i64 1)))], none, []⟩,
        ⟨some 66, .buildSl 1 [(.int .i64 0), (.int .i64 0), (.int .i64 0), (.int .i64 0), .nils] [(0, 5, (.t 65))], none, []⟩,
        ⟨some 67, .build [(.str []), (.int .i64 0), (.int .i64 0), (.int .i64 0), .nils] [(0, 1, (.t 56)), (1, 1, (.t 60)), (2, 1, (.t 64)), (3, 1, (.c (.int .i64 1))), (4, 1, (.t 66))], none, []⟩,
        ⟨some 68, .buildSl 1 [(.str []), (.int .i64 0), (.int .i64 0), (.int .i64 0), .nils] [(0, 5, (.t 67))], none, []⟩,
        ⟨some 69, .append 5 (.t 51) (.t 68), none, []⟩,
        ⟨some 70, .fldAddr 2 (.t 5), none, []⟩,
        ⟨none, .store none (.t 70) (.t 69), none, []⟩] (some [(0, []), (1, [0]), (2, []), (3, [2]), (4, [3, 2]), (5, [4, 3, 2]), (6, [5, 4, 3, 2]), (7, []), (8, []), (9, [7, 8]), (10, [9, 7, 8]), (11, []), (12, []), (13, [11, 12]), (14, [13, 11, 12]), (15, []), (16, [15]), (17, [6, 5, 4, 3, 2, 10, 9, 7, 8, 14, 13, 11, 12, 16, 15]), (18, [17, 6, 5, 4, 3, 2, 10, 9, 7, 8, 14, 13, 11, 12, 16, 15]), (19, [1, 0, 18, 17, 6, 5, 4, 3, 2, 10, 9, 7, 8, 14, 13, 11, 12, 16, 15]), (20, [0, 1, 2, 3, 4, 5, 6, 7, 8, 9, 10, 11, 12, 13, 14, 15, 16, 17, 18, 19]), (21, [20, 0, 1, 2, 3, 4, 5, 6, 7, 8, 9, 10, 11, 12, 13, 14, 15, 16, 17, 18, 19])]) [0, 1, 5, 6])))
    (.ops [⟨some 36, .move (.t 6), none, []⟩,
      ⟨some 37, .bin .add (.t 36) (.c (.int .i64 1)), none, []⟩,
      ⟨some 6, .move (.t 37), none, []⟩] none [0, 1, 5, 6]))))))
(.seq (.ops [⟨some 71, .load (some 3) (.t 5), none, []⟩,
  ⟨some 72, .call 5 [(.t 71)], none, []⟩,
  ⟨some 7, .move (.t 72), none, []⟩] none [1, 5, 7])
(.seq (.ops [⟨some 73, .load (some 3) (.t 5), none, []⟩,
  ⟨some 74, .call 10 [(.t 73)], none, []⟩,
  ⟨some 75, .call 11 [(.t 74)], none, []⟩,
  ⟨some 8, .move (.t 75), none, []⟩] none [1, 7, 8])
(.seq (.seq (.ops [⟨some 76, .move (.t 7), none, []⟩,
  ⟨some 77, .eq false .p (.t 76) (.c .nilp), none, []⟩] none [1, 7, 8, 77])
(.cond (.t 77)
  (.seq (.ops [⟨some 4, .move (.c (.bool false)), none, []⟩] none [4])
  (.ret))
  (.skip)))
(.seq (.seq (.ops [⟨some 9, .move (.c (.int .i64 0)), none, []⟩] none [1, 7, 8, 9])
(.block 2 (.loop [1, 7, 8, 9] (.seq (.seq (.ops [⟨some 78, .move (.t 9), none, []⟩,
      ⟨some 79, .move (.t 1), none, []⟩,
      ⟨some 80, .len .sl (.t 79), none, []⟩,
      ⟨some 81, .bin .lss (.t 78) (.t 80), none, []⟩] none [1, 7, 8, 9, 81])
    (.cond (.t 81)
      (.skip)
      (.exit 2)))
    (.seq (.block 3 (.seq (.ops [⟨some 84, .move (.t 1), none, []⟩,
        ⟨some 85, .move (.t 9), none, []⟩,
        ⟨some 86, .idxAddr 4 (.t 84) (.t 85), none, []⟩,
        ⟨some 87, .load (some 4) (.t 86), none, []⟩,
        ⟨some 10, .alloc (.agg [(.int .i64 0), (.int .i64 0), (.bool false), (.bool false)]), none, []⟩,
        ⟨none, .store (some 4) (.t 10) (.t 87), none, []⟩] none [1, 7, 8, 9, 10])
      (.seq (.seq (.ops [⟨some 88, .fldAddr 3 (.t 10), none, []⟩,
        ⟨some 89, .load none (.t 88), none, []⟩] none [1, 7, 8, 9, 10, 89])
      (.cond (.t 89)
        (.seq (.ops [⟨some 90, .move (.t 7), none, []⟩,
          ⟨some 91, .call 12 [(.t 90)], none, []⟩,
          ⟨some 11, .move (.t 91), none, []⟩] none [1, 7, 8, 9, 10, 11])
        (.seq (.seq (.ops [⟨some 92, .move (.t 11), none, []⟩,
          ⟨some 93, .eq false .p (.t 92) (.c .nilp), none, []⟩] none [1, 7, 8, 9, 10, 11, 93])
        (.cond (.t 93)
          (.seq (.ops [⟨some 4, .move (.c (.bool false)), none, []⟩] none [4])
          (.ret))
          (.skip)))
        (.seq (.ops [⟨some 94, .move (.t 7), none, []⟩,
          ⟨some 95, .fldAddr 0 (.t 10), none, []⟩,
          ⟨some 96, .load none (.t 95), none, []⟩,
          ⟨some 97, .call 6 [(.t 94), (.t 96), (.c (.int .i64 1099511627776)), (.c (.bool false))], none, []⟩] none [1, 8, 9, 10, 11])
        (.ops [⟨some 98, .move (.t 11), none, []⟩,
          ⟨some 7, .move (.t 98), none, []⟩] none [1, 7, 8, 9, 10]))))
        (.skip)))
      (.seq (.seq (.ops [⟨some 99, .move (.t 7), none, []⟩,
        ⟨some 100, .fldAddr 0 (.t 10), none, []⟩,
        ⟨some 101, .load none (.t 100), none, []⟩,
        ⟨some 102, .fldAddr 1 (.t 10), none, []⟩,
        ⟨some 103, .load none (.t 102), none, []⟩,
        ⟨some 104, .fldAddr 2 (.t 10), none, []⟩,
        ⟨some 105, .load none (.t 104), none, []⟩,
        ⟨some 107, .move (.t 8), none, []⟩,
        ⟨some 108, .fldAddr 0 (.t 10), none, []⟩,
        ⟨some 109, .load none (.t 108), none, []⟩,
        ⟨some 110, .fldAddr 1 (.t 10), none, []⟩,
        ⟨some 111, .load none (.t 110), none, []⟩,
        ⟨some 112, .fldAddr 2 (.t 10), none, []⟩,
        ⟨some 113, .load none (.t 112), none, []⟩,
        ⟨some 106, .call 6 [(.t 99), (.t 101), (.t 103), (.t 105)], none, [9, 11, 13]⟩,
        ⟨some 114, .call 13 [(.t 107), (.t 109), (.t 111), (.t 113)], none, []⟩,
        ⟨some 115, .bin .neq (.t 106) (.t 114), none, []⟩] (some [(0, []), (1, []), (2, [1]), (3, []), (4, [3]), (5, []), (6, [5]), (8, []), (9, []), (10, [8]), (11, []), (12, [10]), (13, []), (14, [12]), (7, [0, 2, 1, 4, 3, 6, 5]), (15, [7, 9, 8, 11, 10, 13, 12, 14, 0, 2, 1, 4, 3, 6, 5]), (16, [14, 0, 2, 1, 4, 3, 6, 5, 15, 7, 9, 8, 11, 10, 13, 12])]) [1, 7, 8, 9, 10, 115])
      (.cond (.t 115)
        (.seq (.ops [⟨some 4, .move (.c (.bool false)), none, []⟩] none [4])
        (.ret))
        (.skip)))
      (.seq (.ops [⟨some 117, .move (.t 7), none, []⟩,
        ⟨some 118, .fldAddr 0 (.t 10), none, []⟩,
        ⟨some 119, .load none (.t 118), none, []⟩,
        ⟨some 120, .call 8 [(.t 117), (.t 119)], none, []⟩,
        ⟨some 116, .move (.t 120), none, []⟩,
        ⟨some 121, .ext 0 (.t 116), none, []⟩,
        ⟨some 122, .ext 1 (.t 116), none, []⟩,
        ⟨some 12, .move (.t 121), none, []⟩,
        ⟨some 13, .move (.t 122), none, []⟩] none [1, 7, 8, 9, 10, 12, 13])
      (.seq (.ops [⟨some 124, .move (.t 8), none, []⟩,
        ⟨some 125, .fldAddr 0 (.t 10), none, []⟩,
        ⟨some 126, .load none (.t 125), none, []⟩,
        ⟨some 127, .call 14 [(.t 124), (.t 126)], none, []⟩,
        ⟨some 123, .move (.t 127), none, []⟩,
        ⟨some 128, .ext 0 (.t 123), none, []⟩,
        ⟨some 129, .ext 1 (.t 123), none, []⟩,
        ⟨some 14, .move (.t 128), none, []⟩,
        ⟨some 15, .move (.t 129), none, []⟩] none [1, 7, 8, 9, 12, 13, 14, 15])
      (.seq (.ops [⟨some 130, .move (.t 12), none, []⟩,
        ⟨some 131, .move (.t 14), none, []⟩,
        ⟨some 132, .bin .neq (.t 130) (.t 131), none, []⟩,
        ⟨some 133, .move (.t 132), none, []⟩,
        ⟨some 134, .move (.t 13), (some (133, false)), []⟩,
        ⟨some 135, .move (.t 15), (some (133, false)), []⟩,
        ⟨some 136, .eq true .b (.t 134) (.t 135), (some (133, false)), []⟩,
        ⟨some 137, .pick (.t 133) (.c (.bool true)) (.t 136), none, []⟩] none [1, 7, 8, 9, 137])
      (.cond (.t 137)
        (.seq (.ops [⟨some 4, .move (.c (.bool false)), none, []⟩] none [4])
        (.ret))
        (.skip)))))))))
    (.ops [⟨some 82, .move (.t 9), none, []⟩,
      ⟨some 83, .bin .add (.t 82) (.c (.int .i64 1)), none, []⟩,
      ⟨some 9, .move (.t 83), none, []⟩] none [1, 7, 8, 9]))))))
(.seq (.ops [⟨some 4, .move (.c (.bool true)), none, []⟩] none [4])
(.ret)))))))))))
def f9 : SFunc := ⟨b9, [.t 4]⟩

/-- watchbill/watchbilllaw18.GraphAny -/
def b15 : SCode := (
.seq (.ops [⟨some 8, .move (.c (.bool false)), none, []⟩] none [0, 1, 2, 3])
(.seq (.seq (.ops [⟨some 9, .call 16 [], none, []⟩,
  ⟨some 10, .not (.t 9), none, []⟩] none [0, 1, 2, 3, 10])
(.cond (.t 10)
  (.seq (.ops [⟨some 8, .move (.c (.bool false)), none, []⟩] none [8])
  (.ret))
  (.skip)))
(.seq (.seq (.ops [⟨some 11, .move (.t 0), none, []⟩,
  ⟨some 12, .len .sl (.t 11), none, []⟩,
  ⟨some 13, .bin .gtr (.t 12) (.c (.int .i64 40)), none, []⟩,
  ⟨some 14, .move (.t 13), none, []⟩,
  ⟨some 15, .move (.t 1), (some (14, false)), []⟩,
  ⟨some 16, .len .sl (.t 15), (some (14, false)), []⟩,
  ⟨some 17, .bin .gtr (.t 16) (.c (.int .i64 60)), (some (14, false)), []⟩,
  ⟨some 18, .pick (.t 14) (.c (.bool true)) (.t 17), none, []⟩,
  ⟨some 19, .move (.t 18), none, []⟩,
  ⟨some 20, .move (.t 2), (some (19, false)), []⟩,
  ⟨some 21, .len .sl (.t 20), (some (19, false)), []⟩,
  ⟨some 22, .bin .gtr (.t 21) (.c (.int .i64 60)), (some (19, false)), []⟩,
  ⟨some 23, .pick (.t 19) (.c (.bool true)) (.t 22), none, []⟩] none [0, 1, 2, 3, 23])
(.cond (.t 23)
  (.seq (.ops [⟨some 8, .move (.c (.bool true)), none, []⟩] none [8])
  (.ret))
  (.skip)))
(.seq (.ops [⟨some 24, .move (.t 0), none, []⟩,
  ⟨some 25, .move (.t 1), none, []⟩,
  ⟨some 26, .move (.t 2), none, []⟩,
  ⟨some 27, .call 17 [(.t 24), (.t 25), (.t 26)], none, []⟩,
  ⟨some 28, .move (.t 0), none, []⟩,
  ⟨some 29, .move (.t 1), none, []⟩,
  ⟨some 30, .move (.t 2), none, []⟩,
  ⟨some 31, .call 18 [(.t 30)], none, []⟩,
  ⟨some 32, .call 19 [(.t 28), (.t 29), (.t 31)], none, []⟩,
  ⟨some 33, .call 20 [(.t 27), (.t 32)], none, []⟩,
  ⟨some 34, .move (.t 33), none, []⟩,
  ⟨some 35, .move (.t 3), (some (34, true)), []⟩,
  ⟨some 36, .move (.t 2), (some (34, true)), []⟩,
  ⟨some 37, .call 21 [(.t 35), (.t 36)], (some (34, true)), []⟩,
  ⟨some 38, .move (.t 3), (some (34, true)), []⟩,
  ⟨some 39, .move (.t 2), (some (34, true)), []⟩,
  ⟨some 40, .call 18 [(.t 39)], (some (34, true)), []⟩,
  ⟨some 41, .call 22 [(.t 38), (.t 40)], (some (34, true)), []⟩,
  ⟨some 42, .eq false .b (.t 37) (.t 41), (some (34, true)), []⟩,
  ⟨some 43, .pick (.t 34) (.t 42) (.c (.bool false)), none, []⟩,
  ⟨some 8, .move (.t 43), none, []⟩] none [8])
(.ret)))))
def f15 : SFunc := ⟨b15, [.t 8]⟩

/-- watchbill/watchbilllaw18.GraphLends -/
def b23 : SCode := (
.seq (.ops [⟨some 4, .move (.c (.bool false)), none, []⟩] none [0, 1])
(.seq (.seq (.ops [⟨some 12, .call 16 [], none, []⟩,
  ⟨some 13, .not (.t 12), none, []⟩] none [0, 1, 13])
(.cond (.t 13)
  (.seq (.ops [⟨some 4, .move (.c (.bool false)), none, []⟩] none [4])
  (.ret))
  (.skip)))
(.seq (.seq (.ops [⟨some 14, .move (.t 0), none, []⟩,
  ⟨some 15, .len .sl (.t 14), none, []⟩,
  ⟨some 16, .bin .gtr (.t 15) (.c (.int .i64 40)), none, []⟩,
  ⟨some 17, .move (.t 16), none, []⟩,
  ⟨some 18, .move (.t 1), (some (17, false)), []⟩,
  ⟨some 19, .len .sl (.t 18), (some (17, false)), []⟩,
  ⟨some 20, .bin .gtr (.t 19) (.c (.int .i64 60)), (some (17, false)), []⟩,
  ⟨some 21, .pick (.t 17) (.c (.bool true)) (.t 20), none, []⟩] none [0, 1, 21])
(.cond (.t 21)
  (.seq (.ops [⟨some 4, .move (.c (.bool true)), none, []⟩] none [4])
  (.ret))
  (.skip)))
(.seq (.ops [⟨some 22, .move (.t 0), none, []⟩,
  ⟨some 23, .move (.t 1), none, []⟩,
  ⟨some 24, .call 17 [(.t 22), (.c .nils), (.t 23)], none, []⟩,
  ⟨some 5, .move (.t 24), none, []⟩] none [0, 1, 5])
(.seq (.seq (.ops [⟨some 25, .move (.t 5), none, []⟩,
  ⟨some 26, .len .sl (.t 25), none, []⟩,
  ⟨some 27, .move (.t 0), none, []⟩,
  ⟨some 28, .len .sl (.t 27), none, []⟩,
  ⟨some 29, .bin .neq (.t 26) (.t 28), none, []⟩] none [0, 1, 5, 29])
(.cond (.t 29)
  (.seq (.ops [⟨some 4, .move (.c (.bool false)), none, []⟩] none [4])
  (.ret))
  (.skip)))
(.seq (.seq (.ops [⟨some 6, .move (.c (.int .i64 0)), none, []⟩] none [0, 1, 5, 6])
(.block 0 (.loop [0, 1, 5, 6] (.seq (.seq (.ops [⟨some 30, .move (.t 6), none, []⟩,
      ⟨some 31, .move (.t 0), none, []⟩,
      ⟨some 32, .len .sl (.t 31), none, []⟩,
      ⟨some 33, .bin .lss (.t 30) (.t 32), none, []⟩] none [0, 1, 5, 6, 33])
    (.cond (.t 33)
      (.skip)
      (.exit 0)))
    (.seq (.block 1 (.seq (.ops [⟨some 7, .move (.c (.bool false)), none, []⟩] none [0, 1, 5, 6, 7])
      (.seq (.seq (.ops [⟨some 8, .move (.c (.int .i64 0)), none, []⟩] none [0, 1, 5, 6, 7, 8])
      (.block 2 (.loop [0, 1, 5, 6, 7, 8] (.seq (.seq (.ops [⟨some 36, .move (.t 8), none, []⟩,
            ⟨some 37, .move (.t 0), none, []⟩,
            ⟨some 38, .len .sl (.t 37), none, []⟩,
            ⟨some 39, .bin .lss (.t 36) (.t 38), none, []⟩] none [0, 1, 5, 6, 7, 8, 39])
          (.cond (.t 39)
            (.skip)
            (.exit 2)))
          (.seq (.block 3 (.ops [⟨some 42, .move (.t 7), none, []⟩,
              ⟨some 43, .move (.t 42), none, []⟩,
              ⟨some 44, .move (.t 0), (some (43, false)), []⟩,
              ⟨some 45, .move (.t 8), (some (43, false)), []⟩,
              ⟨some 46, .idxAddr 1 (.t 44) (.t 45), (some (43, false)), []⟩,
              ⟨some 47, .load none (.t 46), (some (43, false)), []⟩,
              ⟨some 48, .move (.t 5), (some (43, false)), []⟩,
              ⟨some 49, .move (.t 6), (some (43, false)), []⟩,
              ⟨some 50, .idxAddr 1 (.t 48) (.t 49), (some (43, false)), []⟩,
              ⟨some 51, .load none (.t 50), (some (43, false)), []⟩,
              ⟨some 52, .bin .eql (.t 47) (.t 51), (some (43, false)), []⟩,
              ⟨some 53, .pick (.t 43) (.c (.bool true)) (.t 52), none, []⟩,
              ⟨some 7, .move (.t 53), none, []⟩] (some [(0, []), (1, [0]), (2, [1, 0]), (3, [1, 0]), (4, [2, 1, 0, 3]), (5, [4, 2, 1, 0, 3]), (6, [1, 0]), (7, [1, 0]), (8, [6, 1, 0, 7]), (9, [8, 6, 1, 0, 7]), (10, [5, 4, 2, 1, 0, 3, 9, 8, 6, 7]), (11, [1, 0, 10, 5, 4, 2, 3, 9, 8, 6, 7]), (12, [11, 1, 0, 10, 5, 4, 2, 3, 9, 8, 6, 7])]) [0, 1, 5, 6, 7, 8]))
          (.ops [⟨some 40, .move (.t 8), none, []⟩,
            ⟨some 41, .bin .add (.t 40) (.c (.int .i64 1)), none, []⟩,
            ⟨some 8, .move (.t 41), none, []⟩] none [0, 1, 5, 6, 7, 8]))))))
      (.seq (.ops [⟨some 54, .move (.t 5), none, []⟩,
        ⟨some 55, .move (.t 6), none, []⟩,
        ⟨some 56, .idxAddr 1 (.t 54) (.t 55), none, []⟩,
        ⟨some 57, .load none (.t 56), none, []⟩,
        ⟨some 58, .move (.t 0), none, []⟩,
        ⟨some 59, .move (.t 6), none, []⟩,
        ⟨some 60, .idxAddr 1 (.t 58) (.t 59), none, []⟩,
        ⟨some 61, .load none (.t 60), none, []⟩,
        ⟨some 62, .bin .lss (.t 57) (.t 61), none, []⟩,
        ⟨some 63, .move (.t 62), none, []⟩,
        ⟨some 64, .move (.t 7), (some (63, false)), []⟩,
        ⟨some 65, .not (.t 64), (some (63, false)), []⟩,
        ⟨some 66, .pick (.t 63) (.c (.bool true)) (.t 65), none, []⟩] (some [(0, []), (1, []), (2, [0, 1]), (3, [2, 0, 1]), (4, []), (5, []), (6, [4, 5]), (7, [6, 4, 5]), (8, [3, 2, 0, 1, 7, 6, 4, 5]), (9, [8, 3, 2, 0, 1, 7, 6, 4, 5]), (10, [9, 8, 3, 2, 0, 1, 7, 6, 4, 5]), (11, [10, 9, 8, 3, 2, 0, 1, 7, 6, 4, 5]), (12, [9, 8, 3, 2, 0, 1, 7, 6, 4, 5, 11, 10])]) [0, 1, 5, 6, 66])
      (.cond (.t 66)
        (.seq (.ops [⟨some 4, .move (.c (.bool false)), none, []⟩] none [4])
        (.ret))
        (.skip))))))
    (.ops [⟨some 34, .move (.t 6), none, []⟩,
      ⟨some 35, .bin .add (.t 34) (.c (.int .i64 1)), none, []⟩,
      ⟨some 6, .move (.t 35), none, []⟩] none [0, 1, 5, 6]))))))
(.seq (.seq (.ops [⟨some 9, .move (.c (.int .i64 0)), none, []⟩] none [1, 5, 9])
(.block 4 (.loop [1, 5, 9] (.seq (.seq (.ops [⟨some 67, .move (.t 9), none, []⟩,
      ⟨some 68, .move (.t 1), none, []⟩,
      ⟨some 69, .len .sl (.t 68), none, []⟩,
      ⟨some 70, .bin .lss (.t 67) (.t 69), none, []⟩] none [1, 5, 9, 70])
    (.cond (.t 70)
      (.skip)
      (.exit 4)))
    (.seq (.block 5 (.seq (.ops [⟨some 73, .move (.t 1), none, []⟩,
        ⟨some 74, .move (.t 9), none, []⟩,
        ⟨some 75, .idxAddr 2 (.t 73) (.t 74), none, []⟩,
        ⟨some 76, .fldAddr 0 (.t 75), none, []⟩,
        ⟨some 77, .load none (.t 76), none, []⟩,
        ⟨some 78, .move (.t 1), none, []⟩,
        ⟨some 79, .move (.t 9), none, []⟩,
        ⟨some 80, .idxAddr 2 (.t 78) (.t 79), none, []⟩,
        ⟨some 81, .fldAddr 1 (.t 80), none, []⟩,
        ⟨some 82, .load none (.t 81), none, []⟩,
        ⟨some 10, .move (.t 77), none, []⟩,
        ⟨some 11, .move (.t 82), none, []⟩] (some [(0, []), (1, []), (2, [0, 1]), (3, [2, 0, 1]), (4, [3, 2, 0, 1]), (5, []), (6, []), (7, [5, 6]), (8, [7, 5, 6]), (9, [8, 7, 5, 6]), (10, [4, 3, 2, 0, 1]), (11, [9, 8, 7, 5, 6, 10, 4, 3, 2, 0, 1])]) [1, 5, 9, 10, 11])
      (.seq (.ops [⟨some 83, .move (.t 10), none, []⟩,
        ⟨some 84, .bin .geq (.t 83) (.c (.int .i64 0)), none, []⟩,
        ⟨some 85, .move (.t 84), none, []⟩,
        ⟨some 86, .move (.t 10), (some (85, true)), []⟩,
        ⟨some 87, .move (.t 5), (some (85, true)), []⟩,
        ⟨some 88, .len .sl (.t 87), (some (85, true)), []⟩,
        ⟨some 89, .bin .lss (.t 86) (.t 88), (some (85, true)), []⟩,
        ⟨some 90, .pick (.t 85) (.t 89) (.c (.bool false)), none, []⟩,
        ⟨some 91, .move (.t 90), none, []⟩,
        ⟨some 92, .move (.t 11), (some (91, true)), []⟩,
        ⟨some 93, .bin .geq (.t 92) (.c (.int .i64 0)), (some (91, true)), []⟩,
        ⟨some 94, .pick (.t 91) (.t 93) (.c (.bool false)), none, []⟩,
        ⟨some 95, .move (.t 94), none, []⟩,
        ⟨some 96, .move (.t 11), (some (95, true)), []⟩,
        ⟨some 97, .move (.t 5), (some (95, true)), []⟩,
        ⟨some 98, .len .sl (.t 97), (some (95, true)), []⟩,
        ⟨some 99, .bin .lss (.t 96) (.t 98), (some (95, true)), []⟩,
        ⟨some 100, .pick (.t 95) (.t 99) (.c (.bool false)), none, []⟩,
        ⟨some 101, .move (.t 100), none, []⟩,
        ⟨some 102, .move (.t 5), (some (101, true)), []⟩,
        ⟨some 103, .move (.t 11), (some (101, true)), []⟩,
        ⟨some 104, .idxAddr 1 (.t 102) (.t 103), (some (101, true)), []⟩,
        ⟨some 105, .load none (.t 104), (some (101, true)), []⟩,
        ⟨some 106, .move (.t 5), (some (101, true)), []⟩,
        ⟨some 107, .move (.t 10), (some (101, true)), []⟩,
        ⟨some 108, .idxAddr 1 (.t 106) (.t 107), (some (101, true)), []⟩,
        ⟨some 109, .load none (.t 108), (some (101, true)), []⟩,
        ⟨some 110, .bin .lss (.t 105) (.t 109), (some (101, true)), []⟩,
        ⟨some 111, .pick (.t 101) (.t 110) (.c (.bool false)), none, []⟩] (some [(0, []), (1, [0]), (2, [1, 0]), (3, [2, 1, 0]), (4, [2, 1, 0]), (5, [4, 2, 1, 0]), (6, [3, 2, 1, 0, 5, 4]), (7, [2, 1, 0, 6, 3, 5, 4]), (8, [7, 2, 1, 0, 6, 3, 5, 4]), (9, [8, 7, 2, 1, 0, 6, 3, 5, 4]), (10, [9, 8, 7, 2, 1, 0, 6, 3, 5, 4]), (11, [8, 7, 2, 1, 0, 6, 3, 5, 4, 10, 9]), (12, [11, 8, 7, 2, 1, 0, 6, 3, 5, 4, 10, 9]), (13, [12, 11, 8, 7, 2, 1, 0, 6, 3, 5, 4, 10, 9]), (14, [12, 11, 8, 7, 2, 1, 0, 6, 3, 5, 4, 10, 9]), (15, [14, 12, 11, 8, 7, 2, 1, 0, 6, 3, 5, 4, 10, 9]), (16, [13, 12, 11, 8, 7, 2, 1, 0, 6, 3, 5, 4, 10, 9, 15, 14]), (17, [12, 11, 8, 7, 2, 1, 0, 6, 3, 5, 4, 10, 9, 16, 13, 15, 14]), (18, [17, 12, 11, 8, 7, 2, 1, 0, 6, 3, 5, 4, 10, 9, 16, 13, 15, 14]), (19, [18, 17, 12, 11, 8, 7, 2, 1, 0, 6, 3, 5, 4, 10, 9, 16, 13, 15, 14]), (20, [18, 17, 12, 11, 8, 7, 2, 1, 0, 6, 3, 5, 4, 10, 9, 16, 13, 15, 14]), (21, [19, 18, 17, 12, 11, 8, 7, 2, 1, 0, 6, 3, 5, 4, 10, 9, 16, 13, 15, 14, 20]), (22, [21, 19, 18, 17, 12, 11, 8, 7, 2, 1, 0, 6, 3, 5, 4, 10, 9, 16, 13, 15, 14, 20]), (23, [18, 17, 12, 11, 8, 7, 2, 1, 0, 6, 3, 5, 4, 10, 9, 16, 13, 15, 14]), (24, [18, 17, 12, 11, 8, 7, 2, 1, 0, 6, 3, 5, 4, 10, 9, 16, 13, 15, 14]), (25, [23, 18, 17, 12, 11, 8, 7, 2, 1, 0, 6, 3, 5, 4, 10, 9, 16, 13, 15, 14, 24]), (26, [25, 23, 18, 17, 12, 11, 8, 7, 2, 1, 0, 6, 3, 5, 4, 10, 9, 16, 13, 15, 14, 24]), (27, [22, 21, 19, 18, 17, 12, 11, 8, 7, 2, 1, 0, 6, 3, 5, 4, 10, 9, 16, 13, 15, 14, 20, 26, 25, 23, 24]), (28, [18, 17, 12, 11, 8, 7, 2, 1, 0, 6, 3, 5, 4, 10, 9, 16, 13, 15, 14, 27, 22, 21, 19, 20, 26, 25, 23, 24])]) [1, 5, 9, 111])
      (.cond (.t 111)
        (.seq (.ops [⟨some 4, .move (.c (.bool false)), none, []⟩] none [4])
        (.ret))
        (.skip)))))
    (.ops [⟨some 71, .move (.t 9), none, []⟩,
      ⟨some 72, .bin .add (.t 71) (.c (.int .i64 1)), none, []⟩,
      ⟨some 9, .move (.t 72), none, []⟩] none [1, 5, 9]))))))
(.seq (.ops [⟨some 112, .move (.t 5), none, []⟩,
  ⟨some 113, .move (.t 1), none, []⟩,
  ⟨some 114, .call 17 [(.t 112), (.c .nils), (.t 113)], none, []⟩,
  ⟨some 115, .move (.t 5), none, []⟩,
  ⟨some 116, .call 20 [(.t 114), (.t 115)], none, []⟩,
  ⟨some 4, .move (.t 116), none, []⟩] none [4])
(.ret)))))))))
def f23 : SFunc := ⟨b23, [.t 4]⟩

/-- watchbill/watchbilllaw18.GraphRow -/
def b24 : SCode := (
.seq (.ops [⟨some 4, .move (.c (.bool false)), none, []⟩] none [0, 1])
(.seq (.seq (.ops [⟨some 11, .call 16 [], none, []⟩,
  ⟨some 12, .not (.t 11), none, []⟩] none [0, 1, 12])
(.cond (.t 12)
  (.seq (.ops [⟨some 4, .move (.c (.bool false)), none, []⟩] none [4])
  (.ret))
  (.skip)))
(.seq (.seq (.ops [⟨some 13, .move (.t 0), none, []⟩,
  ⟨some 14, .len .sl (.t 13), none, []⟩,
  ⟨some 15, .bin .lss (.t 14) (.c (.int .i64 1)), none, []⟩,
  ⟨some 16, .move (.t 15), none, []⟩,
  ⟨some 17, .move (.t 0), (some (16, false)), []⟩,
  ⟨some 18, .len .sl (.t 17), (some (16, false)), []⟩,
  ⟨some 19, .bin .gtr (.t 18) (.c (.int .i64 30)), (some (16, false)), []⟩,
  ⟨some 20, .pick (.t 16) (.c (.bool true)) (.t 19), none, []⟩] none [0, 1, 20])
(.cond (.t 20)
  (.seq (.ops [⟨some 4, .move (.c (.bool true)), none, []⟩] none [4])
  (.ret))
  (.skip)))
(.seq (.ops [⟨some 5, .move (.c .nils), none, []⟩,
  ⟨some 6, .move (.c .nils), none, []⟩] none [0, 1, 5, 6])
(.seq (.ops [⟨some 7, .move (.c .nils), none, []⟩] none [0, 1, 5, 6, 7])
(.seq (.ops [⟨some 8, .move (.c (.int .i64 0)), none, []⟩] none [0, 1, 5, 6, 7, 8])
(.seq (.seq (.ops [⟨some 9, .move (.c (.int .i64 0)), none, []⟩] none [0, 1, 5, 6, 7, 8, 9])
(.block 0 (.loop [0, 1, 5, 6, 7, 8, 9] (.seq (.seq (.ops [⟨some 21, .move (.t 9), none, []⟩,
      ⟨some 22, .move (.t 0), none, []⟩,
      ⟨some 23, .len .sl (.t 22), none, []⟩,
      ⟨some 24, .bin .lss (.t 21) (.t 23), none, []⟩] none [0, 1, 5, 6, 7, 8, 9, 24])
    (.cond (.t 24)
      (.skip)
      (.exit 0)))
    (.seq (.block 1 (.seq (.ops [⟨some 27, .move (.t 5), none, []⟩,
        ⟨some 28, .move (.t 0), none, []⟩,
        ⟨some 29, .move (.t 9), none, []⟩,
        ⟨some 30, .idxAddr 1 (.t 28) (.t 29), none, []⟩,
        ⟨some 31, .load none (.t 30), none, []⟩,
        ⟨some 32, .conv .i64 (.t 31), none, []⟩,
        ⟨some 33, .buildSl 1 [(.int .i64 0)] [(0, 1, (.t 32))], none, []⟩,
        ⟨some 34, .append 1 (.t 27) (.t 33), none, []⟩,
        ⟨some 5, .move (.t 34), none, []⟩] none [0, 1, 5, 6, 7, 8, 9])
      (.seq (.ops [⟨some 35, .move (.t 8), none, []⟩,
        ⟨some 36, .move (.t 0), none, []⟩,
        ⟨some 37, .move (.t 9), none, []⟩,
        ⟨some 38, .idxAddr 1 (.t 36) (.t 37), none, []⟩,
        ⟨some 39, .load none (.t 38), none, []⟩,
        ⟨some 40, .conv .i64 (.t 39), none, []⟩,
        ⟨some 41, .mx [(.t 35), (.t 40)], none, []⟩,
        ⟨some 8, .move (.t 41), none, []⟩] none [0, 1, 5, 6, 7, 8, 9])
      (.seq (.ops [⟨some 42, .move (.t 6), none, []⟩,
        ⟨some 43, .move (.t 8), none, []⟩,
        ⟨some 44, .buildSl 1 [(.int .i64 0)] [(0, 1, (.t 43))], none, []⟩,
        ⟨some 45, .append 1 (.t 42) (.t 44), none, []⟩,
        ⟨some 6, .move (.t 45), none, []⟩] none [0, 1, 5, 6, 7, 8, 9])
      (.seq (.ops [⟨some 46, .move (.t 9), none, []⟩,
        ⟨some 47, .bin .gtr (.t 46) (.c (.int .i64 0)), none, []⟩] none [0, 1, 5, 6, 7, 8, 9, 47])
      (.cond (.t 47)
        (.ops [⟨some 48, .move (.t 7), none, []⟩,
          ⟨some 49, .move (.t 9), none, []⟩,
          ⟨some 50, .bin .sub (.t 49) (.c (.int .i64 1)), none, []⟩,
          ⟨some 51, .move (.t 9), none, []⟩,
          ⟨some 52, .build [(.int .i64 0), (.int .i64 0)] [(0, 1, (.t 50)), (1, 1, (.t 51))], none, []⟩,
          ⟨some 53, .buildSl 1 [(.int .i64 0), (.int .i64 0)] [(0, 2, (.t 52))], none, []⟩,
          ⟨some 54, .append 2 (.t 48) (.t 53), none, []⟩,
          ⟨some 7, .move (.t 54), none, []⟩] none [0, 1, 5, 6, 7, 8, 9])
        (.skip)))))))
    (.ops [⟨some 25, .move (.t 9), none, []⟩,
      ⟨some 26, .bin .add (.t 25) (.c (.int .i64 1)), none, []⟩,
      ⟨some 9, .move (.t 26), none, []⟩] none [0, 1, 5, 6, 7, 8, 9]))))))
(.seq (.seq (.ops [⟨some 55, .move (.t 1), none, []⟩] none [0, 1, 5, 6, 7, 8, 55])
(.cond (.t 55)
  (.seq (.ops [⟨some 56, .move (.t 7), none, []⟩,
    ⟨some 57, .move (.t 0), none, []⟩,
    ⟨some 58, .len .sl (.t 57), none, []⟩,
    ⟨some 59, .bin .sub (.t 58) (.c (.int .i64 1)), none, []⟩,
    ⟨some 60, .build [(.int .i64 0), (.int .i64 0)] [(0, 1, (.t 59)), (1, 1, (.c (.int .i64 0)))], none, []⟩,
    ⟨some 61, .buildSl 1 [(.int .i64 0), (.int .i64 0)] [(0, 2, (.t 60))], none, []⟩,
    ⟨some 62, .append 2 (.t 56) (.t 61), none, []⟩,
    ⟨some 7, .move (.t 62), none, []⟩] none [0, 1, 5, 6, 7, 8])
  (.seq (.ops [⟨some 10, .move (.c (.int .i64 0)), none, []⟩] none [0, 1, 5, 6, 7, 8, 10])
  (.block 2 (.loop [0, 1, 5, 6, 7, 8, 10] (.seq (.seq (.ops [⟨some 63, .move (.t 10), none, []⟩,
        ⟨some 64, .move (.t 6), none, []⟩,
        ⟨some 65, .len .sl (.t 64), none, []⟩,
        ⟨some 66, .bin .lss (.t 63) (.t 65), none, []⟩] none [0, 1, 5, 6, 7, 8, 10, 66])
      (.cond (.t 66)
        (.skip)
        (.exit 2)))
      (.seq (.block 3 (.ops [⟨some 69, .move (.t 6), none, []⟩,
          ⟨some 70, .move (.t 10), none, []⟩,
          ⟨some 71, .move (.t 8), none, []⟩,
          ⟨some 72, .idxAddr 1 (.t 69) (.t 70), none, []⟩,
          ⟨none, .store none (.t 72) (.t 71), none, []⟩] none [0, 1, 5, 6, 7, 8, 10]))
      (.ops [⟨some 67, .move (.t 10), none, []⟩,
        ⟨some 68, .bin .add (.t 67) (.c (.int .i64 1)), none, []⟩,
        ⟨some 10, .move (.t 68), none, []⟩] none [0, 1, 5, 6, 7, 8, 10])))))))
  (.skip)))
(.seq (.ops [⟨some 73, .move (.t 5), none, []⟩,
  ⟨some 74, .move (.t 7), none, []⟩,
  ⟨some 75, .call 17 [(.t 73), (.c .nils), (.t 74)], none, []⟩,
  ⟨some 76, .move (.t 6), none, []⟩,
  ⟨some 77, .call 20 [(.t 75), (.t 76)], none, []⟩,
  ⟨some 78, .move (.t 77), none, []⟩,
  ⟨some 79, .move (.t 0), (some (78, true)), []⟩,
  ⟨some 80, .len .sl (.t 79), (some (78, true)), []⟩,
  ⟨some 81, .move (.t 7), (some (78, true)), []⟩,
  ⟨some 82, .call 21 [(.t 80), (.t 81)], (some (78, true)), []⟩,
  ⟨some 83, .move (.t 1), (some (78, true)), []⟩,
  ⟨some 84, .eq false .b (.t 82) (.t 83), (some (78, true)), []⟩,
  ⟨some 85, .pick (.t 78) (.t 84) (.c (.bool false)), none, []⟩,
  ⟨some 86, .move (.t 85), none, []⟩,
  ⟨some 87, .move (.t 0), (some (86, true)), []⟩,
  ⟨some 88, .len .sl (.t 87), (some (86, true)), []⟩,
  ⟨some 89, .bin .sub (.t 88) (.c (.int .i64 1)), (some (86, true)), []⟩,
  ⟨some 90, .move (.t 7), (some (86, true)), []⟩,
  ⟨some 91, .move (.t 7), (some (86, true)), []⟩,
  ⟨some 92, .len .sl (.t 91), (some (86, true)), []⟩,
  ⟨some 93, .bin .sub (.t 92) (.c (.int .i64 1)), (some (86, true)), []⟩,
  ⟨some 94, .mx [(.c (.int .i64 0)), (.t 93)], (some (86, true)), []⟩,
  ⟨some 95, .slSl 2 (.t 90) none (some (.t 94)), (some (86, true)), []⟩,
  ⟨some 96, .call 21 [(.t 89), (.t 95)], (some (86, true)), []⟩,
  ⟨some 97, .not (.t 96), (some (86, true)), []⟩,
  ⟨some 98, .pick (.t 86) (.t 97) (.c (.bool false)), none, []⟩,
  ⟨some 4, .move (.t 98), none, []⟩] none [4])
(.ret))))))))))
def f24 : SFunc := ⟨b24, [.t 4]⟩

/-- watchbill/watchbilllaw18.GraphMore -/
def b25 : SCode := (
.seq (.ops [⟨some 10, .move (.c (.bool false)), none, []⟩] none [0, 1, 2, 3, 4])
(.seq (.seq (.ops [⟨some 18, .call 16 [], none, []⟩,
  ⟨some 19, .not (.t 18), none, []⟩] none [0, 1, 2, 3, 4, 19])
(.cond (.t 19)
  (.seq (.ops [⟨some 10, .move (.c (.bool false)), none, []⟩] none [10])
  (.ret))
  (.skip)))
(.seq (.seq (.ops [⟨some 20, .move (.t 0), none, []⟩,
  ⟨some 21, .len .sl (.t 20), none, []⟩,
  ⟨some 22, .bin .lss (.t 21) (.c (.int .i64 1)), none, []⟩,
  ⟨some 23, .move (.t 22), none, []⟩,
  ⟨some 24, .move (.t 0), (some (23, false)), []⟩,
  ⟨some 25, .len .sl (.t 24), (some (23, false)), []⟩,
  ⟨some 26, .bin .gtr (.t 25) (.c (.int .i64 30)), (some (23, false)), []⟩,
  ⟨some 27, .pick (.t 23) (.c (.bool true)) (.t 26), none, []⟩,
  ⟨some 28, .move (.t 27), none, []⟩,
  ⟨some 29, .move (.t 1), (some (28, false)), []⟩,
  ⟨some 30, .len .sl (.t 29), (some (28, false)), []⟩,
  ⟨some 31, .bin .gtr (.t 30) (.c (.int .i64 40)), (some (28, false)), []⟩,
  ⟨some 32, .pick (.t 28) (.c (.bool true)) (.t 31), none, []⟩] none [0, 1, 2, 3, 4, 32])
(.cond (.t 32)
  (.seq (.ops [⟨some 10, .move (.c (.bool true)), none, []⟩] none [10])
  (.ret))
  (.skip)))
(.seq (.ops [⟨some 11, .move (.c .nils), none, []⟩] none [0, 1, 2, 3, 4, 11])
(.seq (.seq (.ops [⟨some 12, .move (.c (.int .i64 0)), none, []⟩] none [0, 1, 2, 3, 4, 11, 12])
(.block 0 (.loop [0, 1, 2, 3, 4, 11, 12] (.seq (.seq (.ops [⟨some 33, .move (.t 12), none, []⟩,
      ⟨some 34, .move (.t 0), none, []⟩,
      ⟨some 35, .len .sl (.t 34), none, []⟩,
      ⟨some 36, .bin .lss (.t 33) (.t 35), none, []⟩] none [0, 1, 2, 3, 4, 11, 12, 36])
    (.cond (.t 36)
      (.skip)
      (.exit 0)))
    (.seq (.block 1 (.ops [⟨some 39, .move (.t 11), none, []⟩,
        ⟨some 40, .move (.t 0), none, []⟩,
        ⟨some 41, .move (.t 12), none, []⟩,
        ⟨some 42, .idxAddr 1 (.t 40) (.t 41), none, []⟩,
        ⟨some 43, .load none (.t 42), none, []⟩,
        ⟨some 44, .conv .i64 (.t 43), none, []⟩,
        ⟨some 45, .buildSl 1 [(.int .i64 0)] [(0, 1, (.t 44))], none, []⟩,
        ⟨some 46, .append 1 (.t 39) (.t 45), none, []⟩,
        ⟨some 11, .move (.t 46), none, []⟩] none [0, 1, 2, 3, 4, 11, 12]))
    (.ops [⟨some 37, .move (.t 12), none, []⟩,
      ⟨some 38, .bin .add (.t 37) (.c (.int .i64 1)), none, []⟩,
      ⟨some 12, .move (.t 38), none, []⟩] none [0, 1, 2, 3, 4, 11, 12]))))))
(.seq (.ops [⟨some 47, .move (.t 0), none, []⟩,
  ⟨some 48, .len .sl (.t 47), none, []⟩,
  ⟨some 13, .move (.t 48), none, []⟩] none [1, 2, 3, 4, 11, 13])
(.seq (.ops [⟨some 49, .move (.t 11), none, []⟩,
  ⟨some 50, .move (.t 1), none, []⟩,
  ⟨some 51, .call 17 [(.t 49), (.c .nils), (.t 50)], none, []⟩,
  ⟨some 14, .move (.t 51), none, []⟩] none [1, 2, 3, 4, 11, 13, 14])
(.seq (.ops [⟨some 52, .move (.t 11), none, []⟩,
  ⟨some 53, .buildSl 0 [] [], none, []⟩,
  ⟨some 54, .move (.t 1), none, []⟩,
  ⟨some 56, .move (.t 2), none, []⟩,
  ⟨some 57, .conv .i64 (.t 56), none, []⟩,
  ⟨some 58, .move (.t 13), none, []⟩,
  ⟨some 59, .bin .rem (.t 57) (.t 58), none, []⟩,
  ⟨some 60, .move (.t 3), none, []⟩,
  ⟨some 61, .conv .i64 (.t 60), none, []⟩,
  ⟨some 62, .move (.t 13), none, []⟩,
  ⟨some 63, .bin .rem (.t 61) (.t 62), none, []⟩,
  ⟨some 64, .build [(.int .i64 0), (.int .i64 0)] [(0, 1, (.t 59)), (1, 1, (.t 63))], none, []⟩,
  ⟨some 65, .buildSl 1 [(.int .i64 0), (.int .i64 0)] [(0, 2, (.t 64))], none, []⟩,
  ⟨some 55, .append 2 (.t 53) (.t 54), none, []⟩,
  ⟨some 66, .append 2 (.t 55) (.t 65), none, []⟩,
  ⟨some 67, .call 17 [(.t 52), (.c .nils), (.t 66)], none, []⟩,
  ⟨some 15, .move (.t 67), none, []⟩] (some [(0, []), (1, []), (2, []), (4, []), (5, [3]), (6, []), (7, [4, 3, 5]), (8, []), (9, [7]), (10, []), (11, [8, 7, 9]), (12, [6, 4, 3, 5, 10, 8, 7, 9]), (13, [11, 6, 4, 3, 5, 10, 8, 7, 9]), (3, [1, 2]), (14, [13, 1, 2, 12, 11, 6, 4, 3, 5, 10, 8, 7, 9]), (15, [0, 14, 13, 1, 2, 12, 11, 6, 4, 3, 5, 10, 8, 7, 9]), (16, [15, 0, 14, 13, 1, 2, 12, 11, 6, 4, 3, 5, 10, 8, 7, 9])]) [1, 2, 3, 4, 11, 13, 14, 15])
(.seq (.ops [⟨some 68, .move (.t 11), none, []⟩,
  ⟨some 69, .move (.t 4), none, []⟩,
  ⟨some 70, .conv .i64 (.t 69), none, []⟩,
  ⟨some 71, .move (.t 13), none, []⟩,
  ⟨some 72, .bin .rem (.t 70) (.t 71), none, []⟩,
  ⟨some 73, .idxAddr 1 (.t 68) (.t 72), none, []⟩,
  ⟨some 74, .load none (.t 73), none, []⟩,
  ⟨some 75, .bin .add (.t 74) (.c (.int .i64 1)), none, []⟩,
  ⟨some 76, .idxAddr 1 (.t 68) (.t 72), none, []⟩,
  ⟨none, .store none (.t 76) (.t 75), none, []⟩] none [1, 2, 3, 11, 13, 14, 15])
(.seq (.ops [⟨some 77, .move (.t 11), none, []⟩,
  ⟨some 78, .move (.t 1), none, []⟩,
  ⟨some 79, .call 17 [(.t 77), (.c .nils), (.t 78)], none, []⟩,
  ⟨some 16, .move (.t 79), none, []⟩] none [2, 3, 13, 14, 15, 16])
(.seq (.seq (.ops [⟨some 80, .move (.t 14), none, []⟩,
  ⟨some 81, .len .sl (.t 80), none, []⟩,
  ⟨some 82, .move (.t 13), none, []⟩,
  ⟨some 83, .bin .neq (.t 81) (.t 82), none, []⟩,
  ⟨some 84, .move (.t 83), none, []⟩,
  ⟨some 85, .move (.t 15), (some (84, false)), []⟩,
  ⟨some 86, .len .sl (.t 85), (some (84, false)), []⟩,
  ⟨some 87, .move (.t 13), (some (84, false)), []⟩,
  ⟨some 88, .bin .neq (.t 86) (.t 87), (some (84, false)), []⟩,
  ⟨some 89, .pick (.t 84) (.c (.bool true)) (.t 88), none, []⟩,
  ⟨some 90, .move (.t 89), none, []⟩,
  ⟨some 91, .move (.t 16), (some (90, false)), []⟩,
  ⟨some 92, .len .sl (.t 91), (some (90, false)), []⟩,
  ⟨some 93, .move (.t 13), (some (90, false)), []⟩,
  ⟨some 94, .bin .neq (.t 92) (.t 93), (some (90, false)), []⟩,
  ⟨some 95, .pick (.t 90) (.c (.bool true)) (.t 94), none, []⟩] none [2, 3, 13, 14, 15, 16, 95])
(.cond (.t 95)
  (.seq (.ops [⟨some 10, .move (.c (.bool false)), none, []⟩] none [10])
  (.ret))
  (.skip)))
(.seq (.seq (.ops [⟨some 17, .move (.c (.int .i64 0)), none, []⟩] none [2, 3, 13, 14, 15, 16, 17])
(.block 2 (.loop [2, 3, 13, 14, 15, 16, 17] (.seq (.seq (.ops [⟨some 96, .move (.t 17), none, []⟩,
      ⟨some 97, .move (.t 13), none, []⟩,
      ⟨some 98, .bin .lss (.t 96) (.t 97), none, []⟩] none [2, 3, 13, 14, 15, 16, 17, 98])
    (.cond (.t 98)
      (.skip)
      (.exit 2)))
    (.seq (.block 3 (.seq (.ops [⟨some 101, .move (.t 15), none, []⟩,
        ⟨some 102, .move (.t 17), none, []⟩,
        ⟨some 103, .idxAddr 1 (.t 101) (.t 102), none, []⟩,
        ⟨some 104, .load none (.t 103), none, []⟩,
        ⟨some 105, .move (.t 14), none, []⟩,
        ⟨some 106, .move (.t 17), none, []⟩,
        ⟨some 107, .idxAddr 1 (.t 105) (.t 106), none, []⟩,
        ⟨some 108, .load none (.t 107), none, []⟩,
        ⟨some 109, .bin .lss (.t 104) (.t 108), none, []⟩,
        ⟨some 110, .move (.t 109), none, []⟩,
        ⟨some 111, .move (.t 16), (some (110, false)), []⟩,
        ⟨some 112, .move (.t 17), (some (110, false)), []⟩,
        ⟨some 113, .idxAddr 1 (.t 111) (.t 112), (some (110, false)), []⟩,
        ⟨some 114, .load none (.t 113), (some (110, false)), []⟩,
        ⟨some 115, .move (.t 14), (some (110, false)), []⟩,
        ⟨some 116, .move (.t 17), (some (110, false)), []⟩,
        ⟨some 117, .idxAddr 1 (.t 115) (.t 116), (some (110, false)), []⟩,
        ⟨some 118, .load none (.t 117), (some (110, false)), []⟩,
        ⟨some 119, .bin .lss (.t 114) (.t 118), (some (110, false)), []⟩,
        ⟨some 120, .pick (.t 110) (.c (.bool true)) (.t 119), none, []⟩] (some [(0, []), (1, []), (2, [0, 1]), (3, [2, 0, 1]), (4, []), (5, []), (6, [4, 5]), (7, [6, 4, 5]), (8, [3, 2, 0, 1, 7, 6, 4, 5]), (9, [8, 3, 2, 0, 1, 7, 6, 4, 5]), (10, [9, 8, 3, 2, 0, 1, 7, 6, 4, 5]), (11, [9, 8, 3, 2, 0, 1, 7, 6, 4, 5]), (12, [10, 9, 8, 3, 2, 0, 1, 7, 6, 4, 5, 11]), (13, [12, 10, 9, 8, 3, 2, 0, 1, 7, 6, 4, 5, 11]), (14, [9, 8, 3, 2, 0, 1, 7, 6, 4, 5]), (15, [9, 8, 3, 2, 0, 1, 7, 6, 4, 5]), (16, [14, 9, 8, 3, 2, 0, 1, 7, 6, 4, 5, 15]), (17, [16, 14, 9, 8, 3, 2, 0, 1, 7, 6, 4, 5, 15]), (18, [13, 12, 10, 9, 8, 3, 2, 0, 1, 7, 6, 4, 5, 11, 17, 16, 14, 15]), (19, [9, 8, 3, 2, 0, 1, 7, 6, 4, 5, 18, 13, 12, 10, 11, 17, 16, 14, 15])]) [2, 3, 13, 14, 15, 16, 17, 120])
      (.cond (.t 120)
        (.seq (.ops [⟨some 10, .move (.c (.bool false)), none, []⟩] none [10])
        (.ret))
        (.skip))))
    (.ops [⟨some 99, .move (.t 17), none, []⟩,
      ⟨some 100, .bin .add (.t 99) (.c (.int .i64 1)), none, []⟩,
      ⟨some 17, .move (.t 100), none, []⟩] none [2, 3, 13, 14, 15, 16, 17]))))))
(.seq (.ops [⟨some 121, .move (.t 15), none, []⟩,
  ⟨some 122, .move (.t 3), none, []⟩,
  ⟨some 123, .conv .i64 (.t 122), none, []⟩,
  ⟨some 124, .move (.t 13), none, []⟩,
  ⟨some 125, .bin .rem (.t 123) (.t 124), none, []⟩,
  ⟨some 126, .idxAddr 1 (.t 121) (.t 125), none, []⟩,
  ⟨some 127, .load none (.t 126), none, []⟩,
  ⟨some 128, .move (.t 14), none, []⟩,
  ⟨some 129, .move (.t 2), none, []⟩,
  ⟨some 130, .conv .i64 (.t 129), none, []⟩,
  ⟨some 131, .move (.t 13), none, []⟩,
  ⟨some 132, .bin .rem (.t 130) (.t 131), none, []⟩,
  ⟨some 133, .idxAddr 1 (.t 128) (.t 132), none, []⟩,
  ⟨some 134, .load none (.t 133), none, []⟩,
  ⟨some 135, .bin .geq (.t 127) (.t 134), none, []⟩,
  ⟨some 10, .move (.t 135), none, []⟩] (some [(0, []), (1, []), (2, [1]), (3, []), (4, [2, 1, 3]), (5, [0, 4, 2, 1, 3]), (6, [5, 0, 4, 2, 1, 3]), (7, []), (8, []), (9, [8]), (10, []), (11, [9, 8, 10]), (12, [7, 11, 9, 8, 10]), (13, [12, 7, 11, 9, 8, 10]), (14, [6, 5, 0, 4, 2, 1, 3, 13, 12, 7, 11, 9, 8, 10]), (15, [14, 6, 5, 0, 4, 2, 1, 3, 13, 12, 7, 11, 9, 8, 10])]) [10])
(.ret))))))))))))))
def f25 : SFunc := ⟨b25, [.t 10]⟩

/-- watchbill/watchbilllaw20.JobAny -/
def b26 : SCode := (
.seq (.ops [⟨some 3, .box (.t 0), none, []⟩,
  ⟨some 4, .box (.t 1), none, []⟩,
  ⟨some 6, .move (.c (.bool false)), none, []⟩] none [2, 3, 4])
(.seq (.seq (.ops [⟨some 16, .call 27 [], none, []⟩,
  ⟨some 17, .not (.t 16), none, []⟩] none [2, 3, 4, 17])
(.cond (.t 17)
  (.seq (.ops [⟨some 6, .move (.c (.bool false)), none, []⟩] none [6])
  (.ret))
  (.skip)))
(.seq (.seq (.ops [⟨some 18, .load (some 10) (.t 3), none, []⟩,
  ⟨some 19, .call 28 [(.t 18)], none, []⟩,
  ⟨some 20, .not (.t 19), none, []⟩,
  ⟨some 21, .move (.t 20), none, []⟩,
  ⟨some 22, .load (some 10) (.t 4), (some (21, false)), []⟩,
  ⟨some 23, .call 28 [(.t 22)], (some (21, false)), []⟩,
  ⟨some 24, .not (.t 23), (some (21, false)), []⟩,
  ⟨some 25, .pick (.t 21) (.c (.bool true)) (.t 24), none, []⟩,
  ⟨some 26, .move (.t 25), none, []⟩,
  ⟨some 27, .fldAddr 1 (.t 3), (some (26, false)), []⟩,
  ⟨some 28, .load none (.t 27), (some (26, false)), []⟩,
  ⟨some 29, .len .sl (.t 28), (some (26, false)), []⟩,
  ⟨some 30, .bin .gtr (.t 29) (.c (.int .i64 60)), (some (26, false)), []⟩,
  ⟨some 31, .pick (.t 26) (.c (.bool true)) (.t 30), none, []⟩,
  ⟨some 32, .move (.t 31), none, []⟩,
  ⟨some 33, .fldAddr 1 (.t 4), (some (32, false)), []⟩,
  ⟨some 34, .load none (.t 33), (some (32, false)), []⟩,
  ⟨some 35, .len .sl (.t 34), (some (32, false)), []⟩,
  ⟨some 36, .bin .gtr (.t 35) (.c (.int .i64 60)), (some (32, false)), []⟩,
  ⟨some 37, .pick (.t 32) (.c (.bool true)) (.t 36), none, []⟩] none [2, 3, 4, 37])
(.cond (.t 37)
  (.seq (.ops [⟨some 6, .move (.c (.bool true)), none, []⟩] none [6])
  (.ret))
  (.skip)))
(.seq (.ops [⟨some 38, .load (some 10) (.t 3), none, []⟩,
  ⟨some 39, .call 29 [(.t 38)], none, []⟩,
  ⟨some 7, .alloc (.agg [(.bool false), .nils, (.int .i64 0), (.int .i64 0), (.int .i64 0), (.int .i64 0), (.int .i64 0), (.int .i64 0), (.bool false), .nils]), none, []⟩,
  ⟨none, .store (some 10) (.t 7) (.t 39), none, []⟩] none [2, 3, 4, 7])
(.seq (.ops [⟨some 41, .load (some 10) (.t 7), none, []⟩,
  ⟨some 42, .call 30 [(.t 41)], none, []⟩,
  ⟨some 40, .move (.t 42), none, []⟩,
  ⟨some 43, .ext 0 (.t 40), none, []⟩,
  ⟨some 44, .ext 1 (.t 40), none, []⟩,
  ⟨some 8, .alloc (.agg [(.int .i64 0), (.int .i64 0), (.int .i64 0), (.int .i64 0), .nils]), none, []⟩,
  ⟨none, .store (some 5) (.t 8) (.t 43), none, []⟩,
  ⟨some 9, .move (.t 44), none, []⟩] none [2, 3, 4, 7, 8, 9])
(.seq (.ops [⟨some 46, .load (some 10) (.t 3), none, []⟩,
  ⟨some 47, .call 31 [(.t 46)], none, []⟩,
  ⟨some 45, .move (.t 47), none, []⟩,
  ⟨some 48, .ext 0 (.t 45), none, []⟩,
  ⟨some 49, .ext 1 (.t 45), none, []⟩,
  ⟨some 10, .alloc (.agg [(.int .i64 0), (.int .i64 0), (.int .i64 0), (.int .i64 0), .nils]), none, []⟩,
  ⟨none, .store (some 5) (.t 10) (.t 48), none, []⟩,
  ⟨some 11, .move (.t 49), none, []⟩] none [2, 3, 4, 7, 8, 9, 10, 11])
(.seq (.seq (.ops [⟨some 50, .move (.t 9), none, []⟩,
  ⟨some 51, .move (.t 11), none, []⟩,
  ⟨some 52, .eq true .b (.t 50) (.t 51), none, []⟩,
  ⟨some 53, .move (.t 52), none, []⟩,
  ⟨some 54, .load (some 5) (.t 8), (some (53, false)), []⟩,
  ⟨some 56, .load (some 5) (.t 10), (some (53, false)), []⟩,
  ⟨some 55, .call 32 [(.t 54)], (some (53, false)), [5]⟩,
  ⟨some 57, .call 33 [(.t 55), (.t 56)], (some (53, false)), []⟩,
  ⟨some 58, .not (.t 57), (some (53, false)), []⟩,
  ⟨some 59, .pick (.t 53) (.c (.bool true)) (.t 58), none, []⟩,
  ⟨some 60, .move (.t 59), none, []⟩,
  ⟨some 61, .load (some 10) (.t 7), (some (60, false)), []⟩,
  ⟨some 62, .load (some 10) (.t 4), (some (60, false)), []⟩,
  ⟨some 65, .load (some 10) (.t 3), (some (60, false)), []⟩,
  ⟨some 66, .load (some 10) (.t 4), (some (60, false)), []⟩,
  ⟨some 63, .call 29 [(.t 62)], (some (60, false)), [11, 13, 14]⟩,
  ⟨some 64, .call 34 [(.t 61), (.t 63)], (some (60, false)), [13, 14]⟩,
  ⟨some 67, .call 35 [(.t 65), (.t 66)], (some (60, false)), []⟩,
  ⟨some 68, .eq true .b (.t 64) (.t 67), (some (60, false)), []⟩,
  ⟨some 69, .pick (.t 60) (.c (.bool true)) (.t 68), none, []⟩] (some [(0, []), (1, []), (2, [0, 1]), (3, [2, 0, 1]), (4, [3, 2, 0, 1]), (6, [3, 2, 0, 1]), (5, [4, 3, 2, 0, 1]), (7, [6, 4, 3, 2, 0, 1, 5]), (8, [7, 6, 4, 3, 2, 0, 1, 5]), (9, [3, 2, 0, 1, 8, 7, 6, 4, 5]), (10, [9, 3, 2, 0, 1, 8, 7, 6, 4, 5]), (11, [10, 9, 3, 2, 0, 1, 8, 7, 6, 4, 5]), (12, [10, 9, 3, 2, 0, 1, 8, 7, 6, 4, 5]), (15, [10, 9, 3, 2, 0, 1, 8, 7, 6, 4, 5]), (16, [10, 9, 3, 2, 0, 1, 8, 7, 6, 4, 5]), (13, [12, 10, 9, 3, 2, 0, 1, 8, 7, 6, 4, 5]), (14, [11, 10, 9, 3, 2, 0, 1, 8, 7, 6, 4, 5, 15, 12]), (17, [13, 10, 9, 3, 2, 0, 1, 8, 7, 6, 4, 5, 14, 16, 11, 15, 12]), (18, [16, 11, 10, 9, 3, 2, 0, 1, 8, 7, 6, 4, 5, 15, 12, 17, 13, 14]), (19, [10, 9, 3, 2, 0, 1, 8, 7, 6, 4, 5, 18, 16, 11, 15, 12, 17, 13, 14])]) [2, 3, 7, 69])
(.cond (.t 69)
  (.seq (.ops [⟨some 6, .move (.c (.bool false)), none, []⟩] none [6])
  (.ret))
  (.skip)))
(.seq (.ops [⟨some 71, .load (some 10) (.t 7), none, []⟩,
  ⟨some 72, .call 36 [(.t 71)], none, []⟩,
  ⟨some 70, .move (.t 72), none, []⟩,
  ⟨some 73, .ext 0 (.t 70), none, []⟩,
  ⟨some 74, .ext 1 (.t 70), none, []⟩,
  ⟨some 12, .alloc (.agg [(.bool false), .nils, (.int .i64 0), (.int .i64 0), (.int .i64 0), (.int .i64 0), (.int .i64 0), (.int .i64 0), (.bool false), .nils]), none, []⟩,
  ⟨none, .store (some 10) (.t 12) (.t 73), none, []⟩,
  ⟨some 13, .move (.t 74), none, []⟩] none [2, 3, 7, 12, 13])
(.seq (.ops [⟨some 76, .load (some 10) (.t 3), none, []⟩,
  ⟨some 77, .call 37 [(.t 76)], none, []⟩,
  ⟨some 75, .move (.t 77), none, []⟩,
  ⟨some 78, .ext 0 (.t 75), none, []⟩,
  ⟨some 79, .ext 1 (.t 75), none, []⟩,
  ⟨some 14, .alloc (.agg [(.bool false), .nils, (.int .i64 0), (.int .i64 0), (.int .i64 0), (.int .i64 0), (.int .i64 0), (.int .i64 0), (.bool false), .nils]), none, []⟩,
  ⟨none, .store (some 10) (.t 14) (.t 78), none, []⟩,
  ⟨some 15, .move (.t 79), none, []⟩] none [2, 3, 7, 12, 13, 14, 15])
(.seq (.seq (.ops [⟨some 80, .move (.t 13), none, []⟩,
  ⟨some 81, .move (.t 15), none, []⟩,
  ⟨some 82, .eq true .b (.t 80) (.t 81), none, []⟩,
  ⟨some 83, .move (.t 82), none, []⟩,
  ⟨some 84, .load (some 10) (.t 12), (some (83, false)), []⟩,
  ⟨some 86, .load (some 10) (.t 14), (some (83, false)), []⟩,
  ⟨some 85, .call 38 [(.t 84)], (some (83, false)), [5]⟩,
  ⟨some 87, .call 35 [(.t 85), (.t 86)], (some (83, false)), []⟩,
  ⟨some 88, .not (.t 87), (some (83, false)), []⟩,
  ⟨some 89, .pick (.t 83) (.c (.bool true)) (.t 88), none, []⟩] (some [(0, []), (1, []), (2, [0, 1]), (3, [2, 0, 1]), (4, [3, 2, 0, 1]), (6, [3, 2, 0, 1]), (5, [4, 3, 2, 0, 1]), (7, [6, 4, 3, 2, 0, 1, 5]), (8, [7, 6, 4, 3, 2, 0, 1, 5]), (9, [3, 2, 0, 1, 8, 7, 6, 4, 5])]) [2, 3, 7, 12, 14, 89])
(.cond (.t 89)
  (.seq (.ops [⟨some 6, .move (.c (.bool false)), none, []⟩] none [6])
  (.ret))
  (.skip)))
(.seq (.ops [⟨some 91, .load (some 10) (.t 7), none, []⟩,
  ⟨some 92, .call 39 [(.t 91)], none, []⟩,
  ⟨some 90, .move (.t 92), none, []⟩,
  ⟨some 93, .ext 0 (.t 90), none, []⟩,
  ⟨some 94, .ext 1 (.t 90), none, []⟩,
  ⟨none, .store (some 10) (.t 12) (.t 93), none, []⟩,
  ⟨some 13, .move (.t 94), none, []⟩] none [2, 3, 7, 12, 13, 14])
(.seq (.ops [⟨some 96, .load (some 10) (.t 3), none, []⟩,
  ⟨some 97, .call 40 [(.t 96)], none, []⟩,
  ⟨some 95, .move (.t 97), none, []⟩,
  ⟨some 98, .ext 0 (.t 95), none, []⟩,
  ⟨some 99, .ext 1 (.t 95), none, []⟩,
  ⟨none, .store (some 10) (.t 14) (.t 98), none, []⟩,
  ⟨some 15, .move (.t 99), none, []⟩] none [2, 3, 7, 12, 13, 14, 15])
(.seq (.seq (.ops [⟨some 100, .move (.t 13), none, []⟩,
  ⟨some 101, .move (.t 15), none, []⟩,
  ⟨some 102, .eq true .b (.t 100) (.t 101), none, []⟩,
  ⟨some 103, .move (.t 102), none, []⟩,
  ⟨some 104, .load (some 10) (.t 12), (some (103, false)), []⟩,
  ⟨some 106, .load (some 10) (.t 14), (some (103, false)), []⟩,
  ⟨some 105, .call 38 [(.t 104)], (some (103, false)), [5]⟩,
  ⟨some 107, .call 35 [(.t 105), (.t 106)], (some (103, false)), []⟩,
  ⟨some 108, .not (.t 107), (some (103, false)), []⟩,
  ⟨some 109, .pick (.t 103) (.c (.bool true)) (.t 108), none, []⟩] (some [(0, []), (1, []), (2, [0, 1]), (3, [2, 0, 1]), (4, [3, 2, 0, 1]), (6, [3, 2, 0, 1]), (5, [4, 3, 2, 0, 1]), (7, [6, 4, 3, 2, 0, 1, 5]), (8, [7, 6, 4, 3, 2, 0, 1, 5]), (9, [3, 2, 0, 1, 8, 7, 6, 4, 5])]) [2, 3, 7, 109])
(.cond (.t 109)
  (.seq (.ops [⟨some 6, .move (.c (.bool false)), none, []⟩] none [6])
  (.ret))
  (.skip)))
(.seq (.ops [⟨some 110, .load (some 10) (.t 7), none, []⟩,
  ⟨some 113, .load (some 10) (.t 3), none, []⟩,
  ⟨some 111, .call 41 [(.t 110)], none, [1]⟩,
  ⟨some 112, .call 38 [(.t 111)], none, [1]⟩,
  ⟨some 114, .call 42 [(.t 113)], none, []⟩,
  ⟨some 115, .call 35 [(.t 112), (.t 114)], none, []⟩,
  ⟨some 116, .move (.t 115), none, []⟩,
  ⟨some 117, .load (some 10) (.t 7), (some (116, true)), []⟩,
  ⟨some 118, .move (.t 2), (some (116, true)), []⟩,
  ⟨some 121, .load (some 10) (.t 3), (some (116, true)), []⟩,
  ⟨some 122, .move (.t 2), (some (116, true)), []⟩,
  ⟨some 119, .call 43 [(.t 117), (.t 118)], (some (116, true)), [9]⟩,
  ⟨some 120, .call 38 [(.t 119)], (some (116, true)), [9]⟩,
  ⟨some 123, .call 44 [(.t 121), (.t 122)], (some (116, true)), []⟩,
  ⟨some 124, .call 35 [(.t 120), (.t 123)], (some (116, true)), []⟩,
  ⟨some 125, .pick (.t 116) (.t 124) (.c (.bool false)), none, []⟩,
  ⟨some 126, .move (.t 125), none, []⟩,
  ⟨some 127, .load (some 10) (.t 7), (some (126, true)), []⟩,
  ⟨some 128, .move (.t 2), (some (126, true)), []⟩,
  ⟨some 131, .load (some 10) (.t 3), (some (126, true)), []⟩,
  ⟨some 132, .move (.t 2), (some (126, true)), []⟩,
  ⟨some 129, .call 45 [(.t 127), (.t 128)], (some (126, true)), [19]⟩,
  ⟨some 130, .call 38 [(.t 129)], (some (126, true)), [19]⟩,
  ⟨some 133, .call 46 [(.t 131), (.t 132)], (some (126, true)), []⟩,
  ⟨some 134, .call 35 [(.t 130), (.t 133)], (some (126, true)), []⟩,
  ⟨some 135, .pick (.t 126) (.t 134) (.c (.bool false)), none, []⟩,
  ⟨some 136, .move (.t 135), none, []⟩,
  ⟨some 137, .load (some 10) (.t 7), (some (136, true)), []⟩,
  ⟨some 139, .load (some 10) (.t 3), (some (136, true)), []⟩,
  ⟨some 138, .call 38 [(.t 137)], (some (136, true)), [28]⟩,
  ⟨some 140, .call 35 [(.t 138), (.t 139)], (some (136, true)), []⟩,
  ⟨some 141, .pick (.t 136) (.t 140) (.c (.bool false)), none, []⟩,
  ⟨some 6, .move (.t 141), none, []⟩] (some [(0, []), (3, []), (1, [0]), (2, [2, 0]), (4, [1, 3, 2, 0]), (5, [3, 2, 0, 4, 1]), (6, [5, 3, 2, 0, 4, 1]), (7, [6, 5, 3, 2, 0, 4, 1]), (8, [6, 5, 3, 2, 0, 4, 1]), (11, [6, 5, 3, 2, 0, 4, 1]), (12, [6, 5, 3, 2, 0, 4, 1]), (9, [7, 6, 5, 3, 2, 0, 4, 1, 8]), (10, [11, 7, 6, 5, 3, 2, 0, 4, 1, 8]), (13, [9, 6, 5, 3, 2, 0, 4, 1, 10, 12, 11, 7, 8]), (14, [12, 11, 7, 6, 5, 3, 2, 0, 4, 1, 8, 13, 9, 10]), (15, [6, 5, 3, 2, 0, 4, 1, 14, 12, 11, 7, 8, 13, 9, 10]), (16, [15, 6, 5, 3, 2, 0, 4, 1, 14, 12, 11, 7, 8, 13, 9, 10]), (17, [16, 15, 6, 5, 3, 2, 0, 4, 1, 14, 12, 11, 7, 8, 13, 9, 10]), (18, [16, 15, 6, 5, 3, 2, 0, 4, 1, 14, 12, 11, 7, 8, 13, 9, 10]), (21, [16, 15, 6, 5, 3, 2, 0, 4, 1, 14, 12, 11, 7, 8, 13, 9, 10]), (22, [16, 15, 6, 5, 3, 2, 0, 4, 1, 14, 12, 11, 7, 8, 13, 9, 10]), (19, [17, 16, 15, 6, 5, 3, 2, 0, 4, 1, 14, 12, 11, 7, 8, 13, 9, 10, 18]), (20, [21, 17, 16, 15, 6, 5, 3, 2, 0, 4, 1, 14, 12, 11, 7, 8, 13, 9, 10, 18]), (23, [19, 16, 15, 6, 5, 3, 2, 0, 4, 1, 14, 12, 11, 7, 8, 13, 9, 10, 20, 22, 21, 17, 18]), (24, [22, 21, 17, 16, 15, 6, 5, 3, 2, 0, 4, 1, 14, 12, 11, 7, 8, 13, 9, 10, 18, 23, 19, 20]), (25, [16, 15, 6, 5, 3, 2, 0, 4, 1, 14, 12, 11, 7, 8, 13, 9, 10, 24, 22, 21, 17, 18, 23, 19, 20]), (26, [25, 16, 15, 6, 5, 3, 2, 0, 4, 1, 14, 12, 11, 7, 8, 13, 9, 10, 24, 22, 21, 17, 18, 23, 19, 20]), (27, [26, 25, 16, 15, 6, 5, 3, 2, 0, 4, 1, 14, 12, 11, 7, 8, 13, 9, 10, 24, 22, 21, 17, 18, 23, 19, 20]), (29, [26, 25, 16, 15, 6, 5, 3, 2, 0, 4, 1, 14, 12, 11, 7, 8, 13, 9, 10, 24, 22, 21, 17, 18, 23, 19, 20]), (28, [27, 26, 25, 16, 15, 6, 5, 3, 2, 0, 4, 1, 14, 12, 11, 7, 8, 13, 9, 10, 24, 22, 21, 17, 18, 23, 19, 20]), (30, [29, 27, 26, 25, 16, 15, 6, 5, 3, 2, 0, 4, 1, 14, 12, 11, 7, 8, 13, 9, 10, 24, 22, 21, 17, 18, 23, 19, 20, 28]), (31, [26, 25, 16, 15, 6, 5, 3, 2, 0, 4, 1, 14, 12, 11, 7, 8, 13, 9, 10, 24, 22, 21, 17, 18, 23, 19, 20, 30, 29, 27, 28]), (32, [31, 26, 25, 16, 15, 6, 5, 3, 2, 0, 4, 1, 14, 12, 11, 7, 8, 13, 9, 10, 24, 22, 21, 17, 18, 23, 19, 20, 30, 29, 27, 28])]) [6])
(.ret)))))))))))))))
def f26 : SFunc := ⟨b26, [.t 6]⟩

/-- watchbill/watchbilllaw20.JobRuns -/
def b47 : SCode := (
.seq (.ops [⟨some 4, .move (.c (.bool false)), none, []⟩] none [0, 1])
(.seq (.seq (.ops [⟨some 17, .call 27 [], none, []⟩,
  ⟨some 18, .not (.t 17), none, []⟩] none [0, 1, 18])
(.cond (.t 18)
  (.seq (.ops [⟨some 4, .move (.c (.bool false)), none, []⟩] none [4])
  (.ret))
  (.skip)))
(.seq (.seq (.ops [⟨some 19, .move (.t 0), none, []⟩,
  ⟨some 20, .len .sl (.t 19), none, []⟩,
  ⟨some 21, .bin .gtr (.t 20) (.c (.int .i64 20)), none, []⟩] none [0, 1, 21])
(.cond (.t 21)
  (.seq (.ops [⟨some 4, .move (.c (.bool true)), none, []⟩] none [4])
  (.ret))
  (.skip)))
(.seq (.ops [⟨some 5, .move (.c .nils), none, []⟩] none [0, 1, 5])
(.seq (.ops [⟨some 6, .move (.c (.int .i64 0)), none, []⟩] none [0, 1, 5, 6])
(.seq (.seq (.ops [⟨some 7, .move (.c (.int .i64 0)), none, []⟩] none [0, 1, 5, 6, 7])
(.block 0 (.loop [0, 1, 5, 6, 7] (.seq (.seq (.ops [⟨some 22, .move (.t 7), none, []⟩,
      ⟨some 23, .move (.t 0), none, []⟩,
      ⟨some 24, .len .sl (.t 23), none, []⟩,
      ⟨some 25, .bin .lss (.t 22) (.t 24), none, []⟩] none [0, 1, 5, 6, 7, 25])
    (.cond (.t 25)
      (.skip)
      (.exit 0)))
    (.seq (.block 1 (.seq (.ops [⟨some 28, .move (.t 0), none, []⟩,
        ⟨some 29, .move (.t 7), none, []⟩,
        ⟨some 30, .idxAddr 1 (.t 28) (.t 29), none, []⟩,
        ⟨some 31, .load none (.t 30), none, []⟩,
        ⟨some 32, .bin .rem (.t 31) (.c (.int .u8 9)), none, []⟩,
        ⟨some 33, .conv .i64 (.t 32), none, []⟩,
        ⟨some 34, .bin .add (.c (.int .i64 1)) (.t 33), none, []⟩,
        ⟨some 8, .move (.t 34), none, []⟩] none [0, 1, 5, 6, 7, 8])
      (.seq (.ops [⟨some 35, .move (.t 5), none, []⟩,
        ⟨some 36, .move (.t 8), none, []⟩,
        ⟨some 37, .build [(.int .i64 0), (.int .i64 0), (.int .i64 0), (.int .i64 0), .nils] [(0, 1, (.c (.int .i64 1))), (1, 1, (.t 36))], none, []⟩,
        ⟨some 38, .buildSl 1 [(.int .i64 0), (.int .i64 0), (.int .i64 0), (.int .i64 0), .nils] [(0, 5, (.t 37))], none, []⟩,
        ⟨some 39, .append 5 (.t 35) (.t 38), none, []⟩,
        ⟨some 5, .move (.t 39), none, []⟩] none [0, 1, 5, 6, 7, 8])
      (.ops [⟨some 40, .move (.t 6), none, []⟩,
        ⟨some 41, .move (.t 8), none, []⟩,
        ⟨some 42, .bin .add (.t 40) (.t 41), none, []⟩,
        ⟨some 6, .move (.t 42), none, []⟩] none [0, 1, 5, 6, 7]))))
    (.ops [⟨some 26, .move (.t 7), none, []⟩,
      ⟨some 27, .bin .add (.t 26) (.c (.int .i64 1)), none, []⟩,
      ⟨some 7, .move (.t 27), none, []⟩] none [0, 1, 5, 6, 7]))))))
(.seq (.ops [⟨some 43, .move (.t 5), none, []⟩,
  ⟨some 44, .move (.t 1), none, []⟩,
  ⟨some 45, .conv .i64 (.t 44), none, []⟩,
  ⟨some 46, .call 48 [(.t 43), (.t 45), (.c (.int .i64 0)), (.c (.int .i64 1))], none, []⟩,
  ⟨some 9, .alloc (.agg [(.bool false), .nils, (.int .i64 0), (.int .i64 0), (.int .i64 0), (.int .i64 0), (.int .i64 0), (.int .i64 0), (.bool false), .nils]), none, []⟩,
  ⟨none, .store (some 10) (.t 9) (.t 46), none, []⟩] none [1, 6, 9])
(.seq (.ops [⟨some 10, .move (.c (.int .i64 0)), none, []⟩] none [1, 6, 9, 10])
(.seq (.ops [⟨some 11, .move (.c (.bool false)), none, []⟩] none [1, 6, 9, 10, 11])
(.seq (.seq (.ops [⟨some 12, .move (.c (.int .i64 0)), none, []⟩] none [1, 6, 9, 10, 11, 12])
(.block 2 (.loop [1, 6, 9, 10, 11, 12] (.seq (.seq (.ops [⟨some 47, .move (.t 12), none, []⟩,
      ⟨some 48, .bin .lss (.t 47) (.c (.int .i64 300)), none, []⟩,
      ⟨some 49, .move (.t 48), none, []⟩,
      ⟨some 50, .move (.t 11), (some (49, true)), []⟩,
      ⟨some 51, .not (.t 50), (some (49, true)), []⟩,
      ⟨some 52, .pick (.t 49) (.t 51) (.c (.bool false)), none, []⟩] none [1, 6, 9, 10, 11, 12, 52])
    (.cond (.t 52)
      (.skip)
      (.exit 2)))
    (.seq (.block 3 (.seq (.ops [⟨some 56, .load (some 10) (.t 9), none, []⟩,
        ⟨some 57, .call 30 [(.t 56)], none, []⟩,
        ⟨some 55, .move (.t 57), none, []⟩,
        ⟨some 58, .ext 0 (.t 55), none, []⟩,
        ⟨some 59, .ext 1 (.t 55), none, []⟩,
        ⟨some 13, .alloc (.agg [(.int .i64 0), (.int .i64 0), (.int .i64 0), (.int .i64 0), .nils]), none, []⟩,
        ⟨none, .store (some 5) (.t 13) (.t 58), none, []⟩,
        ⟨some 14, .move (.t 59), none, []⟩] none [1, 6, 9, 10, 11, 12, 14])
      (.seq (.seq (.ops [⟨some 60, .move (.t 14), none, []⟩,
        ⟨some 61, .not (.t 60), none, []⟩] none [1, 6, 9, 10, 11, 12, 61])
      (.cond (.t 61)
        (.exit 2)
        (.skip)))
      (.seq (.seq (.ops [⟨some 62, .fldAddr 3 (.t 9), none, []⟩,
        ⟨some 63, .load none (.t 62), none, []⟩,
        ⟨some 64, .bin .eql (.t 63) (.c (.int .i64 0)), none, []⟩] none [1, 6, 9, 10, 11, 12, 64])
      (.cond (.t 64)
        (.seq (.ops [⟨some 66, .load (some 10) (.t 9), none, []⟩,
          ⟨some 67, .call 36 [(.t 66)], none, []⟩,
          ⟨some 65, .move (.t 67), none, []⟩,
          ⟨some 68, .ext 0 (.t 65), none, []⟩,
          ⟨some 69, .ext 1 (.t 65), none, []⟩,
          ⟨some 15, .alloc (.agg [(.bool false), .nils, (.int .i64 0), (.int .i64 0), (.int .i64 0), (.int .i64 0), (.int .i64 0), (.int .i64 0), (.bool false), .nils]), none, []⟩,
          ⟨none, .store (some 10) (.t 15) (.t 68), none, []⟩,
          ⟨some 16, .move (.t 69), none, []⟩] none [1, 6, 9, 10, 11, 12, 15, 16])
        (.seq (.seq (.ops [⟨some 70, .move (.t 16), none, []⟩,
          ⟨some 71, .not (.t 70), none, []⟩] none [1, 6, 9, 10, 11, 12, 15, 71])
        (.cond (.t 71)
          (.exit 2)
          (.skip)))
        (.seq (.ops [⟨some 72, .load (some 10) (.t 15), none, []⟩,
          ⟨none, .store (some 10) (.t 9) (.t 72), none, []⟩] none [1, 6, 9, 10, 11, 12])
        (.exit 3))))
        (.skip)))
      (.seq (.ops [⟨some 74, .load (some 10) (.t 9), none, []⟩,
        ⟨some 75, .call 39 [(.t 74)], none, []⟩,
        ⟨some 73, .move (.t 75), none, []⟩,
        ⟨some 76, .ext 0 (.t 73), none, []⟩,
        ⟨some 77, .ext 1 (.t 73), none, []⟩,
        ⟨none, .store (some 10) (.t 9) (.t 76), none, []⟩,
        ⟨some 11, .move (.t 77), none, []⟩] none [1, 6, 9, 10, 11, 12])
      (.ops [⟨some 78, .move (.t 10), none, []⟩,
        ⟨some 79, .bin .add (.t 78) (.c (.int .i64 1)), none, []⟩,
        ⟨some 10, .move (.t 79), none, []⟩] none [1, 6, 9, 10, 11, 12]))))))
    (.ops [⟨some 53, .move (.t 12), none, []⟩,
      ⟨some 54, .bin .add (.t 53) (.c (.int .i64 1)), none, []⟩,
      ⟨some 12, .move (.t 54), none, []⟩] none [1, 6, 9, 10, 11, 12]))))))
(.seq (.ops [⟨some 80, .move (.t 10), none, []⟩,
  ⟨some 81, .move (.t 6), none, []⟩,
  ⟨some 82, .move (.t 1), none, []⟩,
  ⟨some 83, .conv .i64 (.t 82), none, []⟩,
  ⟨some 84, .mn [(.t 81), (.t 83)], none, []⟩,
  ⟨some 85, .bin .eql (.t 80) (.t 84), none, []⟩,
  ⟨some 86, .move (.t 85), none, []⟩,
  ⟨some 87, .fldAddr 4 (.t 9), (some (86, true)), []⟩,
  ⟨some 88, .load none (.t 87), (some (86, true)), []⟩,
  ⟨some 89, .move (.t 10), (some (86, true)), []⟩,
  ⟨some 90, .bin .eql (.t 88) (.t 89), (some (86, true)), []⟩,
  ⟨some 91, .pick (.t 86) (.t 90) (.c (.bool false)), none, []⟩,
  ⟨some 92, .move (.t 91), none, []⟩,
  ⟨some 93, .move (.t 11), (some (92, true)), []⟩,
  ⟨some 94, .move (.t 6), (some (92, true)), []⟩,
  ⟨some 95, .move (.t 1), (some (92, true)), []⟩,
  ⟨some 96, .conv .i64 (.t 95), (some (92, true)), []⟩,
  ⟨some 97, .bin .gtr (.t 94) (.t 96), (some (92, true)), []⟩,
  ⟨some 98, .move (.t 97), (some (92, true)), []⟩,
  ⟨some 99, .fldAddr 3 (.t 9), (some (98, true)), []⟩,
  ⟨some 100, .load none (.t 99), (some (98, true)), []⟩,
  ⟨some 101, .bin .gtr (.t 100) (.c (.int .i64 0)), (some (98, true)), []⟩,
  ⟨some 102, .pick (.t 98) (.t 101) (.c (.bool false)), (some (92, true)), []⟩,
  ⟨some 103, .eq false .b (.t 93) (.t 102), (some (92, true)), []⟩,
  ⟨some 104, .pick (.t 92) (.t 103) (.c (.bool false)), none, []⟩,
  ⟨some 4, .move (.t 104), none, []⟩] none [4])
(.ret))))))))))))
def f47 : SFunc := ⟨b47, [.t 4]⟩

/-- watchbill/watchbilllaw20.JobHolds -/
def b49 : SCode := (
.seq (.ops [⟨some 2, .move (.c (.bool false)), none, []⟩] none [0])
(.seq (.seq (.ops [⟨some 10, .call 27 [], none, []⟩,
  ⟨some 11, .not (.t 10), none, []⟩] none [0, 11])
(.cond (.t 11)
  (.seq (.ops [⟨some 2, .move (.c (.bool false)), none, []⟩] none [2])
  (.ret))
  (.skip)))
(.seq (.seq (.ops [⟨some 12, .move (.t 0), none, []⟩,
  ⟨some 13, .len .sl (.t 12), none, []⟩,
  ⟨some 14, .bin .gtr (.t 13) (.c (.int .i64 40)), none, []⟩] none [0, 14])
(.cond (.t 14)
  (.seq (.ops [⟨some 2, .move (.c (.bool true)), none, []⟩] none [2])
  (.ret))
  (.skip)))
(.seq (.ops [⟨some 15, .build [(.int .i64 0), (.int .i64 0), (.int .i64 0), (.int .i64 0), .nils] [(0, 1, (.c (.int .i64 1))), (1, 1, (.c (.int .i64 5)))], none, []⟩,
  ⟨some 16, .buildSl 1 [(.int .i64 0), (.int .i64 0), (.int .i64 0), (.int .i64 0), .nils] [(0, 5, (.t 15))], none, []⟩,
  ⟨some 17, .call 48 [(.t 16), (.c (.int .i64 9)), (.c (.int .i64 3)), (.c (.int .i64 4))], none, []⟩,
  ⟨some 3, .alloc (.agg [(.bool false), .nils, (.int .i64 0), (.int .i64 0), (.int .i64 0), (.int .i64 0), (.int .i64 0), (.int .i64 0), (.bool false), .nils]), none, []⟩,
  ⟨none, .store (some 10) (.t 3) (.t 17), none, []⟩] none [0, 3])
(.seq (.ops [⟨some 18, .load (some 10) (.t 3), none, []⟩,
  ⟨some 4, .alloc (.agg [(.bool false), .nils, (.int .i64 0), (.int .i64 0), (.int .i64 0), (.int .i64 0), (.int .i64 0), (.int .i64 0), (.bool false), .nils]), none, []⟩,
  ⟨none, .store (some 10) (.t 4) (.t 18), none, []⟩] none [0, 3, 4])
(.seq (.ops [⟨some 5, .move (.c .nils), none, []⟩] none [0, 3, 4, 5])
(.seq (.seq (.ops [⟨some 6, .move (.c (.int .i64 0)), none, []⟩] none [0, 3, 4, 5, 6])
(.block 0 (.loop [0, 3, 4, 5, 6] (.seq (.seq (.ops [⟨some 19, .move (.t 6), none, []⟩,
      ⟨some 20, .move (.t 0), none, []⟩,
      ⟨some 21, .len .sl (.t 20), none, []⟩,
      ⟨some 22, .bin .lss (.t 19) (.t 21), none, []⟩] none [0, 3, 4, 5, 6, 22])
    (.cond (.t 22)
      (.skip)
      (.exit 0)))
    (.seq (.block 1 (.seq (.ops [⟨some 25, .move (.t 0), none, []⟩,
        ⟨some 26, .move (.t 6), none, []⟩,
        ⟨some 27, .idxAddr 1 (.t 25) (.t 26), none, []⟩,
        ⟨some 28, .load none (.t 27), none, []⟩,
        ⟨some 29, .bin .rem (.t 28) (.c (.int .u8 8)), none, []⟩,
        ⟨some 30, .conv .i64 (.t 29), none, []⟩,
        ⟨some 7, .move (.t 30), none, []⟩] none [0, 3, 4, 5, 6, 7])
      (.seq (.seq (.ops [⟨some 31, .move (.t 0), none, []⟩,
        ⟨some 32, .move (.t 6), none, []⟩,
        ⟨some 33, .idxAddr 1 (.t 31) (.t 32), none, []⟩,
        ⟨some 34, .load none (.t 33), none, []⟩,
        ⟨some 35, .bin .lss (.t 34) (.c (.int .u8 160)), none, []⟩] none [0, 3, 4, 5, 6, 7, 35])
      (.cond (.t 35)
        (.seq (.ops [⟨some 36, .load (some 10) (.t 3), none, []⟩,
          ⟨some 37, .move (.t 7), none, []⟩,
          ⟨some 38, .call 43 [(.t 36), (.t 37)], none, []⟩,
          ⟨none, .store (some 10) (.t 3) (.t 38), none, []⟩] none [0, 3, 4, 5, 6, 7])
        (.ops [⟨some 39, .move (.t 5), none, []⟩,
          ⟨some 40, .move (.t 7), none, []⟩,
          ⟨some 41, .buildSl 1 [(.int .i64 0)] [(0, 1, (.t 40))], none, []⟩,
          ⟨some 42, .append 1 (.t 39) (.t 41), none, []⟩,
          ⟨some 5, .move (.t 42), none, []⟩] none [0, 3, 4, 5, 6]))
        (.seq (.ops [⟨some 43, .load (some 10) (.t 3), none, []⟩,
          ⟨some 44, .move (.t 7), none, []⟩,
          ⟨some 45, .call 45 [(.t 43), (.t 44)], none, []⟩,
          ⟨none, .store (some 10) (.t 3) (.t 45), none, []⟩] none [0, 3, 4, 5, 6, 7])
        (.seq (.ops [⟨some 8, .move (.c .nils), none, []⟩] none [0, 3, 4, 5, 6, 7, 8])
        (.seq (.seq (.ops [⟨some 9, .move (.c (.int .i64 0)), none, []⟩] none [0, 3, 4, 5, 6, 7, 8, 9])
        (.block 2 (.loop [0, 3, 4, 5, 6, 7, 8, 9] (.seq (.seq (.ops [⟨some 46, .move (.t 9), none, []⟩,
              ⟨some 47, .move (.t 5), none, []⟩,
              ⟨some 48, .len .sl (.t 47), none, []⟩,
              ⟨some 49, .bin .lss (.t 46) (.t 48), none, []⟩] none [0, 3, 4, 5, 6, 7, 8, 9, 49])
            (.cond (.t 49)
              (.skip)
              (.exit 2)))
            (.seq (.block 3 (.seq (.ops [⟨some 52, .move (.t 5), none, []⟩,
                ⟨some 53, .move (.t 9), none, []⟩,
                ⟨some 54, .idxAddr 1 (.t 52) (.t 53), none, []⟩,
                ⟨some 55, .load none (.t 54), none, []⟩,
                ⟨some 56, .move (.t 7), none, []⟩,
                ⟨some 57, .bin .neq (.t 55) (.t 56), none, []⟩] none [0, 3, 4, 5, 6, 7, 8, 9, 57])
              (.cond (.t 57)
                (.ops [⟨some 58, .move (.t 8), none, []⟩,
                  ⟨some 59, .move (.t 5), none, []⟩,
                  ⟨some 60, .move (.t 9), none, []⟩,
                  ⟨some 61, .idxAddr 1 (.t 59) (.t 60), none, []⟩,
                  ⟨some 62, .load none (.t 61), none, []⟩,
                  ⟨some 63, .buildSl 1 [(.int .i64 0)] [(0, 1, (.t 62))], none, []⟩,
                  ⟨some 64, .append 1 (.t 58) (.t 63), none, []⟩,
                  ⟨some 8, .move (.t 64), none, []⟩] none [0, 3, 4, 5, 6, 7, 8, 9])
                (.skip))))
            (.ops [⟨some 50, .move (.t 9), none, []⟩,
              ⟨some 51, .bin .add (.t 50) (.c (.int .i64 1)), none, []⟩,
              ⟨some 9, .move (.t 51), none, []⟩] none [0, 3, 4, 5, 6, 7, 8, 9]))))))
        (.ops [⟨some 65, .move (.t 8), none, []⟩,
          ⟨some 5, .move (.t 65), none, []⟩] none [0, 3, 4, 5, 6]))))))
      (.seq (.ops [⟨some 66, .fldAddr 9 (.t 3), none, []⟩,
        ⟨some 67, .load none (.t 66), none, []⟩,
        ⟨some 68, .move (.t 5), none, []⟩,
        ⟨some 69, .call 20 [(.t 67), (.t 68)], none, []⟩,
        ⟨some 70, .not (.t 69), none, []⟩] none [0, 3, 4, 5, 6, 70])
      (.cond (.t 70)
        (.seq (.ops [⟨some 2, .move (.c (.bool false)), none, []⟩] none [2])
        (.ret))
        (.skip))))))
    (.ops [⟨some 23, .move (.t 6), none, []⟩,
      ⟨some 24, .bin .add (.t 23) (.c (.int .i64 1)), none, []⟩,
      ⟨some 6, .move (.t 24), none, []⟩] none [0, 3, 4, 5, 6]))))))
(.seq (.ops [⟨some 71, .fldAddr 9 (.t 3), none, []⟩,
  ⟨none, .store none (.t 71) (.c .nils), none, []⟩] none [3, 4])
(.seq (.ops [⟨some 72, .load (some 10) (.t 3), none, []⟩,
  ⟨some 73, .load (some 10) (.t 4), none, []⟩,
  ⟨some 74, .call 34 [(.t 72), (.t 73)], none, []⟩,
  ⟨some 75, .move (.t 74), none, []⟩,
  ⟨some 76, .fldAddr 9 (.t 4), (some (75, true)), []⟩,
  ⟨some 77, .load none (.t 76), (some (75, true)), []⟩,
  ⟨some 78, .len .sl (.t 77), (some (75, true)), []⟩,
  ⟨some 79, .bin .eql (.t 78) (.c (.int .i64 0)), (some (75, true)), []⟩,
  ⟨some 80, .pick (.t 75) (.t 79) (.c (.bool false)), none, []⟩,
  ⟨some 2, .move (.t 80), none, []⟩] none [2])
(.ret))))))))))
def f49 : SFunc := ⟨b49, [.t 2]⟩

/-- watchbill/watchbilllaw20.JobSteps -/
def b50 : SCode := (
.seq (.ops [⟨some 2, .move (.c (.bool false)), none, []⟩] none [0])
(.seq (.seq (.ops [⟨some 15, .call 27 [], none, []⟩,
  ⟨some 16, .not (.t 15), none, []⟩] none [0, 16])
(.cond (.t 16)
  (.seq (.ops [⟨some 2, .move (.c (.bool false)), none, []⟩] none [2])
  (.ret))
  (.skip)))
(.seq (.seq (.ops [⟨some 17, .move (.t 0), none, []⟩,
  ⟨some 18, .len .sl (.t 17), none, []⟩,
  ⟨some 19, .bin .gtr (.t 18) (.c (.int .i64 40)), none, []⟩] none [0, 19])
(.cond (.t 19)
  (.seq (.ops [⟨some 2, .move (.c (.bool true)), none, []⟩] none [2])
  (.ret))
  (.skip)))
(.seq (.ops [⟨some 3, .move (.c .nils), none, []⟩] none [0, 3])
(.seq (.seq (.ops [⟨some 4, .move (.c (.int .i64 0)), none, []⟩] none [0, 3, 4])
(.block 0 (.loop [0, 3, 4] (.seq (.seq (.ops [⟨some 20, .move (.t 4), none, []⟩,
      ⟨some 21, .move (.t 0), none, []⟩,
      ⟨some 22, .len .sl (.t 21), none, []⟩,
      ⟨some 23, .bin .lss (.t 20) (.t 22), none, []⟩] none [0, 3, 4, 23])
    (.cond (.t 23)
      (.skip)
      (.exit 0)))
    (.seq (.block 1 (.ops [⟨some 26, .move (.t 3), none, []⟩,
        ⟨some 27, .buildSl 3 [(.int .i64 0), (.int .i64 0), (.int .i64 0)] [(0, 1, (.c (.int .i64 4))), (1, 1, (.c (.int .i64 5))), (2, 1, (.c (.int .i64 6)))], none, []⟩,
        ⟨some 28, .move (.t 0), none, []⟩,
        ⟨some 29, .move (.t 4), none, []⟩,
        ⟨some 30, .idxAddr 1 (.t 28) (.t 29), none, []⟩,
        ⟨some 31, .load none (.t 30), none, []⟩,
        ⟨some 32, .bin .rem (.t 31) (.c (.int .u8 3)), none, []⟩,
        ⟨some 33, .idxAddr 1 (.t 27) (.t 32), none, []⟩,
        ⟨some 34, .load none (.t 33), none, []⟩,
        ⟨some 35, .move (.t 0), none, []⟩,
        ⟨some 36, .move (.t 4), none, []⟩,
        ⟨some 37, .idxAddr 1 (.t 35) (.t 36), none, []⟩,
        ⟨some 38, .load none (.t 37), none, []⟩,
        ⟨some 39, .bin .quo (.t 38) (.c (.int .u8 3)), none, []⟩,
        ⟨some 40, .bin .rem (.t 39) (.c (.int .u8 8)), none, []⟩,
        ⟨some 41, .conv .i64 (.t 40), none, []⟩,
        ⟨some 42, .build [(.int .i64 0), (.int .i64 0), (.int .i64 0), (.int .i64 0), .nils] [(0, 1, (.t 34)), (1, 1, (.t 41))], none, []⟩,
        ⟨some 43, .buildSl 1 [(.int .i64 0), (.int .i64 0), (.int .i64 0), (.int .i64 0), .nils] [(0, 5, (.t 42))], none, []⟩,
        ⟨some 44, .append 5 (.t 26) (.t 43), none, []⟩,
        ⟨some 3, .move (.t 44), none, []⟩] (some [(0, []), (1, []), (2, []), (3, []), (4, [2, 3]), (5, [4, 2, 3]), (6, [5, 4, 2, 3]), (7, [1, 6, 5, 4, 2, 3]), (8, [7, 1, 6, 5, 4, 2, 3]), (9, []), (10, []), (11, [9, 10]), (12, [11, 9, 10]), (13, [12, 11, 9, 10]), (14, [13, 12, 11, 9, 10]), (15, [14, 13, 12, 11, 9, 10]), (16, [8, 7, 1, 6, 5, 4, 2, 3, 15, 14, 13, 12, 11, 9, 10]), (17, [16, 8, 7, 1, 6, 5, 4, 2, 3, 15, 14, 13, 12, 11, 9, 10]), (18, [0, 17, 16, 8, 7, 1, 6, 5, 4, 2, 3, 15, 14, 13, 12, 11, 9, 10]), (19, [18, 0, 17, 16, 8, 7, 1, 6, 5, 4, 2, 3, 15, 14, 13, 12, 11, 9, 10])]) [0, 3, 4]))
    (.ops [⟨some 24, .move (.t 4), none, []⟩,
      ⟨some 25, .bin .add (.t 24) (.c (.int .i64 1)), none, []⟩,
      ⟨some 4, .move (.t 25), none, []⟩] none [0, 3, 4]))))))
(.seq (.ops [⟨some 45, .move (.t 3), none, []⟩,
  ⟨some 46, .call 48 [(.t 45), (.c (.int .i64 5)), (.c (.int .i64 1)), (.c (.int .i64 2))], none, []⟩,
  ⟨some 5, .alloc (.agg [(.bool false), .nils, (.int .i64 0), (.int .i64 0), (.int .i64 0), (.int .i64 0), (.int .i64 0), (.int .i64 0), (.bool false), .nils]), none, []⟩,
  ⟨none, .store (some 10) (.t 5) (.t 46), none, []⟩] none [3, 5])
(.seq (.seq (.ops [⟨some 6, .move (.c (.int .i64 0)), none, []⟩] none [3, 5, 6])
(.block 2 (.loop [3, 5, 6] (.seq (.seq (.ops [⟨some 47, .move (.t 6), none, []⟩,
      ⟨some 48, .move (.t 3), none, []⟩,
      ⟨some 49, .len .sl (.t 48), none, []⟩,
      ⟨some 50, .bin .lss (.t 47) (.t 49), none, []⟩] none [3, 5, 6, 50])
    (.cond (.t 50)
      (.skip)
      (.exit 2)))
    (.seq (.block 3 (.seq (.ops [⟨some 54, .load (some 10) (.t 5), none, []⟩,
        ⟨some 55, .call 30 [(.t 54)], none, []⟩,
        ⟨some 53, .move (.t 55), none, []⟩,
        ⟨some 56, .ext 0 (.t 53), none, []⟩,
        ⟨some 57, .ext 1 (.t 53), none, []⟩,
        ⟨some 7, .alloc (.agg [(.int .i64 0), (.int .i64 0), (.int .i64 0), (.int .i64 0), .nils]), none, []⟩,
        ⟨none, .store (some 5) (.t 7) (.t 56), none, []⟩,
        ⟨some 8, .move (.t 57), none, []⟩] none [3, 5, 6, 7, 8])
      (.seq (.ops [⟨some 59, .load (some 10) (.t 5), none, []⟩,
        ⟨some 60, .call 36 [(.t 59)], none, []⟩,
        ⟨some 58, .move (.t 60), none, []⟩,
        ⟨some 61, .ext 0 (.t 58), none, []⟩,
        ⟨some 62, .ext 1 (.t 58), none, []⟩,
        ⟨some 9, .alloc (.agg [(.bool false), .nils, (.int .i64 0), (.int .i64 0), (.int .i64 0), (.int .i64 0), (.int .i64 0), (.int .i64 0), (.bool false), .nils]), none, []⟩,
        ⟨none, .store (some 10) (.t 9) (.t 61), none, []⟩,
        ⟨some 10, .move (.t 62), none, []⟩] none [3, 5, 6, 7, 8, 10])
      (.seq (.ops [⟨some 64, .load (some 10) (.t 5), none, []⟩,
        ⟨some 65, .call 39 [(.t 64)], none, []⟩,
        ⟨some 63, .move (.t 65), none, []⟩,
        ⟨some 66, .ext 0 (.t 63), none, []⟩,
        ⟨some 67, .ext 1 (.t 63), none, []⟩,
        ⟨some 11, .alloc (.agg [(.bool false), .nils, (.int .i64 0), (.int .i64 0), (.int .i64 0), (.int .i64 0), (.int .i64 0), (.int .i64 0), (.bool false), .nils]), none, []⟩,
        ⟨none, .store (some 10) (.t 11) (.t 66), none, []⟩,
        ⟨some 12, .move (.t 67), none, []⟩] none [3, 5, 6, 7, 8, 10, 12])
      (.seq (.seq (.ops [⟨some 68, .move (.t 8), none, []⟩,
        ⟨some 69, .not (.t 68), none, []⟩,
        ⟨some 70, .move (.t 69), none, []⟩,
        ⟨some 71, .move (.t 10), (some (70, false)), []⟩,
        ⟨some 72, .pick (.t 70) (.c (.bool true)) (.t 71), none, []⟩,
        ⟨some 73, .move (.t 72), none, []⟩,
        ⟨some 74, .move (.t 12), (some (73, false)), []⟩,
        ⟨some 75, .pick (.t 73) (.c (.bool true)) (.t 74), none, []⟩,
        ⟨some 76, .move (.t 75), none, []⟩,
        ⟨some 77, .load (some 5) (.t 7), (some (76, false)), []⟩,
        ⟨some 78, .move (.t 3), (some (76, false)), []⟩,
        ⟨some 79, .move (.t 6), (some (76, false)), []⟩,
        ⟨some 80, .idxAddr 5 (.t 78) (.t 79), (some (76, false)), []⟩,
        ⟨some 81, .load (some 5) (.t 80), (some (76, false)), []⟩,
        ⟨some 82, .call 51 [(.t 77), (.t 81)], (some (76, false)), []⟩,
        ⟨some 83, .not (.t 82), (some (76, false)), []⟩,
        ⟨some 84, .pick (.t 76) (.c (.bool true)) (.t 83), none, []⟩,
        ⟨some 85, .move (.t 84), none, []⟩,
        ⟨some 86, .fldAddr 2 (.t 5), (some (85, false)), []⟩,
        ⟨some 87, .load none (.t 86), (some (85, false)), []⟩,
        ⟨some 88, .move (.t 6), (some (85, false)), []⟩,
        ⟨some 89, .bin .neq (.t 87) (.t 88), (some (85, false)), []⟩,
        ⟨some 90, .pick (.t 85) (.c (.bool true)) (.t 89), none, []⟩,
        ⟨some 91, .move (.t 90), none, []⟩,
        ⟨some 92, .fldAddr 4 (.t 5), (some (91, false)), []⟩,
        ⟨some 93, .load none (.t 92), (some (91, false)), []⟩,
        ⟨some 94, .bin .neq (.t 93) (.c (.int .i64 0)), (some (91, false)), []⟩,
        ⟨some 95, .pick (.t 91) (.c (.bool true)) (.t 94), none, []⟩] (some [(0, []), (1, [0]), (2, [1, 0]), (3, [2, 1, 0]), (4, [2, 1, 0, 3]), (5, [4, 2, 1, 0, 3]), (6, [5, 4, 2, 1, 0, 3]), (7, [5, 4, 2, 1, 0, 3, 6]), (8, [7, 5, 4, 2, 1, 0, 3, 6]), (9, [8, 7, 5, 4, 2, 1, 0, 3, 6]), (10, [8, 7, 5, 4, 2, 1, 0, 3, 6]), (11, [8, 7, 5, 4, 2, 1, 0, 3, 6]), (12, [10, 8, 7, 5, 4, 2, 1, 0, 3, 6, 11]), (13, [12, 10, 8, 7, 5, 4, 2, 1, 0, 3, 6, 11]), (14, [9, 8, 7, 5, 4, 2, 1, 0, 3, 6, 13, 12, 10, 11]), (15, [14, 9, 8, 7, 5, 4, 2, 1, 0, 3, 6, 13, 12, 10, 11]), (16, [8, 7, 5, 4, 2, 1, 0, 3, 6, 15, 14, 9, 13, 12, 10, 11]), (17, [16, 8, 7, 5, 4, 2, 1, 0, 3, 6, 15, 14, 9, 13, 12, 10, 11]), (18, [17, 16, 8, 7, 5, 4, 2, 1, 0, 3, 6, 15, 14, 9, 13, 12, 10, 11]), (19, [18, 17, 16, 8, 7, 5, 4, 2, 1, 0, 3, 6, 15, 14, 9, 13, 12, 10, 11]), (20, [17, 16, 8, 7, 5, 4, 2, 1, 0, 3, 6, 15, 14, 9, 13, 12, 10, 11]), (21, [19, 18, 17, 16, 8, 7, 5, 4, 2, 1, 0, 3, 6, 15, 14, 9, 13, 12, 10, 11, 20]), (22, [17, 16, 8, 7, 5, 4, 2, 1, 0, 3, 6, 15, 14, 9, 13, 12, 10, 11, 21, 19, 18, 20]), (23, [22, 17, 16, 8, 7, 5, 4, 2, 1, 0, 3, 6, 15, 14, 9, 13, 12, 10, 11, 21, 19, 18, 20]), (24, [23, 22, 17, 16, 8, 7, 5, 4, 2, 1, 0, 3, 6, 15, 14, 9, 13, 12, 10, 11, 21, 19, 18, 20]), (25, [24, 23, 22, 17, 16, 8, 7, 5, 4, 2, 1, 0, 3, 6, 15, 14, 9, 13, 12, 10, 11, 21, 19, 18, 20]), (26, [25, 24, 23, 22, 17, 16, 8, 7, 5, 4, 2, 1, 0, 3, 6, 15, 14, 9, 13, 12, 10, 11, 21, 19, 18, 20]), (27, [23, 22, 17, 16, 8, 7, 5, 4, 2, 1, 0, 3, 6, 15, 14, 9, 13, 12, 10, 11, 21, 19, 18, 20, 26, 25, 24])]) [3, 5, 6, 95])
      (.cond (.t 95)
        (.seq (.ops [⟨some 2, .move (.c (.bool false)), none, []⟩] none [2])
        (.ret))
        (.skip)))
      (.ops [⟨some 96, .load (some 10) (.t 5), none, []⟩,
        ⟨some 97, .call 41 [(.t 96)], none, []⟩,
        ⟨none, .store (some 10) (.t 5) (.t 97), none, []⟩] none [3, 5, 6]))))))
    (.ops [⟨some 51, .move (.t 6), none, []⟩,
      ⟨some 52, .bin .add (.t 51) (.c (.int .i64 1)), none, []⟩,
      ⟨some 6, .move (.t 52), none, []⟩] none [3, 5, 6]))))))
(.seq (.ops [⟨some 99, .load (some 10) (.t 5), none, []⟩,
  ⟨some 100, .call 30 [(.t 99)], none, []⟩,
  ⟨some 98, .move (.t 100), none, []⟩,
  ⟨some 101, .ext 0 (.t 98), none, []⟩,
  ⟨some 102, .ext 1 (.t 98), none, []⟩,
  ⟨some 13, .alloc (.agg [(.int .i64 0), (.int .i64 0), (.int .i64 0), (.int .i64 0), .nils]), none, []⟩,
  ⟨none, .store (some 5) (.t 13) (.t 101), none, []⟩,
  ⟨some 14, .move (.t 102), none, []⟩] none [3, 5, 14])
(.seq (.ops [⟨some 103, .move (.t 14), none, []⟩,
  ⟨some 104, .not (.t 103), none, []⟩,
  ⟨some 105, .move (.t 104), none, []⟩,
  ⟨some 106, .fldAddr 0 (.t 5), (some (105, true)), []⟩,
  ⟨some 107, .load none (.t 106), (some (105, true)), []⟩,
  ⟨some 108, .pick (.t 105) (.t 107) (.c (.bool false)), none, []⟩,
  ⟨some 109, .move (.t 108), none, []⟩,
  ⟨some 110, .fldAddr 2 (.t 5), (some (109, true)), []⟩,
  ⟨some 111, .load none (.t 110), (some (109, true)), []⟩,
  ⟨some 112, .move (.t 3), (some (109, true)), []⟩,
  ⟨some 113, .len .sl (.t 112), (some (109, true)), []⟩,
  ⟨some 114, .bin .eql (.t 111) (.t 113), (some (109, true)), []⟩,
  ⟨some 115, .pick (.t 109) (.t 114) (.c (.bool false)), none, []⟩,
  ⟨some 116, .move (.t 115), none, []⟩,
  ⟨some 117, .fldAddr 7 (.t 5), (some (116, true)), []⟩,
  ⟨some 118, .load none (.t 117), (some (116, true)), []⟩,
  ⟨some 119, .bin .eql (.t 118) (.c (.int .i64 2)), (some (116, true)), []⟩,
  ⟨some 120, .pick (.t 116) (.t 119) (.c (.bool false)), none, []⟩,
  ⟨some 121, .move (.t 120), none, []⟩,
  ⟨some 122, .fldAddr 6 (.t 5), (some (121, true)), []⟩,
  ⟨some 123, .load none (.t 122), (some (121, true)), []⟩,
  ⟨some 124, .bin .eql (.t 123) (.c (.int .i64 1)), (some (121, true)), []⟩,
  ⟨some 125, .pick (.t 121) (.t 124) (.c (.bool false)), none, []⟩,
  ⟨some 126, .move (.t 125), none, []⟩,
  ⟨some 127, .fldAddr 5 (.t 5), (some (126, true)), []⟩,
  ⟨some 128, .load none (.t 127), (some (126, true)), []⟩,
  ⟨some 129, .bin .eql (.t 128) (.c (.int .i64 5)), (some (126, true)), []⟩,
  ⟨some 130, .pick (.t 126) (.t 129) (.c (.bool false)), none, []⟩,
  ⟨some 2, .move (.t 130), none, []⟩] none [2])
(.ret))))))))))
def f50 : SFunc := ⟨b50, [.t 2]⟩

/-- watchbill/watchbilllaw19.known -/
def b4 : SCode := (
.seq (.ops [⟨some 0, .move (.c (.bool false)), none, []⟩] none [])
(.seq (.ops [⟨some 14, .call 52 [], none, []⟩,
  ⟨some 15, .call 5 [(.t 14)], none, []⟩,
  ⟨some 1, .move (.t 15), none, []⟩] none [1])
(.seq (.seq (.ops [⟨some 16, .move (.t 1), none, []⟩,
  ⟨some 17, .eq false .p (.t 16) (.c .nilp), none, []⟩] none [1, 17])
(.cond (.t 17)
  (.seq (.ops [⟨some 0, .move (.c (.bool false)), none, []⟩] none [0])
  (.ret))
  (.skip)))
(.seq (.ops [⟨some 18, .move (.t 1), none, []⟩,
  ⟨some 19, .call 6 [(.t 18), (.c (.int .i64 0)), (.c (.int .i64 5)), (.c (.bool false))], none, []⟩,
  ⟨some 20, .move (.t 1), none, []⟩,
  ⟨some 21, .call 6 [(.t 20), (.c (.int .i64 0)), (.c (.int .i64 14)), (.c (.bool false))], none, []⟩,
  ⟨some 22, .move (.t 1), none, []⟩,
  ⟨some 23, .call 6 [(.t 22), (.c (.int .i64 0)), (.c (.int .i64 15)), (.c (.bool true))], none, []⟩,
  ⟨some 2, .move (.t 19), none, []⟩,
  ⟨some 3, .move (.t 21), none, []⟩,
  ⟨some 4, .move (.t 23), none, []⟩] none [1, 2, 3, 4])
(.seq (.ops [⟨some 24, .move (.t 1), none, []⟩,
  ⟨some 25, .call 6 [(.t 24), (.c (.int .i64 0)), (.c (.int .i64 15)), (.c (.bool false))], none, []⟩,
  ⟨some 26, .move (.t 1), none, []⟩,
  ⟨some 27, .call 6 [(.t 26), (.c (.int .i64 2)), (.c (.int .i64 15)), (.c (.bool false))], none, []⟩,
  ⟨some 28, .move (.t 1), none, []⟩,
  ⟨some 29, .call 6 [(.t 28), (.c (.int .i64 1)), (.c (.int .i64 14)), (.c (.bool false))], none, []⟩,
  ⟨some 5, .move (.t 25), none, []⟩,
  ⟨some 6, .move (.t 27), none, []⟩,
  ⟨some 7, .move (.t 29), none, []⟩] none [1, 2, 3, 4, 5, 6, 7])
(.seq (.ops [⟨some 31, .move (.t 1), none, []⟩,
  ⟨some 32, .call 8 [(.t 31), (.c (.int .i64 0))], none, []⟩,
  ⟨some 30, .move (.t 32), none, []⟩,
  ⟨some 33, .ext 0 (.t 30), none, []⟩,
  ⟨some 34, .ext 1 (.t 30), none, []⟩,
  ⟨some 8, .move (.t 33), none, []⟩,
  ⟨some 9, .move (.t 34), none, []⟩] none [1, 2, 3, 4, 5, 6, 7, 8, 9])
(.seq (.ops [⟨some 36, .move (.t 1), none, []⟩,
  ⟨some 37, .call 8 [(.t 36), (.c (.int .i64 1))], none, []⟩,
  ⟨some 35, .move (.t 37), none, []⟩,
  ⟨some 38, .ext 0 (.t 35), none, []⟩,
  ⟨some 39, .ext 1 (.t 35), none, []⟩,
  ⟨some 10, .move (.t 38), none, []⟩,
  ⟨some 11, .move (.t 39), none, []⟩] none [1, 2, 3, 4, 5, 6, 7, 8, 9, 11])
(.seq (.ops [⟨some 41, .move (.t 1), none, []⟩,
  ⟨some 42, .call 8 [(.t 41), (.c (.int .i64 2))], none, []⟩,
  ⟨some 40, .move (.t 42), none, []⟩,
  ⟨some 43, .ext 0 (.t 40), none, []⟩,
  ⟨some 44, .ext 1 (.t 40), none, []⟩,
  ⟨some 12, .move (.t 43), none, []⟩,
  ⟨some 13, .move (.t 44), none, []⟩] none [2, 3, 4, 5, 6, 7, 8, 9, 11, 13])
(.seq (.ops [⟨some 45, .move (.t 2), none, []⟩,
  ⟨some 46, .move (.t 5), none, []⟩,
  ⟨some 47, .bin .add (.t 45) (.t 46), none, []⟩,
  ⟨some 48, .bin .eql (.t 47) (.c (.int .i64 0)), none, []⟩,
  ⟨some 49, .move (.t 48), none, []⟩,
  ⟨some 50, .move (.t 3), (some (49, true)), []⟩,
  ⟨some 51, .bin .eql (.t 50) (.c (.int .i64 12)), (some (49, true)), []⟩,
  ⟨some 52, .pick (.t 49) (.t 51) (.c (.bool false)), none, []⟩,
  ⟨some 53, .move (.t 52), none, []⟩,
  ⟨some 54, .move (.t 4), (some (53, true)), []⟩,
  ⟨some 55, .bin .eql (.t 54) (.c (.int .i64 10)), (some (53, true)), []⟩,
  ⟨some 56, .pick (.t 53) (.t 55) (.c (.bool false)), none, []⟩,
  ⟨some 57, .move (.t 56), none, []⟩,
  ⟨some 58, .move (.t 6), (some (57, true)), []⟩,
  ⟨some 59, .bin .eql (.t 58) (.c (.int .i64 3)), (some (57, true)), []⟩,
  ⟨some 60, .pick (.t 57) (.t 59) (.c (.bool false)), none, []⟩,
  ⟨some 61, .move (.t 60), none, []⟩,
  ⟨some 62, .move (.t 7), (some (61, true)), []⟩,
  ⟨some 63, .bin .eql (.t 62) (.c (.int .i64 1)), (some (61, true)), []⟩,
  ⟨some 64, .pick (.t 61) (.t 63) (.c (.bool false)), none, []⟩,
  ⟨some 65, .move (.t 64), none, []⟩,
  ⟨some 66, .move (.t 9), (some (65, true)), []⟩,
  ⟨some 67, .pick (.t 65) (.t 66) (.c (.bool false)), none, []⟩,
  ⟨some 68, .move (.t 67), none, []⟩,
  ⟨some 69, .move (.t 8), (some (68, true)), []⟩,
  ⟨some 70, .bin .eql (.t 69) (.c (.int .i64 15)), (some (68, true)), []⟩,
  ⟨some 71, .pick (.t 68) (.t 70) (.c (.bool false)), none, []⟩,
  ⟨some 72, .move (.t 71), none, []⟩,
  ⟨some 73, .move (.t 11), (some (72, true)), []⟩,
  ⟨some 74, .not (.t 73), (some (72, true)), []⟩,
  ⟨some 75, .pick (.t 72) (.t 74) (.c (.bool false)), none, []⟩,
  ⟨some 76, .move (.t 75), none, []⟩,
  ⟨some 77, .move (.t 13), (some (76, true)), []⟩,
  ⟨some 78, .not (.t 77), (some (76, true)), []⟩,
  ⟨some 79, .pick (.t 76) (.t 78) (.c (.bool false)), none, []⟩,
  ⟨some 0, .move (.t 79), none, []⟩] none [0])
(.ret))))))))))
def f4 : SFunc := ⟨b4, [.t 0]⟩

/-- watchbill/guard.New -/
def b5 : SCode := (
.seq (.ops [⟨some 1, .box (.t 0), none, []⟩,
  ⟨some 2, .move (.c .nilp), none, []⟩] none [1])
(.seq (.ops [⟨some 5, .mkmap, none, []⟩,
  ⟨some 6, .build [.nils, .nilm, (.int .i64 0)] [(1, 1, (.t 5))], none, []⟩,
  ⟨some 7, .box (.t 6), none, []⟩,
  ⟨some 3, .move (.t 7), none, []⟩] none [1, 3])
(.seq (.skip)
(.seq (.block 0 (.loop [1, 3] (.block 1 (.seq (.ops [⟨some 8, .move (.t 3), none, []⟩,
        ⟨some 9, .nilck (.t 8), none, []⟩,
        ⟨some 10, .fldAddr 0 (.t 9), none, []⟩,
        ⟨some 11, .load none (.t 10), none, []⟩,
        ⟨some 12, .len .sl (.t 11), none, []⟩,
        ⟨some 4, .move (.t 12), none, []⟩] none [1, 3, 4])
      (.seq (.seq (.ops [⟨some 13, .move (.t 4), none, []⟩,
        ⟨some 14, .fldAddr 2 (.t 1), none, []⟩,
        ⟨some 15, .load none (.t 14), none, []⟩,
        ⟨some 16, .len .sl (.t 15), none, []⟩,
        ⟨some 17, .bin .eql (.t 13) (.t 16), none, []⟩] none [1, 3, 4, 17])
      (.cond (.t 17)
        (.exit 0)
        (.skip)))
      (.ops [⟨some 18, .move (.t 3), none, []⟩,
        ⟨some 19, .move (.t 3), none, []⟩,
        ⟨some 20, .nilck (.t 19), none, []⟩,
        ⟨some 21, .fldAddr 0 (.t 20), none, []⟩,
        ⟨some 22, .load none (.t 21), none, []⟩,
        ⟨some 23, .fldAddr 2 (.t 1), none, []⟩,
        ⟨some 24, .load none (.t 23), none, []⟩,
        ⟨some 25, .move (.t 4), none, []⟩,
        ⟨some 26, .idxAddr 5 (.t 24) (.t 25), none, []⟩,
        ⟨some 27, .fldAddr 1 (.t 26), none, []⟩,
        ⟨some 28, .load none (.t 27), none, []⟩,
        ⟨some 29, .buildSl 1 [(.int .i64 0)] [(0, 1, (.t 28))], none, []⟩,
        ⟨some 30, .append 1 (.t 22) (.t 29), none, []⟩,
        ⟨some 31, .nilck (.t 18), none, []⟩,
        ⟨some 32, .fldAddr 0 (.t 31), none, []⟩,
        ⟨none, .store none (.t 32) (.t 30), none, []⟩] (some [(0, []), (1, []), (2, [1]), (3, [2, 1]), (4, [3, 2, 1]), (5, []), (6, [5]), (7, []), (8, [6, 5, 7]), (9, [8, 6, 5, 7]), (10, [9, 8, 6, 5, 7]), (11, [10, 9, 8, 6, 5, 7]), (12, [4, 3, 2, 1, 11, 10, 9, 8, 6, 5, 7]), (13, [0, 1, 2, 3, 4, 5, 6, 7, 8, 9, 10, 11, 12]), (14, [13, 0, 1, 2, 3, 4, 5, 6, 7, 8, 9, 10, 11, 12]), (15, [14, 13, 0, 1, 2, 3, 4, 5, 6, 7, 8, 9, 10, 11, 12])]) [1, 3]))))))
(.seq (.ops [⟨some 33, .move (.t 3), none, []⟩,
  ⟨some 2, .move (.t 33), none, []⟩] none [2])
(.ret))))))
def f5 : SFunc := ⟨b5, [.t 2]⟩

/-- (*watchbill/guard.Guard).Ask -/
def b6 : SCode := (
.seq (.ops [⟨some 8, .move (.c (.int .i64 0)), none, []⟩] none [0, 1, 2, 3])
(.seq (.seq (.ops [⟨some 11, .move (.t 1), none, []⟩,
  ⟨some 12, .bin .lss (.t 11) (.c (.int .i64 0)), none, []⟩,
  ⟨some 13, .move (.t 12), none, []⟩,
  ⟨some 14, .move (.t 1), (some (13, false)), []⟩,
  ⟨some 15, .move (.t 0), (some (13, false)), []⟩,
  ⟨some 16, .nilck (.t 15), (some (13, false)), []⟩,
  ⟨some 17, .fldAddr 0 (.t 16), (some (13, false)), []⟩,
  ⟨some 18, .load none (.t 17), (some (13, false)), []⟩,
  ⟨some 19, .len .sl (.t 18), (some (13, false)), []⟩,
  ⟨some 20, .bin .geq (.t 14) (.t 19), (some (13, false)), []⟩,
  ⟨some 21, .pick (.t 13) (.c (.bool true)) (.t 20), none, []⟩] none [0, 1, 2, 3, 21])
(.cond (.t 21)
  (.seq (.ops [⟨some 8, .move (.c (.int .i64 3)), none, []⟩] none [8])
  (.ret))
  (.skip)))
(.seq (.seq (.ops [⟨some 22, .move (.t 2), none, []⟩,
  ⟨some 23, .move (.t 0), none, []⟩,
  ⟨some 24, .nilck (.t 23), none, []⟩,
  ⟨some 25, .fldAddr 2 (.t 24), none, []⟩,
  ⟨some 26, .load none (.t 25), none, []⟩,
  ⟨some 27, .bin .lss (.t 22) (.t 26), none, []⟩,
  ⟨some 28, .move (.t 27), none, []⟩,
  ⟨some 29, .move (.t 2), (some (28, false)), []⟩,
  ⟨some 30, .bin .lss (.t 29) (.c (.int .i64 0)), (some (28, false)), []⟩,
  ⟨some 31, .pick (.t 28) (.c (.bool true)) (.t 30), none, []⟩,
  ⟨some 32, .move (.t 31), none, []⟩,
  ⟨some 33, .move (.t 2), (some (32, false)), []⟩,
  ⟨some 34, .bin .gtr (.t 33) (.c (.int .i64 1099511627776)), (some (32, false)), []⟩,
  ⟨some 35, .pick (.t 32) (.c (.bool true)) (.t 34), none, []⟩] none [0, 1, 2, 3, 35])
(.cond (.t 35)
  (.seq (.ops [⟨some 8, .move (.c (.int .i64 1)), none, []⟩] none [8])
  (.ret))
  (.skip)))
(.seq (.ops [⟨some 37, .move (.t 0), none, []⟩,
  ⟨some 38, .nilck (.t 37), none, []⟩,
  ⟨some 39, .fldAddr 1 (.t 38), none, []⟩,
  ⟨some 40, .load none (.t 39), none, []⟩,
  ⟨some 41, .move (.t 1), none, []⟩,
  ⟨some 42, .lookup true .i (.int .i64 0) (.t 40) (.t 41), none, []⟩,
  ⟨some 36, .move (.t 42), none, []⟩,
  ⟨some 43, .ext 0 (.t 36), none, []⟩,
  ⟨some 44, .ext 1 (.t 36), none, []⟩,
  ⟨some 9, .move (.t 43), none, []⟩,
  ⟨some 10, .move (.t 44), none, []⟩] none [0, 1, 2, 3, 9, 10])
(.seq (.block 0 (.seq (.ops [⟨some 46, .move (.t 10), none, []⟩,
    ⟨some 47, .move (.t 46), none, []⟩,
    ⟨some 48, .move (.t 2), (some (47, true)), []⟩,
    ⟨some 49, .move (.t 9), (some (47, true)), []⟩,
    ⟨some 50, .bin .sub (.t 48) (.t 49), (some (47, true)), []⟩,
    ⟨some 51, .move (.t 0), (some (47, true)), []⟩,
    ⟨some 52, .nilck (.t 51), (some (47, true)), []⟩,
    ⟨some 53, .fldAddr 0 (.t 52), (some (47, true)), []⟩,
    ⟨some 54, .load none (.t 53), (some (47, true)), []⟩,
    ⟨some 55, .move (.t 1), (some (47, true)), []⟩,
    ⟨some 56, .idxAddr 1 (.t 54) (.t 55), (some (47, true)), []⟩,
    ⟨some 57, .load none (.t 56), (some (47, true)), []⟩,
    ⟨some 58, .bin .lss (.t 50) (.t 57), (some (47, true)), []⟩,
    ⟨some 59, .pick (.t 47) (.t 58) (.c (.bool false)), none, []⟩,
    ⟨some 45, .move (.t 59), none, []⟩] none [0, 1, 2, 3, 45])
  (.cond (.t 45)
    (.seq (.ops [⟨some 8, .move (.c (.int .i64 12)), none, []⟩] none [8])
    (.ret))
    (.seq (.ops [⟨some 61, .move (.t 3), none, []⟩,
      ⟨some 60, .move (.t 61), none, []⟩] none [0, 1, 2, 60])
    (.cond (.t 60)
      (.seq (.ops [⟨some 8, .move (.c (.int .i64 10)), none, []⟩] none [8])
      (.ret))
      (.skip))))))
(.seq (.ops [⟨some 62, .move (.t 0), none, []⟩,
  ⟨some 63, .nilck (.t 62), none, []⟩,
  ⟨some 64, .fldAddr 1 (.t 63), none, []⟩,
  ⟨some 65, .load none (.t 64), none, []⟩,
  ⟨some 66, .move (.t 1), none, []⟩,
  ⟨some 67, .move (.t 0), none, []⟩,
  ⟨some 68, .move (.t 2), none, []⟩,
  ⟨some 69, .move (.t 2), none, []⟩,
  ⟨some 70, .mapent .i (.int .i64 0) (.t 65) (.t 66), none, []⟩,
  ⟨some 71, .ext 1 (.t 70), none, []⟩,
  ⟨none, .entst (.t 65) (.t 71) (.t 68), none, []⟩,
  ⟨some 72, .nilck (.t 67), none, []⟩,
  ⟨some 73, .fldAddr 2 (.t 72), none, []⟩,
  ⟨none, .store none (.t 73) (.t 69), none, []⟩] none [])
(.seq (.ops [⟨some 8, .move (.c (.int .i64 0)), none, []⟩] none [8])
(.ret))))))))
def f6 : SFunc := ⟨b6, [.t 8]⟩

/-- (*watchbill/guard.Guard).Last -/
def b8 : SCode := (
.seq (.ops [⟨some 4, .move (.c (.int .i64 0)), none, []⟩,
  ⟨some 5, .move (.c (.bool false)), none, []⟩] none [0, 1])
(.seq (.ops [⟨some 9, .move (.t 0), none, []⟩,
  ⟨some 10, .nilck (.t 9), none, []⟩,
  ⟨some 11, .fldAddr 1 (.t 10), none, []⟩,
  ⟨some 12, .load none (.t 11), none, []⟩,
  ⟨some 13, .move (.t 1), none, []⟩,
  ⟨some 14, .lookup true .i (.int .i64 0) (.t 12) (.t 13), none, []⟩,
  ⟨some 8, .move (.t 14), none, []⟩,
  ⟨some 15, .ext 0 (.t 8), none, []⟩,
  ⟨some 16, .ext 1 (.t 8), none, []⟩,
  ⟨some 6, .move (.t 15), none, []⟩,
  ⟨some 7, .move (.t 16), none, []⟩] none [6, 7])
(.seq (.ops [⟨some 17, .move (.t 6), none, []⟩,
  ⟨some 18, .move (.t 7), none, []⟩,
  ⟨some 4, .move (.t 17), none, []⟩,
  ⟨some 5, .move (.t 18), none, []⟩] none [4, 5])
(.ret))))
def f8 : SFunc := ⟨b8, [.t 4, .t 5]⟩

/-- watchbill/watchbillref21.NewGuard -/
def b11 : SCode := (
.seq (.ops [⟨some 1, .box (.t 0), none, []⟩,
  ⟨some 2, .move (.c .nilp), none, []⟩] none [1])
(.seq (.ops [⟨some 5, .build [.nils, .nils, (.int .i64 0)] [], none, []⟩,
  ⟨some 6, .box (.t 5), none, []⟩,
  ⟨some 3, .move (.t 6), none, []⟩] none [1, 3])
(.seq (.seq (.ops [⟨some 4, .move (.c (.int .i64 0)), none, []⟩] none [1, 3, 4])
(.block 0 (.loop [1, 3, 4] (.seq (.seq (.ops [⟨some 7, .move (.t 4), none, []⟩,
      ⟨some 8, .fldAddr 2 (.t 1), none, []⟩,
      ⟨some 9, .load none (.t 8), none, []⟩,
      ⟨some 10, .len .sl (.t 9), none, []⟩,
      ⟨some 11, .bin .lss (.t 7) (.t 10), none, []⟩] none [1, 3, 4, 11])
    (.cond (.t 11)
      (.skip)
      (.exit 0)))
    (.seq (.block 1 (.seq (.ops [⟨some 14, .move (.t 3), none, []⟩,
        ⟨some 15, .move (.t 3), none, []⟩,
        ⟨some 16, .nilck (.t 15), none, []⟩,
        ⟨some 17, .fldAddr 0 (.t 16), none, []⟩,
        ⟨some 18, .load none (.t 17), none, []⟩,
        ⟨some 19, .fldAddr 2 (.t 1), none, []⟩,
        ⟨some 20, .load none (.t 19), none, []⟩,
        ⟨some 21, .move (.t 4), none, []⟩,
        ⟨some 22, .idxAddr 5 (.t 20) (.t 21), none, []⟩,
        ⟨some 23, .fldAddr 1 (.t 22), none, []⟩,
        ⟨some 24, .load none (.t 23), none, []⟩,
        ⟨some 25, .buildSl 1 [(.int .i64 0)] [(0, 1, (.t 24))], none, []⟩,
        ⟨some 26, .append 1 (.t 18) (.t 25), none, []⟩,
        ⟨some 27, .nilck (.t 14), none, []⟩,
        ⟨some 28, .fldAddr 0 (.t 27), none, []⟩,
        ⟨none, .store none (.t 28) (.t 26), none, []⟩] (some [(0, []), (1, []), (2, [1]), (3, [2, 1]), (4, [3, 2, 1]), (5, []), (6, [5]), (7, []), (8, [6, 5, 7]), (9, [8, 6, 5, 7]), (10, [9, 8, 6, 5, 7]), (11, [10, 9, 8, 6, 5, 7]), (12, [4, 3, 2, 1, 11, 10, 9, 8, 6, 5, 7]), (13, [0, 1, 2, 3, 4, 5, 6, 7, 8, 9, 10, 11, 12]), (14, [13, 0, 1, 2, 3, 4, 5, 6, 7, 8, 9, 10, 11, 12]), (15, [14, 13, 0, 1, 2, 3, 4, 5, 6, 7, 8, 9, 10, 11, 12])]) [1, 3, 4])
      (.ops [⟨some 29, .move (.t 3), none, []⟩,
        ⟨some 30, .move (.t 3), none, []⟩,
        ⟨some 31, .nilck (.t 30), none, []⟩,
        ⟨some 32, .fldAddr 1 (.t 31), none, []⟩,
        ⟨some 33, .load none (.t 32), none, []⟩,
        ⟨some 34, .buildSl 1 [(.int .i64 0)] [(0, 1, (.c (.int .i64 (-1))))], none, []⟩,
        ⟨some 35, .append 1 (.t 33) (.t 34), none, []⟩,
        ⟨some 36, .nilck (.t 29), none, []⟩,
        ⟨some 37, .fldAddr 1 (.t 36), none, []⟩,
        ⟨none, .store none (.t 37) (.t 35), none, []⟩] none [1, 3, 4])))
    (.ops [⟨some 12, .move (.t 4), none, []⟩,
      ⟨some 13, .bin .add (.t 12) (.c (.int .i64 1)), none, []⟩,
      ⟨some 4, .move (.t 13), none, []⟩] none [1, 3, 4]))))))
(.seq (.ops [⟨some 38, .move (.t 3), none, []⟩,
  ⟨some 2, .move (.t 38), none, []⟩] none [2])
(.ret)))))
def f11 : SFunc := ⟨b11, [.t 2]⟩

/-- watchbill/watchbilllaw7.Of -/
def b10 : SCode := (
.seq (.ops [⟨some 1, .box (.t 0), none, []⟩,
  ⟨some 2, .alloc (.agg [(.int .i64 0), .nils, .nils]), none, []⟩] none [1, 2])
(.seq (.ops [⟨some 7, .fldAddr 0 (.t 1), none, []⟩,
  ⟨some 8, .load none (.t 7), none, []⟩,
  ⟨some 9, .build [(.int .i64 0), .nils, .nils] [(0, 1, (.t 8))], none, []⟩,
  ⟨some 3, .alloc (.agg [(.int .i64 0), .nils, .nils]), none, []⟩,
  ⟨none, .store (some 3) (.t 3) (.t 9), none, []⟩] none [1, 2, 3])
(.seq (.seq (.ops [⟨some 4, .move (.c (.int .i64 0)), none, []⟩] none [1, 2, 3, 4])
(.block 0 (.loop [1, 2, 3, 4] (.seq (.seq (.ops [⟨some 10, .move (.t 4), none, []⟩,
      ⟨some 11, .fldAddr 1 (.t 1), none, []⟩,
      ⟨some 12, .load none (.t 11), none, []⟩,
      ⟨some 13, .len .sl (.t 12), none, []⟩,
      ⟨some 14, .bin .lss (.t 10) (.t 13), none, []⟩] none [1, 2, 3, 4, 14])
    (.cond (.t 14)
      (.skip)
      (.exit 0)))
    (.seq (.block 1 (.ops [⟨some 17, .fldAddr 1 (.t 3), none, []⟩,
        ⟨some 18, .load none (.t 17), none, []⟩,
        ⟨some 19, .fldAddr 1 (.t 1), none, []⟩,
        ⟨some 20, .load none (.t 19), none, []⟩,
        ⟨some 21, .move (.t 4), none, []⟩,
        ⟨some 22, .idxAddr 2 (.t 20) (.t 21), none, []⟩,
        ⟨some 23, .fldAddr 0 (.t 22), none, []⟩,
        ⟨some 24, .load none (.t 23), none, []⟩,
        ⟨some 25, .fldAddr 1 (.t 1), none, []⟩,
        ⟨some 26, .load none (.t 25), none, []⟩,
        ⟨some 27, .move (.t 4), none, []⟩,
        ⟨some 28, .idxAddr 2 (.t 26) (.t 27), none, []⟩,
        ⟨some 29, .fldAddr 1 (.t 28), none, []⟩,
        ⟨some 30, .load none (.t 29), none, []⟩,
        ⟨some 31, .build [(.int .i64 0), (.int .i64 0)] [(0, 1, (.t 24)), (1, 1, (.t 30))], none, []⟩,
        ⟨some 32, .buildSl 1 [(.int .i64 0), (.int .i64 0)] [(0, 2, (.t 31))], none, []⟩,
        ⟨some 33, .append 2 (.t 18) (.t 32), none, []⟩,
        ⟨some 34, .fldAddr 1 (.t 3), none, []⟩,
        ⟨none, .store none (.t 34) (.t 33), none, []⟩] (some [(0, []), (1, [0]), (2, []), (3, [2]), (4, []), (5, [3, 2, 4]), (6, [5, 3, 2, 4]), (7, [6, 5, 3, 2, 4]), (8, []), (9, [8]), (10, []), (11, [9, 8, 10]), (12, [11, 9, 8, 10]), (13, [12, 11, 9, 8, 10]), (14, [7, 6, 5, 3, 2, 4, 13, 12, 11, 9, 8, 10]), (15, [14, 7, 6, 5, 3, 2, 4, 13, 12, 11, 9, 8, 10]), (16, [1, 0, 15, 14, 7, 6, 5, 3, 2, 4, 13, 12, 11, 9, 8, 10]), (17, [0, 1, 2, 3, 4, 5, 6, 7, 8, 9, 10, 11, 12, 13, 14, 15, 16]), (18, [17, 0, 1, 2, 3, 4, 5, 6, 7, 8, 9, 10, 11, 12, 13, 14, 15, 16])]) [1, 2, 3, 4]))
    (.ops [⟨some 15, .move (.t 4), none, []⟩,
      ⟨some 16, .bin .add (.t 15) (.c (.int .i64 1)), none, []⟩,
      ⟨some 4, .move (.t 16), none, []⟩] none [1, 2, 3, 4]))))))
(.seq (.seq (.ops [⟨some 5, .move (.c (.int .i64 0)), none, []⟩] none [1, 2, 3, 5])
(.block 2 (.loop [1, 2, 3, 5] (.seq (.seq (.ops [⟨some 35, .move (.t 5), none, []⟩,
      ⟨some 36, .fldAddr 2 (.t 1), none, []⟩,
      ⟨some 37, .load none (.t 36), none, []⟩,
      ⟨some 38, .len .sl (.t 37), none, []⟩,
      ⟨some 39, .bin .lss (.t 35) (.t 38), none, []⟩] none [1, 2, 3, 5, 39])
    (.cond (.t 39)
      (.skip)
      (.exit 2)))
    (.seq (.block 3 (.seq (.ops [⟨some 42, .fldAddr 2 (.t 1), none, []⟩,
        ⟨some 43, .load none (.t 42), none, []⟩,
        ⟨some 44, .move (.t 5), none, []⟩,
        ⟨some 45, .idxAddr 5 (.t 43) (.t 44), none, []⟩,
        ⟨some 46, .load (some 5) (.t 45), none, []⟩,
        ⟨some 6, .alloc (.agg [(.str []), (.int .i64 0), (.int .i64 0), (.int .i64 0), .nils]), none, []⟩,
        ⟨none, .store (some 5) (.t 6) (.t 46), none, []⟩] none [1, 2, 3, 5, 6])
      (.ops [⟨some 47, .fldAddr 2 (.t 3), none, []⟩,
        ⟨some 48, .load none (.t 47), none, []⟩,
        ⟨some 49, .fldAddr 0 (.t 6), none, []⟩,
        ⟨some 50, .load none (.t 49), none, []⟩,
        ⟨some 51, .fldAddr 1 (.t 6), none, []⟩,
        ⟨some 52, .load none (.t 51), none, []⟩,
        ⟨some 53, .fldAddr 2 (.t 6), none, []⟩,
        ⟨some 54, .load none (.t 53), none, []⟩,
        ⟨some 55, .fldAddr 3 (.t 6), none, []⟩,
        ⟨some 56, .load none (.t 55), none, []⟩,
        ⟨some 57, .fldAddr 4 (.t 6), none, []⟩,
        ⟨some 58, .load none (.t 57), none, []⟩,
        ⟨some 59, .call 53 [(.t 58)], none, [1, 3, 5, 7, 9]⟩,
        ⟨some 60, .build [(.str []), (.int .i64 0), (.int .i64 0), (.int .i64 0), .nils] [(0, 1, (.t 50)), (1, 1, (.t 52)), (2, 1, (.t 54)), (3, 1, (.t 56)), (4, 1, (.t 59))], none, []⟩,
        ⟨some 61, .buildSl 1 [(.str []), (.int .i64 0), (.int .i64 0), (.int .i64 0), .nils] [(0, 5, (.t 60))], none, []⟩,
        ⟨some 62, .append 5 (.t 48) (.t 61), none, []⟩,
        ⟨some 63, .fldAddr 2 (.t 3), none, []⟩,
        ⟨none, .store none (.t 63) (.t 62), none, []⟩] (some [(0, []), (1, [0]), (2, []), (3, [2]), (4, []), (5, [4]), (6, []), (7, [6]), (8, []), (9, [8]), (10, []), (11, [10]), (12, [11, 10]), (13, [3, 2, 5, 4, 7, 6, 9, 8, 12, 11, 10]), (14, [13, 3, 2, 5, 4, 7, 6, 9, 8, 12, 11, 10]), (15, [1, 0, 14, 13, 3, 2, 5, 4, 7, 6, 9, 8, 12, 11, 10]), (16, [0, 1, 2, 3, 4, 5, 6, 7, 8, 9, 10, 11, 12, 13, 14, 15]), (17, [16, 0, 1, 2, 3, 4, 5, 6, 7, 8, 9, 10, 11, 12, 13, 14, 15])]) [1, 2, 3, 5])))
    (.ops [⟨some 40, .move (.t 5), none, []⟩,
      ⟨some 41, .bin .add (.t 40) (.c (.int .i64 1)), none, []⟩,
      ⟨some 5, .move (.t 41), none, []⟩] none [1, 2, 3, 5]))))))
(.seq (.ops [⟨some 64, .load (some 3) (.t 3), none, []⟩,
  ⟨none, .store (some 3) (.t 2) (.t 64), none, []⟩] none [2])
(.ret))))))
def f10 : SFunc := ⟨b10, [.cell (some 3) 2]⟩

/-- (*watchbill/guard.Guard).Twin -/
def b12 : SCode := (
.seq (.ops [⟨some 2, .move (.c .nilp), none, []⟩] none [0])
(.seq (.ops [⟨some 3, .move (.t 0), none, []⟩,
  ⟨some 4, .nilck (.t 3), none, []⟩,
  ⟨some 5, .fldAddr 0 (.t 4), none, []⟩,
  ⟨some 6, .load none (.t 5), none, []⟩,
  ⟨some 7, .move (.t 0), none, []⟩,
  ⟨some 8, .nilck (.t 7), none, []⟩,
  ⟨some 9, .fldAddr 1 (.t 8), none, []⟩,
  ⟨some 10, .load none (.t 9), none, []⟩,
  ⟨some 12, .move (.t 0), none, []⟩,
  ⟨some 13, .nilck (.t 12), none, []⟩,
  ⟨some 14, .fldAddr 2 (.t 13), none, []⟩,
  ⟨some 15, .load none (.t 14), none, []⟩,
  ⟨some 11, .call 54 [(.t 10)], none, [3, 11]⟩,
  ⟨some 16, .build [.nils, .nilm, (.int .i64 0)] [(0, 1, (.t 6)), (1, 1, (.t 11)), (2, 1, (.t 15))], none, []⟩,
  ⟨some 17, .box (.t 16), none, []⟩,
  ⟨some 2, .move (.t 17), none, []⟩] (some [(0, []), (1, [0]), (2, [1, 0]), (3, [2, 1, 0]), (4, []), (5, [4]), (6, [5, 4]), (7, [6, 5, 4]), (9, []), (10, [8]), (11, [9, 8]), (12, [10, 9, 8]), (8, [7, 6, 5, 4]), (13, [3, 2, 1, 0, 12, 7, 6, 5, 4, 11, 10, 9, 8]), (14, [13, 3, 2, 1, 0, 12, 7, 6, 5, 4, 11, 10, 9, 8]), (15, [14, 13, 3, 2, 1, 0, 12, 7, 6, 5, 4, 11, 10, 9, 8])]) [2])
(.ret)))
def f12 : SFunc := ⟨b12, [.t 2]⟩

/-- (*watchbill/watchbillref21.Guard).Ask -/
def b13 : SCode := (
.seq (.ops [⟨some 8, .move (.c (.int .i64 0)), none, []⟩] none [0, 1, 2, 3])
(.seq (.seq (.ops [⟨some 10, .move (.t 1), none, []⟩,
  ⟨some 11, .bin .lss (.t 10) (.c (.int .i64 0)), none, []⟩,
  ⟨some 12, .move (.t 11), none, []⟩,
  ⟨some 13, .move (.t 1), (some (12, false)), []⟩,
  ⟨some 14, .move (.t 0), (some (12, false)), []⟩,
  ⟨some 15, .nilck (.t 14), (some (12, false)), []⟩,
  ⟨some 16, .fldAddr 1 (.t 15), (some (12, false)), []⟩,
  ⟨some 17, .load none (.t 16), (some (12, false)), []⟩,
  ⟨some 18, .len .sl (.t 17), (some (12, false)), []⟩,
  ⟨some 19, .bin .geq (.t 13) (.t 18), (some (12, false)), []⟩,
  ⟨some 20, .pick (.t 12) (.c (.bool true)) (.t 19), none, []⟩] none [0, 1, 2, 3, 20])
(.cond (.t 20)
  (.seq (.ops [⟨some 8, .move (.c (.int .i64 3)), none, []⟩] none [8])
  (.ret))
  (.skip)))
(.seq (.seq (.ops [⟨some 21, .move (.t 2), none, []⟩,
  ⟨some 22, .bin .lss (.t 21) (.c (.int .i64 0)), none, []⟩,
  ⟨some 23, .move (.t 22), none, []⟩,
  ⟨some 24, .move (.t 2), (some (23, false)), []⟩,
  ⟨some 25, .bin .gtr (.t 24) (.c (.int .i64 1099511627776)), (some (23, false)), []⟩,
  ⟨some 26, .pick (.t 23) (.c (.bool true)) (.t 25), none, []⟩,
  ⟨some 27, .move (.t 26), none, []⟩,
  ⟨some 28, .move (.t 2), (some (27, false)), []⟩,
  ⟨some 29, .move (.t 0), (some (27, false)), []⟩,
  ⟨some 30, .nilck (.t 29), (some (27, false)), []⟩,
  ⟨some 31, .fldAddr 2 (.t 30), (some (27, false)), []⟩,
  ⟨some 32, .load none (.t 31), (some (27, false)), []⟩,
  ⟨some 33, .bin .lss (.t 28) (.t 32), (some (27, false)), []⟩,
  ⟨some 34, .pick (.t 27) (.c (.bool true)) (.t 33), none, []⟩] none [0, 1, 2, 3, 34])
(.cond (.t 34)
  (.seq (.ops [⟨some 8, .move (.c (.int .i64 1)), none, []⟩] none [8])
  (.ret))
  (.skip)))
(.seq (.seq (.ops [⟨some 35, .move (.t 0), none, []⟩,
  ⟨some 36, .nilck (.t 35), none, []⟩,
  ⟨some 37, .fldAddr 1 (.t 36), none, []⟩,
  ⟨some 38, .load none (.t 37), none, []⟩,
  ⟨some 39, .move (.t 1), none, []⟩,
  ⟨some 40, .idxAddr 1 (.t 38) (.t 39), none, []⟩,
  ⟨some 41, .load none (.t 40), none, []⟩,
  ⟨some 42, .bin .geq (.t 41) (.c (.int .i64 0)), none, []⟩,
  ⟨some 43, .move (.t 42), none, []⟩,
  ⟨some 44, .move (.t 2), (some (43, true)), []⟩,
  ⟨some 45, .move (.t 0), (some (43, true)), []⟩,
  ⟨some 46, .nilck (.t 45), (some (43, true)), []⟩,
  ⟨some 47, .fldAddr 1 (.t 46), (some (43, true)), []⟩,
  ⟨some 48, .load none (.t 47), (some (43, true)), []⟩,
  ⟨some 49, .move (.t 1), (some (43, true)), []⟩,
  ⟨some 50, .idxAddr 1 (.t 48) (.t 49), (some (43, true)), []⟩,
  ⟨some 51, .load none (.t 50), (some (43, true)), []⟩,
  ⟨some 52, .bin .sub (.t 44) (.t 51), (some (43, true)), []⟩,
  ⟨some 53, .move (.t 0), (some (43, true)), []⟩,
  ⟨some 54, .nilck (.t 53), (some (43, true)), []⟩,
  ⟨some 55, .fldAddr 0 (.t 54), (some (43, true)), []⟩,
  ⟨some 56, .load none (.t 55), (some (43, true)), []⟩,
  ⟨some 57, .move (.t 1), (some (43, true)), []⟩,
  ⟨some 58, .idxAddr 1 (.t 56) (.t 57), (some (43, true)), []⟩,
  ⟨some 59, .load none (.t 58), (some (43, true)), []⟩,
  ⟨some 60, .bin .lss (.t 52) (.t 59), (some (43, true)), []⟩,
  ⟨some 61, .pick (.t 43) (.t 60) (.c (.bool false)), none, []⟩] (some [(0, []), (1, [0]), (2, [1, 0]), (3, [2, 1, 0]), (4, []), (5, [3, 2, 1, 0, 4]), (6, [5, 3, 2, 1, 0, 4]), (7, [6, 5, 3, 2, 1, 0, 4]), (8, [7, 6, 5, 3, 2, 1, 0, 4]), (9, [8, 7, 6, 5, 3, 2, 1, 0, 4]), (10, [8, 7, 6, 5, 3, 2, 1, 0, 4]), (11, [10, 8, 7, 6, 5, 3, 2, 1, 0, 4]), (12, [11, 10, 8, 7, 6, 5, 3, 2, 1, 0, 4]), (13, [12, 11, 10, 8, 7, 6, 5, 3, 2, 1, 0, 4]), (14, [8, 7, 6, 5, 3, 2, 1, 0, 4]), (15, [13, 12, 11, 10, 8, 7, 6, 5, 3, 2, 1, 0, 4, 14]), (16, [15, 13, 12, 11, 10, 8, 7, 6, 5, 3, 2, 1, 0, 4, 14]), (17, [9, 8, 7, 6, 5, 3, 2, 1, 0, 4, 16, 15, 13, 12, 11, 10, 14]), (18, [8, 7, 6, 5, 3, 2, 1, 0, 4]), (19, [18, 8, 7, 6, 5, 3, 2, 1, 0, 4]), (20, [19, 18, 8, 7, 6, 5, 3, 2, 1, 0, 4]), (21, [20, 19, 18, 8, 7, 6, 5, 3, 2, 1, 0, 4]), (22, [8, 7, 6, 5, 3, 2, 1, 0, 4]), (23, [21, 20, 19, 18, 8, 7, 6, 5, 3, 2, 1, 0, 4, 22]), (24, [23, 21, 20, 19, 18, 8, 7, 6, 5, 3, 2, 1, 0, 4, 22]), (25, [17, 9, 8, 7, 6, 5, 3, 2, 1, 0, 4, 16, 15, 13, 12, 11, 10, 14, 24, 23, 21, 20, 19, 18, 22]), (26, [8, 7, 6, 5, 3, 2, 1, 0, 4, 25, 17, 9, 16, 15, 13, 12, 11, 10, 14, 24, 23, 21, 20, 19, 18, 22])]) [0, 1, 2, 3, 61])
(.cond (.t 61)
  (.seq (.ops [⟨some 8, .move (.c (.int .i64 12)), none, []⟩] none [8])
  (.ret))
  (.skip)))
(.seq (.seq (.ops [⟨some 62, .move (.t 3), none, []⟩] none [0, 1, 2, 62])
(.cond (.t 62)
  (.seq (.ops [⟨some 8, .move (.c (.int .i64 10)), none, []⟩] none [8])
  (.ret))
  (.skip)))
(.seq (.ops [⟨some 63, .buildSl 0 [] [], none, []⟩,
  ⟨some 64, .move (.t 0), none, []⟩,
  ⟨some 65, .nilck (.t 64), none, []⟩,
  ⟨some 66, .fldAddr 1 (.t 65), none, []⟩,
  ⟨some 67, .load none (.t 66), none, []⟩,
  ⟨some 68, .append 1 (.t 63) (.t 67), none, []⟩,
  ⟨some 9, .move (.t 68), none, []⟩] none [0, 1, 2, 9])
(.seq (.ops [⟨some 69, .move (.t 9), none, []⟩,
  ⟨some 70, .move (.t 1), none, []⟩,
  ⟨some 71, .move (.t 2), none, []⟩,
  ⟨some 72, .idxAddr 1 (.t 69) (.t 70), none, []⟩,
  ⟨none, .store none (.t 72) (.t 71), none, []⟩] none [0, 2, 9])
(.seq (.ops [⟨some 73, .move (.t 0), none, []⟩,
  ⟨some 74, .move (.t 9), none, []⟩,
  ⟨some 75, .nilck (.t 73), none, []⟩,
  ⟨some 76, .fldAddr 1 (.t 75), none, []⟩,
  ⟨none, .store none (.t 76) (.t 74), none, []⟩] none [0, 2])
(.seq (.ops [⟨some 77, .move (.t 0), none, []⟩,
  ⟨some 78, .move (.t 2), none, []⟩,
  ⟨some 79, .nilck (.t 77), none, []⟩,
  ⟨some 80, .fldAddr 2 (.t 79), none, []⟩,
  ⟨none, .store none (.t 80) (.t 78), none, []⟩] none [])
(.seq (.ops [⟨some 8, .move (.c (.int .i64 0)), none, []⟩] none [8])
(.ret)))))))))))
def f13 : SFunc := ⟨b13, [.t 8]⟩

/-- (*watchbill/watchbillref21.Guard).Last -/
def b14 : SCode := (
.seq (.ops [⟨some 4, .move (.c (.int .i64 0)), none, []⟩,
  ⟨some 5, .move (.c (.bool false)), none, []⟩] none [0, 1])
(.seq (.seq (.ops [⟨some 6, .move (.t 1), none, []⟩,
  ⟨some 7, .bin .lss (.t 6) (.c (.int .i64 0)), none, []⟩,
  ⟨some 8, .move (.t 7), none, []⟩,
  ⟨some 9, .move (.t 1), (some (8, false)), []⟩,
  ⟨some 10, .move (.t 0), (some (8, false)), []⟩,
  ⟨some 11, .nilck (.t 10), (some (8, false)), []⟩,
  ⟨some 12, .fldAddr 1 (.t 11), (some (8, false)), []⟩,
  ⟨some 13, .load none (.t 12), (some (8, false)), []⟩,
  ⟨some 14, .len .sl (.t 13), (some (8, false)), []⟩,
  ⟨some 15, .bin .geq (.t 9) (.t 14), (some (8, false)), []⟩,
  ⟨some 16, .pick (.t 8) (.c (.bool true)) (.t 15), none, []⟩,
  ⟨some 17, .move (.t 16), none, []⟩,
  ⟨some 18, .move (.t 0), (some (17, false)), []⟩,
  ⟨some 19, .nilck (.t 18), (some (17, false)), []⟩,
  ⟨some 20, .fldAddr 1 (.t 19), (some (17, false)), []⟩,
  ⟨some 21, .load none (.t 20), (some (17, false)), []⟩,
  ⟨some 22, .move (.t 1), (some (17, false)), []⟩,
  ⟨some 23, .idxAddr 1 (.t 21) (.t 22), (some (17, false)), []⟩,
  ⟨some 24, .load none (.t 23), (some (17, false)), []⟩,
  ⟨some 25, .bin .lss (.t 24) (.c (.int .i64 0)), (some (17, false)), []⟩,
  ⟨some 26, .pick (.t 17) (.c (.bool true)) (.t 25), none, []⟩] none [0, 1, 26])
(.cond (.t 26)
  (.seq (.ops [⟨some 4, .move (.c (.int .i64 0)), none, []⟩,
    ⟨some 5, .move (.c (.bool false)), none, []⟩] none [4, 5])
  (.ret))
  (.skip)))
(.seq (.ops [⟨some 27, .move (.t 0), none, []⟩,
  ⟨some 28, .nilck (.t 27), none, []⟩,
  ⟨some 29, .fldAddr 1 (.t 28), none, []⟩,
  ⟨some 30, .load none (.t 29), none, []⟩,
  ⟨some 31, .move (.t 1), none, []⟩,
  ⟨some 32, .idxAddr 1 (.t 30) (.t 31), none, []⟩,
  ⟨some 33, .load none (.t 32), none, []⟩,
  ⟨some 4, .move (.t 33), none, []⟩,
  ⟨some 5, .move (.c (.bool true)), none, []⟩] none [4, 5])
(.ret))))
def f14 : SFunc := ⟨b14, [.t 4, .t 5]⟩

/-- watchbill/watchbilllaw18.known -/
def b16 : SCode := (
.seq (.ops [⟨some 0, .move (.c (.bool false)), none, []⟩] none [])
(.seq (.ops [⟨some 2, .build [(.int .i64 0), (.int .i64 0)] [(0, 1, (.c (.int .i64 2))), (1, 1, (.c (.int .i64 1)))], none, []⟩,
  ⟨some 3, .build [(.int .i64 0), (.int .i64 0)] [(0, 1, (.c (.int .i64 1))), (1, 1, (.c (.int .i64 0)))], none, []⟩,
  ⟨some 4, .build [(.int .i64 0), (.int .i64 0)] [(0, 1, (.c (.int .i64 9))), (1, 1, (.c (.int .i64 0)))], none, []⟩,
  ⟨some 5, .buildSl 3 [(.int .i64 0), (.int .i64 0), (.int .i64 0), (.int .i64 0), (.int .i64 0), (.int .i64 0)] [(0, 2, (.t 2)), (2, 2, (.t 3)), (4, 2, (.t 4))], none, []⟩,
  ⟨some 1, .move (.t 5), none, []⟩] none [1])
(.seq (.ops [⟨some 6, .buildSl 3 [(.int .i64 0), (.int .i64 0), (.int .i64 0)] [(0, 1, (.c (.int .i64 1))), (1, 1, (.c (.int .i64 2))), (2, 1, (.c (.int .i64 7)))], none, []⟩,
  ⟨some 7, .buildSl 2 [(.int .i64 0), (.int .i64 0)] [(0, 1, (.c (.int .i64 0))), (1, 1, (.c (.int .i64 3)))], none, []⟩,
  ⟨some 8, .move (.t 1), none, []⟩,
  ⟨some 9, .call 17 [(.t 6), (.t 7), (.t 8)], none, []⟩,
  ⟨some 10, .buildSl 3 [(.int .i64 0), (.int .i64 0), (.int .i64 0)] [(0, 1, (.c (.int .i64 7))), (1, 1, (.c (.int .i64 7))), (2, 1, (.c (.int .i64 7)))], none, []⟩,
  ⟨some 11, .call 20 [(.t 9), (.t 10)], none, []⟩,
  ⟨some 12, .move (.t 11), none, []⟩,
  ⟨some 13, .buildSl 2 [(.int .i64 0), (.int .i64 0)] [(0, 1, (.c (.int .i64 1))), (1, 1, (.c (.int .i64 2)))], (some (12, true)), []⟩,
  ⟨some 14, .buildSl 1 [(.int .i64 0)] [(0, 1, (.c (.int .i64 5)))], (some (12, true)), []⟩,
  ⟨some 15, .call 17 [(.t 13), (.t 14), (.c .nils)], (some (12, true)), []⟩,
  ⟨some 16, .buildSl 2 [(.int .i64 0), (.int .i64 0)] [(0, 1, (.c (.int .i64 5))), (1, 1, (.c (.int .i64 2)))], (some (12, true)), []⟩,
  ⟨some 17, .call 20 [(.t 15), (.t 16)], (some (12, true)), []⟩,
  ⟨some 18, .pick (.t 12) (.t 17) (.c (.bool false)), none, []⟩,
  ⟨some 19, .move (.t 18), none, []⟩,
  ⟨some 20, .move (.t 1), (some (19, true)), []⟩,
  ⟨some 21, .call 21 [(.c (.int .i64 10)), (.t 20)], (some (19, true)), []⟩,
  ⟨some 22, .not (.t 21), (some (19, true)), []⟩,
  ⟨some 23, .pick (.t 19) (.t 22) (.c (.bool false)), none, []⟩,
  ⟨some 24, .move (.t 23), none, []⟩,
  ⟨some 25, .move (.t 1), (some (24, true)), []⟩,
  ⟨some 26, .build [(.int .i64 0), (.int .i64 0)] [(0, 1, (.c (.int .i64 0))), (1, 1, (.c (.int .i64 2)))], (some (24, true)), []⟩,
  ⟨some 27, .buildSl 1 [(.int .i64 0), (.int .i64 0)] [(0, 2, (.t 26))], (some (24, true)), []⟩,
  ⟨some 28, .append 2 (.t 25) (.t 27), (some (24, true)), []⟩,
  ⟨some 29, .call 21 [(.c (.int .i64 3)), (.t 28)], (some (24, true)), []⟩,
  ⟨some 30, .pick (.t 24) (.t 29) (.c (.bool false)), none, []⟩,
  ⟨some 31, .move (.t 30), none, []⟩,
  ⟨some 32, .move (.t 1), (some (31, true)), []⟩,
  ⟨some 33, .build [(.int .i64 0), (.int .i64 0)] [(0, 1, (.c (.int .i64 0))), (1, 1, (.c (.int .i64 2)))], (some (31, true)), []⟩,
  ⟨some 34, .buildSl 1 [(.int .i64 0), (.int .i64 0)] [(0, 2, (.t 33))], (some (31, true)), []⟩,
  ⟨some 35, .append 2 (.t 32) (.t 34), (some (31, true)), []⟩,
  ⟨some 36, .call 21 [(.c (.int .i64 2)), (.t 35)], (some (31, true)), []⟩,
  ⟨some 37, .not (.t 36), (some (31, true)), []⟩,
  ⟨some 38, .pick (.t 31) (.t 37) (.c (.bool false)), none, []⟩,
  ⟨some 0, .move (.t 38), none, []⟩] none [0])
(.ret))))
def f16 : SFunc := ⟨b16, [.t 0]⟩

/-- watchbill/watchbilllaw1.Ints -/
def b20 : SCode := (
.seq (.ops [⟨some 4, .move (.c (.bool false)), none, []⟩] none [0, 1])
(.seq (.seq (.ops [⟨some 6, .move (.t 0), none, []⟩,
  ⟨some 7, .len .sl (.t 6), none, []⟩,
  ⟨some 8, .move (.t 1), none, []⟩,
  ⟨some 9, .len .sl (.t 8), none, []⟩,
  ⟨some 10, .bin .neq (.t 7) (.t 9), none, []⟩] none [0, 1, 10])
(.cond (.t 10)
  (.seq (.ops [⟨some 4, .move (.c (.bool false)), none, []⟩] none [4])
  (.ret))
  (.skip)))
(.seq (.seq (.ops [⟨some 5, .move (.c (.int .i64 0)), none, []⟩] none [0, 1, 5])
(.block 0 (.loop [0, 1, 5] (.seq (.seq (.ops [⟨some 11, .move (.t 5), none, []⟩,
      ⟨some 12, .move (.t 0), none, []⟩,
      ⟨some 13, .len .sl (.t 12), none, []⟩,
      ⟨some 14, .bin .lss (.t 11) (.t 13), none, []⟩] none [0, 1, 5, 14])
    (.cond (.t 14)
      (.skip)
      (.exit 0)))
    (.seq (.block 1 (.seq (.ops [⟨some 17, .move (.t 0), none, []⟩,
        ⟨some 18, .move (.t 5), none, []⟩,
        ⟨some 19, .idxAddr 1 (.t 17) (.t 18), none, []⟩,
        ⟨some 20, .load none (.t 19), none, []⟩,
        ⟨some 21, .move (.t 1), none, []⟩,
        ⟨some 22, .move (.t 5), none, []⟩,
        ⟨some 23, .idxAddr 1 (.t 21) (.t 22), none, []⟩,
        ⟨some 24, .load none (.t 23), none, []⟩,
        ⟨some 25, .bin .neq (.t 20) (.t 24), none, []⟩] (some [(0, []), (1, []), (2, [0, 1]), (3, [2, 0, 1]), (4, []), (5, []), (6, [4, 5]), (7, [6, 4, 5]), (8, [3, 2, 0, 1, 7, 6, 4, 5])]) [0, 1, 5, 25])
      (.cond (.t 25)
        (.seq (.ops [⟨some 4, .move (.c (.bool false)), none, []⟩] none [4])
        (.ret))
        (.skip))))
    (.ops [⟨some 15, .move (.t 5), none, []⟩,
      ⟨some 16, .bin .add (.t 15) (.c (.int .i64 1)), none, []⟩,
      ⟨some 5, .move (.t 16), none, []⟩] none [0, 1, 5]))))))
(.seq (.ops [⟨some 4, .move (.c (.bool true)), none, []⟩] none [4])
(.ret)))))
def f20 : SFunc := ⟨b20, [.t 4]⟩

/-- watchbill/graph.Prios -/
def b17 : SCode := (
.seq (.ops [⟨some 6, .move (.c .nils), none, []⟩] none [0, 1, 2])
(.seq (.ops [⟨some 12, .move (.t 0), none, []⟩,
  ⟨some 13, .call 55 [(.t 12)], none, []⟩,
  ⟨some 7, .move (.t 13), none, []⟩] none [1, 2, 7])
(.seq (.seq (.ops [⟨some 14, .move (.t 7), none, []⟩,
  ⟨some 15, .len .sl (.t 14), none, []⟩,
  ⟨some 16, .move (.c (.int .i64 0)), none, []⟩] none [1, 2, 7, 15, 16])
(.block 0 (.loop [1, 2, 7, 15, 16] (.seq (.ops [⟨some 17, .bin .lss (.t 16) (.t 15), none, []⟩] none [1, 2, 7, 15, 16, 17])
    (.seq (.cond (.t 17)
      (.skip)
      (.exit 0))
    (.seq (.block 1 (.seq (.ops [⟨some 18, .move (.t 16), none, []⟩,
        ⟨some 8, .move (.t 18), none, []⟩] none [1, 2, 7, 8, 15, 16])
      (.seq (.ops [⟨some 19, .move (.t 8), none, []⟩,
        ⟨some 20, .move (.t 1), none, []⟩,
        ⟨some 21, .len .sl (.t 20), none, []⟩,
        ⟨some 22, .bin .lss (.t 19) (.t 21), none, []⟩] none [1, 2, 7, 8, 15, 16, 22])
      (.cond (.t 22)
        (.ops [⟨some 23, .move (.t 7), none, []⟩,
          ⟨some 24, .move (.t 8), none, []⟩,
          ⟨some 25, .move (.t 7), none, []⟩,
          ⟨some 26, .move (.t 8), none, []⟩,
          ⟨some 27, .idxAddr 1 (.t 25) (.t 26), none, []⟩,
          ⟨some 28, .load none (.t 27), none, []⟩,
          ⟨some 29, .move (.t 1), none, []⟩,
          ⟨some 30, .move (.t 8), none, []⟩,
          ⟨some 31, .idxAddr 1 (.t 29) (.t 30), none, []⟩,
          ⟨some 32, .load none (.t 31), none, []⟩,
          ⟨some 33, .mx [(.t 28), (.t 32)], none, []⟩,
          ⟨some 34, .idxAddr 1 (.t 23) (.t 24), none, []⟩,
          ⟨none, .store none (.t 34) (.t 33), none, []⟩] (some [(0, []), (1, []), (2, []), (3, []), (4, [2, 3]), (5, [4, 2, 3]), (6, []), (7, []), (8, [6, 7]), (9, [8, 6, 7]), (10, [5, 4, 2, 3, 9, 8, 6, 7]), (11, [0, 1, 2, 3, 4, 5, 6, 7, 8, 9, 10]), (12, [11, 0, 1, 2, 3, 4, 5, 6, 7, 8, 9, 10])]) [1, 2, 7, 15, 16])
        (.skip)))))
    (.ops [⟨some 35, .bin .add (.t 16) (.c (.int .i64 1)), none, []⟩,
      ⟨some 16, .move (.t 35), none, []⟩] none [1, 2, 7, 15, 16])))))))
(.seq (.skip)
(.seq (.block 2 (.loop [2, 7] (.block 3 (.seq (.ops [⟨some 9, .move (.c (.bool false)), none, []⟩] none [2, 7, 9])
      (.seq (.seq (.ops [⟨some 36, .move (.t 2), none, []⟩,
        ⟨some 37, .len .sl (.t 36), none, []⟩,
        ⟨some 38, .move (.c (.int .i64 0)), none, []⟩] none [2, 7, 9, 36, 37, 38])
      (.block 4 (.loop [2, 7, 9, 36, 37, 38] (.seq (.ops [⟨some 39, .bin .lss (.t 38) (.t 37), none, []⟩] none [2, 7, 9, 36, 37, 38, 39])
          (.seq (.cond (.t 39)
            (.skip)
            (.exit 4))
          (.seq (.block 5 (.seq (.ops [⟨some 40, .idxAddr 2 (.t 36) (.t 38), none, []⟩,
              ⟨some 41, .load (some 2) (.t 40), none, []⟩,
              ⟨some 11, .alloc (.agg [(.int .i64 0), (.int .i64 0)]), none, []⟩,
              ⟨none, .store (some 2) (.t 11) (.t 41), none, []⟩] none [2, 7, 9, 11, 36, 37, 38])
            (.seq (.ops [⟨some 42, .load (some 2) (.t 11), none, []⟩,
              ⟨some 43, .move (.t 7), none, []⟩,
              ⟨some 44, .len .sl (.t 43), none, []⟩,
              ⟨some 45, .call 56 [(.t 42), (.t 44)], none, []⟩,
              ⟨some 46, .move (.t 45), none, []⟩,
              ⟨some 47, .move (.t 7), (some (46, true)), []⟩,
              ⟨some 48, .fldAddr 0 (.t 11), (some (46, true)), []⟩,
              ⟨some 49, .load none (.t 48), (some (46, true)), []⟩,
              ⟨some 50, .idxAddr 1 (.t 47) (.t 49), (some (46, true)), []⟩,
              ⟨some 51, .load none (.t 50), (some (46, true)), []⟩,
              ⟨some 52, .move (.t 7), (some (46, true)), []⟩,
              ⟨some 53, .fldAddr 1 (.t 11), (some (46, true)), []⟩,
              ⟨some 54, .load none (.t 53), (some (46, true)), []⟩,
              ⟨some 55, .idxAddr 1 (.t 52) (.t 54), (some (46, true)), []⟩,
              ⟨some 56, .load none (.t 55), (some (46, true)), []⟩,
              ⟨some 57, .bin .gtr (.t 51) (.t 56), (some (46, true)), []⟩,
              ⟨some 58, .pick (.t 46) (.t 57) (.c (.bool false)), none, []⟩] (some [(0, []), (1, []), (2, [1]), (3, [0, 2, 1]), (4, [3, 0, 2, 1]), (5, [4, 3, 0, 2, 1]), (6, [4, 3, 0, 2, 1]), (7, [6, 4, 3, 0, 2, 1]), (8, [5, 4, 3, 0, 2, 1, 7, 6]), (9, [8, 5, 4, 3, 0, 2, 1, 7, 6]), (10, [4, 3, 0, 2, 1]), (11, [4, 3, 0, 2, 1]), (12, [11, 4, 3, 0, 2, 1]), (13, [10, 4, 3, 0, 2, 1, 12, 11]), (14, [13, 10, 4, 3, 0, 2, 1, 12, 11]), (15, [9, 8, 5, 4, 3, 0, 2, 1, 7, 6, 14, 13, 10, 12, 11]), (16, [4, 3, 0, 2, 1, 15, 9, 8, 5, 7, 6, 14, 13, 10, 12, 11])]) [2, 7, 9, 11, 36, 37, 38, 58])
            (.cond (.t 58)
              (.seq (.ops [⟨some 59, .move (.t 7), none, []⟩,
                ⟨some 60, .fldAddr 1 (.t 11), none, []⟩,
                ⟨some 61, .load none (.t 60), none, []⟩,
                ⟨some 62, .move (.t 7), none, []⟩,
                ⟨some 63, .fldAddr 0 (.t 11), none, []⟩,
                ⟨some 64, .load none (.t 63), none, []⟩,
                ⟨some 65, .idxAddr 1 (.t 62) (.t 64), none, []⟩,
                ⟨some 66, .load none (.t 65), none, []⟩,
                ⟨some 67, .idxAddr 1 (.t 59) (.t 61), none, []⟩,
                ⟨none, .store none (.t 67) (.t 66), none, []⟩] (some [(0, []), (1, []), (2, [1]), (3, []), (4, []), (5, [4]), (6, [3, 5, 4]), (7, [6, 3, 5, 4]), (8, [0, 2, 1, 3, 4, 5, 6, 7]), (9, [8, 0, 2, 1, 3, 4, 5, 6, 7])]) [2, 7, 36, 37, 38])
              (.ops [⟨some 9, .move (.c (.bool true)), none, []⟩] none [2, 7, 9, 36, 37, 38]))
              (.skip)))))
          (.ops [⟨some 68, .bin .add (.t 38) (.c (.int .i64 1)), none, []⟩,
            ⟨some 38, .move (.t 68), none, []⟩] none [2, 7, 9, 36, 37, 38])))))))
      (.seq (.ops [⟨some 69, .move (.t 9), none, []⟩,
        ⟨some 70, .not (.t 69), none, []⟩] none [2, 7, 70])
      (.cond (.t 70)
        (.exit 2)
        (.skip))))))))
(.seq (.ops [⟨some 71, .move (.t 7), none, []⟩,
  ⟨some 6, .move (.t 71), none, []⟩] none [6])
(.ret)))))))
def f17 : SFunc := ⟨b17, [.t 6]⟩

/-- watchbill/watchbillref21.Prios -/
def b19 : SCode := (
.seq (.ops [⟨some 6, .move (.c .nils), none, []⟩] none [0, 1, 2])
(.seq (.ops [⟨some 13, .buildSl 0 [] [], none, []⟩,
  ⟨some 14, .move (.t 0), none, []⟩,
  ⟨some 15, .append 1 (.t 13) (.t 14), none, []⟩,
  ⟨some 7, .move (.t 15), none, []⟩] none [1, 2, 7])
(.seq (.seq (.ops [⟨some 8, .move (.c (.int .i64 0)), none, []⟩] none [1, 2, 7, 8])
(.block 0 (.loop [1, 2, 7, 8] (.seq (.seq (.ops [⟨some 16, .move (.t 8), none, []⟩,
      ⟨some 17, .move (.t 7), none, []⟩,
      ⟨some 18, .len .sl (.t 17), none, []⟩,
      ⟨some 19, .bin .lss (.t 16) (.t 18), none, []⟩,
      ⟨some 20, .move (.t 19), none, []⟩,
      ⟨some 21, .move (.t 8), (some (20, true)), []⟩,
      ⟨some 22, .move (.t 1), (some (20, true)), []⟩,
      ⟨some 23, .len .sl (.t 22), (some (20, true)), []⟩,
      ⟨some 24, .bin .lss (.t 21) (.t 23), (some (20, true)), []⟩,
      ⟨some 25, .pick (.t 20) (.t 24) (.c (.bool false)), none, []⟩] none [1, 2, 7, 8, 25])
    (.cond (.t 25)
      (.skip)
      (.exit 0)))
    (.seq (.block 1 (.seq (.ops [⟨some 28, .move (.t 1), none, []⟩,
        ⟨some 29, .move (.t 8), none, []⟩,
        ⟨some 30, .idxAddr 1 (.t 28) (.t 29), none, []⟩,
        ⟨some 31, .load none (.t 30), none, []⟩,
        ⟨some 32, .move (.t 7), none, []⟩,
        ⟨some 33, .move (.t 8), none, []⟩,
        ⟨some 34, .idxAddr 1 (.t 32) (.t 33), none, []⟩,
        ⟨some 35, .load none (.t 34), none, []⟩,
        ⟨some 36, .bin .gtr (.t 31) (.t 35), none, []⟩] (some [(0, []), (1, []), (2, [0, 1]), (3, [2, 0, 1]), (4, []), (5, []), (6, [4, 5]), (7, [6, 4, 5]), (8, [3, 2, 0, 1, 7, 6, 4, 5])]) [1, 2, 7, 8, 36])
      (.cond (.t 36)
        (.ops [⟨some 37, .move (.t 7), none, []⟩,
          ⟨some 38, .move (.t 8), none, []⟩,
          ⟨some 39, .move (.t 1), none, []⟩,
          ⟨some 40, .move (.t 8), none, []⟩,
          ⟨some 41, .idxAddr 1 (.t 39) (.t 40), none, []⟩,
          ⟨some 42, .load none (.t 41), none, []⟩,
          ⟨some 43, .idxAddr 1 (.t 37) (.t 38), none, []⟩,
          ⟨none, .store none (.t 43) (.t 42), none, []⟩] none [1, 2, 7, 8])
        (.skip))))
    (.ops [⟨some 26, .move (.t 8), none, []⟩,
      ⟨some 27, .bin .add (.t 26) (.c (.int .i64 1)), none, []⟩,
      ⟨some 8, .move (.t 27), none, []⟩] none [1, 2, 7, 8]))))))
(.seq (.seq (.ops [⟨some 9, .move (.c (.bool true)), none, []⟩] none [2, 7, 9])
(.block 2 (.loop [2, 7, 9] (.seq (.seq (.ops [⟨some 44, .move (.t 9), none, []⟩] none [2, 7, 44])
    (.cond (.t 44)
      (.skip)
      (.exit 2)))
    (.block 3 (.seq (.ops [⟨some 9, .move (.c (.bool false)), none, []⟩] none [2, 7, 9])
      (.seq (.ops [⟨some 10, .move (.c (.int .i64 0)), none, []⟩] none [2, 7, 9, 10])
      (.block 4 (.loop [2, 7, 9, 10] (.seq (.seq (.ops [⟨some 45, .move (.t 10), none, []⟩,
            ⟨some 46, .move (.t 2), none, []⟩,
            ⟨some 47, .len .sl (.t 46), none, []⟩,
            ⟨some 48, .bin .lss (.t 45) (.t 47), none, []⟩] none [2, 7, 9, 10, 48])
          (.cond (.t 48)
            (.skip)
            (.exit 4)))
          (.seq (.block 5 (.seq (.ops [⟨some 51, .move (.t 2), none, []⟩,
              ⟨some 52, .move (.t 10), none, []⟩,
              ⟨some 53, .idxAddr 2 (.t 51) (.t 52), none, []⟩,
              ⟨some 54, .fldAddr 0 (.t 53), none, []⟩,
              ⟨some 55, .load none (.t 54), none, []⟩,
              ⟨some 11, .move (.t 55), none, []⟩] none [2, 7, 9, 10, 11])
            (.seq (.ops [⟨some 56, .move (.t 2), none, []⟩,
              ⟨some 57, .move (.t 10), none, []⟩,
              ⟨some 58, .idxAddr 2 (.t 56) (.t 57), none, []⟩,
              ⟨some 59, .fldAddr 1 (.t 58), none, []⟩,
              ⟨some 60, .load none (.t 59), none, []⟩,
              ⟨some 12, .move (.t 60), none, []⟩] none [2, 7, 9, 10, 11, 12])
            (.seq (.seq (.ops [⟨some 61, .move (.t 11), none, []⟩,
              ⟨some 62, .bin .lss (.t 61) (.c (.int .i64 0)), none, []⟩,
              ⟨some 63, .move (.t 62), none, []⟩,
              ⟨some 64, .move (.t 11), (some (63, false)), []⟩,
              ⟨some 65, .move (.t 7), (some (63, false)), []⟩,
              ⟨some 66, .len .sl (.t 65), (some (63, false)), []⟩,
              ⟨some 67, .bin .geq (.t 64) (.t 66), (some (63, false)), []⟩,
              ⟨some 68, .pick (.t 63) (.c (.bool true)) (.t 67), none, []⟩,
              ⟨some 69, .move (.t 68), none, []⟩,
              ⟨some 70, .move (.t 12), (some (69, false)), []⟩,
              ⟨some 71, .bin .lss (.t 70) (.c (.int .i64 0)), (some (69, false)), []⟩,
              ⟨some 72, .pick (.t 69) (.c (.bool true)) (.t 71), none, []⟩,
              ⟨some 73, .move (.t 72), none, []⟩,
              ⟨some 74, .move (.t 12), (some (73, false)), []⟩,
              ⟨some 75, .move (.t 7), (some (73, false)), []⟩,
              ⟨some 76, .len .sl (.t 75), (some (73, false)), []⟩,
              ⟨some 77, .bin .geq (.t 74) (.t 76), (some (73, false)), []⟩,
              ⟨some 78, .pick (.t 73) (.c (.bool true)) (.t 77), none, []⟩] none [2, 7, 9, 10, 11, 12, 78])
            (.cond (.t 78)
              (.exit 5)
              (.skip)))
            (.seq (.ops [⟨some 79, .move (.t 7), none, []⟩,
              ⟨some 80, .move (.t 11), none, []⟩,
              ⟨some 81, .idxAddr 1 (.t 79) (.t 80), none, []⟩,
              ⟨some 82, .load none (.t 81), none, []⟩,
              ⟨some 83, .move (.t 7), none, []⟩,
              ⟨some 84, .move (.t 12), none, []⟩,
              ⟨some 85, .idxAddr 1 (.t 83) (.t 84), none, []⟩,
              ⟨some 86, .load none (.t 85), none, []⟩,
              ⟨some 87, .bin .gtr (.t 82) (.t 86), none, []⟩] (some [(0, []), (1, []), (2, [0, 1]), (3, [2, 0, 1]), (4, []), (5, []), (6, [4, 5]), (7, [6, 4, 5]), (8, [3, 2, 0, 1, 7, 6, 4, 5])]) [2, 7, 9, 10, 11, 12, 87])
            (.cond (.t 87)
              (.seq (.ops [⟨some 88, .move (.t 7), none, []⟩,
                ⟨some 89, .move (.t 12), none, []⟩,
                ⟨some 90, .move (.t 7), none, []⟩,
                ⟨some 91, .move (.t 11), none, []⟩,
                ⟨some 92, .idxAddr 1 (.t 90) (.t 91), none, []⟩,
                ⟨some 93, .load none (.t 92), none, []⟩,
                ⟨some 94, .idxAddr 1 (.t 88) (.t 89), none, []⟩,
                ⟨none, .store none (.t 94) (.t 93), none, []⟩] none [2, 7, 10])
              (.ops [⟨some 9, .move (.c (.bool true)), none, []⟩] none [2, 7, 9, 10]))
              (.skip)))))))
          (.ops [⟨some 49, .move (.t 10), none, []⟩,
            ⟨some 50, .bin .add (.t 49) (.c (.int .i64 1)), none, []⟩,
            ⟨some 10, .move (.t 50), none, []⟩] none [2, 7, 9, 10]))))))))))))
(.seq (.ops [⟨some 95, .move (.t 7), none, []⟩,
  ⟨some 6, .move (.t 95), none, []⟩] none [6])
(.ret))))))
def f19 : SFunc := ⟨b19, [.t 6]⟩

/-- watchbill/watchbilllaw18.Of -/
def b18 : SCode := (
.seq (.ops [⟨some 2, .move (.c .nils), none, []⟩] none [0])
(.seq (.ops [⟨some 3, .move (.c .nils), none, []⟩] none [0, 3])
(.seq (.seq (.ops [⟨some 4, .move (.c (.int .i64 0)), none, []⟩] none [0, 3, 4])
(.block 0 (.loop [0, 3, 4] (.seq (.seq (.ops [⟨some 5, .move (.t 4), none, []⟩,
      ⟨some 6, .move (.t 0), none, []⟩,
      ⟨some 7, .len .sl (.t 6), none, []⟩,
      ⟨some 8, .bin .lss (.t 5) (.t 7), none, []⟩] none [0, 3, 4, 8])
    (.cond (.t 8)
      (.skip)
      (.exit 0)))
    (.seq (.block 1 (.ops [⟨some 11, .move (.t 3), none, []⟩,
        ⟨some 12, .move (.t 0), none, []⟩,
        ⟨some 13, .move (.t 4), none, []⟩,
        ⟨some 14, .idxAddr 2 (.t 12) (.t 13), none, []⟩,
        ⟨some 15, .fldAddr 0 (.t 14), none, []⟩,
        ⟨some 16, .load none (.t 15), none, []⟩,
        ⟨some 17, .move (.t 0), none, []⟩,
        ⟨some 18, .move (.t 4), none, []⟩,
        ⟨some 19, .idxAddr 2 (.t 17) (.t 18), none, []⟩,
        ⟨some 20, .fldAddr 1 (.t 19), none, []⟩,
        ⟨some 21, .load none (.t 20), none, []⟩,
        ⟨some 22, .build [(.int .i64 0), (.int .i64 0)] [(0, 1, (.t 16)), (1, 1, (.t 21))], none, []⟩,
        ⟨some 23, .buildSl 1 [(.int .i64 0), (.int .i64 0)] [(0, 2, (.t 22))], none, []⟩,
        ⟨some 24, .append 2 (.t 11) (.t 23), none, []⟩,
        ⟨some 3, .move (.t 24), none, []⟩] (some [(0, []), (1, []), (2, []), (3, [1, 2]), (4, [3, 1, 2]), (5, [4, 3, 1, 2]), (6, []), (7, []), (8, [6, 7]), (9, [8, 6, 7]), (10, [9, 8, 6, 7]), (11, [5, 4, 3, 1, 2, 10, 9, 8, 6, 7]), (12, [11, 5, 4, 3, 1, 2, 10, 9, 8, 6, 7]), (13, [0, 12, 11, 5, 4, 3, 1, 2, 10, 9, 8, 6, 7]), (14, [13, 0, 12, 11, 5, 4, 3, 1, 2, 10, 9, 8, 6, 7])]) [0, 3, 4]))
    (.ops [⟨some 9, .move (.t 4), none, []⟩,
      ⟨some 10, .bin .add (.t 9) (.c (.int .i64 1)), none, []⟩,
      ⟨some 4, .move (.t 10), none, []⟩] none [0, 3, 4]))))))
(.seq (.ops [⟨some 25, .move (.t 3), none, []⟩,
  ⟨some 2, .move (.t 25), none, []⟩] none [2])
(.ret)))))
def f18 : SFunc := ⟨b18, [.t 2]⟩

/-- watchbill/graph.Round -/
def b21 : SCode := (
.seq (.ops [⟨some 4, .move (.c (.bool false)), none, []⟩] none [0, 1])
(.seq (.seq (.ops [⟨some 7, .move (.t 1), none, []⟩,
  ⟨some 8, .len .sl (.t 7), none, []⟩,
  ⟨some 9, .move (.c (.int .i64 0)), none, []⟩] none [0, 1, 7, 8, 9])
(.block 0 (.loop [0, 1, 7, 8, 9] (.seq (.ops [⟨some 10, .bin .lss (.t 9) (.t 8), none, []⟩] none [0, 1, 7, 8, 9, 10])
    (.seq (.cond (.t 10)
      (.skip)
      (.exit 0))
    (.seq (.block 1 (.seq (.ops [⟨some 11, .idxAddr 2 (.t 7) (.t 9), none, []⟩,
        ⟨some 12, .load (some 2) (.t 11), none, []⟩,
        ⟨some 6, .alloc (.agg [(.int .i64 0), (.int .i64 0)]), none, []⟩,
        ⟨none, .store (some 2) (.t 6) (.t 12), none, []⟩] none [0, 1, 6, 7, 8, 9])
      (.seq (.ops [⟨some 13, .load (some 2) (.t 6), none, []⟩,
        ⟨some 14, .move (.t 0), none, []⟩,
        ⟨some 15, .call 56 [(.t 13), (.t 14)], none, []⟩,
        ⟨some 16, .move (.t 15), none, []⟩,
        ⟨some 17, .move (.t 0), (some (16, true)), []⟩,
        ⟨some 18, .fldAddr 0 (.t 6), (some (16, true)), []⟩,
        ⟨some 19, .load none (.t 18), (some (16, true)), []⟩,
        ⟨some 20, .move (.t 1), (some (16, true)), []⟩,
        ⟨some 22, .fldAddr 0 (.t 6), (some (16, true)), []⟩,
        ⟨some 23, .load none (.t 22), (some (16, true)), []⟩,
        ⟨some 21, .call 57 [(.t 17), (.t 19), (.t 20)], (some (16, true)), [9]⟩,
        ⟨some 24, .lookup false .i (.bool false) (.t 21) (.t 23), (some (16, true)), []⟩,
        ⟨some 25, .pick (.t 16) (.t 24) (.c (.bool false)), none, []⟩] (some [(0, []), (1, []), (2, [0, 1]), (3, [2, 0, 1]), (4, [3, 2, 0, 1]), (5, [3, 2, 0, 1]), (6, [5, 3, 2, 0, 1]), (7, [3, 2, 0, 1]), (9, [3, 2, 0, 1]), (10, [8, 3, 2, 0, 1]), (8, [4, 3, 2, 0, 1, 6, 5, 7]), (11, [10, 4, 3, 2, 0, 1, 6, 5, 7, 9, 8]), (12, [3, 2, 0, 1, 11, 10, 4, 6, 5, 7, 9, 8])]) [0, 1, 7, 8, 9, 25])
      (.cond (.t 25)
        (.seq (.ops [⟨some 4, .move (.c (.bool true)), none, []⟩] none [4])
        (.ret))
        (.skip)))))
    (.ops [⟨some 26, .bin .add (.t 9) (.c (.int .i64 1)), none, []⟩,
      ⟨some 9, .move (.t 26), none, []⟩] none [0, 1, 7, 8, 9])))))))
(.seq (.ops [⟨some 4, .move (.c (.bool false)), none, []⟩] none [4])
(.ret))))
def f21 : SFunc := ⟨b21, [.t 4]⟩

/-- watchbill/watchbillref21.Round -/
def b22 : SCode := (
.seq (.ops [⟨some 4, .move (.c (.bool false)), none, []⟩] none [0, 1])
(.seq (.seq (.ops [⟨some 5, .move (.c (.int .i64 0)), none, []⟩] none [0, 1, 5])
(.block 0 (.loop [0, 1, 5] (.seq (.seq (.ops [⟨some 11, .move (.t 5), none, []⟩,
      ⟨some 12, .move (.t 1), none, []⟩,
      ⟨some 13, .len .sl (.t 12), none, []⟩,
      ⟨some 14, .bin .lss (.t 11) (.t 13), none, []⟩] none [0, 1, 5, 14])
    (.cond (.t 14)
      (.skip)
      (.exit 0)))
    (.seq (.block 1 (.seq (.seq (.ops [⟨some 17, .move (.t 1), none, []⟩,
        ⟨some 18, .move (.t 5), none, []⟩,
        ⟨some 19, .idxAddr 2 (.t 17) (.t 18), none, []⟩,
        ⟨some 20, .fldAddr 0 (.t 19), none, []⟩,
        ⟨some 21, .load none (.t 20), none, []⟩,
        ⟨some 22, .bin .lss (.t 21) (.c (.int .i64 0)), none, []⟩,
        ⟨some 23, .move (.t 22), none, []⟩,
        ⟨some 24, .move (.t 1), (some (23, false)), []⟩,
        ⟨some 25, .move (.t 5), (some (23, false)), []⟩,
        ⟨some 26, .idxAddr 2 (.t 24) (.t 25), (some (23, false)), []⟩,
        ⟨some 27, .fldAddr 0 (.t 26), (some (23, false)), []⟩,
        ⟨some 28, .load none (.t 27), (some (23, false)), []⟩,
        ⟨some 29, .move (.t 0), (some (23, false)), []⟩,
        ⟨some 30, .bin .geq (.t 28) (.t 29), (some (23, false)), []⟩,
        ⟨some 31, .pick (.t 23) (.c (.bool true)) (.t 30), none, []⟩] none [0, 1, 5, 31])
      (.cond (.t 31)
        (.exit 1)
        (.skip)))
      (.seq (.ops [⟨some 32, .move (.t 1), none, []⟩,
        ⟨some 33, .move (.t 5), none, []⟩,
        ⟨some 34, .idxAddr 2 (.t 32) (.t 33), none, []⟩,
        ⟨some 35, .fldAddr 0 (.t 34), none, []⟩,
        ⟨some 36, .load none (.t 35), none, []⟩,
        ⟨some 37, .buildSl 1 [(.int .i64 0)] [(0, 1, (.t 36))], none, []⟩,
        ⟨some 6, .move (.t 37), none, []⟩] none [0, 1, 5, 6])
      (.seq (.ops [⟨some 7, .move (.c .nils), none, []⟩] none [0, 1, 5, 6, 7])
      (.seq (.block 2 (.loop [0, 1, 5, 6, 7] (.seq (.seq (.ops [⟨some 38, .move (.t 6), none, []⟩,
            ⟨some 39, .len .sl (.t 38), none, []⟩,
            ⟨some 40, .bin .gtr (.t 39) (.c (.int .i64 0)), none, []⟩] none [0, 1, 5, 6, 7, 40])
          (.cond (.t 40)
            (.skip)
            (.exit 2)))
          (.block 3 (.seq (.ops [⟨some 41, .move (.t 6), none, []⟩,
              ⟨some 42, .idxAddr 1 (.t 41) (.c (.int .i64 0)), none, []⟩,
              ⟨some 43, .load none (.t 42), none, []⟩,
              ⟨some 8, .move (.t 43), none, []⟩] none [0, 1, 5, 6, 7, 8])
            (.seq (.ops [⟨some 44, .move (.t 6), none, []⟩,
              ⟨some 45, .slTail 1 (.t 44) (.c (.int .i64 1)), none, []⟩,
              ⟨some 6, .move (.t 45), none, []⟩] none [0, 1, 5, 6, 7, 8])
            (.seq (.ops [⟨some 9, .move (.c (.int .i64 0)), none, []⟩] none [0, 1, 5, 6, 7, 8, 9])
            (.block 4 (.loop [0, 1, 5, 6, 7, 8, 9] (.seq (.seq (.ops [⟨some 46, .move (.t 9), none, []⟩,
                  ⟨some 47, .move (.t 1), none, []⟩,
                  ⟨some 48, .len .sl (.t 47), none, []⟩,
                  ⟨some 49, .bin .lss (.t 46) (.t 48), none, []⟩] none [0, 1, 5, 6, 7, 8, 9, 49])
                (.cond (.t 49)
                  (.skip)
                  (.exit 4)))
                (.seq (.block 5 (.seq (.ops [⟨some 52, .move (.t 1), none, []⟩,
                    ⟨some 53, .move (.t 9), none, []⟩,
                    ⟨some 54, .idxAddr 2 (.t 52) (.t 53), none, []⟩,
                    ⟨some 55, .fldAddr 1 (.t 54), none, []⟩,
                    ⟨some 56, .load none (.t 55), none, []⟩,
                    ⟨some 10, .move (.t 56), none, []⟩] none [0, 1, 5, 6, 7, 8, 9, 10])
                  (.seq (.seq (.ops [⟨some 57, .move (.t 1), none, []⟩,
                    ⟨some 58, .move (.t 9), none, []⟩,
                    ⟨some 59, .idxAddr 2 (.t 57) (.t 58), none, []⟩,
                    ⟨some 60, .fldAddr 0 (.t 59), none, []⟩,
                    ⟨some 61, .load none (.t 60), none, []⟩,
                    ⟨some 62, .move (.t 8), none, []⟩,
                    ⟨some 63, .bin .neq (.t 61) (.t 62), none, []⟩,
                    ⟨some 64, .move (.t 63), none, []⟩,
                    ⟨some 65, .move (.t 10), (some (64, false)), []⟩,
                    ⟨some 66, .bin .lss (.t 65) (.c (.int .i64 0)), (some (64, false)), []⟩,
                    ⟨some 67, .pick (.t 64) (.c (.bool true)) (.t 66), none, []⟩,
                    ⟨some 68, .move (.t 67), none, []⟩,
                    ⟨some 69, .move (.t 10), (some (68, false)), []⟩,
                    ⟨some 70, .move (.t 0), (some (68, false)), []⟩,
                    ⟨some 71, .bin .geq (.t 69) (.t 70), (some (68, false)), []⟩,
                    ⟨some 72, .pick (.t 68) (.c (.bool true)) (.t 71), none, []⟩,
                    ⟨some 73, .move (.t 72), none, []⟩,
                    ⟨some 74, .move (.t 7), (some (73, false)), []⟩,
                    ⟨some 75, .move (.t 10), (some (73, false)), []⟩,
                    ⟨some 76, .call 58 [(.t 74), (.t 75)], (some (73, false)), []⟩,
                    ⟨some 77, .pick (.t 73) (.c (.bool true)) (.t 76), none, []⟩] none [0, 1, 5, 6, 7, 8, 9, 10, 77])
                  (.cond (.t 77)
                    (.exit 5)
                    (.skip)))
                  (.seq (.ops [⟨some 78, .move (.t 7), none, []⟩,
                    ⟨some 79, .move (.t 10), none, []⟩,
                    ⟨some 80, .buildSl 1 [(.int .i64 0)] [(0, 1, (.t 79))], none, []⟩,
                    ⟨some 81, .append 1 (.t 78) (.t 80), none, []⟩,
                    ⟨some 7, .move (.t 81), none, []⟩] none [0, 1, 5, 6, 7, 8, 9, 10])
                  (.ops [⟨some 82, .move (.t 6), none, []⟩,
                    ⟨some 83, .move (.t 10), none, []⟩,
                    ⟨some 84, .buildSl 1 [(.int .i64 0)] [(0, 1, (.t 83))], none, []⟩,
                    ⟨some 85, .append 1 (.t 82) (.t 84), none, []⟩,
                    ⟨some 6, .move (.t 85), none, []⟩] none [0, 1, 5, 6, 7, 8, 9])))))
                (.ops [⟨some 50, .move (.t 9), none, []⟩,
                  ⟨some 51, .bin .add (.t 50) (.c (.int .i64 1)), none, []⟩,
                  ⟨some 9, .move (.t 51), none, []⟩] none [0, 1, 5, 6, 7, 8, 9]))))))))))))
      (.seq (.ops [⟨some 86, .move (.t 7), none, []⟩,
        ⟨some 87, .move (.t 1), none, []⟩,
        ⟨some 88, .move (.t 5), none, []⟩,
        ⟨some 89, .idxAddr 2 (.t 87) (.t 88), none, []⟩,
        ⟨some 90, .fldAddr 0 (.t 89), none, []⟩,
        ⟨some 91, .load none (.t 90), none, []⟩,
        ⟨some 92, .call 58 [(.t 86), (.t 91)], none, []⟩] none [0, 1, 5, 92])
      (.cond (.t 92)
        (.seq (.ops [⟨some 4, .move (.c (.bool true)), none, []⟩] none [4])
        (.ret))
        (.skip))))))))
    (.ops [⟨some 15, .move (.t 5), none, []⟩,
      ⟨some 16, .bin .add (.t 15) (.c (.int .i64 1)), none, []⟩,
      ⟨some 5, .move (.t 16), none, []⟩] none [0, 1, 5]))))))
(.seq (.ops [⟨some 4, .move (.c (.bool false)), none, []⟩] none [4])
(.ret))))
def f22 : SFunc := ⟨b22, [.t 4]⟩

/-- watchbill/watchbilllaw20.known -/
def b27 : SCode := (
.seq (.ops [⟨some 0, .move (.c (.bool false)), none, []⟩] none [])
(.seq (.ops [⟨some 16, .build [(.int .i64 0), (.int .i64 0), (.int .i64 0), (.int .i64 0), .nils] [(0, 1, (.c (.int .i64 1))), (1, 1, (.c (.int .i64 3)))], none, []⟩,
  ⟨some 17, .build [(.int .i64 0), (.int .i64 0), (.int .i64 0), (.int .i64 0), .nils] [(0, 1, (.c (.int .i64 6)))], none, []⟩,
  ⟨some 18, .buildSl 2 [(.int .i64 0), (.int .i64 0), (.int .i64 0), (.int .i64 0), .nils, (.int .i64 0), (.int .i64 0), (.int .i64 0), (.int .i64 0), .nils] [(0, 5, (.t 16)), (5, 5, (.t 17))], none, []⟩,
  ⟨some 19, .call 48 [(.t 18), (.c (.int .i64 2)), (.c (.int .i64 7)), (.c (.int .i64 9))], none, []⟩,
  ⟨some 1, .alloc (.agg [(.bool false), .nils, (.int .i64 0), (.int .i64 0), (.int .i64 0), (.int .i64 0), (.int .i64 0), (.int .i64 0), (.bool false), .nils]), none, []⟩,
  ⟨none, .store (some 10) (.t 1) (.t 19), none, []⟩] none [1])
(.seq (.ops [⟨some 21, .load (some 10) (.t 1), none, []⟩,
  ⟨some 22, .call 30 [(.t 21)], none, []⟩,
  ⟨some 20, .move (.t 22), none, []⟩,
  ⟨some 23, .ext 0 (.t 20), none, []⟩,
  ⟨some 24, .ext 1 (.t 20), none, []⟩,
  ⟨some 2, .alloc (.agg [(.int .i64 0), (.int .i64 0), (.int .i64 0), (.int .i64 0), .nils]), none, []⟩,
  ⟨none, .store (some 5) (.t 2) (.t 23), none, []⟩,
  ⟨some 3, .move (.t 24), none, []⟩] none [1, 2, 3])
(.seq (.ops [⟨some 26, .load (some 10) (.t 1), none, []⟩,
  ⟨some 27, .call 36 [(.t 26)], none, []⟩,
  ⟨some 25, .move (.t 27), none, []⟩,
  ⟨some 28, .ext 0 (.t 25), none, []⟩,
  ⟨some 29, .ext 1 (.t 25), none, []⟩,
  ⟨some 4, .alloc (.agg [(.bool false), .nils, (.int .i64 0), (.int .i64 0), (.int .i64 0), (.int .i64 0), (.int .i64 0), (.int .i64 0), (.bool false), .nils]), none, []⟩,
  ⟨none, .store (some 10) (.t 4) (.t 28), none, []⟩,
  ⟨some 5, .move (.t 29), none, []⟩] none [1, 2, 3, 4, 5])
(.seq (.ops [⟨some 31, .load (some 10) (.t 4), none, []⟩,
  ⟨some 32, .call 36 [(.t 31)], none, []⟩,
  ⟨some 30, .move (.t 32), none, []⟩,
  ⟨some 33, .ext 0 (.t 30), none, []⟩,
  ⟨some 34, .ext 1 (.t 30), none, []⟩,
  ⟨some 6, .alloc (.agg [(.bool false), .nils, (.int .i64 0), (.int .i64 0), (.int .i64 0), (.int .i64 0), (.int .i64 0), (.int .i64 0), (.bool false), .nils]), none, []⟩,
  ⟨none, .store (some 10) (.t 6) (.t 33), none, []⟩,
  ⟨some 7, .move (.t 34), none, []⟩] none [1, 2, 3, 4, 5, 7])
(.seq (.ops [⟨some 36, .load (some 10) (.t 4), none, []⟩,
  ⟨some 37, .call 39 [(.t 36)], none, []⟩,
  ⟨some 35, .move (.t 37), none, []⟩,
  ⟨some 38, .ext 0 (.t 35), none, []⟩,
  ⟨some 39, .ext 1 (.t 35), none, []⟩,
  ⟨some 8, .alloc (.agg [(.bool false), .nils, (.int .i64 0), (.int .i64 0), (.int .i64 0), (.int .i64 0), (.int .i64 0), (.int .i64 0), (.bool false), .nils]), none, []⟩,
  ⟨none, .store (some 10) (.t 8) (.t 38), none, []⟩,
  ⟨some 9, .move (.t 39), none, []⟩] none [1, 2, 3, 4, 5, 7, 8, 9])
(.seq (.ops [⟨some 41, .load (some 10) (.t 8), none, []⟩,
  ⟨some 42, .call 39 [(.t 41)], none, []⟩,
  ⟨some 40, .move (.t 42), none, []⟩,
  ⟨some 43, .ext 0 (.t 40), none, []⟩,
  ⟨some 44, .ext 1 (.t 40), none, []⟩,
  ⟨some 10, .alloc (.agg [(.bool false), .nils, (.int .i64 0), (.int .i64 0), (.int .i64 0), (.int .i64 0), (.int .i64 0), (.int .i64 0), (.bool false), .nils]), none, []⟩,
  ⟨none, .store (some 10) (.t 10) (.t 43), none, []⟩,
  ⟨some 11, .move (.t 44), none, []⟩] none [1, 2, 3, 4, 5, 7, 8, 9, 10, 11])
(.seq (.ops [⟨some 45, .load (some 10) (.t 10), none, []⟩,
  ⟨some 46, .call 41 [(.t 45)], none, []⟩,
  ⟨some 12, .alloc (.agg [(.bool false), .nils, (.int .i64 0), (.int .i64 0), (.int .i64 0), (.int .i64 0), (.int .i64 0), (.int .i64 0), (.bool false), .nils]), none, []⟩,
  ⟨none, .store (some 10) (.t 12) (.t 46), none, []⟩] none [1, 2, 3, 4, 5, 7, 8, 9, 10, 11, 12])
(.seq (.ops [⟨some 48, .load (some 10) (.t 12), none, []⟩,
  ⟨some 49, .call 41 [(.t 48)], none, []⟩,
  ⟨some 50, .call 30 [(.t 49)], none, []⟩,
  ⟨some 47, .move (.t 50), none, []⟩,
  ⟨some 51, .ext 0 (.t 47), none, []⟩,
  ⟨some 52, .ext 1 (.t 47), none, []⟩,
  ⟨some 13, .alloc (.agg [(.int .i64 0), (.int .i64 0), (.int .i64 0), (.int .i64 0), .nils]), none, []⟩,
  ⟨none, .store (some 5) (.t 13) (.t 51), none, []⟩,
  ⟨some 14, .move (.t 52), none, []⟩] none [1, 2, 3, 4, 5, 7, 8, 9, 10, 11, 12, 14])
(.seq (.ops [⟨some 53, .load (some 10) (.t 1), none, []⟩,
  ⟨some 54, .call 43 [(.t 53), (.c (.int .i64 1))], none, []⟩,
  ⟨some 55, .call 43 [(.t 54), (.c (.int .i64 3))], none, []⟩,
  ⟨some 56, .call 45 [(.t 55), (.c (.int .i64 1))], none, []⟩,
  ⟨some 15, .alloc (.agg [(.bool false), .nils, (.int .i64 0), (.int .i64 0), (.int .i64 0), (.int .i64 0), (.int .i64 0), (.int .i64 0), (.bool false), .nils]), none, []⟩,
  ⟨none, .store (some 10) (.t 15) (.t 56), none, []⟩] none [1, 2, 3, 4, 5, 7, 8, 9, 10, 11, 12, 14, 15])
(.seq (.ops [⟨some 57, .move (.t 3), none, []⟩,
  ⟨some 58, .move (.t 57), none, []⟩,
  ⟨some 59, .fldAddr 1 (.t 2), (some (58, true)), []⟩,
  ⟨some 60, .load none (.t 59), (some (58, true)), []⟩,
  ⟨some 61, .bin .eql (.t 60) (.c (.int .i64 3)), (some (58, true)), []⟩,
  ⟨some 62, .pick (.t 58) (.t 61) (.c (.bool false)), none, []⟩,
  ⟨some 63, .move (.t 62), none, []⟩,
  ⟨some 64, .fldAddr 0 (.t 1), (some (63, true)), []⟩,
  ⟨some 65, .load none (.t 64), (some (63, true)), []⟩,
  ⟨some 66, .pick (.t 63) (.t 65) (.c (.bool false)), none, []⟩,
  ⟨some 67, .move (.t 66), none, []⟩,
  ⟨some 68, .fldAddr 6 (.t 1), (some (67, true)), []⟩,
  ⟨some 69, .load none (.t 68), (some (67, true)), []⟩,
  ⟨some 70, .bin .eql (.t 69) (.c (.int .i64 7)), (some (67, true)), []⟩,
  ⟨some 71, .pick (.t 67) (.t 70) (.c (.bool false)), none, []⟩,
  ⟨some 72, .move (.t 71), none, []⟩,
  ⟨some 73, .fldAddr 7 (.t 1), (some (72, true)), []⟩,
  ⟨some 74, .load none (.t 73), (some (72, true)), []⟩,
  ⟨some 75, .bin .eql (.t 74) (.c (.int .i64 9)), (some (72, true)), []⟩,
  ⟨some 76, .pick (.t 72) (.t 75) (.c (.bool false)), none, []⟩,
  ⟨some 77, .move (.t 76), none, []⟩,
  ⟨some 78, .move (.t 5), (some (77, true)), []⟩,
  ⟨some 79, .pick (.t 77) (.t 78) (.c (.bool false)), none, []⟩,
  ⟨some 80, .move (.t 79), none, []⟩,
  ⟨some 81, .fldAddr 3 (.t 4), (some (80, true)), []⟩,
  ⟨some 82, .load none (.t 81), (some (80, true)), []⟩,
  ⟨some 83, .bin .eql (.t 82) (.c (.int .i64 3)), (some (80, true)), []⟩,
  ⟨some 84, .pick (.t 80) (.t 83) (.c (.bool false)), none, []⟩,
  ⟨some 85, .move (.t 84), none, []⟩,
  ⟨some 86, .move (.t 7), (some (85, true)), []⟩,
  ⟨some 87, .not (.t 86), (some (85, true)), []⟩,
  ⟨some 88, .pick (.t 85) (.t 87) (.c (.bool false)), none, []⟩,
  ⟨some 89, .move (.t 88), none, []⟩,
  ⟨some 90, .move (.t 9), (some (89, true)), []⟩,
  ⟨some 91, .not (.t 90), (some (89, true)), []⟩,
  ⟨some 92, .pick (.t 89) (.t 91) (.c (.bool false)), none, []⟩,
  ⟨some 93, .move (.t 92), none, []⟩,
  ⟨some 94, .fldAddr 3 (.t 8), (some (93, true)), []⟩,
  ⟨some 95, .load none (.t 94), (some (93, true)), []⟩,
  ⟨some 96, .bin .eql (.t 95) (.c (.int .i64 2)), (some (93, true)), []⟩,
  ⟨some 97, .pick (.t 93) (.t 96) (.c (.bool false)), none, []⟩,
  ⟨some 98, .move (.t 97), none, []⟩,
  ⟨some 99, .move (.t 11), (some (98, true)), []⟩,
  ⟨some 100, .pick (.t 98) (.t 99) (.c (.bool false)), none, []⟩,
  ⟨some 101, .move (.t 100), none, []⟩,
  ⟨some 102, .fldAddr 4 (.t 10), (some (101, true)), []⟩,
  ⟨some 103, .load none (.t 102), (some (101, true)), []⟩,
  ⟨some 104, .bin .eql (.t 103) (.c (.int .i64 2)), (some (101, true)), []⟩,
  ⟨some 105, .pick (.t 101) (.t 104) (.c (.bool false)), none, []⟩,
  ⟨some 106, .move (.t 105), none, []⟩,
  ⟨some 107, .fldAddr 3 (.t 10), (some (106, true)), []⟩,
  ⟨some 108, .load none (.t 107), (some (106, true)), []⟩,
  ⟨some 109, .bin .eql (.t 108) (.c (.int .i64 1)), (some (106, true)), []⟩,
  ⟨some 110, .pick (.t 106) (.t 109) (.c (.bool false)), none, []⟩,
  ⟨some 111, .move (.t 110), none, []⟩,
  ⟨some 112, .fldAddr 2 (.t 12), (some (111, true)), []⟩,
  ⟨some 113, .load none (.t 112), (some (111, true)), []⟩,
  ⟨some 114, .bin .eql (.t 113) (.c (.int .i64 1)), (some (111, true)), []⟩,
  ⟨some 115, .pick (.t 111) (.t 114) (.c (.bool false)), none, []⟩,
  ⟨some 116, .move (.t 115), none, []⟩,
  ⟨some 117, .fldAddr 3 (.t 12), (some (116, true)), []⟩,
  ⟨some 118, .load none (.t 117), (some (116, true)), []⟩,
  ⟨some 119, .bin .eql (.t 118) (.c (.int .i64 0)), (some (116, true)), []⟩,
  ⟨some 120, .pick (.t 116) (.t 119) (.c (.bool false)), none, []⟩,
  ⟨some 121, .move (.t 120), none, []⟩,
  ⟨some 122, .move (.t 14), (some (121, true)), []⟩,
  ⟨some 123, .not (.t 122), (some (121, true)), []⟩,
  ⟨some 124, .pick (.t 121) (.t 123) (.c (.bool false)), none, []⟩,
  ⟨some 125, .move (.t 124), none, []⟩,
  ⟨some 126, .fldAddr 9 (.t 15), (some (125, true)), []⟩,
  ⟨some 127, .load none (.t 126), (some (125, true)), []⟩,
  ⟨some 128, .len .sl (.t 127), (some (125, true)), []⟩,
  ⟨some 129, .bin .eql (.t 128) (.c (.int .i64 1)), (some (125, true)), []⟩,
  ⟨some 130, .pick (.t 125) (.t 129) (.c (.bool false)), none, []⟩,
  ⟨some 131, .move (.t 130), none, []⟩,
  ⟨some 132, .fldAddr 9 (.t 15), (some (131, true)), []⟩,
  ⟨some 133, .load none (.t 132), (some (131, true)), []⟩,
  ⟨some 134, .idxAddr 1 (.t 133) (.c (.int .i64 0)), (some (131, true)), []⟩,
  ⟨some 135, .load none (.t 134), (some (131, true)), []⟩,
  ⟨some 136, .bin .eql (.t 135) (.c (.int .i64 3)), (some (131, true)), []⟩,
  ⟨some 137, .pick (.t 131) (.t 136) (.c (.bool false)), none, []⟩,
  ⟨some 138, .move (.t 137), none, []⟩,
  ⟨some 139, .load (some 10) (.t 4), (some (138, true)), []⟩,
  ⟨some 140, .load (some 10) (.t 4), (some (138, true)), []⟩,
  ⟨some 141, .call 34 [(.t 139), (.t 140)], (some (138, true)), []⟩,
  ⟨some 142, .pick (.t 138) (.t 141) (.c (.bool false)), none, []⟩,
  ⟨some 143, .move (.t 142), none, []⟩,
  ⟨some 144, .load (some 10) (.t 4), (some (143, true)), []⟩,
  ⟨some 145, .load (some 10) (.t 8), (some (143, true)), []⟩,
  ⟨some 146, .call 34 [(.t 144), (.t 145)], (some (143, true)), []⟩,
  ⟨some 147, .not (.t 146), (some (143, true)), []⟩,
  ⟨some 148, .pick (.t 143) (.t 147) (.c (.bool false)), none, []⟩,
  ⟨some 0, .move (.t 148), none, []⟩] none [0])
(.ret))))))))))))
def f27 : SFunc := ⟨b27, [.t 0]⟩

/-- watchbill/watchbilllaw20.Few -/
def b28 : SCode := (
.seq (.ops [⟨some 1, .box (.t 0), none, []⟩,
  ⟨some 2, .move (.c (.bool false)), none, []⟩] none [1])
(.seq (.ops [⟨some 3, .fldAddr 1 (.t 1), none, []⟩,
  ⟨some 4, .load none (.t 3), none, []⟩,
  ⟨some 5, .len .sl (.t 4), none, []⟩,
  ⟨some 6, .bin .leq (.t 5) (.c (.int .i64 100)), none, []⟩,
  ⟨some 7, .move (.t 6), none, []⟩,
  ⟨some 8, .fldAddr 9 (.t 1), (some (7, true)), []⟩,
  ⟨some 9, .load none (.t 8), (some (7, true)), []⟩,
  ⟨some 10, .len .sl (.t 9), (some (7, true)), []⟩,
  ⟨some 11, .bin .leq (.t 10) (.c (.int .i64 20)), (some (7, true)), []⟩,
  ⟨some 12, .pick (.t 7) (.t 11) (.c (.bool false)), none, []⟩,
  ⟨some 13, .move (.t 12), none, []⟩,
  ⟨some 14, .fldAddr 3 (.t 1), (some (13, true)), []⟩,
  ⟨some 15, .load none (.t 14), (some (13, true)), []⟩,
  ⟨some 16, .bin .geq (.t 15) (.c (.int .i64 0)), (some (13, true)), []⟩,
  ⟨some 17, .pick (.t 13) (.t 16) (.c (.bool false)), none, []⟩,
  ⟨some 18, .move (.t 17), none, []⟩,
  ⟨some 19, .fldAddr 4 (.t 1), (some (18, true)), []⟩,
  ⟨some 20, .load none (.t 19), (some (18, true)), []⟩,
  ⟨some 21, .bin .geq (.t 20) (.c (.int .i64 0)), (some (18, true)), []⟩,
  ⟨some 22, .pick (.t 18) (.t 21) (.c (.bool false)), none, []⟩,
  ⟨some 23, .move (.t 22), none, []⟩,
  ⟨some 24, .fldAddr 4 (.t 1), (some (23, true)), []⟩,
  ⟨some 25, .load none (.t 24), (some (23, true)), []⟩,
  ⟨some 26, .bin .lss (.t 25) (.c (.int .i64 1152921504606846976)), (some (23, true)), []⟩,
  ⟨some 27, .pick (.t 23) (.t 26) (.c (.bool false)), none, []⟩,
  ⟨some 28, .move (.t 27), none, []⟩,
  ⟨some 29, .fldAddr 5 (.t 1), (some (28, true)), []⟩,
  ⟨some 30, .load none (.t 29), (some (28, true)), []⟩,
  ⟨some 31, .bin .geq (.t 30) (.c (.int .i64 0)), (some (28, true)), []⟩,
  ⟨some 32, .pick (.t 28) (.t 31) (.c (.bool false)), none, []⟩,
  ⟨some 33, .move (.t 32), none, []⟩,
  ⟨some 34, .fldAddr 2 (.t 1), (some (33, true)), []⟩,
  ⟨some 35, .load none (.t 34), (some (33, true)), []⟩,
  ⟨some 36, .bin .geq (.t 35) (.c (.int .i64 0)), (some (33, true)), []⟩,
  ⟨some 37, .pick (.t 33) (.t 36) (.c (.bool false)), none, []⟩,
  ⟨some 38, .move (.t 37), none, []⟩,
  ⟨some 39, .fldAddr 2 (.t 1), (some (38, true)), []⟩,
  ⟨some 40, .load none (.t 39), (some (38, true)), []⟩,
  ⟨some 41, .bin .lss (.t 40) (.c (.int .i64 1099511627776)), (some (38, true)), []⟩,
  ⟨some 42, .pick (.t 38) (.t 41) (.c (.bool false)), none, []⟩,
  ⟨some 43, .move (.t 42), none, []⟩,
  ⟨some 44, .fldAddr 1 (.t 1), (some (43, true)), []⟩,
  ⟨some 45, .load none (.t 44), (some (43, true)), []⟩,
  ⟨some 46, .fldAddr 1 (.t 1), (some (43, true)), []⟩,
  ⟨some 47, .load none (.t 46), (some (43, true)), []⟩,
  ⟨some 48, .len .sl (.t 47), (some (43, true)), []⟩,
  ⟨some 49, .mn [(.t 48), (.c (.int .i64 60))], (some (43, true)), []⟩,
  ⟨some 50, .slSl 5 (.t 45) none (some (.t 49)), (some (43, true)), []⟩,
  ⟨some 51, .call 59 [(.t 50)], (some (43, true)), []⟩,
  ⟨some 52, .pick (.t 43) (.t 51) (.c (.bool false)), none, []⟩,
  ⟨some 2, .move (.t 52), none, []⟩] none [2])
(.ret)))
def f28 : SFunc := ⟨b28, [.t 2]⟩

/-- watchbill/watchbilllaw20.To -/
def b29 : SCode := (
.seq (.ops [⟨some 1, .box (.t 0), none, []⟩,
  ⟨some 2, .alloc (.agg [(.bool false), .nils, (.int .i64 0), (.int .i64 0), (.int .i64 0), (.int .i64 0), (.int .i64 0), (.int .i64 0), (.bool false), .nils]), none, []⟩] none [1, 2])
(.seq (.ops [⟨some 3, .fldAddr 0 (.t 1), none, []⟩,
  ⟨some 4, .load none (.t 3), none, []⟩,
  ⟨some 5, .fldAddr 1 (.t 1), none, []⟩,
  ⟨some 6, .load none (.t 5), none, []⟩,
  ⟨some 8, .fldAddr 2 (.t 1), none, []⟩,
  ⟨some 9, .load none (.t 8), none, []⟩,
  ⟨some 10, .fldAddr 3 (.t 1), none, []⟩,
  ⟨some 11, .load none (.t 10), none, []⟩,
  ⟨some 12, .fldAddr 4 (.t 1), none, []⟩,
  ⟨some 13, .load none (.t 12), none, []⟩,
  ⟨some 14, .fldAddr 5 (.t 1), none, []⟩,
  ⟨some 15, .load none (.t 14), none, []⟩,
  ⟨some 16, .fldAddr 6 (.t 1), none, []⟩,
  ⟨some 17, .load none (.t 16), none, []⟩,
  ⟨some 18, .fldAddr 7 (.t 1), none, []⟩,
  ⟨some 19, .load none (.t 18), none, []⟩,
  ⟨some 20, .fldAddr 8 (.t 1), none, []⟩,
  ⟨some 21, .load none (.t 20), none, []⟩,
  ⟨some 22, .buildSl 0 [] [], none, []⟩,
  ⟨some 23, .fldAddr 9 (.t 1), none, []⟩,
  ⟨some 24, .load none (.t 23), none, []⟩,
  ⟨some 7, .call 60 [(.t 6)], none, [1, 5, 7, 9, 11, 13, 15, 17, 20]⟩,
  ⟨some 25, .append 1 (.t 22) (.t 24), none, [1, 5, 7, 9, 11, 13, 15, 17]⟩,
  ⟨some 26, .build [(.bool false), .nils, (.int .i64 0), (.int .i64 0), (.int .i64 0), (.int .i64 0), (.int .i64 0), (.int .i64 0), (.bool false), .nils] [(0, 1, (.t 4)), (1, 1, (.t 7)), (2, 1, (.t 9)), (3, 1, (.t 11)), (4, 1, (.t 13)), (5, 1, (.t 15)), (6, 1, (.t 17)), (7, 1, (.t 19)), (8, 1, (.t 21)), (9, 1, (.t 25))], none, []⟩,
  ⟨none, .store (some 10) (.t 2) (.t 26), none, []⟩] (some [(0, []), (1, [0]), (2, []), (3, [2]), (5, []), (6, [4]), (7, []), (8, [6]), (9, []), (10, [8]), (11, []), (12, [10]), (13, []), (14, [12]), (15, []), (16, [14]), (17, []), (18, [16]), (19, []), (20, []), (21, [19]), (4, [3, 2]), (22, [18, 20, 19, 21, 3, 2]), (23, [1, 0, 21, 3, 2, 5, 4, 7, 6, 9, 8, 11, 10, 13, 12, 15, 14, 17, 16, 22, 18, 20, 19]), (24, [23, 1, 0, 21, 3, 2, 5, 4, 7, 6, 9, 8, 11, 10, 13, 12, 15, 14, 17, 16, 22, 18, 20, 19])]) [2])
(.ret)))
def f29 : SFunc := ⟨b29, [.cell (some 10) 2]⟩

/-- watchbill/job.Now -/
def b30 : SCode := (
.seq (.ops [⟨some 1, .box (.t 0), none, []⟩,
  ⟨some 2, .alloc (.agg [(.int .i64 0), (.int .i64 0), (.int .i64 0), (.int .i64 0), .nils]), none, []⟩,
  ⟨some 3, .move (.c (.bool false)), none, []⟩] none [1, 2])
(.seq (.seq (.ops [⟨some 4, .fldAddr 0 (.t 1), none, []⟩,
  ⟨some 5, .load none (.t 4), none, []⟩,
  ⟨some 6, .not (.t 5), none, []⟩,
  ⟨some 7, .move (.t 6), none, []⟩,
  ⟨some 8, .fldAddr 2 (.t 1), (some (7, false)), []⟩,
  ⟨some 9, .load none (.t 8), (some (7, false)), []⟩,
  ⟨some 10, .bin .lss (.t 9) (.c (.int .i64 0)), (some (7, false)), []⟩,
  ⟨some 11, .pick (.t 7) (.c (.bool true)) (.t 10), none, []⟩,
  ⟨some 12, .move (.t 11), none, []⟩,
  ⟨some 13, .fldAddr 2 (.t 1), (some (12, false)), []⟩,
  ⟨some 14, .load none (.t 13), (some (12, false)), []⟩,
  ⟨some 15, .fldAddr 1 (.t 1), (some (12, false)), []⟩,
  ⟨some 16, .load none (.t 15), (some (12, false)), []⟩,
  ⟨some 17, .len .sl (.t 16), (some (12, false)), []⟩,
  ⟨some 18, .bin .geq (.t 14) (.t 17), (some (12, false)), []⟩,
  ⟨some 19, .pick (.t 12) (.c (.bool true)) (.t 18), none, []⟩] none [1, 2, 19])
(.cond (.t 19)
  (.seq (.ops [⟨some 20, .build [(.int .i64 0), (.int .i64 0), (.int .i64 0), (.int .i64 0), .nils] [], none, []⟩,
    ⟨none, .store (some 5) (.t 2) (.t 20), none, []⟩,
    ⟨some 3, .move (.c (.bool false)), none, []⟩] none [2, 3])
  (.ret))
  (.skip)))
(.seq (.ops [⟨some 21, .fldAddr 1 (.t 1), none, []⟩,
  ⟨some 22, .load none (.t 21), none, []⟩,
  ⟨some 23, .fldAddr 2 (.t 1), none, []⟩,
  ⟨some 24, .load none (.t 23), none, []⟩,
  ⟨some 25, .idxAddr 5 (.t 22) (.t 24), none, []⟩,
  ⟨some 26, .load (some 5) (.t 25), none, []⟩,
  ⟨none, .store (some 5) (.t 2) (.t 26), none, []⟩,
  ⟨some 3, .move (.c (.bool true)), none, []⟩] none [2, 3])
(.ret))))
def f30 : SFunc := ⟨b30, [.cell (some 5) 2, .t 3]⟩

/-- watchbill/watchbillref21.Now -/
def b31 : SCode := (
.seq (.ops [⟨some 1, .box (.t 0), none, []⟩,
  ⟨some 2, .alloc (.agg [(.int .i64 0), (.int .i64 0), (.int .i64 0), (.int .i64 0), .nils]), none, []⟩,
  ⟨some 3, .move (.c (.bool false)), none, []⟩] none [1, 2])
(.seq (.seq (.ops [⟨some 4, .fldAddr 0 (.t 1), none, []⟩,
  ⟨some 5, .load none (.t 4), none, []⟩,
  ⟨some 6, .not (.t 5), none, []⟩,
  ⟨some 7, .move (.t 6), none, []⟩,
  ⟨some 8, .fldAddr 2 (.t 1), (some (7, false)), []⟩,
  ⟨some 9, .load none (.t 8), (some (7, false)), []⟩,
  ⟨some 10, .bin .lss (.t 9) (.c (.int .i64 0)), (some (7, false)), []⟩,
  ⟨some 11, .pick (.t 7) (.c (.bool true)) (.t 10), none, []⟩,
  ⟨some 12, .move (.t 11), none, []⟩,
  ⟨some 13, .fldAddr 2 (.t 1), (some (12, false)), []⟩,
  ⟨some 14, .load none (.t 13), (some (12, false)), []⟩,
  ⟨some 15, .fldAddr 1 (.t 1), (some (12, false)), []⟩,
  ⟨some 16, .load none (.t 15), (some (12, false)), []⟩,
  ⟨some 17, .len .sl (.t 16), (some (12, false)), []⟩,
  ⟨some 18, .bin .geq (.t 14) (.t 17), (some (12, false)), []⟩,
  ⟨some 19, .pick (.t 12) (.c (.bool true)) (.t 18), none, []⟩] none [1, 2, 19])
(.cond (.t 19)
  (.seq (.ops [⟨some 20, .build [(.int .i64 0), (.int .i64 0), (.int .i64 0), (.int .i64 0), .nils] [], none, []⟩,
    ⟨none, .store (some 5) (.t 2) (.t 20), none, []⟩,
    ⟨some 3, .move (.c (.bool false)), none, []⟩] none [2, 3])
  (.ret))
  (.skip)))
(.seq (.ops [⟨some 21, .fldAddr 1 (.t 1), none, []⟩,
  ⟨some 22, .load none (.t 21), none, []⟩,
  ⟨some 23, .fldAddr 2 (.t 1), none, []⟩,
  ⟨some 24, .load none (.t 23), none, []⟩,
  ⟨some 25, .idxAddr 5 (.t 22) (.t 24), none, []⟩,
  ⟨some 26, .load (some 5) (.t 25), none, []⟩,
  ⟨none, .store (some 5) (.t 2) (.t 26), none, []⟩,
  ⟨some 3, .move (.c (.bool true)), none, []⟩] none [2, 3])
(.ret))))
def f31 : SFunc := ⟨b31, [.cell (some 5) 2, .t 3]⟩

/-- watchbill/watchbillref8.SameOp -/
def b33 : SCode := (
.seq (.ops [⟨some 2, .box (.t 0), none, []⟩,
  ⟨some 3, .box (.t 1), none, []⟩,
  ⟨some 4, .move (.c (.bool false)), none, []⟩] none [2, 3])
(.seq (.seq (.ops [⟨some 6, .fldAddr 0 (.t 2), none, []⟩,
  ⟨some 7, .load none (.t 6), none, []⟩,
  ⟨some 8, .fldAddr 0 (.t 3), none, []⟩,
  ⟨some 9, .load none (.t 8), none, []⟩,
  ⟨some 10, .bin .neq (.t 7) (.t 9), none, []⟩,
  ⟨some 11, .move (.t 10), none, []⟩,
  ⟨some 12, .fldAddr 1 (.t 2), (some (11, false)), []⟩,
  ⟨some 13, .load none (.t 12), (some (11, false)), []⟩,
  ⟨some 14, .fldAddr 1 (.t 3), (some (11, false)), []⟩,
  ⟨some 15, .load none (.t 14), (some (11, false)), []⟩,
  ⟨some 16, .bin .neq (.t 13) (.t 15), (some (11, false)), []⟩,
  ⟨some 17, .pick (.t 11) (.c (.bool true)) (.t 16), none, []⟩,
  ⟨some 18, .move (.t 17), none, []⟩,
  ⟨some 19, .fldAddr 2 (.t 2), (some (18, false)), []⟩,
  ⟨some 20, .load none (.t 19), (some (18, false)), []⟩,
  ⟨some 21, .fldAddr 2 (.t 3), (some (18, false)), []⟩,
  ⟨some 22, .load none (.t 21), (some (18, false)), []⟩,
  ⟨some 23, .bin .neq (.t 20) (.t 22), (some (18, false)), []⟩,
  ⟨some 24, .pick (.t 18) (.c (.bool true)) (.t 23), none, []⟩,
  ⟨some 25, .move (.t 24), none, []⟩,
  ⟨some 26, .fldAddr 3 (.t 2), (some (25, false)), []⟩,
  ⟨some 27, .load none (.t 26), (some (25, false)), []⟩,
  ⟨some 28, .fldAddr 3 (.t 3), (some (25, false)), []⟩,
  ⟨some 29, .load none (.t 28), (some (25, false)), []⟩,
  ⟨some 30, .bin .neq (.t 27) (.t 29), (some (25, false)), []⟩,
  ⟨some 31, .pick (.t 25) (.c (.bool true)) (.t 30), none, []⟩,
  ⟨some 32, .move (.t 31), none, []⟩,
  ⟨some 33, .fldAddr 4 (.t 2), (some (32, false)), []⟩,
  ⟨some 34, .load none (.t 33), (some (32, false)), []⟩,
  ⟨some 35, .len .sl (.t 34), (some (32, false)), []⟩,
  ⟨some 36, .fldAddr 4 (.t 3), (some (32, false)), []⟩,
  ⟨some 37, .load none (.t 36), (some (32, false)), []⟩,
  ⟨some 38, .len .sl (.t 37), (some (32, false)), []⟩,
  ⟨some 39, .bin .neq (.t 35) (.t 38), (some (32, false)), []⟩,
  ⟨some 40, .pick (.t 32) (.c (.bool true)) (.t 39), none, []⟩] none [2, 3, 40])
(.cond (.t 40)
  (.seq (.ops [⟨some 4, .move (.c (.bool false)), none, []⟩] none [4])
  (.ret))
  (.skip)))
(.seq (.seq (.ops [⟨some 5, .move (.c (.int .i64 0)), none, []⟩] none [2, 3, 5])
(.block 0 (.loop [2, 3, 5] (.seq (.seq (.ops [⟨some 41, .move (.t 5), none, []⟩,
      ⟨some 42, .fldAddr 4 (.t 2), none, []⟩,
      ⟨some 43, .load none (.t 42), none, []⟩,
      ⟨some 44, .len .sl (.t 43), none, []⟩,
      ⟨some 45, .bin .lss (.t 41) (.t 44), none, []⟩] none [2, 3, 5, 45])
    (.cond (.t 45)
      (.skip)
      (.exit 0)))
    (.seq (.block 1 (.seq (.ops [⟨some 48, .fldAddr 4 (.t 2), none, []⟩,
        ⟨some 49, .load none (.t 48), none, []⟩,
        ⟨some 50, .move (.t 5), none, []⟩,
        ⟨some 51, .idxAddr 3 (.t 49) (.t 50), none, []⟩,
        ⟨some 52, .load (some 3) (.t 51), none, []⟩,
        ⟨some 53, .fldAddr 4 (.t 3), none, []⟩,
        ⟨some 54, .load none (.t 53), none, []⟩,
        ⟨some 55, .move (.t 5), none, []⟩,
        ⟨some 56, .idxAddr 3 (.t 54) (.t 55), none, []⟩,
        ⟨some 57, .load (some 3) (.t 56), none, []⟩,
        ⟨some 58, .eq true (.st [.b, .i, .i]) (.t 52) (.t 57), none, []⟩] (some [(0, []), (1, [0]), (2, []), (3, [1, 0, 2]), (4, [3, 1, 0, 2]), (5, []), (6, [5]), (7, []), (8, [6, 5, 7]), (9, [8, 6, 5, 7]), (10, [4, 3, 1, 0, 2, 9, 8, 6, 5, 7])]) [2, 3, 5, 58])
      (.cond (.t 58)
        (.seq (.ops [⟨some 4, .move (.c (.bool false)), none, []⟩] none [4])
        (.ret))
        (.skip))))
    (.ops [⟨some 46, .move (.t 5), none, []⟩,
      ⟨some 47, .bin .add (.t 46) (.c (.int .i64 1)), none, []⟩,
      ⟨some 5, .move (.t 47), none, []⟩] none [2, 3, 5]))))))
(.seq (.ops [⟨some 4, .move (.c (.bool true)), none, []⟩] none [4])
(.ret)))))
def f33 : SFunc := ⟨b33, [.t 4]⟩

/-- watchbill/watchbilllaw5.Of -/
def b32 : SCode := (
.seq (.ops [⟨some 1, .box (.t 0), none, []⟩,
  ⟨some 2, .alloc (.agg [(.int .i64 0), (.int .i64 0), (.int .i64 0), (.int .i64 0), .nils]), none, []⟩] none [1, 2])
(.seq (.ops [⟨some 5, .fldAddr 0 (.t 1), none, []⟩,
  ⟨some 6, .load none (.t 5), none, []⟩,
  ⟨some 7, .fldAddr 1 (.t 1), none, []⟩,
  ⟨some 8, .load none (.t 7), none, []⟩,
  ⟨some 9, .fldAddr 2 (.t 1), none, []⟩,
  ⟨some 10, .load none (.t 9), none, []⟩,
  ⟨some 11, .fldAddr 3 (.t 1), none, []⟩,
  ⟨some 12, .load none (.t 11), none, []⟩,
  ⟨some 13, .build [(.int .i64 0), (.int .i64 0), (.int .i64 0), (.int .i64 0), .nils] [(0, 1, (.t 6)), (1, 1, (.t 8)), (2, 1, (.t 10)), (3, 1, (.t 12))], none, []⟩,
  ⟨some 3, .alloc (.agg [(.int .i64 0), (.int .i64 0), (.int .i64 0), (.int .i64 0), .nils]), none, []⟩,
  ⟨none, .store (some 5) (.t 3) (.t 13), none, []⟩] none [1, 2, 3])
(.seq (.seq (.ops [⟨some 4, .move (.c (.int .i64 0)), none, []⟩] none [1, 2, 3, 4])
(.block 0 (.loop [1, 2, 3, 4] (.seq (.seq (.ops [⟨some 14, .move (.t 4), none, []⟩,
      ⟨some 15, .fldAddr 4 (.t 1), none, []⟩,
      ⟨some 16, .load none (.t 15), none, []⟩,
      ⟨some 17, .len .sl (.t 16), none, []⟩,
      ⟨some 18, .bin .lss (.t 14) (.t 17), none, []⟩] none [1, 2, 3, 4, 18])
    (.cond (.t 18)
      (.skip)
      (.exit 0)))
    (.seq (.block 1 (.ops [⟨some 21, .fldAddr 4 (.t 3), none, []⟩,
        ⟨some 22, .load none (.t 21), none, []⟩,
        ⟨some 23, .fldAddr 4 (.t 1), none, []⟩,
        ⟨some 24, .load none (.t 23), none, []⟩,
        ⟨some 25, .move (.t 4), none, []⟩,
        ⟨some 26, .idxAddr 3 (.t 24) (.t 25), none, []⟩,
        ⟨some 27, .fldAddr 0 (.t 26), none, []⟩,
        ⟨some 28, .load none (.t 27), none, []⟩,
        ⟨some 29, .fldAddr 4 (.t 1), none, []⟩,
        ⟨some 30, .load none (.t 29), none, []⟩,
        ⟨some 31, .move (.t 4), none, []⟩,
        ⟨some 32, .idxAddr 3 (.t 30) (.t 31), none, []⟩,
        ⟨some 33, .fldAddr 1 (.t 32), none, []⟩,
        ⟨some 34, .load none (.t 33), none, []⟩,
        ⟨some 35, .fldAddr 4 (.t 1), none, []⟩,
        ⟨some 36, .load none (.t 35), none, []⟩,
        ⟨some 37, .move (.t 4), none, []⟩,
        ⟨some 38, .idxAddr 3 (.t 36) (.t 37), none, []⟩,
        ⟨some 39, .fldAddr 2 (.t 38), none, []⟩,
        ⟨some 40, .load none (.t 39), none, []⟩,
        ⟨some 41, .build [(.bool false), (.int .i64 0), (.int .i64 0)] [(0, 1, (.t 28)), (1, 1, (.t 34)), (2, 1, (.t 40))], none, []⟩,
        ⟨some 42, .buildSl 1 [(.bool false), (.int .i64 0), (.int .i64 0)] [(0, 3, (.t 41))], none, []⟩,
        ⟨some 43, .append 3 (.t 22) (.t 42), none, []⟩,
        ⟨some 44, .fldAddr 4 (.t 3), none, []⟩,
        ⟨none, .store none (.t 44) (.t 43), none, []⟩] (some [(0, []), (1, [0]), (2, []), (3, [2]), (4, []), (5, [3, 2, 4]), (6, [5, 3, 2, 4]), (7, [6, 5, 3, 2, 4]), (8, []), (9, [8]), (10, []), (11, [9, 8, 10]), (12, [11, 9, 8, 10]), (13, [12, 11, 9, 8, 10]), (14, []), (15, [14]), (16, []), (17, [15, 14, 16]), (18, [17, 15, 14, 16]), (19, [18, 17, 15, 14, 16]), (20, [7, 6, 5, 3, 2, 4, 13, 12, 11, 9, 8, 10, 19, 18, 17, 15, 14, 16]), (21, [20, 7, 6, 5, 3, 2, 4, 13, 12, 11, 9, 8, 10, 19, 18, 17, 15, 14, 16]), (22, [1, 0, 21, 20, 7, 6, 5, 3, 2, 4, 13, 12, 11, 9, 8, 10, 19, 18, 17, 15, 14, 16]), (23, [0, 1, 2, 3, 4, 5, 6, 7, 8, 9, 10, 11, 12, 13, 14, 15, 16, 17, 18, 19, 20, 21, 22]), (24, [23, 0, 1, 2, 3, 4, 5, 6, 7, 8, 9, 10, 11, 12, 13, 14, 15, 16, 17, 18, 19, 20, 21, 22])]) [1, 2, 3, 4]))
    (.ops [⟨some 19, .move (.t 4), none, []⟩,
      ⟨some 20, .bin .add (.t 19) (.c (.int .i64 1)), none, []⟩,
      ⟨some 4, .move (.t 20), none, []⟩] none [1, 2, 3, 4]))))))
(.seq (.ops [⟨some 45, .load (some 5) (.t 3), none, []⟩,
  ⟨none, .store (some 5) (.t 2) (.t 45), none, []⟩] none [2])
(.ret)))))
def f32 : SFunc := ⟨b32, [.cell (some 5) 2]⟩

/-- watchbill/job.Same -/
def b34 : SCode := (
.seq (.ops [⟨some 2, .box (.t 0), none, []⟩,
  ⟨some 3, .box (.t 1), none, []⟩,
  ⟨some 4, .move (.c (.bool false)), none, []⟩] none [2, 3])
(.seq (.ops [⟨some 5, .fldAddr 0 (.t 2), none, []⟩,
  ⟨some 6, .load none (.t 5), none, []⟩,
  ⟨some 7, .fldAddr 0 (.t 3), none, []⟩,
  ⟨some 8, .load none (.t 7), none, []⟩,
  ⟨some 9, .eq false .b (.t 6) (.t 8), none, []⟩,
  ⟨some 10, .move (.t 9), none, []⟩,
  ⟨some 11, .fldAddr 2 (.t 2), (some (10, true)), []⟩,
  ⟨some 12, .load none (.t 11), (some (10, true)), []⟩,
  ⟨some 13, .fldAddr 2 (.t 3), (some (10, true)), []⟩,
  ⟨some 14, .load none (.t 13), (some (10, true)), []⟩,
  ⟨some 15, .bin .eql (.t 12) (.t 14), (some (10, true)), []⟩,
  ⟨some 16, .pick (.t 10) (.t 15) (.c (.bool false)), none, []⟩,
  ⟨some 17, .move (.t 16), none, []⟩,
  ⟨some 18, .fldAddr 3 (.t 2), (some (17, true)), []⟩,
  ⟨some 19, .load none (.t 18), (some (17, true)), []⟩,
  ⟨some 20, .fldAddr 3 (.t 3), (some (17, true)), []⟩,
  ⟨some 21, .load none (.t 20), (some (17, true)), []⟩,
  ⟨some 22, .bin .eql (.t 19) (.t 21), (some (17, true)), []⟩,
  ⟨some 23, .pick (.t 17) (.t 22) (.c (.bool false)), none, []⟩,
  ⟨some 24, .move (.t 23), none, []⟩,
  ⟨some 25, .fldAddr 4 (.t 2), (some (24, true)), []⟩,
  ⟨some 26, .load none (.t 25), (some (24, true)), []⟩,
  ⟨some 27, .fldAddr 4 (.t 3), (some (24, true)), []⟩,
  ⟨some 28, .load none (.t 27), (some (24, true)), []⟩,
  ⟨some 29, .bin .eql (.t 26) (.t 28), (some (24, true)), []⟩,
  ⟨some 30, .pick (.t 24) (.t 29) (.c (.bool false)), none, []⟩,
  ⟨some 31, .move (.t 30), none, []⟩,
  ⟨some 32, .fldAddr 5 (.t 2), (some (31, true)), []⟩,
  ⟨some 33, .load none (.t 32), (some (31, true)), []⟩,
  ⟨some 34, .fldAddr 5 (.t 3), (some (31, true)), []⟩,
  ⟨some 35, .load none (.t 34), (some (31, true)), []⟩,
  ⟨some 36, .bin .eql (.t 33) (.t 35), (some (31, true)), []⟩,
  ⟨some 37, .pick (.t 31) (.t 36) (.c (.bool false)), none, []⟩,
  ⟨some 38, .move (.t 37), none, []⟩,
  ⟨some 39, .fldAddr 6 (.t 2), (some (38, true)), []⟩,
  ⟨some 40, .load none (.t 39), (some (38, true)), []⟩,
  ⟨some 41, .fldAddr 6 (.t 3), (some (38, true)), []⟩,
  ⟨some 42, .load none (.t 41), (some (38, true)), []⟩,
  ⟨some 43, .bin .eql (.t 40) (.t 42), (some (38, true)), []⟩,
  ⟨some 44, .pick (.t 38) (.t 43) (.c (.bool false)), none, []⟩,
  ⟨some 45, .move (.t 44), none, []⟩,
  ⟨some 46, .fldAddr 7 (.t 2), (some (45, true)), []⟩,
  ⟨some 47, .load none (.t 46), (some (45, true)), []⟩,
  ⟨some 48, .fldAddr 7 (.t 3), (some (45, true)), []⟩,
  ⟨some 49, .load none (.t 48), (some (45, true)), []⟩,
  ⟨some 50, .bin .eql (.t 47) (.t 49), (some (45, true)), []⟩,
  ⟨some 51, .pick (.t 45) (.t 50) (.c (.bool false)), none, []⟩,
  ⟨some 52, .move (.t 51), none, []⟩,
  ⟨some 53, .fldAddr 8 (.t 2), (some (52, true)), []⟩,
  ⟨some 54, .load none (.t 53), (some (52, true)), []⟩,
  ⟨some 55, .fldAddr 8 (.t 3), (some (52, true)), []⟩,
  ⟨some 56, .load none (.t 55), (some (52, true)), []⟩,
  ⟨some 57, .eq false .b (.t 54) (.t 56), (some (52, true)), []⟩,
  ⟨some 58, .pick (.t 52) (.t 57) (.c (.bool false)), none, []⟩,
  ⟨some 59, .move (.t 58), none, []⟩,
  ⟨some 60, .fldAddr 9 (.t 2), (some (59, true)), []⟩,
  ⟨some 61, .load none (.t 60), (some (59, true)), []⟩,
  ⟨some 62, .fldAddr 9 (.t 3), (some (59, true)), []⟩,
  ⟨some 63, .load none (.t 62), (some (59, true)), []⟩,
  ⟨some 64, .call 61 [(.t 61), (.t 63)], (some (59, true)), []⟩,
  ⟨some 65, .pick (.t 59) (.t 64) (.c (.bool false)), none, []⟩,
  ⟨some 66, .move (.t 65), none, []⟩,
  ⟨some 67, .fldAddr 1 (.t 2), (some (66, true)), []⟩,
  ⟨some 68, .load none (.t 67), (some (66, true)), []⟩,
  ⟨some 69, .fldAddr 1 (.t 3), (some (66, true)), []⟩,
  ⟨some 70, .load none (.t 69), (some (66, true)), []⟩,
  ⟨some 71, .call 62 [(.t 68), (.t 70), (.c (.fn 51 []))], (some (66, true)), []⟩,
  ⟨some 72, .pick (.t 66) (.t 71) (.c (.bool false)), none, []⟩,
  ⟨some 4, .move (.t 72), none, []⟩] none [4])
(.ret)))
def f34 : SFunc := ⟨b34, [.t 4]⟩

/-- watchbill/watchbillref21.SameJob -/
def b35 : SCode := (
.seq (.ops [⟨some 2, .box (.t 0), none, []⟩,
  ⟨some 3, .box (.t 1), none, []⟩,
  ⟨some 4, .move (.c (.bool false)), none, []⟩] none [2, 3])
(.seq (.ops [⟨some 5, .fldAddr 0 (.t 2), none, []⟩,
  ⟨some 6, .load none (.t 5), none, []⟩,
  ⟨some 7, .fldAddr 0 (.t 3), none, []⟩,
  ⟨some 8, .load none (.t 7), none, []⟩,
  ⟨some 9, .eq false .b (.t 6) (.t 8), none, []⟩,
  ⟨some 10, .move (.t 9), none, []⟩,
  ⟨some 11, .fldAddr 1 (.t 2), (some (10, true)), []⟩,
  ⟨some 12, .load none (.t 11), (some (10, true)), []⟩,
  ⟨some 13, .fldAddr 1 (.t 3), (some (10, true)), []⟩,
  ⟨some 14, .load none (.t 13), (some (10, true)), []⟩,
  ⟨some 15, .call 63 [(.t 12), (.t 14)], (some (10, true)), []⟩,
  ⟨some 16, .pick (.t 10) (.t 15) (.c (.bool false)), none, []⟩,
  ⟨some 17, .move (.t 16), none, []⟩,
  ⟨some 18, .fldAddr 2 (.t 2), (some (17, true)), []⟩,
  ⟨some 19, .load none (.t 18), (some (17, true)), []⟩,
  ⟨some 20, .fldAddr 2 (.t 3), (some (17, true)), []⟩,
  ⟨some 21, .load none (.t 20), (some (17, true)), []⟩,
  ⟨some 22, .bin .eql (.t 19) (.t 21), (some (17, true)), []⟩,
  ⟨some 23, .pick (.t 17) (.t 22) (.c (.bool false)), none, []⟩,
  ⟨some 24, .move (.t 23), none, []⟩,
  ⟨some 25, .fldAddr 3 (.t 2), (some (24, true)), []⟩,
  ⟨some 26, .load none (.t 25), (some (24, true)), []⟩,
  ⟨some 27, .fldAddr 3 (.t 3), (some (24, true)), []⟩,
  ⟨some 28, .load none (.t 27), (some (24, true)), []⟩,
  ⟨some 29, .bin .eql (.t 26) (.t 28), (some (24, true)), []⟩,
  ⟨some 30, .pick (.t 24) (.t 29) (.c (.bool false)), none, []⟩,
  ⟨some 31, .move (.t 30), none, []⟩,
  ⟨some 32, .fldAddr 4 (.t 2), (some (31, true)), []⟩,
  ⟨some 33, .load none (.t 32), (some (31, true)), []⟩,
  ⟨some 34, .fldAddr 4 (.t 3), (some (31, true)), []⟩,
  ⟨some 35, .load none (.t 34), (some (31, true)), []⟩,
  ⟨some 36, .bin .eql (.t 33) (.t 35), (some (31, true)), []⟩,
  ⟨some 37, .pick (.t 31) (.t 36) (.c (.bool false)), none, []⟩,
  ⟨some 38, .move (.t 37), none, []⟩,
  ⟨some 39, .fldAddr 5 (.t 2), (some (38, true)), []⟩,
  ⟨some 40, .load none (.t 39), (some (38, true)), []⟩,
  ⟨some 41, .fldAddr 5 (.t 3), (some (38, true)), []⟩,
  ⟨some 42, .load none (.t 41), (some (38, true)), []⟩,
  ⟨some 43, .bin .eql (.t 40) (.t 42), (some (38, true)), []⟩,
  ⟨some 44, .pick (.t 38) (.t 43) (.c (.bool false)), none, []⟩,
  ⟨some 45, .move (.t 44), none, []⟩,
  ⟨some 46, .fldAddr 6 (.t 2), (some (45, true)), []⟩,
  ⟨some 47, .load none (.t 46), (some (45, true)), []⟩,
  ⟨some 48, .fldAddr 6 (.t 3), (some (45, true)), []⟩,
  ⟨some 49, .load none (.t 48), (some (45, true)), []⟩,
  ⟨some 50, .bin .eql (.t 47) (.t 49), (some (45, true)), []⟩,
  ⟨some 51, .pick (.t 45) (.t 50) (.c (.bool false)), none, []⟩,
  ⟨some 52, .move (.t 51), none, []⟩,
  ⟨some 53, .fldAddr 7 (.t 2), (some (52, true)), []⟩,
  ⟨some 54, .load none (.t 53), (some (52, true)), []⟩,
  ⟨some 55, .fldAddr 7 (.t 3), (some (52, true)), []⟩,
  ⟨some 56, .load none (.t 55), (some (52, true)), []⟩,
  ⟨some 57, .bin .eql (.t 54) (.t 56), (some (52, true)), []⟩,
  ⟨some 58, .pick (.t 52) (.t 57) (.c (.bool false)), none, []⟩,
  ⟨some 59, .move (.t 58), none, []⟩,
  ⟨some 60, .fldAddr 8 (.t 2), (some (59, true)), []⟩,
  ⟨some 61, .load none (.t 60), (some (59, true)), []⟩,
  ⟨some 62, .fldAddr 8 (.t 3), (some (59, true)), []⟩,
  ⟨some 63, .load none (.t 62), (some (59, true)), []⟩,
  ⟨some 64, .eq false .b (.t 61) (.t 63), (some (59, true)), []⟩,
  ⟨some 65, .pick (.t 59) (.t 64) (.c (.bool false)), none, []⟩,
  ⟨some 66, .move (.t 65), none, []⟩,
  ⟨some 67, .fldAddr 9 (.t 2), (some (66, true)), []⟩,
  ⟨some 68, .load none (.t 67), (some (66, true)), []⟩,
  ⟨some 69, .fldAddr 9 (.t 3), (some (66, true)), []⟩,
  ⟨some 70, .load none (.t 69), (some (66, true)), []⟩,
  ⟨some 71, .call 64 [(.t 68), (.t 70)], (some (66, true)), []⟩,
  ⟨some 72, .pick (.t 66) (.t 71) (.c (.bool false)), none, []⟩,
  ⟨some 4, .move (.t 72), none, []⟩] none [4])
(.ret)))
def f35 : SFunc := ⟨b35, [.t 4]⟩

/-- watchbill/job.Begin -/
def b36 : SCode := (
.seq (.ops [⟨some 1, .box (.t 0), none, []⟩,
  ⟨some 2, .alloc (.agg [(.bool false), .nils, (.int .i64 0), (.int .i64 0), (.int .i64 0), (.int .i64 0), (.int .i64 0), (.int .i64 0), (.bool false), .nils]), none, []⟩,
  ⟨some 3, .move (.c (.bool false)), none, []⟩] none [1, 2])
(.seq (.ops [⟨some 7, .load (some 10) (.t 1), none, []⟩,
  ⟨some 8, .call 30 [(.t 7)], none, []⟩,
  ⟨some 6, .move (.t 8), none, []⟩,
  ⟨some 9, .ext 0 (.t 6), none, []⟩,
  ⟨some 10, .ext 1 (.t 6), none, []⟩,
  ⟨some 4, .alloc (.agg [(.int .i64 0), (.int .i64 0), (.int .i64 0), (.int .i64 0), .nils]), none, []⟩,
  ⟨none, .store (some 5) (.t 4) (.t 9), none, []⟩,
  ⟨some 5, .move (.t 10), none, []⟩] none [1, 2, 4, 5])
(.seq (.seq (.ops [⟨some 11, .move (.t 5), none, []⟩,
  ⟨some 12, .not (.t 11), none, []⟩,
  ⟨some 13, .move (.t 12), none, []⟩,
  ⟨some 14, .fldAddr 0 (.t 4), (some (13, false)), []⟩,
  ⟨some 15, .load none (.t 14), (some (13, false)), []⟩,
  ⟨some 16, .bin .neq (.t 15) (.c (.int .i64 1)), (some (13, false)), []⟩,
  ⟨some 17, .pick (.t 13) (.c (.bool true)) (.t 16), none, []⟩,
  ⟨some 18, .move (.t 17), none, []⟩,
  ⟨some 19, .fldAddr 3 (.t 1), (some (18, false)), []⟩,
  ⟨some 20, .load none (.t 19), (some (18, false)), []⟩,
  ⟨some 21, .bin .neq (.t 20) (.c (.int .i64 0)), (some (18, false)), []⟩,
  ⟨some 22, .pick (.t 18) (.c (.bool true)) (.t 21), none, []⟩,
  ⟨some 23, .move (.t 22), none, []⟩,
  ⟨some 24, .fldAddr 4 (.t 1), (some (23, false)), []⟩,
  ⟨some 25, .load none (.t 24), (some (23, false)), []⟩,
  ⟨some 26, .fldAddr 5 (.t 1), (some (23, false)), []⟩,
  ⟨some 27, .load none (.t 26), (some (23, false)), []⟩,
  ⟨some 28, .bin .geq (.t 25) (.t 27), (some (23, false)), []⟩,
  ⟨some 29, .pick (.t 23) (.c (.bool true)) (.t 28), none, []⟩] none [1, 2, 4, 29])
(.cond (.t 29)
  (.seq (.ops [⟨some 30, .load (some 10) (.t 1), none, []⟩,
    ⟨none, .store (some 10) (.t 2) (.t 30), none, []⟩,
    ⟨some 3, .move (.c (.bool false)), none, []⟩] none [2, 3])
  (.ret))
  (.skip)))
(.seq (.ops [⟨some 31, .fldAddr 1 (.t 4), none, []⟩,
  ⟨some 32, .load none (.t 31), none, []⟩,
  ⟨some 33, .fldAddr 3 (.t 1), none, []⟩,
  ⟨none, .store none (.t 33) (.t 32), none, []⟩] none [1, 2])
(.seq (.ops [⟨some 34, .load (some 10) (.t 1), none, []⟩,
  ⟨none, .store (some 10) (.t 2) (.t 34), none, []⟩,
  ⟨some 3, .move (.c (.bool true)), none, []⟩] none [2, 3])
(.ret))))))
def f36 : SFunc := ⟨b36, [.cell (some 10) 2, .t 3]⟩

/-- watchbill/watchbillref21.Begin -/
def b37 : SCode := (
.seq (.ops [⟨some 1, .box (.t 0), none, []⟩,
  ⟨some 2, .alloc (.agg [(.bool false), .nils, (.int .i64 0), (.int .i64 0), (.int .i64 0), (.int .i64 0), (.int .i64 0), (.int .i64 0), (.bool false), .nils]), none, []⟩,
  ⟨some 3, .move (.c (.bool false)), none, []⟩] none [1, 2])
(.seq (.ops [⟨some 7, .load (some 10) (.t 1), none, []⟩,
  ⟨some 8, .call 31 [(.t 7)], none, []⟩,
  ⟨some 6, .move (.t 8), none, []⟩,
  ⟨some 9, .ext 0 (.t 6), none, []⟩,
  ⟨some 10, .ext 1 (.t 6), none, []⟩,
  ⟨some 4, .alloc (.agg [(.int .i64 0), (.int .i64 0), (.int .i64 0), (.int .i64 0), .nils]), none, []⟩,
  ⟨none, .store (some 5) (.t 4) (.t 9), none, []⟩,
  ⟨some 5, .move (.t 10), none, []⟩] none [1, 2, 4, 5])
(.seq (.seq (.ops [⟨some 11, .move (.t 5), none, []⟩,
  ⟨some 12, .not (.t 11), none, []⟩,
  ⟨some 13, .move (.t 12), none, []⟩,
  ⟨some 14, .fldAddr 0 (.t 4), (some (13, false)), []⟩,
  ⟨some 15, .load none (.t 14), (some (13, false)), []⟩,
  ⟨some 16, .bin .neq (.t 15) (.c (.int .i64 1)), (some (13, false)), []⟩,
  ⟨some 17, .pick (.t 13) (.c (.bool true)) (.t 16), none, []⟩,
  ⟨some 18, .move (.t 17), none, []⟩,
  ⟨some 19, .fldAddr 3 (.t 1), (some (18, false)), []⟩,
  ⟨some 20, .load none (.t 19), (some (18, false)), []⟩,
  ⟨some 21, .bin .neq (.t 20) (.c (.int .i64 0)), (some (18, false)), []⟩,
  ⟨some 22, .pick (.t 18) (.c (.bool true)) (.t 21), none, []⟩,
  ⟨some 23, .move (.t 22), none, []⟩,
  ⟨some 24, .fldAddr 4 (.t 1), (some (23, false)), []⟩,
  ⟨some 25, .load none (.t 24), (some (23, false)), []⟩,
  ⟨some 26, .fldAddr 5 (.t 1), (some (23, false)), []⟩,
  ⟨some 27, .load none (.t 26), (some (23, false)), []⟩,
  ⟨some 28, .bin .geq (.t 25) (.t 27), (some (23, false)), []⟩,
  ⟨some 29, .pick (.t 23) (.c (.bool true)) (.t 28), none, []⟩] none [1, 2, 4, 29])
(.cond (.t 29)
  (.seq (.ops [⟨some 30, .load (some 10) (.t 1), none, []⟩,
    ⟨none, .store (some 10) (.t 2) (.t 30), none, []⟩,
    ⟨some 3, .move (.c (.bool false)), none, []⟩] none [2, 3])
  (.ret))
  (.skip)))
(.seq (.ops [⟨some 31, .fldAddr 1 (.t 4), none, []⟩,
  ⟨some 32, .load none (.t 31), none, []⟩,
  ⟨some 33, .fldAddr 3 (.t 1), none, []⟩,
  ⟨none, .store none (.t 33) (.t 32), none, []⟩] none [1, 2])
(.seq (.ops [⟨some 34, .load (some 10) (.t 1), none, []⟩,
  ⟨none, .store (some 10) (.t 2) (.t 34), none, []⟩,
  ⟨some 3, .move (.c (.bool true)), none, []⟩] none [2, 3])
(.ret))))))
def f37 : SFunc := ⟨b37, [.cell (some 10) 2, .t 3]⟩

/-- watchbill/watchbilllaw20.Of -/
def b38 : SCode := (
.seq (.ops [⟨some 1, .box (.t 0), none, []⟩,
  ⟨some 2, .alloc (.agg [(.bool false), .nils, (.int .i64 0), (.int .i64 0), (.int .i64 0), (.int .i64 0), (.int .i64 0), (.int .i64 0), (.bool false), .nils]), none, []⟩] none [1, 2])
(.seq (.ops [⟨some 3, .fldAddr 0 (.t 1), none, []⟩,
  ⟨some 4, .load none (.t 3), none, []⟩,
  ⟨some 5, .fldAddr 1 (.t 1), none, []⟩,
  ⟨some 6, .load none (.t 5), none, []⟩,
  ⟨some 8, .fldAddr 2 (.t 1), none, []⟩,
  ⟨some 9, .load none (.t 8), none, []⟩,
  ⟨some 10, .fldAddr 3 (.t 1), none, []⟩,
  ⟨some 11, .load none (.t 10), none, []⟩,
  ⟨some 12, .fldAddr 4 (.t 1), none, []⟩,
  ⟨some 13, .load none (.t 12), none, []⟩,
  ⟨some 14, .fldAddr 5 (.t 1), none, []⟩,
  ⟨some 15, .load none (.t 14), none, []⟩,
  ⟨some 16, .fldAddr 6 (.t 1), none, []⟩,
  ⟨some 17, .load none (.t 16), none, []⟩,
  ⟨some 18, .fldAddr 7 (.t 1), none, []⟩,
  ⟨some 19, .load none (.t 18), none, []⟩,
  ⟨some 20, .fldAddr 8 (.t 1), none, []⟩,
  ⟨some 21, .load none (.t 20), none, []⟩,
  ⟨some 22, .fldAddr 9 (.t 1), none, []⟩,
  ⟨some 23, .load none (.t 22), none, []⟩,
  ⟨some 7, .call 53 [(.t 6)], none, [1, 5, 7, 9, 11, 13, 15, 17, 19]⟩,
  ⟨some 24, .build [(.bool false), .nils, (.int .i64 0), (.int .i64 0), (.int .i64 0), (.int .i64 0), (.int .i64 0), (.int .i64 0), (.bool false), .nils] [(0, 1, (.t 4)), (1, 1, (.t 7)), (2, 1, (.t 9)), (3, 1, (.t 11)), (4, 1, (.t 13)), (5, 1, (.t 15)), (6, 1, (.t 17)), (7, 1, (.t 19)), (8, 1, (.t 21)), (9, 1, (.t 23))], none, []⟩,
  ⟨none, .store (some 10) (.t 2) (.t 24), none, []⟩] (some [(0, []), (1, [0]), (2, []), (3, [2]), (5, []), (6, [4]), (7, []), (8, [6]), (9, []), (10, [8]), (11, []), (12, [10]), (13, []), (14, [12]), (15, []), (16, [14]), (17, []), (18, [16]), (19, []), (20, [18]), (4, [3, 2]), (21, [1, 0, 20, 3, 2, 5, 4, 7, 6, 9, 8, 11, 10, 13, 12, 15, 14, 17, 16, 19, 18]), (22, [21, 1, 0, 20, 3, 2, 5, 4, 7, 6, 9, 8, 11, 10, 13, 12, 15, 14, 17, 16, 19, 18])]) [2])
(.ret)))
def f38 : SFunc := ⟨b38, [.cell (some 10) 2]⟩

/-- watchbill/job.Tick -/
def b39 : SCode := (
.seq (.ops [⟨some 1, .box (.t 0), none, []⟩,
  ⟨some 2, .alloc (.agg [(.bool false), .nils, (.int .i64 0), (.int .i64 0), (.int .i64 0), (.int .i64 0), (.int .i64 0), (.int .i64 0), (.bool false), .nils]), none, []⟩,
  ⟨some 3, .move (.c (.bool false)), none, []⟩] none [1, 2])
(.seq (.seq (.ops [⟨some 4, .fldAddr 0 (.t 1), none, []⟩,
  ⟨some 5, .load none (.t 4), none, []⟩,
  ⟨some 6, .not (.t 5), none, []⟩,
  ⟨some 7, .move (.t 6), none, []⟩,
  ⟨some 8, .fldAddr 3 (.t 1), (some (7, false)), []⟩,
  ⟨some 9, .load none (.t 8), (some (7, false)), []⟩,
  ⟨some 10, .bin .eql (.t 9) (.c (.int .i64 0)), (some (7, false)), []⟩,
  ⟨some 11, .pick (.t 7) (.c (.bool true)) (.t 10), none, []⟩] none [1, 2, 11])
(.cond (.t 11)
  (.seq (.ops [⟨some 12, .load (some 10) (.t 1), none, []⟩,
    ⟨none, .store (some 10) (.t 2) (.t 12), none, []⟩,
    ⟨some 3, .move (.c (.bool false)), none, []⟩] none [2, 3])
  (.ret))
  (.skip)))
(.seq (.ops [⟨some 13, .fldAddr 3 (.t 1), none, []⟩,
  ⟨some 14, .load none (.t 13), none, []⟩,
  ⟨some 15, .bin .sub (.t 14) (.c (.int .i64 1)), none, []⟩,
  ⟨some 16, .fldAddr 3 (.t 1), none, []⟩,
  ⟨none, .store none (.t 16) (.t 15), none, []⟩] none [1, 2])
(.seq (.ops [⟨some 17, .fldAddr 4 (.t 1), none, []⟩,
  ⟨some 18, .load none (.t 17), none, []⟩,
  ⟨some 19, .bin .add (.t 18) (.c (.int .i64 1)), none, []⟩,
  ⟨some 20, .fldAddr 4 (.t 1), none, []⟩,
  ⟨none, .store none (.t 20) (.t 19), none, []⟩] none [1, 2])
(.seq (.seq (.ops [⟨some 21, .fldAddr 3 (.t 1), none, []⟩,
  ⟨some 22, .load none (.t 21), none, []⟩,
  ⟨some 23, .bin .eql (.t 22) (.c (.int .i64 0)), none, []⟩] none [1, 2, 23])
(.cond (.t 23)
  (.seq (.ops [⟨some 24, .fldAddr 2 (.t 1), none, []⟩,
    ⟨some 25, .load none (.t 24), none, []⟩,
    ⟨some 26, .bin .add (.t 25) (.c (.int .i64 1)), none, []⟩,
    ⟨some 27, .fldAddr 2 (.t 1), none, []⟩,
    ⟨none, .store none (.t 27) (.t 26), none, []⟩] none [1, 2])
  (.seq (.ops [⟨some 28, .load (some 10) (.t 1), none, []⟩,
    ⟨none, .store (some 10) (.t 2) (.t 28), none, []⟩,
    ⟨some 3, .move (.c (.bool false)), none, []⟩] none [2, 3])
  (.ret)))
  (.skip)))
(.seq (.ops [⟨some 29, .load (some 10) (.t 1), none, []⟩,
  ⟨some 30, .fldAddr 4 (.t 1), none, []⟩,
  ⟨some 31, .load none (.t 30), none, []⟩,
  ⟨some 32, .fldAddr 5 (.t 1), none, []⟩,
  ⟨some 33, .load none (.t 32), none, []⟩,
  ⟨some 34, .bin .eql (.t 31) (.t 33), none, []⟩,
  ⟨none, .store (some 10) (.t 2) (.t 29), none, [2, 4]⟩,
  ⟨some 3, .move (.t 34), none, []⟩] (some [(0, []), (1, []), (2, [1]), (3, []), (4, [3]), (5, [2, 1, 4, 3]), (6, [0]), (7, [5, 2, 1, 4, 3, 6, 0])]) [2, 3])
(.ret)))))))
def f39 : SFunc := ⟨b39, [.cell (some 10) 2, .t 3]⟩

/-- watchbill/watchbillref21.Tick -/
def b40 : SCode := (
.seq (.ops [⟨some 1, .box (.t 0), none, []⟩,
  ⟨some 2, .alloc (.agg [(.bool false), .nils, (.int .i64 0), (.int .i64 0), (.int .i64 0), (.int .i64 0), (.int .i64 0), (.int .i64 0), (.bool false), .nils]), none, []⟩,
  ⟨some 3, .move (.c (.bool false)), none, []⟩] none [1, 2])
(.seq (.seq (.ops [⟨some 4, .fldAddr 0 (.t 1), none, []⟩,
  ⟨some 5, .load none (.t 4), none, []⟩,
  ⟨some 6, .not (.t 5), none, []⟩,
  ⟨some 7, .move (.t 6), none, []⟩,
  ⟨some 8, .fldAddr 3 (.t 1), (some (7, false)), []⟩,
  ⟨some 9, .load none (.t 8), (some (7, false)), []⟩,
  ⟨some 10, .bin .eql (.t 9) (.c (.int .i64 0)), (some (7, false)), []⟩,
  ⟨some 11, .pick (.t 7) (.c (.bool true)) (.t 10), none, []⟩] none [1, 2, 11])
(.cond (.t 11)
  (.seq (.ops [⟨some 12, .load (some 10) (.t 1), none, []⟩,
    ⟨none, .store (some 10) (.t 2) (.t 12), none, []⟩,
    ⟨some 3, .move (.c (.bool false)), none, []⟩] none [2, 3])
  (.ret))
  (.skip)))
(.seq (.ops [⟨some 13, .fldAddr 3 (.t 1), none, []⟩,
  ⟨some 14, .load none (.t 13), none, []⟩,
  ⟨some 15, .bin .sub (.t 14) (.c (.int .i64 1)), none, []⟩,
  ⟨some 16, .fldAddr 3 (.t 1), none, []⟩,
  ⟨none, .store none (.t 16) (.t 15), none, []⟩] none [1, 2])
(.seq (.ops [⟨some 17, .fldAddr 4 (.t 1), none, []⟩,
  ⟨some 18, .load none (.t 17), none, []⟩,
  ⟨some 19, .bin .add (.t 18) (.c (.int .i64 1)), none, []⟩,
  ⟨some 20, .fldAddr 4 (.t 1), none, []⟩,
  ⟨none, .store none (.t 20) (.t 19), none, []⟩] none [1, 2])
(.seq (.seq (.ops [⟨some 21, .fldAddr 3 (.t 1), none, []⟩,
  ⟨some 22, .load none (.t 21), none, []⟩,
  ⟨some 23, .bin .eql (.t 22) (.c (.int .i64 0)), none, []⟩] none [1, 2, 23])
(.cond (.t 23)
  (.seq (.ops [⟨some 24, .fldAddr 2 (.t 1), none, []⟩,
    ⟨some 25, .load none (.t 24), none, []⟩,
    ⟨some 26, .bin .add (.t 25) (.c (.int .i64 1)), none, []⟩,
    ⟨some 27, .fldAddr 2 (.t 1), none, []⟩,
    ⟨none, .store none (.t 27) (.t 26), none, []⟩] none [1, 2])
  (.seq (.ops [⟨some 28, .load (some 10) (.t 1), none, []⟩,
    ⟨none, .store (some 10) (.t 2) (.t 28), none, []⟩,
    ⟨some 3, .move (.c (.bool false)), none, []⟩] none [2, 3])
  (.ret)))
  (.skip)))
(.seq (.ops [⟨some 29, .load (some 10) (.t 1), none, []⟩,
  ⟨some 30, .fldAddr 4 (.t 1), none, []⟩,
  ⟨some 31, .load none (.t 30), none, []⟩,
  ⟨some 32, .fldAddr 5 (.t 1), none, []⟩,
  ⟨some 33, .load none (.t 32), none, []⟩,
  ⟨some 34, .bin .eql (.t 31) (.t 33), none, []⟩,
  ⟨none, .store (some 10) (.t 2) (.t 29), none, [2, 4]⟩,
  ⟨some 3, .move (.t 34), none, []⟩] (some [(0, []), (1, []), (2, [1]), (3, []), (4, [3]), (5, [2, 1, 4, 3]), (6, [0]), (7, [5, 2, 1, 4, 3, 6, 0])]) [2, 3])
(.ret)))))))
def f40 : SFunc := ⟨b40, [.cell (some 10) 2, .t 3]⟩

/-- watchbill/job.Step -/
def b41 : SCode := (
.seq (.ops [⟨some 1, .box (.t 0), none, []⟩,
  ⟨some 2, .alloc (.agg [(.bool false), .nils, (.int .i64 0), (.int .i64 0), (.int .i64 0), (.int .i64 0), (.int .i64 0), (.int .i64 0), (.bool false), .nils]), none, []⟩] none [1, 2])
(.seq (.ops [⟨some 3, .fldAddr 2 (.t 1), none, []⟩,
  ⟨some 4, .load none (.t 3), none, []⟩,
  ⟨some 5, .bin .add (.t 4) (.c (.int .i64 1)), none, []⟩,
  ⟨some 6, .fldAddr 2 (.t 1), none, []⟩,
  ⟨none, .store none (.t 6) (.t 5), none, []⟩,
  ⟨some 7, .fldAddr 3 (.t 1), none, []⟩,
  ⟨none, .store none (.t 7) (.c (.int .i64 0)), none, []⟩,
  ⟨some 8, .fldAddr 8 (.t 1), none, []⟩,
  ⟨none, .store none (.t 8) (.c (.bool false)), none, []⟩] none [1, 2])
(.seq (.ops [⟨some 9, .load (some 10) (.t 1), none, []⟩,
  ⟨none, .store (some 10) (.t 2) (.t 9), none, []⟩] none [2])
(.ret))))
def f41 : SFunc := ⟨b41, [.cell (some 10) 2]⟩

/-- watchbill/watchbillref21.Step -/
def b42 : SCode := (
.seq (.ops [⟨some 1, .box (.t 0), none, []⟩,
  ⟨some 2, .alloc (.agg [(.bool false), .nils, (.int .i64 0), (.int .i64 0), (.int .i64 0), (.int .i64 0), (.int .i64 0), (.int .i64 0), (.bool false), .nils]), none, []⟩] none [1, 2])
(.seq (.ops [⟨some 3, .fldAddr 2 (.t 1), none, []⟩,
  ⟨some 4, .load none (.t 3), none, []⟩,
  ⟨some 5, .bin .add (.t 4) (.c (.int .i64 1)), none, []⟩,
  ⟨some 6, .fldAddr 2 (.t 1), none, []⟩,
  ⟨none, .store none (.t 6) (.t 5), none, []⟩] none [1, 2])
(.seq (.ops [⟨some 7, .fldAddr 3 (.t 1), none, []⟩,
  ⟨none, .store none (.t 7) (.c (.int .i64 0)), none, []⟩] none [1, 2])
(.seq (.ops [⟨some 8, .fldAddr 8 (.t 1), none, []⟩,
  ⟨none, .store none (.t 8) (.c (.bool false)), none, []⟩] none [1, 2])
(.seq (.ops [⟨some 9, .load (some 10) (.t 1), none, []⟩,
  ⟨none, .store (some 10) (.t 2) (.t 9), none, []⟩] none [2])
(.ret))))))
def f42 : SFunc := ⟨b42, [.cell (some 10) 2]⟩

/-- watchbill/job.Take -/
def b43 : SCode := (
.seq (.ops [⟨some 2, .box (.t 0), none, []⟩,
  ⟨some 4, .alloc (.agg [(.bool false), .nils, (.int .i64 0), (.int .i64 0), (.int .i64 0), (.int .i64 0), (.int .i64 0), (.int .i64 0), (.bool false), .nils]), none, []⟩] none [1, 2, 4])
(.seq (.ops [⟨some 5, .fldAddr 9 (.t 2), none, []⟩,
  ⟨some 6, .load none (.t 5), none, []⟩,
  ⟨some 7, .call 55 [(.t 6)], none, []⟩,
  ⟨some 8, .move (.t 1), none, []⟩,
  ⟨some 9, .buildSl 1 [(.int .i64 0)] [(0, 1, (.t 8))], none, []⟩,
  ⟨some 10, .append 1 (.t 7) (.t 9), none, []⟩,
  ⟨some 11, .fldAddr 9 (.t 2), none, []⟩,
  ⟨none, .store none (.t 11) (.t 10), none, []⟩] none [2, 4])
(.seq (.ops [⟨some 12, .load (some 10) (.t 2), none, []⟩,
  ⟨none, .store (some 10) (.t 4) (.t 12), none, []⟩] none [4])
(.ret))))
def f43 : SFunc := ⟨b43, [.cell (some 10) 4]⟩

/-- watchbill/watchbillref21.Take -/
def b44 : SCode := (
.seq (.ops [⟨some 2, .box (.t 0), none, []⟩,
  ⟨some 4, .alloc (.agg [(.bool false), .nils, (.int .i64 0), (.int .i64 0), (.int .i64 0), (.int .i64 0), (.int .i64 0), (.int .i64 0), (.bool false), .nils]), none, []⟩] none [1, 2, 4])
(.seq (.ops [⟨some 5, .buildSl 0 [] [], none, []⟩,
  ⟨some 6, .fldAddr 9 (.t 2), none, []⟩,
  ⟨some 7, .load none (.t 6), none, []⟩,
  ⟨some 8, .append 1 (.t 5) (.t 7), none, []⟩,
  ⟨some 9, .move (.t 1), none, []⟩,
  ⟨some 10, .buildSl 1 [(.int .i64 0)] [(0, 1, (.t 9))], none, []⟩,
  ⟨some 11, .append 1 (.t 8) (.t 10), none, []⟩,
  ⟨some 12, .fldAddr 9 (.t 2), none, []⟩,
  ⟨none, .store none (.t 12) (.t 11), none, []⟩] none [2, 4])
(.seq (.ops [⟨some 13, .load (some 10) (.t 2), none, []⟩,
  ⟨none, .store (some 10) (.t 4) (.t 13), none, []⟩] none [4])
(.ret))))
def f44 : SFunc := ⟨b44, [.cell (some 10) 4]⟩

/-- watchbill/job.Give -/
def b45 : SCode := (
.seq (.ops [⟨some 2, .box (.t 0), none, []⟩,
  ⟨some 4, .alloc (.agg [(.bool false), .nils, (.int .i64 0), (.int .i64 0), (.int .i64 0), (.int .i64 0), (.int .i64 0), (.int .i64 0), (.bool false), .nils]), none, []⟩] none [1, 2, 4])
(.seq (.ops [⟨some 5, .move (.c .nils), none, []⟩] none [1, 2, 4, 5])
(.seq (.skip)
(.seq (.seq (.ops [⟨some 8, .fldAddr 9 (.t 2), none, []⟩,
  ⟨some 9, .load none (.t 8), none, []⟩,
  ⟨some 10, .len .sl (.t 9), none, []⟩,
  ⟨some 11, .move (.c (.int .i64 0)), none, []⟩] none [1, 2, 4, 5, 9, 10, 11])
(.block 0 (.loop [1, 2, 4, 5, 9, 10, 11] (.seq (.ops [⟨some 12, .bin .lss (.t 11) (.t 10), none, []⟩] none [1, 2, 4, 5, 9, 10, 11, 12])
    (.seq (.cond (.t 12)
      (.skip)
      (.exit 0))
    (.seq (.block 1 (.seq (.ops [⟨some 13, .idxAddr 1 (.t 9) (.t 11), none, []⟩,
        ⟨some 14, .load none (.t 13), none, []⟩,
        ⟨some 7, .move (.t 14), none, []⟩] none [1, 2, 4, 5, 7, 9, 10, 11])
      (.seq (.seq (.ops [⟨some 15, .move (.t 7), none, []⟩,
        ⟨some 16, .move (.t 1), none, []⟩,
        ⟨some 17, .bin .eql (.t 15) (.t 16), none, []⟩] none [1, 2, 4, 5, 7, 9, 10, 11, 17])
      (.cond (.t 17)
        (.exit 1)
        (.skip)))
      (.ops [⟨some 18, .move (.t 5), none, []⟩,
        ⟨some 19, .move (.t 7), none, []⟩,
        ⟨some 20, .buildSl 1 [(.int .i64 0)] [(0, 1, (.t 19))], none, []⟩,
        ⟨some 21, .append 1 (.t 18) (.t 20), none, []⟩,
        ⟨some 5, .move (.t 21), none, []⟩] none [1, 2, 4, 5, 9, 10, 11]))))
    (.ops [⟨some 22, .bin .add (.t 11) (.c (.int .i64 1)), none, []⟩,
      ⟨some 11, .move (.t 22), none, []⟩] none [1, 2, 4, 5, 9, 10, 11])))))))
(.seq (.ops [⟨some 23, .move (.t 5), none, []⟩,
  ⟨some 24, .fldAddr 9 (.t 2), none, []⟩,
  ⟨none, .store none (.t 24) (.t 23), none, []⟩] none [2, 4])
(.seq (.ops [⟨some 25, .load (some 10) (.t 2), none, []⟩,
  ⟨none, .store (some 10) (.t 4) (.t 25), none, []⟩] none [4])
(.ret)))))))
def f45 : SFunc := ⟨b45, [.cell (some 10) 4]⟩

/-- watchbill/watchbillref21.Give -/
def b46 : SCode := (
.seq (.ops [⟨some 2, .box (.t 0), none, []⟩,
  ⟨some 4, .alloc (.agg [(.bool false), .nils, (.int .i64 0), (.int .i64 0), (.int .i64 0), (.int .i64 0), (.int .i64 0), (.int .i64 0), (.bool false), .nils]), none, []⟩] none [1, 2, 4])
(.seq (.ops [⟨some 5, .move (.c .nils), none, []⟩] none [1, 2, 4, 5])
(.seq (.seq (.ops [⟨some 6, .move (.c (.int .i64 0)), none, []⟩] none [1, 2, 4, 5, 6])
(.block 0 (.loop [1, 2, 4, 5, 6] (.seq (.seq (.ops [⟨some 7, .move (.t 6), none, []⟩,
      ⟨some 8, .fldAddr 9 (.t 2), none, []⟩,
      ⟨some 9, .load none (.t 8), none, []⟩,
      ⟨some 10, .len .sl (.t 9), none, []⟩,
      ⟨some 11, .bin .lss (.t 7) (.t 10), none, []⟩] none [1, 2, 4, 5, 6, 11])
    (.cond (.t 11)
      (.skip)
      (.exit 0)))
    (.seq (.block 1 (.seq (.ops [⟨some 14, .fldAddr 9 (.t 2), none, []⟩,
        ⟨some 15, .load none (.t 14), none, []⟩,
        ⟨some 16, .move (.t 6), none, []⟩,
        ⟨some 17, .idxAddr 1 (.t 15) (.t 16), none, []⟩,
        ⟨some 18, .load none (.t 17), none, []⟩,
        ⟨some 19, .move (.t 1), none, []⟩,
        ⟨some 20, .bin .neq (.t 18) (.t 19), none, []⟩] none [1, 2, 4, 5, 6, 20])
      (.cond (.t 20)
        (.ops [⟨some 21, .move (.t 5), none, []⟩,
          ⟨some 22, .fldAddr 9 (.t 2), none, []⟩,
          ⟨some 23, .load none (.t 22), none, []⟩,
          ⟨some 24, .move (.t 6), none, []⟩,
          ⟨some 25, .idxAddr 1 (.t 23) (.t 24), none, []⟩,
          ⟨some 26, .load none (.t 25), none, []⟩,
          ⟨some 27, .buildSl 1 [(.int .i64 0)] [(0, 1, (.t 26))], none, []⟩,
          ⟨some 28, .append 1 (.t 21) (.t 27), none, []⟩,
          ⟨some 5, .move (.t 28), none, []⟩] none [1, 2, 4, 5, 6])
        (.skip))))
    (.ops [⟨some 12, .move (.t 6), none, []⟩,
      ⟨some 13, .bin .add (.t 12) (.c (.int .i64 1)), none, []⟩,
      ⟨some 6, .move (.t 13), none, []⟩] none [1, 2, 4, 5, 6]))))))
(.seq (.ops [⟨some 29, .move (.t 5), none, []⟩,
  ⟨some 30, .fldAddr 9 (.t 2), none, []⟩,
  ⟨none, .store none (.t 30) (.t 29), none, []⟩] none [2, 4])
(.seq (.ops [⟨some 31, .load (some 10) (.t 2), none, []⟩,
  ⟨none, .store (some 10) (.t 4) (.t 31), none, []⟩] none [4])
(.ret))))))
def f46 : SFunc := ⟨b46, [.cell (some 10) 4]⟩

/-- watchbill/job.New -/
def b48 : SCode := (
.seq (.ops [⟨some 8, .alloc (.agg [(.bool false), .nils, (.int .i64 0), (.int .i64 0), (.int .i64 0), (.int .i64 0), (.int .i64 0), (.int .i64 0), (.bool false), .nils]), none, []⟩] none [0, 1, 2, 3, 8])
(.seq (.ops [⟨some 9, .move (.t 0), none, []⟩,
  ⟨some 10, .call 65 [(.t 9)], none, []⟩,
  ⟨some 11, .move (.t 1), none, []⟩,
  ⟨some 12, .move (.t 2), none, []⟩,
  ⟨some 13, .move (.t 3), none, []⟩,
  ⟨some 14, .build [(.bool false), .nils, (.int .i64 0), (.int .i64 0), (.int .i64 0), (.int .i64 0), (.int .i64 0), (.int .i64 0), (.bool false), .nils] [(0, 1, (.c (.bool true))), (1, 1, (.t 10)), (5, 1, (.t 11)), (6, 1, (.t 12)), (7, 1, (.t 13))], none, []⟩,
  ⟨none, .store (some 10) (.t 8) (.t 14), none, []⟩] none [8])
(.ret)))
def f48 : SFunc := ⟨b48, [.cell (some 10) 8]⟩

/-- watchbill/op.Same -/
def b51 : SCode := (
.seq (.ops [⟨some 2, .box (.t 0), none, []⟩,
  ⟨some 3, .box (.t 1), none, []⟩,
  ⟨some 4, .move (.c (.bool false)), none, []⟩] none [2, 3])
(.seq (.ops [⟨some 5, .fldAddr 0 (.t 2), none, []⟩,
  ⟨some 6, .load none (.t 5), none, []⟩,
  ⟨some 7, .fldAddr 0 (.t 3), none, []⟩,
  ⟨some 8, .load none (.t 7), none, []⟩,
  ⟨some 9, .bin .eql (.t 6) (.t 8), none, []⟩,
  ⟨some 10, .move (.t 9), none, []⟩,
  ⟨some 11, .fldAddr 1 (.t 2), (some (10, true)), []⟩,
  ⟨some 12, .load none (.t 11), (some (10, true)), []⟩,
  ⟨some 13, .fldAddr 1 (.t 3), (some (10, true)), []⟩,
  ⟨some 14, .load none (.t 13), (some (10, true)), []⟩,
  ⟨some 15, .bin .eql (.t 12) (.t 14), (some (10, true)), []⟩,
  ⟨some 16, .pick (.t 10) (.t 15) (.c (.bool false)), none, []⟩,
  ⟨some 17, .move (.t 16), none, []⟩,
  ⟨some 18, .fldAddr 2 (.t 2), (some (17, true)), []⟩,
  ⟨some 19, .load none (.t 18), (some (17, true)), []⟩,
  ⟨some 20, .fldAddr 2 (.t 3), (some (17, true)), []⟩,
  ⟨some 21, .load none (.t 20), (some (17, true)), []⟩,
  ⟨some 22, .bin .eql (.t 19) (.t 21), (some (17, true)), []⟩,
  ⟨some 23, .pick (.t 17) (.t 22) (.c (.bool false)), none, []⟩,
  ⟨some 24, .move (.t 23), none, []⟩,
  ⟨some 25, .fldAddr 3 (.t 2), (some (24, true)), []⟩,
  ⟨some 26, .load none (.t 25), (some (24, true)), []⟩,
  ⟨some 27, .fldAddr 3 (.t 3), (some (24, true)), []⟩,
  ⟨some 28, .load none (.t 27), (some (24, true)), []⟩,
  ⟨some 29, .bin .eql (.t 26) (.t 28), (some (24, true)), []⟩,
  ⟨some 30, .pick (.t 24) (.t 29) (.c (.bool false)), none, []⟩,
  ⟨some 31, .move (.t 30), none, []⟩,
  ⟨some 32, .fldAddr 4 (.t 2), (some (31, true)), []⟩,
  ⟨some 33, .load none (.t 32), (some (31, true)), []⟩,
  ⟨some 34, .fldAddr 4 (.t 3), (some (31, true)), []⟩,
  ⟨some 35, .load none (.t 34), (some (31, true)), []⟩,
  ⟨some 36, .call 66 [(.t 33), (.t 35)], (some (31, true)), []⟩,
  ⟨some 37, .pick (.t 31) (.t 36) (.c (.bool false)), none, []⟩,
  ⟨some 4, .move (.t 37), none, []⟩] none [4])
(.ret)))
def f51 : SFunc := ⟨b51, [.t 4]⟩

/-- watchbill/watchbilllaw7.Two -/
def b52 : SCode := (
.seq (.ops [⟨some 0, .alloc (.agg [(.int .i64 0), .nils, .nils]), none, []⟩] none [0])
(.seq (.ops [⟨some 3, .build [(.int .i64 0), (.int .i64 0), (.int .i64 0), (.int .i64 0), .nils] [(0, 1, (.c (.int .i64 1))), (1, 1, (.c (.int .i64 1)))], none, []⟩,
  ⟨some 4, .build [(.int .i64 0), (.int .i64 0), (.int .i64 0), (.int .i64 0), .nils] [(0, 1, (.c (.int .i64 2)))], none, []⟩,
  ⟨some 5, .build [(.int .i64 0), (.int .i64 0), (.int .i64 0), (.int .i64 0), .nils] [(0, 1, (.c (.int .i64 1))), (1, 1, (.c (.int .i64 1)))], none, []⟩,
  ⟨some 6, .build [(.int .i64 0), (.int .i64 0), (.int .i64 0), (.int .i64 0), .nils] [(0, 1, (.c (.int .i64 3)))], none, []⟩,
  ⟨some 7, .buildSl 4 [(.int .i64 0), (.int .i64 0), (.int .i64 0), (.int .i64 0), .nils, (.int .i64 0), (.int .i64 0), (.int .i64 0), (.int .i64 0), .nils, (.int .i64 0), (.int .i64 0), (.int .i64 0), (.int .i64 0), .nils, (.int .i64 0), (.int .i64 0), (.int .i64 0), (.int .i64 0), .nils] [(0, 5, (.t 3)), (5, 5, (.t 4)), (10, 5, (.t 5)), (15, 5, (.t 6))], none, []⟩,
  ⟨some 8, .build [(.str []), (.int .i64 0), (.int .i64 0), (.int .i64 0), .nils] [(0, 1, (.c (.str [102, 97, 115, 116]))), (1, 1, (.c (.int .i64 10))), (2, 1, (.c (.int .i64 8))), (3, 1, (.c (.int .i64 3))), (4, 1, (.t 7))], none, []⟩,
  ⟨some 1, .alloc (.agg [(.str []), (.int .i64 0), (.int .i64 0), (.int .i64 0), .nils]), none, []⟩,
  ⟨none, .store (some 5) (.t 1) (.t 8), none, []⟩] none [0, 1])
(.seq (.ops [⟨some 9, .build [(.int .i64 0), (.int .i64 0), (.int .i64 0), (.int .i64 0), .nils] [(0, 1, (.c (.int .i64 2)))], none, []⟩,
  ⟨some 10, .build [(.int .i64 0), (.int .i64 0), (.int .i64 0), (.int .i64 0), .nils] [(0, 1, (.c (.int .i64 1))), (1, 1, (.c (.int .i64 4)))], none, []⟩,
  ⟨some 11, .build [(.int .i64 0), (.int .i64 0), (.int .i64 0), (.int .i64 0), .nils] [(0, 1, (.c (.int .i64 3)))], none, []⟩,
  ⟨some 12, .build [(.int .i64 0), (.int .i64 0), (.int .i64 0), (.int .i64 0), .nils] [(0, 1, (.c (.int .i64 1))), (1, 1, (.c (.int .i64 1)))], none, []⟩,
  ⟨some 13, .buildSl 4 [(.int .i64 0), (.int .i64 0), (.int .i64 0), (.int .i64 0), .nils, (.int .i64 0), (.int .i64 0), (.int .i64 0), (.int .i64 0), .nils, (.int .i64 0), (.int .i64 0), (.int .i64 0), (.int .i64 0), .nils, (.int .i64 0), (.int .i64 0), (.int .i64 0), (.int .i64 0), .nils] [(0, 5, (.t 9)), (5, 5, (.t 10)), (10, 5, (.t 11)), (15, 5, (.t 12))], none, []⟩,
  ⟨some 14, .build [(.str []), (.int .i64 0), (.int .i64 0), (.int .i64 0), .nils] [(0, 1, (.c (.str [115, 108, 111, 119]))), (1, 1, (.c (.int .i64 20))), (2, 1, (.c (.int .i64 20))), (3, 1, (.c (.int .i64 6))), (4, 1, (.t 13))], none, []⟩,
  ⟨some 2, .alloc (.agg [(.str []), (.int .i64 0), (.int .i64 0), (.int .i64 0), .nils]), none, []⟩,
  ⟨none, .store (some 5) (.t 2) (.t 14), none, []⟩] none [0, 1, 2])
(.seq (.ops [⟨some 15, .load (some 5) (.t 1), none, []⟩,
  ⟨some 16, .load (some 5) (.t 2), none, []⟩,
  ⟨some 17, .buildSl 2 [(.str []), (.int .i64 0), (.int .i64 0), (.int .i64 0), .nils, (.str []), (.int .i64 0), (.int .i64 0), (.int .i64 0), .nils] [(0, 5, (.t 15)), (5, 5, (.t 16))], none, []⟩,
  ⟨some 18, .build [(.int .i64 0), .nils, .nils] [(0, 1, (.c (.int .i64 1))), (2, 1, (.t 17))], none, []⟩,
  ⟨none, .store (some 3) (.t 0) (.t 18), none, []⟩] none [0])
(.ret)))))
def f52 : SFunc := ⟨b52, [.cell (some 3) 0]⟩

/-- watchbill/watchbilllaw5.OfAll -/
def b53 : SCode := (
.seq (.ops [⟨some 2, .move (.c .nils), none, []⟩] none [0])
(.seq (.ops [⟨some 3, .move (.c .nils), none, []⟩] none [0, 3])
(.seq (.seq (.ops [⟨some 4, .move (.c (.int .i64 0)), none, []⟩] none [0, 3, 4])
(.block 0 (.loop [0, 3, 4] (.seq (.seq (.ops [⟨some 5, .move (.t 4), none, []⟩,
      ⟨some 6, .move (.t 0), none, []⟩,
      ⟨some 7, .len .sl (.t 6), none, []⟩,
      ⟨some 8, .bin .lss (.t 5) (.t 7), none, []⟩] none [0, 3, 4, 8])
    (.cond (.t 8)
      (.skip)
      (.exit 0)))
    (.seq (.block 1 (.ops [⟨some 11, .move (.t 3), none, []⟩,
        ⟨some 12, .move (.t 0), none, []⟩,
        ⟨some 13, .move (.t 4), none, []⟩,
        ⟨some 14, .idxAddr 5 (.t 12) (.t 13), none, []⟩,
        ⟨some 15, .load (some 5) (.t 14), none, []⟩,
        ⟨some 16, .call 32 [(.t 15)], none, []⟩,
        ⟨some 17, .buildSl 1 [(.int .i64 0), (.int .i64 0), (.int .i64 0), (.int .i64 0), .nils] [(0, 5, (.t 16))], none, []⟩,
        ⟨some 18, .append 5 (.t 11) (.t 17), none, []⟩,
        ⟨some 3, .move (.t 18), none, []⟩] none [0, 3, 4]))
    (.ops [⟨some 9, .move (.t 4), none, []⟩,
      ⟨some 10, .bin .add (.t 9) (.c (.int .i64 1)), none, []⟩,
      ⟨some 4, .move (.t 10), none, []⟩] none [0, 3, 4]))))))
(.seq (.ops [⟨some 19, .move (.t 3), none, []⟩,
  ⟨some 2, .move (.t 19), none, []⟩] none [2])
(.ret)))))
def f53 : SFunc := ⟨b53, [.t 2]⟩

/-- slices.Clone[[]int,int] -/
def b55 : SCode := (
.seq (.ops [⟨some 2, .move (.c .nils), none, []⟩] none [0])
(.seq (.seq (.ops [⟨some 3, .move (.t 0), none, []⟩,
  ⟨some 4, .eq false .s (.t 3) (.c .nils), none, []⟩] none [0, 4])
(.cond (.t 4)
  (.seq (.ops [⟨some 2, .move (.c .nils), none, []⟩] none [2])
  (.ret))
  (.skip)))
(.seq (.ops [⟨some 5, .buildSl 0 [] [], none, []⟩,
  ⟨some 6, .move (.t 0), none, []⟩,
  ⟨some 7, .append 1 (.t 5) (.t 6), none, []⟩,
  ⟨some 2, .move (.t 7), none, []⟩] none [2])
(.ret))))
def f55 : SFunc := ⟨b55, [.t 2]⟩

/-- (watchbill/graph.Edge).in -/
def b56 : SCode := (
.seq (.ops [⟨some 2, .box (.t 0), none, []⟩,
  ⟨some 4, .move (.c (.bool false)), none, []⟩] none [1, 2])
(.seq (.ops [⟨some 5, .fldAddr 0 (.t 2), none, []⟩,
  ⟨some 6, .load none (.t 5), none, []⟩,
  ⟨some 7, .bin .geq (.t 6) (.c (.int .i64 0)), none, []⟩,
  ⟨some 8, .move (.t 7), none, []⟩,
  ⟨some 9, .fldAddr 0 (.t 2), (some (8, true)), []⟩,
  ⟨some 10, .load none (.t 9), (some (8, true)), []⟩,
  ⟨some 11, .move (.t 1), (some (8, true)), []⟩,
  ⟨some 12, .bin .lss (.t 10) (.t 11), (some (8, true)), []⟩,
  ⟨some 13, .pick (.t 8) (.t 12) (.c (.bool false)), none, []⟩,
  ⟨some 14, .move (.t 13), none, []⟩,
  ⟨some 15, .fldAddr 1 (.t 2), (some (14, true)), []⟩,
  ⟨some 16, .load none (.t 15), (some (14, true)), []⟩,
  ⟨some 17, .bin .geq (.t 16) (.c (.int .i64 0)), (some (14, true)), []⟩,
  ⟨some 18, .pick (.t 14) (.t 17) (.c (.bool false)), none, []⟩,
  ⟨some 19, .move (.t 18), none, []⟩,
  ⟨some 20, .fldAddr 1 (.t 2), (some (19, true)), []⟩,
  ⟨some 21, .load none (.t 20), (some (19, true)), []⟩,
  ⟨some 22, .move (.t 1), (some (19, true)), []⟩,
  ⟨some 23, .bin .lss (.t 21) (.t 22), (some (19, true)), []⟩,
  ⟨some 24, .pick (.t 19) (.t 23) (.c (.bool false)), none, []⟩,
  ⟨some 4, .move (.t 24), none, []⟩] none [4])
(.ret)))
def f56 : SFunc := ⟨b56, [.t 4]⟩

/-- watchbill/graph.reach -/
def b57 : SCode := (
.seq (.ops [⟨some 6, .move (.c .nilm), none, []⟩] none [0, 1, 2])
(.seq (.ops [⟨some 12, .mkmap, none, []⟩,
  ⟨some 7, .move (.t 12), none, []⟩] none [0, 1, 2, 7])
(.seq (.ops [⟨some 13, .move (.t 1), none, []⟩,
  ⟨some 14, .buildSl 1 [(.int .i64 0)] [(0, 1, (.t 13))], none, []⟩,
  ⟨some 8, .move (.t 14), none, []⟩] none [0, 2, 7, 8])
(.seq (.block 0 (.loop [0, 2, 7, 8] (.seq (.seq (.ops [⟨some 15, .move (.t 8), none, []⟩,
      ⟨some 16, .len .sl (.t 15), none, []⟩,
      ⟨some 17, .bin .gtr (.t 16) (.c (.int .i64 0)), none, []⟩] none [0, 2, 7, 8, 17])
    (.cond (.t 17)
      (.skip)
      (.exit 0)))
    (.block 1 (.seq (.ops [⟨some 18, .move (.t 8), none, []⟩,
        ⟨some 19, .move (.t 8), none, []⟩,
        ⟨some 20, .len .sl (.t 19), none, []⟩,
        ⟨some 21, .bin .sub (.t 20) (.c (.int .i64 1)), none, []⟩,
        ⟨some 22, .idxAddr 1 (.t 18) (.t 21), none, []⟩,
        ⟨some 23, .load none (.t 22), none, []⟩,
        ⟨some 9, .move (.t 23), none, []⟩] none [0, 2, 7, 8, 9])
      (.seq (.ops [⟨some 24, .move (.t 8), none, []⟩,
        ⟨some 25, .move (.t 8), none, []⟩,
        ⟨some 26, .len .sl (.t 25), none, []⟩,
        ⟨some 27, .bin .sub (.t 26) (.c (.int .i64 1)), none, []⟩,
        ⟨some 28, .slSl 1 (.t 24) none (some (.t 27)), none, []⟩,
        ⟨some 8, .move (.t 28), none, []⟩] none [0, 2, 7, 8, 9])
      (.seq (.ops [⟨some 29, .move (.t 2), none, []⟩,
        ⟨some 30, .len .sl (.t 29), none, []⟩,
        ⟨some 31, .move (.c (.int .i64 0)), none, []⟩] none [0, 2, 7, 8, 9, 29, 30, 31])
      (.block 2 (.loop [0, 2, 7, 8, 9, 29, 30, 31] (.seq (.ops [⟨some 32, .bin .lss (.t 31) (.t 30), none, []⟩] none [0, 2, 7, 8, 9, 29, 30, 31, 32])
          (.seq (.cond (.t 32)
            (.skip)
            (.exit 2))
          (.seq (.block 3 (.seq (.ops [⟨some 33, .idxAddr 2 (.t 29) (.t 31), none, []⟩,
              ⟨some 34, .load (some 2) (.t 33), none, []⟩,
              ⟨some 11, .alloc (.agg [(.int .i64 0), (.int .i64 0)]), none, []⟩,
              ⟨none, .store (some 2) (.t 11) (.t 34), none, []⟩] none [0, 2, 7, 8, 9, 11, 29, 30, 31])
            (.seq (.ops [⟨some 35, .load (some 2) (.t 11), none, []⟩,
              ⟨some 36, .move (.t 0), none, []⟩,
              ⟨some 37, .call 56 [(.t 35), (.t 36)], none, []⟩,
              ⟨some 38, .move (.t 37), none, []⟩,
              ⟨some 39, .fldAddr 0 (.t 11), (some (38, true)), []⟩,
              ⟨some 40, .load none (.t 39), (some (38, true)), []⟩,
              ⟨some 41, .move (.t 9), (some (38, true)), []⟩,
              ⟨some 42, .bin .eql (.t 40) (.t 41), (some (38, true)), []⟩,
              ⟨some 43, .pick (.t 38) (.t 42) (.c (.bool false)), none, []⟩,
              ⟨some 44, .move (.t 43), none, []⟩,
              ⟨some 45, .move (.t 7), (some (44, true)), []⟩,
              ⟨some 46, .fldAddr 1 (.t 11), (some (44, true)), []⟩,
              ⟨some 47, .load none (.t 46), (some (44, true)), []⟩,
              ⟨some 48, .lookup false .i (.bool false) (.t 45) (.t 47), (some (44, true)), []⟩,
              ⟨some 49, .not (.t 48), (some (44, true)), []⟩,
              ⟨some 50, .pick (.t 44) (.t 49) (.c (.bool false)), none, []⟩] none [0, 2, 7, 8, 9, 11, 29, 30, 31, 50])
            (.cond (.t 50)
              (.seq (.ops [⟨some 51, .move (.t 7), none, []⟩,
                ⟨some 52, .fldAddr 1 (.t 11), none, []⟩,
                ⟨some 53, .load none (.t 52), none, []⟩,
                ⟨none, .mapup .i (.t 51) (.t 53) (.c (.bool true)), none, []⟩] none [0, 2, 7, 8, 9, 11, 29, 30, 31])
              (.ops [⟨some 54, .move (.t 8), none, []⟩,
                ⟨some 55, .fldAddr 1 (.t 11), none, []⟩,
                ⟨some 56, .load none (.t 55), none, []⟩,
                ⟨some 57, .buildSl 1 [(.int .i64 0)] [(0, 1, (.t 56))], none, []⟩,
                ⟨some 58, .append 1 (.t 54) (.t 57), none, []⟩,
                ⟨some 8, .move (.t 58), none, []⟩] none [0, 2, 7, 8, 9, 29, 30, 31]))
              (.skip)))))
          (.ops [⟨some 59, .bin .add (.t 31) (.c (.int .i64 1)), none, []⟩,
            ⟨some 31, .move (.t 59), none, []⟩] none [0, 2, 7, 8, 9, 29, 30, 31])))))))))))))
(.seq (.ops [⟨some 60, .move (.t 7), none, []⟩,
  ⟨some 6, .move (.t 60), none, []⟩] none [6])
(.ret))))))
def f57 : SFunc := ⟨b57, [.t 6]⟩

/-- watchbill/watchbillref21.among -/
def b58 : SCode := (
.seq (.ops [⟨some 4, .move (.c (.bool false)), none, []⟩] none [0, 1])
(.seq (.seq (.ops [⟨some 5, .move (.c (.int .i64 0)), none, []⟩] none [0, 1, 5])
(.block 0 (.loop [0, 1, 5] (.seq (.seq (.ops [⟨some 6, .move (.t 5), none, []⟩,
      ⟨some 7, .move (.t 0), none, []⟩,
      ⟨some 8, .len .sl (.t 7), none, []⟩,
      ⟨some 9, .bin .lss (.t 6) (.t 8), none, []⟩] none [0, 1, 5, 9])
    (.cond (.t 9)
      (.skip)
      (.exit 0)))
    (.seq (.block 1 (.seq (.ops [⟨some 12, .move (.t 0), none, []⟩,
        ⟨some 13, .move (.t 5), none, []⟩,
        ⟨some 14, .idxAddr 1 (.t 12) (.t 13), none, []⟩,
        ⟨some 15, .load none (.t 14), none, []⟩,
        ⟨some 16, .move (.t 1), none, []⟩,
        ⟨some 17, .bin .eql (.t 15) (.t 16), none, []⟩] none [0, 1, 5, 17])
      (.cond (.t 17)
        (.seq (.ops [⟨some 4, .move (.c (.bool true)), none, []⟩] none [4])
        (.ret))
        (.skip))))
    (.ops [⟨some 10, .move (.t 5), none, []⟩,
      ⟨some 11, .bin .add (.t 10) (.c (.int .i64 1)), none, []⟩,
      ⟨some 5, .move (.t 11), none, []⟩] none [0, 1, 5]))))))
(.seq (.ops [⟨some 4, .move (.c (.bool false)), none, []⟩] none [4])
(.ret))))
def f58 : SFunc := ⟨b58, [.t 4]⟩

/-- watchbill/watchbilllaw6.Few -/
def b59 : SCode := (
.seq (.ops [⟨some 2, .move (.c (.bool false)), none, []⟩] none [0])
(.seq (.seq (.ops [⟨some 4, .move (.t 0), none, []⟩,
  ⟨some 5, .len .sl (.t 4), none, []⟩,
  ⟨some 6, .bin .gtr (.t 5) (.c (.int .i64 60)), none, []⟩] none [0, 6])
(.cond (.t 6)
  (.seq (.ops [⟨some 2, .move (.c (.bool false)), none, []⟩] none [2])
  (.ret))
  (.skip)))
(.seq (.seq (.ops [⟨some 3, .move (.c (.int .i64 0)), none, []⟩] none [0, 3])
(.block 0 (.loop [0, 3] (.seq (.seq (.ops [⟨some 7, .move (.t 3), none, []⟩,
      ⟨some 8, .move (.t 0), none, []⟩,
      ⟨some 9, .len .sl (.t 8), none, []⟩,
      ⟨some 10, .bin .lss (.t 7) (.t 9), none, []⟩] none [0, 3, 10])
    (.cond (.t 10)
      (.skip)
      (.exit 0)))
    (.seq (.block 1 (.seq (.ops [⟨some 13, .move (.t 0), none, []⟩,
        ⟨some 14, .move (.t 3), none, []⟩,
        ⟨some 15, .idxAddr 5 (.t 13) (.t 14), none, []⟩,
        ⟨some 16, .load (some 5) (.t 15), none, []⟩,
        ⟨some 17, .call 67 [(.t 16)], none, []⟩,
        ⟨some 18, .not (.t 17), none, []⟩] none [0, 3, 18])
      (.cond (.t 18)
        (.seq (.ops [⟨some 2, .move (.c (.bool false)), none, []⟩] none [2])
        (.ret))
        (.skip))))
    (.ops [⟨some 11, .move (.t 3), none, []⟩,
      ⟨some 12, .bin .add (.t 11) (.c (.int .i64 1)), none, []⟩,
      ⟨some 3, .move (.t 12), none, []⟩] none [0, 3]))))))
(.seq (.ops [⟨some 2, .move (.c (.bool true)), none, []⟩] none [2])
(.ret)))))
def f59 : SFunc := ⟨b59, [.t 2]⟩

/-- watchbill/watchbilllaw5.ToAll -/
def b60 : SCode := (
.seq (.ops [⟨some 2, .move (.c .nils), none, []⟩] none [0])
(.seq (.ops [⟨some 3, .move (.c .nils), none, []⟩] none [0, 3])
(.seq (.seq (.ops [⟨some 4, .move (.c (.int .i64 0)), none, []⟩] none [0, 3, 4])
(.block 0 (.loop [0, 3, 4] (.seq (.seq (.ops [⟨some 5, .move (.t 4), none, []⟩,
      ⟨some 6, .move (.t 0), none, []⟩,
      ⟨some 7, .len .sl (.t 6), none, []⟩,
      ⟨some 8, .bin .lss (.t 5) (.t 7), none, []⟩] none [0, 3, 4, 8])
    (.cond (.t 8)
      (.skip)
      (.exit 0)))
    (.seq (.block 1 (.ops [⟨some 11, .move (.t 3), none, []⟩,
        ⟨some 12, .move (.t 0), none, []⟩,
        ⟨some 13, .move (.t 4), none, []⟩,
        ⟨some 14, .idxAddr 5 (.t 12) (.t 13), none, []⟩,
        ⟨some 15, .load (some 5) (.t 14), none, []⟩,
        ⟨some 16, .call 68 [(.t 15)], none, []⟩,
        ⟨some 17, .buildSl 1 [(.int .i64 0), (.int .i64 0), (.int .i64 0), (.int .i64 0), .nils] [(0, 5, (.t 16))], none, []⟩,
        ⟨some 18, .append 5 (.t 11) (.t 17), none, []⟩,
        ⟨some 3, .move (.t 18), none, []⟩] none [0, 3, 4]))
    (.ops [⟨some 9, .move (.t 4), none, []⟩,
      ⟨some 10, .bin .add (.t 9) (.c (.int .i64 1)), none, []⟩,
      ⟨some 4, .move (.t 10), none, []⟩] none [0, 3, 4]))))))
(.seq (.ops [⟨some 19, .move (.t 3), none, []⟩,
  ⟨some 2, .move (.t 19), none, []⟩] none [2])
(.ret)))))
def f60 : SFunc := ⟨b60, [.t 2]⟩

/-- slices.Equal[[]int,int] -/
def b61 : SCode := (
.seq (.ops [⟨some 4, .move (.c (.bool false)), none, []⟩] none [0, 1])
(.seq (.seq (.ops [⟨some 6, .move (.t 0), none, []⟩,
  ⟨some 7, .len .sl (.t 6), none, []⟩,
  ⟨some 8, .move (.t 1), none, []⟩,
  ⟨some 9, .len .sl (.t 8), none, []⟩,
  ⟨some 10, .bin .neq (.t 7) (.t 9), none, []⟩] none [0, 1, 10])
(.cond (.t 10)
  (.seq (.ops [⟨some 4, .move (.c (.bool false)), none, []⟩] none [4])
  (.ret))
  (.skip)))
(.seq (.seq (.ops [⟨some 11, .move (.t 0), none, []⟩,
  ⟨some 12, .len .sl (.t 11), none, []⟩,
  ⟨some 13, .move (.c (.int .i64 0)), none, []⟩] none [0, 1, 12, 13])
(.block 0 (.loop [0, 1, 12, 13] (.seq (.ops [⟨some 14, .bin .lss (.t 13) (.t 12), none, []⟩] none [0, 1, 12, 13, 14])
    (.seq (.cond (.t 14)
      (.skip)
      (.exit 0))
    (.seq (.block 1 (.seq (.ops [⟨some 15, .move (.t 13), none, []⟩,
        ⟨some 5, .move (.t 15), none, []⟩] none [0, 1, 5, 12, 13])
      (.seq (.ops [⟨some 16, .move (.t 0), none, []⟩,
        ⟨some 17, .move (.t 5), none, []⟩,
        ⟨some 18, .idxAddr 1 (.t 16) (.t 17), none, []⟩,
        ⟨some 19, .load none (.t 18), none, []⟩,
        ⟨some 20, .move (.t 1), none, []⟩,
        ⟨some 21, .move (.t 5), none, []⟩,
        ⟨some 22, .idxAddr 1 (.t 20) (.t 21), none, []⟩,
        ⟨some 23, .load none (.t 22), none, []⟩,
        ⟨some 24, .bin .neq (.t 19) (.t 23), none, []⟩] (some [(0, []), (1, []), (2, [0, 1]), (3, [2, 0, 1]), (4, []), (5, []), (6, [4, 5]), (7, [6, 4, 5]), (8, [3, 2, 0, 1, 7, 6, 4, 5])]) [0, 1, 12, 13, 24])
      (.cond (.t 24)
        (.seq (.ops [⟨some 4, .move (.c (.bool false)), none, []⟩] none [4])
        (.ret))
        (.skip)))))
    (.ops [⟨some 25, .bin .add (.t 13) (.c (.int .i64 1)), none, []⟩,
      ⟨some 13, .move (.t 25), none, []⟩] none [0, 1, 12, 13])))))))
(.seq (.ops [⟨some 4, .move (.c (.bool true)), none, []⟩] none [4])
(.ret)))))
def f61 : SFunc := ⟨b61, [.t 4]⟩

/-- slices.EqualFunc[[]watchbill/op.Op,[]watchbill/op.Op,watchbill/op.Op,watchbill/op.Op] -/
def b62 : SCode := (
.seq (.ops [⟨some 6, .move (.c (.bool false)), none, []⟩] none [0, 1, 2])
(.seq (.seq (.ops [⟨some 10, .move (.t 0), none, []⟩,
  ⟨some 11, .len .sl (.t 10), none, []⟩,
  ⟨some 12, .move (.t 1), none, []⟩,
  ⟨some 13, .len .sl (.t 12), none, []⟩,
  ⟨some 14, .bin .neq (.t 11) (.t 13), none, []⟩] none [0, 1, 2, 14])
(.cond (.t 14)
  (.seq (.ops [⟨some 6, .move (.c (.bool false)), none, []⟩] none [6])
  (.ret))
  (.skip)))
(.seq (.seq (.ops [⟨some 15, .move (.t 0), none, []⟩,
  ⟨some 16, .len .sl (.t 15), none, []⟩,
  ⟨some 17, .move (.c (.int .i64 0)), none, []⟩] none [1, 2, 15, 16, 17])
(.block 0 (.loop [1, 2, 15, 16, 17] (.seq (.ops [⟨some 18, .bin .lss (.t 17) (.t 16), none, []⟩] none [1, 2, 15, 16, 17, 18])
    (.seq (.cond (.t 18)
      (.skip)
      (.exit 0))
    (.seq (.block 1 (.seq (.ops [⟨some 19, .move (.t 17), none, []⟩,
        ⟨some 20, .idxAddr 5 (.t 15) (.t 17), none, []⟩,
        ⟨some 21, .load (some 5) (.t 20), none, []⟩,
        ⟨some 8, .alloc (.agg [(.int .i64 0), (.int .i64 0), (.int .i64 0), (.int .i64 0), .nils]), none, []⟩,
        ⟨some 7, .move (.t 19), none, []⟩,
        ⟨none, .store (some 5) (.t 8) (.t 21), none, []⟩] none [1, 2, 7, 8, 15, 16, 17])
      (.seq (.ops [⟨some 22, .move (.t 1), none, []⟩,
        ⟨some 23, .move (.t 7), none, []⟩,
        ⟨some 24, .idxAddr 5 (.t 22) (.t 23), none, []⟩,
        ⟨some 25, .load (some 5) (.t 24), none, []⟩,
        ⟨some 9, .alloc (.agg [(.int .i64 0), (.int .i64 0), (.int .i64 0), (.int .i64 0), .nils]), none, []⟩,
        ⟨none, .store (some 5) (.t 9) (.t 25), none, []⟩] none [1, 2, 8, 9, 15, 16, 17])
      (.seq (.ops [⟨some 26, .move (.t 2), none, []⟩,
        ⟨some 27, .load (some 5) (.t 8), none, []⟩,
        ⟨some 28, .load (some 5) (.t 9), none, []⟩,
        ⟨some 29, .callv (.t 26) [(.t 27), (.t 28)], none, []⟩,
        ⟨some 30, .not (.t 29), none, []⟩] none [1, 2, 15, 16, 17, 30])
      (.cond (.t 30)
        (.seq (.ops [⟨some 6, .move (.c (.bool false)), none, []⟩] none [6])
        (.ret))
        (.skip))))))
    (.ops [⟨some 31, .bin .add (.t 17) (.c (.int .i64 1)), none, []⟩,
      ⟨some 17, .move (.t 31), none, []⟩] none [1, 2, 15, 16, 17])))))))
(.seq (.ops [⟨some 6, .move (.c (.bool true)), none, []⟩] none [6])
(.ret)))))
def f62 : SFunc := ⟨b62, [.t 6]⟩

/-- watchbill/watchbillref8.SameProg -/
def b63 : SCode := (
.seq (.ops [⟨some 4, .move (.c (.bool false)), none, []⟩] none [0, 1])
(.seq (.seq (.ops [⟨some 6, .move (.t 0), none, []⟩,
  ⟨some 7, .len .sl (.t 6), none, []⟩,
  ⟨some 8, .move (.t 1), none, []⟩,
  ⟨some 9, .len .sl (.t 8), none, []⟩,
  ⟨some 10, .bin .neq (.t 7) (.t 9), none, []⟩] none [0, 1, 10])
(.cond (.t 10)
  (.seq (.ops [⟨some 4, .move (.c (.bool false)), none, []⟩] none [4])
  (.ret))
  (.skip)))
(.seq (.seq (.ops [⟨some 5, .move (.c (.int .i64 0)), none, []⟩] none [0, 1, 5])
(.block 0 (.loop [0, 1, 5] (.seq (.seq (.ops [⟨some 11, .move (.t 5), none, []⟩,
      ⟨some 12, .move (.t 0), none, []⟩,
      ⟨some 13, .len .sl (.t 12), none, []⟩,
      ⟨some 14, .bin .lss (.t 11) (.t 13), none, []⟩] none [0, 1, 5, 14])
    (.cond (.t 14)
      (.skip)
      (.exit 0)))
    (.seq (.block 1 (.seq (.ops [⟨some 17, .move (.t 0), none, []⟩,
        ⟨some 18, .move (.t 5), none, []⟩,
        ⟨some 19, .idxAddr 5 (.t 17) (.t 18), none, []⟩,
        ⟨some 20, .load (some 5) (.t 19), none, []⟩,
        ⟨some 21, .move (.t 1), none, []⟩,
        ⟨some 22, .move (.t 5), none, []⟩,
        ⟨some 23, .idxAddr 5 (.t 21) (.t 22), none, []⟩,
        ⟨some 24, .load (some 5) (.t 23), none, []⟩,
        ⟨some 25, .call 33 [(.t 20), (.t 24)], none, []⟩,
        ⟨some 26, .not (.t 25), none, []⟩] (some [(0, []), (1, []), (2, [0, 1]), (3, [2, 0, 1]), (4, []), (5, []), (6, [4, 5]), (7, [6, 4, 5]), (8, [3, 2, 0, 1, 7, 6, 4, 5]), (9, [8, 3, 2, 0, 1, 7, 6, 4, 5])]) [0, 1, 5, 26])
      (.cond (.t 26)
        (.seq (.ops [⟨some 4, .move (.c (.bool false)), none, []⟩] none [4])
        (.ret))
        (.skip))))
    (.ops [⟨some 15, .move (.t 5), none, []⟩,
      ⟨some 16, .bin .add (.t 15) (.c (.int .i64 1)), none, []⟩,
      ⟨some 5, .move (.t 16), none, []⟩] none [0, 1, 5]))))))
(.seq (.ops [⟨some 4, .move (.c (.bool true)), none, []⟩] none [4])
(.ret)))))
def f63 : SFunc := ⟨b63, [.t 4]⟩

/-- watchbill/watchbillref21.Ints -/
def b64 : SCode := (
.seq (.ops [⟨some 4, .move (.c (.bool false)), none, []⟩] none [0, 1])
(.seq (.seq (.ops [⟨some 6, .move (.t 0), none, []⟩,
  ⟨some 7, .len .sl (.t 6), none, []⟩,
  ⟨some 8, .move (.t 1), none, []⟩,
  ⟨some 9, .len .sl (.t 8), none, []⟩,
  ⟨some 10, .bin .neq (.t 7) (.t 9), none, []⟩] none [0, 1, 10])
(.cond (.t 10)
  (.seq (.ops [⟨some 4, .move (.c (.bool false)), none, []⟩] none [4])
  (.ret))
  (.skip)))
(.seq (.seq (.ops [⟨some 5, .move (.c (.int .i64 0)), none, []⟩] none [0, 1, 5])
(.block 0 (.loop [0, 1, 5] (.seq (.seq (.ops [⟨some 11, .move (.t 5), none, []⟩,
      ⟨some 12, .move (.t 0), none, []⟩,
      ⟨some 13, .len .sl (.t 12), none, []⟩,
      ⟨some 14, .bin .lss (.t 11) (.t 13), none, []⟩] none [0, 1, 5, 14])
    (.cond (.t 14)
      (.skip)
      (.exit 0)))
    (.seq (.block 1 (.seq (.ops [⟨some 17, .move (.t 0), none, []⟩,
        ⟨some 18, .move (.t 5), none, []⟩,
        ⟨some 19, .idxAddr 1 (.t 17) (.t 18), none, []⟩,
        ⟨some 20, .load none (.t 19), none, []⟩,
        ⟨some 21, .move (.t 1), none, []⟩,
        ⟨some 22, .move (.t 5), none, []⟩,
        ⟨some 23, .idxAddr 1 (.t 21) (.t 22), none, []⟩,
        ⟨some 24, .load none (.t 23), none, []⟩,
        ⟨some 25, .bin .neq (.t 20) (.t 24), none, []⟩] (some [(0, []), (1, []), (2, [0, 1]), (3, [2, 0, 1]), (4, []), (5, []), (6, [4, 5]), (7, [6, 4, 5]), (8, [3, 2, 0, 1, 7, 6, 4, 5])]) [0, 1, 5, 25])
      (.cond (.t 25)
        (.seq (.ops [⟨some 4, .move (.c (.bool false)), none, []⟩] none [4])
        (.ret))
        (.skip))))
    (.ops [⟨some 15, .move (.t 5), none, []⟩,
      ⟨some 16, .bin .add (.t 15) (.c (.int .i64 1)), none, []⟩,
      ⟨some 5, .move (.t 16), none, []⟩] none [0, 1, 5]))))))
(.seq (.ops [⟨some 4, .move (.c (.bool true)), none, []⟩] none [4])
(.ret)))))
def f64 : SFunc := ⟨b64, [.t 4]⟩

/-- watchbill/prog.Flat -/
def b65 : SCode := (
.seq (.ops [⟨some 2, .move (.c .nils), none, []⟩] none [0])
(.seq (.ops [⟨some 3, .move (.c .nils), none, []⟩] none [0, 3])
(.seq (.seq (.ops [⟨some 4, .move (.c (.int .i64 0)), none, []⟩] none [0, 3, 4])
(.block 0 (.loop [0, 3, 4] (.seq (.seq (.ops [⟨some 7, .move (.t 4), none, []⟩,
      ⟨some 8, .move (.t 0), none, []⟩,
      ⟨some 9, .len .sl (.t 8), none, []⟩,
      ⟨some 10, .bin .lss (.t 7) (.t 9), none, []⟩] none [0, 3, 4, 10])
    (.cond (.t 10)
      (.skip)
      (.exit 0)))
    (.seq (.block 1 (.seq (.seq (.ops [⟨some 13, .move (.t 0), none, []⟩,
        ⟨some 14, .move (.t 4), none, []⟩,
        ⟨some 15, .idxAddr 5 (.t 13) (.t 14), none, []⟩,
        ⟨some 16, .fldAddr 0 (.t 15), none, []⟩,
        ⟨some 17, .load none (.t 16), none, []⟩,
        ⟨some 18, .bin .neq (.t 17) (.c (.int .i64 8)), none, []⟩] none [0, 3, 4, 18])
      (.cond (.t 18)
        (.seq (.ops [⟨some 19, .move (.t 3), none, []⟩,
          ⟨some 20, .move (.t 0), none, []⟩,
          ⟨some 21, .move (.t 4), none, []⟩,
          ⟨some 22, .idxAddr 5 (.t 20) (.t 21), none, []⟩,
          ⟨some 23, .load (some 5) (.t 22), none, []⟩,
          ⟨some 24, .buildSl 1 [(.int .i64 0), (.int .i64 0), (.int .i64 0), (.int .i64 0), .nils] [(0, 5, (.t 23))], none, []⟩,
          ⟨some 25, .append 5 (.t 19) (.t 24), none, []⟩,
          ⟨some 3, .move (.t 25), none, []⟩] none [0, 3, 4])
        (.exit 1))
        (.skip)))
      (.seq (.ops [⟨some 26, .move (.t 0), none, []⟩,
        ⟨some 27, .move (.t 4), none, []⟩,
        ⟨some 28, .call 69 [(.t 26), (.t 27)], none, []⟩,
        ⟨some 5, .move (.t 28), none, []⟩] none [0, 3, 4, 5])
      (.seq (.seq (.ops [⟨some 29, .move (.t 5), none, []⟩,
        ⟨some 30, .bin .lss (.t 29) (.c (.int .i64 0)), none, []⟩] none [0, 3, 4, 5, 30])
      (.cond (.t 30)
        (.exit 0)
        (.skip)))
      (.seq (.ops [⟨some 31, .move (.t 0), none, []⟩,
        ⟨some 32, .move (.t 4), none, []⟩,
        ⟨some 33, .bin .add (.t 32) (.c (.int .i64 1)), none, []⟩,
        ⟨some 34, .move (.t 5), none, []⟩,
        ⟨some 35, .slSl 5 (.t 31) (some (.t 33)) (some (.t 34)), none, []⟩,
        ⟨some 36, .call 65 [(.t 35)], none, []⟩,
        ⟨some 6, .move (.t 36), none, []⟩] none [0, 3, 4, 5, 6])
      (.seq (.seq (.ops [⟨some 37, .move (.t 0), none, []⟩,
        ⟨some 38, .move (.t 4), none, []⟩,
        ⟨some 39, .idxAddr 5 (.t 37) (.t 38), none, []⟩,
        ⟨some 40, .fldAddr 1 (.t 39), none, []⟩,
        ⟨some 41, .load none (.t 40), none, []⟩,
        ⟨some 42, .move (.c (.int .i64 0)), none, []⟩] none [0, 3, 5, 6, 41, 42])
      (.block 2 (.loop [0, 3, 5, 6, 41, 42] (.seq (.ops [⟨some 43, .bin .lss (.t 42) (.t 41), none, []⟩] none [0, 3, 5, 6, 41, 42, 43])
          (.seq (.cond (.t 43)
            (.skip)
            (.exit 2))
          (.seq (.block 3 (.ops [⟨some 44, .move (.t 3), none, []⟩,
              ⟨some 45, .move (.t 6), none, []⟩,
              ⟨some 46, .append 5 (.t 44) (.t 45), none, []⟩,
              ⟨some 3, .move (.t 46), none, []⟩] none [0, 3, 5, 6, 41, 42]))
          (.ops [⟨some 47, .bin .add (.t 42) (.c (.int .i64 1)), none, []⟩,
            ⟨some 42, .move (.t 47), none, []⟩] none [0, 3, 5, 6, 41, 42])))))))
      (.ops [⟨some 48, .move (.t 5), none, []⟩,
        ⟨some 4, .move (.t 48), none, []⟩] none [0, 3, 4])))))))
    (.ops [⟨some 11, .move (.t 4), none, []⟩,
      ⟨some 12, .bin .add (.t 11) (.c (.int .i64 1)), none, []⟩,
      ⟨some 4, .move (.t 12), none, []⟩] none [0, 3, 4]))))))
(.seq (.ops [⟨some 49, .move (.t 3), none, []⟩,
  ⟨some 2, .move (.t 49), none, []⟩] none [2])
(.ret)))))
def f65 : SFunc := ⟨b65, [.t 2]⟩

/-- slices.Equal[[]watchbill/op.Case,watchbill/op.Case] -/
def b66 : SCode := (
.seq (.ops [⟨some 4, .move (.c (.bool false)), none, []⟩] none [0, 1])
(.seq (.seq (.ops [⟨some 6, .move (.t 0), none, []⟩,
  ⟨some 7, .len .sl (.t 6), none, []⟩,
  ⟨some 8, .move (.t 1), none, []⟩,
  ⟨some 9, .len .sl (.t 8), none, []⟩,
  ⟨some 10, .bin .neq (.t 7) (.t 9), none, []⟩] none [0, 1, 10])
(.cond (.t 10)
  (.seq (.ops [⟨some 4, .move (.c (.bool false)), none, []⟩] none [4])
  (.ret))
  (.skip)))
(.seq (.seq (.ops [⟨some 11, .move (.t 0), none, []⟩,
  ⟨some 12, .len .sl (.t 11), none, []⟩,
  ⟨some 13, .move (.c (.int .i64 0)), none, []⟩] none [0, 1, 12, 13])
(.block 0 (.loop [0, 1, 12, 13] (.seq (.ops [⟨some 14, .bin .lss (.t 13) (.t 12), none, []⟩] none [0, 1, 12, 13, 14])
    (.seq (.cond (.t 14)
      (.skip)
      (.exit 0))
    (.seq (.block 1 (.seq (.ops [⟨some 15, .move (.t 13), none, []⟩,
        ⟨some 5, .move (.t 15), none, []⟩] none [0, 1, 5, 12, 13])
      (.seq (.ops [⟨some 16, .move (.t 0), none, []⟩,
        ⟨some 17, .move (.t 5), none, []⟩,
        ⟨some 18, .idxAddr 3 (.t 16) (.t 17), none, []⟩,
        ⟨some 19, .load (some 3) (.t 18), none, []⟩,
        ⟨some 20, .move (.t 1), none, []⟩,
        ⟨some 21, .move (.t 5), none, []⟩,
        ⟨some 22, .idxAddr 3 (.t 20) (.t 21), none, []⟩,
        ⟨some 23, .load (some 3) (.t 22), none, []⟩,
        ⟨some 24, .eq true (.st [.b, .i, .i]) (.t 19) (.t 23), none, []⟩] (some [(0, []), (1, []), (2, [0, 1]), (3, [2, 0, 1]), (4, []), (5, []), (6, [4, 5]), (7, [6, 4, 5]), (8, [3, 2, 0, 1, 7, 6, 4, 5])]) [0, 1, 12, 13, 24])
      (.cond (.t 24)
        (.seq (.ops [⟨some 4, .move (.c (.bool false)), none, []⟩] none [4])
        (.ret))
        (.skip)))))
    (.ops [⟨some 25, .bin .add (.t 13) (.c (.int .i64 1)), none, []⟩,
      ⟨some 13, .move (.t 25), none, []⟩] none [0, 1, 12, 13])))))))
(.seq (.ops [⟨some 4, .move (.c (.bool true)), none, []⟩] none [4])
(.ret)))))
def f66 : SFunc := ⟨b66, [.t 4]⟩

/-- watchbill/watchbilllaw5.Few -/
def b67 : SCode := (
.seq (.ops [⟨some 1, .box (.t 0), none, []⟩,
  ⟨some 2, .move (.c (.bool false)), none, []⟩] none [1])
(.seq (.ops [⟨some 3, .fldAddr 4 (.t 1), none, []⟩,
  ⟨some 4, .load none (.t 3), none, []⟩,
  ⟨some 5, .len .sl (.t 4), none, []⟩,
  ⟨some 6, .bin .leq (.t 5) (.c (.int .i64 20)), none, []⟩,
  ⟨some 2, .move (.t 6), none, []⟩] none [2])
(.ret)))
def f67 : SFunc := ⟨b67, [.t 2]⟩

/-- watchbill/watchbilllaw5.To -/
def b68 : SCode := (
.seq (.ops [⟨some 1, .box (.t 0), none, []⟩,
  ⟨some 2, .alloc (.agg [(.int .i64 0), (.int .i64 0), (.int .i64 0), (.int .i64 0), .nils]), none, []⟩] none [1, 2])
(.seq (.ops [⟨some 5, .fldAddr 0 (.t 1), none, []⟩,
  ⟨some 6, .load none (.t 5), none, []⟩,
  ⟨some 7, .fldAddr 1 (.t 1), none, []⟩,
  ⟨some 8, .load none (.t 7), none, []⟩,
  ⟨some 9, .fldAddr 2 (.t 1), none, []⟩,
  ⟨some 10, .load none (.t 9), none, []⟩,
  ⟨some 11, .fldAddr 3 (.t 1), none, []⟩,
  ⟨some 12, .load none (.t 11), none, []⟩,
  ⟨some 13, .build [(.int .i64 0), (.int .i64 0), (.int .i64 0), (.int .i64 0), .nils] [(0, 1, (.t 6)), (1, 1, (.t 8)), (2, 1, (.t 10)), (3, 1, (.t 12))], none, []⟩,
  ⟨some 3, .alloc (.agg [(.int .i64 0), (.int .i64 0), (.int .i64 0), (.int .i64 0), .nils]), none, []⟩,
  ⟨none, .store (some 5) (.t 3) (.t 13), none, []⟩] none [1, 2, 3])
(.seq (.seq (.ops [⟨some 4, .move (.c (.int .i64 0)), none, []⟩] none [1, 2, 3, 4])
(.block 0 (.loop [1, 2, 3, 4] (.seq (.seq (.ops [⟨some 14, .move (.t 4), none, []⟩,
      ⟨some 15, .fldAddr 4 (.t 1), none, []⟩,
      ⟨some 16, .load none (.t 15), none, []⟩,
      ⟨some 17, .len .sl (.t 16), none, []⟩,
      ⟨some 18, .bin .lss (.t 14) (.t 17), none, []⟩] none [1, 2, 3, 4, 18])
    (.cond (.t 18)
      (.skip)
      (.exit 0)))
    (.seq (.block 1 (.ops [⟨some 21, .fldAddr 4 (.t 3), none, []⟩,
        ⟨some 22, .load none (.t 21), none, []⟩,
        ⟨some 23, .fldAddr 4 (.t 1), none, []⟩,
        ⟨some 24, .load none (.t 23), none, []⟩,
        ⟨some 25, .move (.t 4), none, []⟩,
        ⟨some 26, .idxAddr 3 (.t 24) (.t 25), none, []⟩,
        ⟨some 27, .fldAddr 0 (.t 26), none, []⟩,
        ⟨some 28, .load none (.t 27), none, []⟩,
        ⟨some 29, .fldAddr 4 (.t 1), none, []⟩,
        ⟨some 30, .load none (.t 29), none, []⟩,
        ⟨some 31, .move (.t 4), none, []⟩,
        ⟨some 32, .idxAddr 3 (.t 30) (.t 31), none, []⟩,
        ⟨some 33, .fldAddr 1 (.t 32), none, []⟩,
        ⟨some 34, .load none (.t 33), none, []⟩,
        ⟨some 35, .fldAddr 4 (.t 1), none, []⟩,
        ⟨some 36, .load none (.t 35), none, []⟩,
        ⟨some 37, .move (.t 4), none, []⟩,
        ⟨some 38, .idxAddr 3 (.t 36) (.t 37), none, []⟩,
        ⟨some 39, .fldAddr 2 (.t 38), none, []⟩,
        ⟨some 40, .load none (.t 39), none, []⟩,
        ⟨some 41, .build [(.bool false), (.int .i64 0), (.int .i64 0)] [(0, 1, (.t 28)), (1, 1, (.t 34)), (2, 1, (.t 40))], none, []⟩,
        ⟨some 42, .buildSl 1 [(.bool false), (.int .i64 0), (.int .i64 0)] [(0, 3, (.t 41))], none, []⟩,
        ⟨some 43, .append 3 (.t 22) (.t 42), none, []⟩,
        ⟨some 44, .fldAddr 4 (.t 3), none, []⟩,
        ⟨none, .store none (.t 44) (.t 43), none, []⟩] (some [(0, []), (1, [0]), (2, []), (3, [2]), (4, []), (5, [3, 2, 4]), (6, [5, 3, 2, 4]), (7, [6, 5, 3, 2, 4]), (8, []), (9, [8]), (10, []), (11, [9, 8, 10]), (12, [11, 9, 8, 10]), (13, [12, 11, 9, 8, 10]), (14, []), (15, [14]), (16, []), (17, [15, 14, 16]), (18, [17, 15, 14, 16]), (19, [18, 17, 15, 14, 16]), (20, [7, 6, 5, 3, 2, 4, 13, 12, 11, 9, 8, 10, 19, 18, 17, 15, 14, 16]), (21, [20, 7, 6, 5, 3, 2, 4, 13, 12, 11, 9, 8, 10, 19, 18, 17, 15, 14, 16]), (22, [1, 0, 21, 20, 7, 6, 5, 3, 2, 4, 13, 12, 11, 9, 8, 10, 19, 18, 17, 15, 14, 16]), (23, [0, 1, 2, 3, 4, 5, 6, 7, 8, 9, 10, 11, 12, 13, 14, 15, 16, 17, 18, 19, 20, 21, 22]), (24, [23, 0, 1, 2, 3, 4, 5, 6, 7, 8, 9, 10, 11, 12, 13, 14, 15, 16, 17, 18, 19, 20, 21, 22])]) [1, 2, 3, 4]))
    (.ops [⟨some 19, .move (.t 4), none, []⟩,
      ⟨some 20, .bin .add (.t 19) (.c (.int .i64 1)), none, []⟩,
      ⟨some 4, .move (.t 20), none, []⟩] none [1, 2, 3, 4]))))))
(.seq (.ops [⟨some 45, .load (some 5) (.t 3), none, []⟩,
  ⟨none, .store (some 5) (.t 2) (.t 45), none, []⟩] none [2])
(.ret)))))
def f68 : SFunc := ⟨b68, [.cell (some 5) 2]⟩

/-- watchbill/prog.Match -/
def b69 : SCode := (
.seq (.ops [⟨some 4, .move (.c (.int .i64 0)), none, []⟩] none [0, 1])
(.seq (.ops [⟨some 5, .move (.c .nils), none, []⟩] none [0, 1, 5])
(.seq (.seq (.ops [⟨some 9, .move (.t 0), none, []⟩,
  ⟨some 10, .len .sl (.t 9), none, []⟩,
  ⟨some 11, .move (.c (.int .i64 0)), none, []⟩] none [1, 5, 9, 10, 11])
(.block 0 (.loop [1, 5, 9, 10, 11] (.seq (.ops [⟨some 12, .bin .lss (.t 11) (.t 10), none, []⟩] none [1, 5, 9, 10, 11, 12])
    (.seq (.cond (.t 12)
      (.skip)
      (.exit 0))
    (.seq (.block 1 (.seq (.ops [⟨some 13, .move (.t 11), none, []⟩,
        ⟨some 14, .idxAddr 5 (.t 9) (.t 11), none, []⟩,
        ⟨some 15, .load (some 5) (.t 14), none, []⟩,
        ⟨some 7, .alloc (.agg [(.int .i64 0), (.int .i64 0), (.int .i64 0), (.int .i64 0), .nils]), none, []⟩,
        ⟨some 6, .move (.t 13), none, []⟩,
        ⟨none, .store (some 5) (.t 7) (.t 15), none, []⟩] none [1, 5, 6, 7, 9, 10, 11])
      (.seq (.ops [⟨some 16, .fldAddr 0 (.t 7), none, []⟩,
        ⟨some 17, .load none (.t 16), none, []⟩] none [1, 5, 6, 9, 10, 11, 17])
      (.block 2 (.seq (.ops [⟨some 19, .bin .eql (.t 17) (.c (.int .i64 8)), none, []⟩,
          ⟨some 18, .move (.t 19), none, []⟩] none [1, 5, 6, 9, 10, 11, 17, 18])
        (.cond (.t 18)
          (.ops [⟨some 20, .move (.t 5), none, []⟩,
            ⟨some 21, .move (.t 6), none, []⟩,
            ⟨some 22, .buildSl 1 [(.int .i64 0)] [(0, 1, (.t 21))], none, []⟩,
            ⟨some 23, .append 1 (.t 20) (.t 22), none, []⟩,
            ⟨some 5, .move (.t 23), none, []⟩] none [1, 5, 9, 10, 11])
          (.seq (.ops [⟨some 25, .bin .eql (.t 17) (.c (.int .i64 9)), none, []⟩,
            ⟨some 24, .move (.t 25), none, []⟩] none [1, 5, 6, 9, 10, 11, 24])
          (.cond (.t 24)
            (.seq (.seq (.ops [⟨some 26, .move (.t 5), none, []⟩,
              ⟨some 27, .len .sl (.t 26), none, []⟩,
              ⟨some 28, .bin .eql (.t 27) (.c (.int .i64 0)), none, []⟩] none [1, 5, 6, 9, 10, 11, 28])
            (.cond (.t 28)
              (.exit 1)
              (.skip)))
            (.seq (.ops [⟨some 29, .move (.t 5), none, []⟩,
              ⟨some 30, .move (.t 5), none, []⟩,
              ⟨some 31, .len .sl (.t 30), none, []⟩,
              ⟨some 32, .bin .sub (.t 31) (.c (.int .i64 1)), none, []⟩,
              ⟨some 33, .idxAddr 1 (.t 29) (.t 32), none, []⟩,
              ⟨some 34, .load none (.t 33), none, []⟩,
              ⟨some 8, .move (.t 34), none, []⟩] none [1, 5, 6, 8, 9, 10, 11])
            (.seq (.ops [⟨some 35, .move (.t 5), none, []⟩,
              ⟨some 36, .move (.t 5), none, []⟩,
              ⟨some 37, .len .sl (.t 36), none, []⟩,
              ⟨some 38, .bin .sub (.t 37) (.c (.int .i64 1)), none, []⟩,
              ⟨some 39, .slSl 1 (.t 35) none (some (.t 38)), none, []⟩,
              ⟨some 5, .move (.t 39), none, []⟩] none [1, 5, 6, 8, 9, 10, 11])
            (.seq (.seq (.ops [⟨some 40, .move (.t 8), none, []⟩,
              ⟨some 41, .move (.t 1), none, []⟩,
              ⟨some 42, .bin .eql (.t 40) (.t 41), none, []⟩] none [1, 5, 6, 8, 9, 10, 11, 42])
            (.cond (.t 42)
              (.seq (.ops [⟨some 43, .move (.t 6), none, []⟩,
                ⟨some 4, .move (.t 43), none, []⟩] none [4])
              (.ret))
              (.skip)))
            (.seq (.ops [⟨some 44, .move (.t 6), none, []⟩,
              ⟨some 45, .move (.t 1), none, []⟩,
              ⟨some 46, .bin .eql (.t 44) (.t 45), none, []⟩] none [1, 5, 8, 9, 10, 11, 46])
            (.cond (.t 46)
              (.seq (.ops [⟨some 47, .move (.t 8), none, []⟩,
                ⟨some 4, .move (.t 47), none, []⟩] none [4])
              (.ret))
              (.skip)))))))
            (.skip)))))))))
    (.ops [⟨some 48, .bin .add (.t 11) (.c (.int .i64 1)), none, []⟩,
      ⟨some 11, .move (.t 48), none, []⟩] none [1, 5, 9, 10, 11])))))))
(.seq (.ops [⟨some 4, .move (.c (.int .i64 (-1))), none, []⟩] none [4])
(.ret)))))
def f69 : SFunc := ⟨b69, [.t 4]⟩

def lk {α : Type} : List (Nat × α) → Nat → Option α
  | [], _ => none
  | (k, v) :: r, i => match Nat.beq i k with | true => some v | false => lk r i

def pgl : List (Nat × SFunc) := [
  (3, f3),
  (7, f7),
  (9, f9),
  (15, f15),
  (23, f23),
  (24, f24),
  (25, f25),
  (26, f26),
  (47, f47),
  (49, f49),
  (50, f50),
  (4, f4),
  (5, f5),
  (6, f6),
  (8, f8),
  (11, f11),
  (10, f10),
  (12, f12),
  (13, f13),
  (14, f14),
  (16, f16),
  (20, f20),
  (17, f17),
  (19, f19),
  (18, f18),
  (21, f21),
  (22, f22),
  (27, f27),
  (28, f28),
  (29, f29),
  (30, f30),
  (31, f31),
  (33, f33),
  (32, f32),
  (34, f34),
  (35, f35),
  (36, f36),
  (37, f37),
  (38, f38),
  (39, f39),
  (40, f40),
  (41, f41),
  (42, f42),
  (43, f43),
  (44, f44),
  (45, f45),
  (46, f46),
  (48, f48),
  (51, f51),
  (52, f52),
  (53, f53),
  (55, f55),
  (56, f56),
  (57, f57),
  (58, f58),
  (59, f59),
  (60, f60),
  (61, f61),
  (62, f62),
  (63, f63),
  (64, f64),
  (65, f65),
  (66, f66),
  (67, f67),
  (68, f68),
  (69, f69)]

def pg : Prog := lk pgl

theorem pg3 : pg 3 = some f3 := rfl
theorem pg7 : pg 7 = some f7 := rfl
theorem pg9 : pg 9 = some f9 := rfl
theorem pg15 : pg 15 = some f15 := rfl
theorem pg23 : pg 23 = some f23 := rfl
theorem pg24 : pg 24 = some f24 := rfl
theorem pg25 : pg 25 = some f25 := rfl
theorem pg26 : pg 26 = some f26 := rfl
theorem pg47 : pg 47 = some f47 := rfl
theorem pg49 : pg 49 = some f49 := rfl
theorem pg50 : pg 50 = some f50 := rfl
theorem pg4 : pg 4 = some f4 := rfl
theorem pg5 : pg 5 = some f5 := rfl
theorem pg6 : pg 6 = some f6 := rfl
theorem pg8 : pg 8 = some f8 := rfl
theorem pg11 : pg 11 = some f11 := rfl
theorem pg10 : pg 10 = some f10 := rfl
theorem pg12 : pg 12 = some f12 := rfl
theorem pg13 : pg 13 = some f13 := rfl
theorem pg14 : pg 14 = some f14 := rfl
theorem pg16 : pg 16 = some f16 := rfl
theorem pg20 : pg 20 = some f20 := rfl
theorem pg17 : pg 17 = some f17 := rfl
theorem pg19 : pg 19 = some f19 := rfl
theorem pg18 : pg 18 = some f18 := rfl
theorem pg21 : pg 21 = some f21 := rfl
theorem pg22 : pg 22 = some f22 := rfl
theorem pg27 : pg 27 = some f27 := rfl
theorem pg28 : pg 28 = some f28 := rfl
theorem pg29 : pg 29 = some f29 := rfl
theorem pg30 : pg 30 = some f30 := rfl
theorem pg31 : pg 31 = some f31 := rfl
theorem pg33 : pg 33 = some f33 := rfl
theorem pg32 : pg 32 = some f32 := rfl
theorem pg34 : pg 34 = some f34 := rfl
theorem pg35 : pg 35 = some f35 := rfl
theorem pg36 : pg 36 = some f36 := rfl
theorem pg37 : pg 37 = some f37 := rfl
theorem pg38 : pg 38 = some f38 := rfl
theorem pg39 : pg 39 = some f39 := rfl
theorem pg40 : pg 40 = some f40 := rfl
theorem pg41 : pg 41 = some f41 := rfl
theorem pg42 : pg 42 = some f42 := rfl
theorem pg43 : pg 43 = some f43 := rfl
theorem pg44 : pg 44 = some f44 := rfl
theorem pg45 : pg 45 = some f45 := rfl
theorem pg46 : pg 46 = some f46 := rfl
theorem pg48 : pg 48 = some f48 := rfl
theorem pg51 : pg 51 = some f51 := rfl
theorem pg52 : pg 52 = some f52 := rfl
theorem pg53 : pg 53 = some f53 := rfl
theorem pg55 : pg 55 = some f55 := rfl
theorem pg56 : pg 56 = some f56 := rfl
theorem pg57 : pg 57 = some f57 := rfl
theorem pg58 : pg 58 = some f58 := rfl
theorem pg59 : pg 59 = some f59 := rfl
theorem pg60 : pg 60 = some f60 := rfl
theorem pg61 : pg 61 = some f61 := rfl
theorem pg62 : pg 62 = some f62 := rfl
theorem pg63 : pg 63 = some f63 := rfl
theorem pg64 : pg 64 = some f64 := rfl
theorem pg65 : pg 65 = some f65 := rfl
theorem pg66 : pg 66 = some f66 := rfl
theorem pg67 : pg 67 = some f67 := rfl
theorem pg68 : pg 68 = some f68 := rfl
theorem pg69 : pg 69 = some f69 := rfl

end Go.Cl.S
