/-
  The functions' clean texts, printed by a program out of the loaded ones.
-/
import Derived.Test.YtomndeglgcpekaaM1
namespace Go.Cl.S
open Go Go.Cl

/-- watchbill/watchbilllaw19.GuardPlays -/
def b9 : SCode := (
.seq (.ops [⟨some 4, .move (.c (.bool false)), none, []⟩] none [0, 1])
(.seq (.seq (.ops [⟨some 16, .call 4 [], none, []⟩,
  ⟨some 17, .not (.t 16), none, []⟩] none [0, 1, 17])
(.cond (.t 17)
  (.seq (.ops [⟨some 4, .move (.c (.bool false)), none, []⟩] none [4])
  (.ret))
  (.skip)))
(.seq (.seq (.ops [⟨some 18, .move (.t 0), none, []⟩,
  ⟨some 19, .len .sl (.t 18), none, []⟩,
  ⟨some 20, .bin .lss (.t 19) (.c (.int .i64 1)), none, []⟩,
  ⟨some 21, .move (.t 20), none, []⟩,
  ⟨some 22, .move (.t 0), (some (21, false)), []⟩,
  ⟨some 23, .len .sl (.t 22), (some (21, false)), []⟩,
  ⟨some 24, .bin .gtr (.t 23) (.c (.int .i64 12)), (some (21, false)), []⟩,
  ⟨some 25, .pick (.t 21) (.c (.bool true)) (.t 24), none, []⟩,
  ⟨some 26, .move (.t 25), none, []⟩,
  ⟨some 27, .move (.t 1), (some (26, false)), []⟩,
  ⟨some 28, .len .sl (.t 27), (some (26, false)), []⟩,
  ⟨some 29, .bin .gtr (.t 28) (.c (.int .i64 60)), (some (26, false)), []⟩,
  ⟨some 30, .pick (.t 26) (.c (.bool true)) (.t 29), none, []⟩] none [0, 1, 30])
(.cond (.t 30)
  (.seq (.ops [⟨some 4, .move (.c (.bool true)), none, []⟩] none [4])
  (.ret))
  (.skip)))
(.seq (.ops [⟨some 31, .build [(.int .i64 0), .nils, .nils] [], none, []⟩,
  ⟨some 5, .alloc (.agg [(.int .i64 0), .nils, .nils]), none, []⟩,
  ⟨none, .store (some 3) (.t 5) (.t 31), none, []⟩] none [0, 1, 5])
(.seq (.seq (.ops [⟨some 6, .move (.c (.int .i64 0)), none, []⟩] none [0, 1, 5, 6])
(.block 0 (.loop [0, 1, 5, 6] (.seq (.seq (.ops [⟨some 32, .move (.t 6), none, []⟩,
      ⟨some 33, .move (.t 0), none, []⟩,
      ⟨some 34, .len .sl (.t 33), none, []⟩,
      ⟨some 35, .bin .lss (.t 32) (.t 34), none, []⟩] none [0, 1, 5, 6, 35])
    (.cond (.t 35)
      (.skip)
      (.exit 0)))
    (.seq (.block 1 (.seq (.seq (.ops [⟨some 38, .move (.t 0), none, []⟩,
        ⟨some 39, .move (.t 6), none, []⟩,
        ⟨some 40, .idxAddr 1 (.t 38) (.t 39), none, []⟩,
        ⟨some 41, .load none (.t 40), none, []⟩,
        ⟨some 42, .bin .lss (.t 41) (.c (.int .i64 1)), none, []⟩,
        ⟨some 43, .move (.t 42), none, []⟩,
        ⟨some 44, .move (.t 0), (some (43, false)), []⟩,
        ⟨some 45, .move (.t 6), (some (43, false)), []⟩,
        ⟨some 46, .idxAddr 1 (.t 44) (.t 45), (some (43, false)), []⟩,
        ⟨some 47, .load none (.t 46), (some (43, false)), []⟩,
        ⟨some 48, .bin .gtr (.t 47) (.c (.int .i64 1099511627776)), (some (43, false)), []⟩,
        ⟨some 49, .pick (.t 43) (.c (.bool true)) (.t 48), none, []⟩] none [0, 1, 5, 6, 49])
      (.cond (.t 49)
        (.seq (.ops [⟨some 4, .move (.c (.bool true)), none, []⟩] none [4])
        (.ret))
        (.skip)))
      (.ops [⟨some 50, .fldAddr 2 (.t 5), none, []⟩,
        ⟨some 51, .load none (.t 50), none, []⟩,
        ⟨some 52, .move (.t 6), none, []⟩,
        ⟨some 53, .bin .add (.c (.int .i64 97)) (.t 52), none, []⟩,
        ⟨some 54, .conv .u8 (.t 53), none, []⟩,
        ⟨some 55, .buildSl 1 [(.int .u8 0)] [(0, 1, (.t 54))], none, []⟩,
        ⟨some 56, .toStr (.t 55), none, []⟩,
        ⟨some 57, .move (.t 0), none, []⟩,
        ⟨some 58, .move (.t 6), none, []⟩,
        ⟨some 59, .idxAddr 1 (.t 57) (.t 58), none, []⟩,
        ⟨some 60, .load none (.t 59), none, []⟩,
        ⟨some 61, .move (.t 0), none, []⟩,
        ⟨some 62, .move (.t 6), none, []⟩,
        ⟨some 63, .idxAddr 1 (.t 61) (.t 62), none, []⟩,
        ⟨some 64, .load none (.t 63), none, []⟩,
        ⟨some 65, .build [(.int .i64 0), (.int .i64 0), (.int .i64 0), (.int .i64 0), .nils] [(0, 1, (.c (.int .i64 1))), (1, 1, (.c (.int .i64 1)))], none, []⟩,
        ⟨some 66, .buildSl 1 [(.int .i64 0), (.int .i64 0), (.int .i64 0), (.int .i64 0), .nils] [(0, 5, (.t 65))], none, []⟩,
        ⟨some 67, .build [(.str []), (.int .i64 0), (.int .i64 0), (.int .i64 0), .nils] [(0, 1, (.t 56)), (1, 1, (.t 60)), (2, 1, (.t 64)), (3, 1, (.c (.int .i64 1))), (4, 1, (.t 66))], none, []⟩,
        ⟨some 68, .buildSl 1 [(.str []), (.int .i64 0), (.int .i64 0), (.int .i64 0), .nils] [(0, 5, (.t 67))], none, []⟩,
        ⟨some 69, .append 5 (.t 51) (.t 68), none, []⟩,
        ⟨some 70, .fldAddr 2 (.t 5), none, []⟩,
        ⟨none, .store none (.t 70) (.t 69), none, []⟩] (some [(0, []), (1, [0]), (2, []), (3, [2]), (4, [3, 2]), (5, [4, 3, 2]), (6, [5, 4, 3, 2]), (7, []), (8, []), (9, [7, 8]), (10, [9, 7, 8]), (11, []), (12, []), (13, [11, 12]), (14, [13, 11, 12]), (15, []), (16, [15]), (17, [6, 5, 4, 3, 2, 10, 9, 7, 8, 14, 13, 11, 12, 16, 15]), (18, [17, 6, 5, 4, 3, 2, 10, 9, 7, 8, 14, 13, 11, 12, 16, 15]), (19, [1, 0, 18, 17, 6, 5, 4, 3, 2, 10, 9, 7, 8, 14, 13, 11, 12, 16, 15]), (20, [0, 1, 2, 3, 4, 5, 6, 7, 8, 9, 10, 11, 12, 13, 14, 15, 16, 17, 18, 19]), (21, [20, 0, 1, 2, 3, 4, 5, 6, 7, 8, 9, 10, 11, 12, 13, 14, 15, 16, 17, 18, 19])]) [0, 1, 5, 6])))
    (.ops [⟨some 36, .move (.t 6), none, []⟩,
      ⟨some 37, .bin .add (.t 36) (.c (.int .i64 1)), none, []⟩,
      ⟨some 6, .move (.t 37), none, []⟩] none [0, 1, 5, 6]))))))
(.seq (.ops [⟨some 71, .load (some 3) (.t 5), none, []⟩,
  ⟨some 72, .call 5 [(.t 71)], none, []⟩,
  ⟨some 7, .move (.t 72), none, []⟩] none [1, 5, 7])
(.seq (.ops [⟨some 73, .load (some 3) (.t 5), none, []⟩,
  ⟨some 74, .call 10 [(.t 73)], none, []⟩,
  ⟨some 75, .call 11 [(.t 74)], none, []⟩,
  ⟨some 8, .move (.t 75), none, []⟩] none [1, 7, 8])
(.seq (.seq (.ops [⟨some 76, .move (.t 7), none, []⟩,
  ⟨some 77, .eq false .p (.t 76) (.c .nilp), none, []⟩] none [1, 7, 8, 77])
(.cond (.t 77)
  (.seq (.ops [⟨some 4, .move (.c (.bool false)), none, []⟩] none [4])
  (.ret))
  (.skip)))
(.seq (.seq (.ops [⟨some 9, .move (.c (.int .i64 0)), none, []⟩] none [1, 7, 8, 9])
(.block 2 (.loop [1, 7, 8, 9] (.seq (.seq (.ops [⟨some 78, .move (.t 9), none, []⟩,
      ⟨some 79, .move (.t 1), none, []⟩,
      ⟨some 80, .len .sl (.t 79), none, []⟩,
      ⟨some 81, .bin .lss (.t 78) (.t 80), none, []⟩] none [1, 7, 8, 9, 81])
    (.cond (.t 81)
      (.skip)
      (.exit 2)))
    (.seq (.block 3 (.seq (.ops [⟨some 84, .move (.t 1), none, []⟩,
        ⟨some 85, .move (.t 9), none, []⟩,
        ⟨some 86, .idxAddr 4 (.t 84) (.t 85), none, []⟩,
        ⟨some 87, .load (some 4) (.t 86), none, []⟩,
        ⟨some 10, .alloc (.agg [(.int .i64 0), (.int .i64 0), (.bool false), (.bool false)]), none, []⟩,
        ⟨none, .store (some 4) (.t 10) (.t 87), none, []⟩] none [1, 7, 8, 9, 10])
      (.seq (.seq (.ops [⟨some 88, .fldAddr 3 (.t 10), none, []⟩,
        ⟨some 89, .load none (.t 88), none, []⟩] none [1, 7, 8, 9, 10, 89])
      (.cond (.t 89)
        (.seq (.ops [⟨some 90, .move (.t 7), none, []⟩,
          ⟨some 91, .call 12 [(.t 90)], none, []⟩,
          ⟨some 11, .move (.t 91), none, []⟩] none [1, 7, 8, 9, 10, 11])
        (.seq (.seq (.ops [⟨some 92, .move (.t 11), none, []⟩,
          ⟨some 93, .eq false .p (.t 92) (.c .nilp), none, []⟩] none [1, 7, 8, 9, 10, 11, 93])
        (.cond (.t 93)
          (.seq (.ops [⟨some 4, .move (.c (.bool false)), none, []⟩] none [4])
          (.ret))
          (.skip)))
        (.seq (.ops [⟨some 94, .move (.t 7), none, []⟩,
          ⟨some 95, .fldAddr 0 (.t 10), none, []⟩,
          ⟨some 96, .load none (.t 95), none, []⟩,
          ⟨some 97, .call 6 [(.t 94), (.t 96), (.c (.int .i64 1099511627776)), (.c (.bool false))], none, []⟩] none [1, 8, 9, 10, 11])
        (.ops [⟨some 98, .move (.t 11), none, []⟩,
          ⟨some 7, .move (.t 98), none, []⟩] none [1, 7, 8, 9, 10]))))
        (.skip)))
      (.seq (.seq (.ops [⟨some 99, .move (.t 7), none, []⟩,
        ⟨some 100, .fldAddr 0 (.t 10), none, []⟩,
        ⟨some 101, .load none (.t 100), none, []⟩,
        ⟨some 102, .fldAddr 1 (.t 10), none, []⟩,
        ⟨some 103, .load none (.t 102), none, []⟩,
        ⟨some 104, .fldAddr 2 (.t 10), none, []⟩,
        ⟨some 105, .load none (.t 104), none, []⟩,
        ⟨some 107, .move (.t 8), none, []⟩,
        ⟨some 108, .fldAddr 0 (.t 10), none, []⟩,
        ⟨some 109, .load none (.t 108), none, []⟩,
        ⟨some 110, .fldAddr 1 (.t 10), none, []⟩,
        ⟨some 111, .load none (.t 110), none, []⟩,
        ⟨some 112, .fldAddr 2 (.t 10), none, []⟩,
        ⟨some 113, .load none (.t 112), none, []⟩,
        ⟨some 106, .call 6 [(.t 99), (.t 101), (.t 103), (.t 105)], none, [9, 11, 13]⟩,
        ⟨some 114, .call 13 [(.t 107), (.t 109), (.t 111), (.t 113)], none, []⟩,
        ⟨some 115, .bin .neq (.t 106) (.t 114), none, []⟩] (some [(0, []), (1, []), (2, [1]), (3, []), (4, [3]), (5, []), (6, [5]), (8, []), (9, []), (10, [8]), (11, []), (12, [10]), (13, []), (14, [12]), (7, [0, 2, 1, 4, 3, 6, 5]), (15, [7, 9, 8, 11, 10, 13, 12, 14, 0, 2, 1, 4, 3, 6, 5]), (16, [14, 0, 2, 1, 4, 3, 6, 5, 15, 7, 9, 8, 11, 10, 13, 12])]) [1, 7, 8, 9, 10, 115])
      (.cond (.t 115)
        (.seq (.ops [⟨some 4, .move (.c (.bool false)), none, []⟩] none [4])
        (.ret))
        (.skip)))
      (.seq (.ops [⟨some 117, .move (.t 7), none, []⟩,
        ⟨some 118, .fldAddr 0 (.t 10), none, []⟩,
        ⟨some 119, .load none (.t 118), none, []⟩,
        ⟨some 120, .call 8 [(.t 117), (.t 119)], none, []⟩,
        ⟨some 116, .move (.t 120), none, []⟩,
        ⟨some 121, .ext 0 (.t 116), none, []⟩,
        ⟨some 122, .ext 1 (.t 116), none, []⟩,
        ⟨some 12, .move (.t 121), none, []⟩,
        ⟨some 13, .move (.t 122), none, []⟩] none [1, 7, 8, 9, 10, 12, 13])
      (.seq (.ops [⟨some 124, .move (.t 8), none, []⟩,
        ⟨some 125, .fldAddr 0 (.t 10), none, []⟩,
        ⟨some 126, .load none (.t 125), none, []⟩,
        ⟨some 127, .call 14 [(.t 124), (.t 126)], none, []⟩,
        ⟨some 123, .move (.t 127), none, []⟩,
        ⟨some 128, .ext 0 (.t 123), none, []⟩,
        ⟨some 129, .ext 1 (.t 123), none, []⟩,
        ⟨some 14, .move (.t 128), none, []⟩,
        ⟨some 15, .move (.t 129), none, []⟩] none [1, 7, 8, 9, 12, 13, 14, 15])
      (.seq (.ops [⟨some 130, .move (.t 12), none, []⟩,
        ⟨some 131, .move (.t 14), none, []⟩,
        ⟨some 132, .bin .neq (.t 130) (.t 131), none, []⟩,
        ⟨some 133, .move (.t 132), none, []⟩,
        ⟨some 134, .move (.t 13), (some (133, false)), []⟩,
        ⟨some 135, .move (.t 15), (some (133, false)), []⟩,
        ⟨some 136, .eq true .b (.t 134) (.t 135), (some (133, false)), []⟩,
        ⟨some 137, .pick (.t 133) (.c (.bool true)) (.t 136), none, []⟩] none [1, 7, 8, 9, 137])
      (.cond (.t 137)
        (.seq (.ops [⟨some 4, .move (.c (.bool false)), none, []⟩] none [4])
        (.ret))
        (.skip)))))))))
    (.ops [⟨some 82, .move (.t 9), none, []⟩,
      ⟨some 83, .bin .add (.t 82) (.c (.int .i64 1)), none, []⟩,
      ⟨some 9, .move (.t 83), none, []⟩] none [1, 7, 8, 9]))))))
(.seq (.ops [⟨some 4, .move (.c (.bool true)), none, []⟩] none [4])
(.ret)))))))))))
def f9 : SFunc := ⟨b9, [.t 4]⟩

/-- watchbill/watchbilllaw19.known -/
def b4 : SCode := (
.seq (.ops [⟨some 0, .move (.c (.bool false)), none, []⟩] none [])
(.seq (.ops [⟨some 14, .call 52 [], none, []⟩,
  ⟨some 15, .call 5 [(.t 14)], none, []⟩,
  ⟨some 1, .move (.t 15), none, []⟩] none [1])
(.seq (.seq (.ops [⟨some 16, .move (.t 1), none, []⟩,
  ⟨some 17, .eq false .p (.t 16) (.c .nilp), none, []⟩] none [1, 17])
(.cond (.t 17)
  (.seq (.ops [⟨some 0, .move (.c (.bool false)), none, []⟩] none [0])
  (.ret))
  (.skip)))
(.seq (.ops [⟨some 18, .move (.t 1), none, []⟩,
  ⟨some 19, .call 6 [(.t 18), (.c (.int .i64 0)), (.c (.int .i64 5)), (.c (.bool false))], none, []⟩,
  ⟨some 20, .move (.t 1), none, []⟩,
  ⟨some 21, .call 6 [(.t 20), (.c (.int .i64 0)), (.c (.int .i64 14)), (.c (.bool false))], none, []⟩,
  ⟨some 22, .move (.t 1), none, []⟩,
  ⟨some 23, .call 6 [(.t 22), (.c (.int .i64 0)), (.c (.int .i64 15)), (.c (.bool true))], none, []⟩,
  ⟨some 2, .move (.t 19), none, []⟩,
  ⟨some 3, .move (.t 21), none, []⟩,
  ⟨some 4, .move (.t 23), none, []⟩] none [1, 2, 3, 4])
(.seq (.ops [⟨some 24, .move (.t 1), none, []⟩,
  ⟨some 25, .call 6 [(.t 24), (.c (.int .i64 0)), (.c (.int .i64 15)), (.c (.bool false))], none, []⟩,
  ⟨some 26, .move (.t 1), none, []⟩,
  ⟨some 27, .call 6 [(.t 26), (.c (.int .i64 2)), (.c (.int .i64 15)), (.c (.bool false))], none, []⟩,
  ⟨some 28, .move (.t 1), none, []⟩,
  ⟨some 29, .call 6 [(.t 28), (.c (.int .i64 1)), (.c (.int .i64 14)), (.c (.bool false))], none, []⟩,
  ⟨some 5, .move (.t 25), none, []⟩,
  ⟨some 6, .move (.t 27), none, []⟩,
  ⟨some 7, .move (.t 29), none, []⟩] none [1, 2, 3, 4, 5, 6, 7])
(.seq (.ops [⟨some 31, .move (.t 1), none, []⟩,
  ⟨some 32, .call 8 [(.t 31), (.c (.int .i64 0))], none, []⟩,
  ⟨some 30, .move (.t 32), none, []⟩,
  ⟨some 33, .ext 0 (.t 30), none, []⟩,
  ⟨some 34, .ext 1 (.t 30), none, []⟩,
  ⟨some 8, .move (.t 33), none, []⟩,
  ⟨some 9, .move (.t 34), none, []⟩] none [1, 2, 3, 4, 5, 6, 7, 8, 9])
(.seq (.ops [⟨some 36, .move (.t 1), none, []⟩,
  ⟨some 37, .call 8 [(.t 36), (.c (.int .i64 1))], none, []⟩,
  ⟨some 35, .move (.t 37), none, []⟩,
  ⟨some 38, .ext 0 (.t 35), none, []⟩,
  ⟨some 39, .ext 1 (.t 35), none, []⟩,
  ⟨some 10, .move (.t 38), none, []⟩,
  ⟨some 11, .move (.t 39), none, []⟩] none [1, 2, 3, 4, 5, 6, 7, 8, 9, 11])
(.seq (.ops [⟨some 41, .move (.t 1), none, []⟩,
  ⟨some 42, .call 8 [(.t 41), (.c (.int .i64 2))], none, []⟩,
  ⟨some 40, .move (.t 42), none, []⟩,
  ⟨some 43, .ext 0 (.t 40), none, []⟩,
  ⟨some 44, .ext 1 (.t 40), none, []⟩,
  ⟨some 12, .move (.t 43), none, []⟩,
  ⟨some 13, .move (.t 44), none, []⟩] none [2, 3, 4, 5, 6, 7, 8, 9, 11, 13])
(.seq (.ops [⟨some 45, .move (.t 2), none, []⟩,
  ⟨some 46, .move (.t 5), none, []⟩,
  ⟨some 47, .bin .add (.t 45) (.t 46), none, []⟩,
  ⟨some 48, .bin .eql (.t 47) (.c (.int .i64 0)), none, []⟩,
  ⟨some 49, .move (.t 48), none, []⟩,
  ⟨some 50, .move (.t 3), (some (49, true)), []⟩,
  ⟨some 51, .bin .eql (.t 50) (.c (.int .i64 12)), (some (49, true)), []⟩,
  ⟨some 52, .pick (.t 49) (.t 51) (.c (.bool false)), none, []⟩,
  ⟨some 53, .move (.t 52), none, []⟩,
  ⟨some 54, .move (.t 4), (some (53, true)), []⟩,
  ⟨some 55, .bin .eql (.t 54) (.c (.int .i64 10)), (some (53, true)), []⟩,
  ⟨some 56, .pick (.t 53) (.t 55) (.c (.bool false)), none, []⟩,
  ⟨some 57, .move (.t 56), none, []⟩,
  ⟨some 58, .move (.t 6), (some (57, true)), []⟩,
  ⟨some 59, .bin .eql (.t 58) (.c (.int .i64 3)), (some (57, true)), []⟩,
  ⟨some 60, .pick (.t 57) (.t 59) (.c (.bool false)), none, []⟩,
  ⟨some 61, .move (.t 60), none, []⟩,
  ⟨some 62, .move (.t 7), (some (61, true)), []⟩,
  ⟨some 63, .bin .eql (.t 62) (.c (.int .i64 1)), (some (61, true)), []⟩,
  ⟨some 64, .pick (.t 61) (.t 63) (.c (.bool false)), none, []⟩,
  ⟨some 65, .move (.t 64), none, []⟩,
  ⟨some 66, .move (.t 9), (some (65, true)), []⟩,
  ⟨some 67, .pick (.t 65) (.t 66) (.c (.bool false)), none, []⟩,
  ⟨some 68, .move (.t 67), none, []⟩,
  ⟨some 69, .move (.t 8), (some (68, true)), []⟩,
  ⟨some 70, .bin .eql (.t 69) (.c (.int .i64 15)), (some (68, true)), []⟩,
  ⟨some 71, .pick (.t 68) (.t 70) (.c (.bool false)), none, []⟩,
  ⟨some 72, .move (.t 71), none, []⟩,
  ⟨some 73, .move (.t 11), (some (72, true)), []⟩,
  ⟨some 74, .not (.t 73), (some (72, true)), []⟩,
  ⟨some 75, .pick (.t 72) (.t 74) (.c (.bool false)), none, []⟩,
  ⟨some 76, .move (.t 75), none, []⟩,
  ⟨some 77, .move (.t 13), (some (76, true)), []⟩,
  ⟨some 78, .not (.t 77), (some (76, true)), []⟩,
  ⟨some 79, .pick (.t 76) (.t 78) (.c (.bool false)), none, []⟩,
  ⟨some 0, .move (.t 79), none, []⟩] none [0])
(.ret))))))))))
def f4 : SFunc := ⟨b4, [.t 0]⟩

/-- watchbill/guard.New -/
def b5 : SCode := (
.seq (.ops [⟨some 1, .box (.t 0), none, []⟩,
  ⟨some 2, .move (.c .nilp), none, []⟩] none [1])
(.seq (.ops [⟨some 5, .mkmap, none, []⟩,
  ⟨some 6, .build [.nils, .nilm, (.int .i64 0)] [(1, 1, (.t 5))], none, []⟩,
  ⟨some 7, .box (.t 6), none, []⟩,
  ⟨some 3, .move (.t 7), none, []⟩] none [1, 3])
(.seq (.skip)
(.seq (.block 0 (.loop [1, 3] (.block 1 (.seq (.ops [⟨some 8, .move (.t 3), none, []⟩,
        ⟨some 9, .nilck (.t 8), none, []⟩,
        ⟨some 10, .fldAddr 0 (.t 9), none, []⟩,
        ⟨some 11, .load none (.t 10), none, []⟩,
        ⟨some 12, .len .sl (.t 11), none, []⟩,
        ⟨some 4, .move (.t 12), none, []⟩] none [1, 3, 4])
      (.seq (.seq (.ops [⟨some 13, .move (.t 4), none, []⟩,
        ⟨some 14, .fldAddr 2 (.t 1), none, []⟩,
        ⟨some 15, .load none (.t 14), none, []⟩,
        ⟨some 16, .len .sl (.t 15), none, []⟩,
        ⟨some 17, .bin .eql (.t 13) (.t 16), none, []⟩] none [1, 3, 4, 17])
      (.cond (.t 17)
        (.exit 0)
        (.skip)))
      (.ops [⟨some 18, .move (.t 3), none, []⟩,
        ⟨some 19, .move (.t 3), none, []⟩,
        ⟨some 20, .nilck (.t 19), none, []⟩,
        ⟨some 21, .fldAddr 0 (.t 20), none, []⟩,
        ⟨some 22, .load none (.t 21), none, []⟩,
        ⟨some 23, .fldAddr 2 (.t 1), none, []⟩,
        ⟨some 24, .load none (.t 23), none, []⟩,
        ⟨some 25, .move (.t 4), none, []⟩,
        ⟨some 26, .idxAddr 5 (.t 24) (.t 25), none, []⟩,
        ⟨some 27, .fldAddr 1 (.t 26), none, []⟩,
        ⟨some 28, .load none (.t 27), none, []⟩,
        ⟨some 29, .buildSl 1 [(.int .i64 0)] [(0, 1, (.t 28))], none, []⟩,
        ⟨some 30, .append 1 (.t 22) (.t 29), none, []⟩,
        ⟨some 31, .nilck (.t 18), none, []⟩,
        ⟨some 32, .fldAddr 0 (.t 31), none, []⟩,
        ⟨none, .store none (.t 32) (.t 30), none, []⟩] (some [(0, []), (1, []), (2, [1]), (3, [2, 1]), (4, [3, 2, 1]), (5, []), (6, [5]), (7, []), (8, [6, 5, 7]), (9, [8, 6, 5, 7]), (10, [9, 8, 6, 5, 7]), (11, [10, 9, 8, 6, 5, 7]), (12, [4, 3, 2, 1, 11, 10, 9, 8, 6, 5, 7]), (13, [0, 1, 2, 3, 4, 5, 6, 7, 8, 9, 10, 11, 12]), (14, [13, 0, 1, 2, 3, 4, 5, 6, 7, 8, 9, 10, 11, 12]), (15, [14, 13, 0, 1, 2, 3, 4, 5, 6, 7, 8, 9, 10, 11, 12])]) [1, 3]))))))
(.seq (.ops [⟨some 33, .move (.t 3), none, []⟩,
  ⟨some 2, .move (.t 33), none, []⟩] none [2])
(.ret))))))
def f5 : SFunc := ⟨b5, [.t 2]⟩

/-- watchbill/watchbillref21.NewGuard -/
def b11 : SCode := (
.seq (.ops [⟨some 1, .box (.t 0), none, []⟩,
  ⟨some 2, .move (.c .nilp), none, []⟩] none [1])
(.seq (.ops [⟨some 5, .build [.nils, .nils, (.int .i64 0)] [], none, []⟩,
  ⟨some 6, .box (.t 5), none, []⟩,
  ⟨some 3, .move (.t 6), none, []⟩] none [1, 3])
(.seq (.seq (.ops [⟨some 4, .move (.c (.int .i64 0)), none, []⟩] none [1, 3, 4])
(.block 0 (.loop [1, 3, 4] (.seq (.seq (.ops [⟨some 7, .move (.t 4), none, []⟩,
      ⟨some 8, .fldAddr 2 (.t 1), none, []⟩,
      ⟨some 9, .load none (.t 8), none, []⟩,
      ⟨some 10, .len .sl (.t 9), none, []⟩,
      ⟨some 11, .bin .lss (.t 7) (.t 10), none, []⟩] none [1, 3, 4, 11])
    (.cond (.t 11)
      (.skip)
      (.exit 0)))
    (.seq (.block 1 (.seq (.ops [⟨some 14, .move (.t 3), none, []⟩,
        ⟨some 15, .move (.t 3), none, []⟩,
        ⟨some 16, .nilck (.t 15), none, []⟩,
        ⟨some 17, .fldAddr 0 (.t 16), none, []⟩,
        ⟨some 18, .load none (.t 17), none, []⟩,
        ⟨some 19, .fldAddr 2 (.t 1), none, []⟩,
        ⟨some 20, .load none (.t 19), none, []⟩,
        ⟨some 21, .move (.t 4), none, []⟩,
        ⟨some 22, .idxAddr 5 (.t 20) (.t 21), none, []⟩,
        ⟨some 23, .fldAddr 1 (.t 22), none, []⟩,
        ⟨some 24, .load none (.t 23), none, []⟩,
        ⟨some 25, .buildSl 1 [(.int .i64 0)] [(0, 1, (.t 24))], none, []⟩,
        ⟨some 26, .append 1 (.t 18) (.t 25), none, []⟩,
        ⟨some 27, .nilck (.t 14), none, []⟩,
        ⟨some 28, .fldAddr 0 (.t 27), none, []⟩,
        ⟨none, .store none (.t 28) (.t 26), none, []⟩] (some [(0, []), (1, []), (2, [1]), (3, [2, 1]), (4, [3, 2, 1]), (5, []), (6, [5]), (7, []), (8, [6, 5, 7]), (9, [8, 6, 5, 7]), (10, [9, 8, 6, 5, 7]), (11, [10, 9, 8, 6, 5, 7]), (12, [4, 3, 2, 1, 11, 10, 9, 8, 6, 5, 7]), (13, [0, 1, 2, 3, 4, 5, 6, 7, 8, 9, 10, 11, 12]), (14, [13, 0, 1, 2, 3, 4, 5, 6, 7, 8, 9, 10, 11, 12]), (15, [14, 13, 0, 1, 2, 3, 4, 5, 6, 7, 8, 9, 10, 11, 12])]) [1, 3, 4])
      (.ops [⟨some 29, .move (.t 3), none, []⟩,
        ⟨some 30, .move (.t 3), none, []⟩,
        ⟨some 31, .nilck (.t 30), none, []⟩,
        ⟨some 32, .fldAddr 1 (.t 31), none, []⟩,
        ⟨some 33, .load none (.t 32), none, []⟩,
        ⟨some 34, .buildSl 1 [(.int .i64 0)] [(0, 1, (.c (.int .i64 (-1))))], none, []⟩,
        ⟨some 35, .append 1 (.t 33) (.t 34), none, []⟩,
        ⟨some 36, .nilck (.t 29), none, []⟩,
        ⟨some 37, .fldAddr 1 (.t 36), none, []⟩,
        ⟨none, .store none (.t 37) (.t 35), none, []⟩] none [1, 3, 4])))
    (.ops [⟨some 12, .move (.t 4), none, []⟩,
      ⟨some 13, .bin .add (.t 12) (.c (.int .i64 1)), none, []⟩,
      ⟨some 4, .move (.t 13), none, []⟩] none [1, 3, 4]))))))
(.seq (.ops [⟨some 38, .move (.t 3), none, []⟩,
  ⟨some 2, .move (.t 38), none, []⟩] none [2])
(.ret)))))
def f11 : SFunc := ⟨b11, [.t 2]⟩

/-- watchbill/watchbilllaw7.Of -/
def b10 : SCode := (
.seq (.ops [⟨some 1, .box (.t 0), none, []⟩,
  ⟨some 2, .alloc (.agg [(.int .i64 0), .nils, .nils]), none, []⟩] none [1, 2])
(.seq (.ops [⟨some 7, .fldAddr 0 (.t 1), none, []⟩,
  ⟨some 8, .load none (.t 7), none, []⟩,
  ⟨some 9, .build [(.int .i64 0), .nils, .nils] [(0, 1, (.t 8))], none, []⟩,
  ⟨some 3, .alloc (.agg [(.int .i64 0), .nils, .nils]), none, []⟩,
  ⟨none, .store (some 3) (.t 3) (.t 9), none, []⟩] none [1, 2, 3])
(.seq (.seq (.ops [⟨some 4, .move (.c (.int .i64 0)), none, []⟩] none [1, 2, 3, 4])
(.block 0 (.loop [1, 2, 3, 4] (.seq (.seq (.ops [⟨some 10, .move (.t 4), none, []⟩,
      ⟨some 11, .fldAddr 1 (.t 1), none, []⟩,
      ⟨some 12, .load none (.t 11), none, []⟩,
      ⟨some 13, .len .sl (.t 12), none, []⟩,
      ⟨some 14, .bin .lss (.t 10) (.t 13), none, []⟩] none [1, 2, 3, 4, 14])
    (.cond (.t 14)
      (.skip)
      (.exit 0)))
    (.seq (.block 1 (.ops [⟨some 17, .fldAddr 1 (.t 3), none, []⟩,
        ⟨some 18, .load none (.t 17), none, []⟩,
        ⟨some 19, .fldAddr 1 (.t 1), none, []⟩,
        ⟨some 20, .load none (.t 19), none, []⟩,
        ⟨some 21, .move (.t 4), none, []⟩,
        ⟨some 22, .idxAddr 2 (.t 20) (.t 21), none, []⟩,
        ⟨some 23, .fldAddr 0 (.t 22), none, []⟩,
        ⟨some 24, .load none (.t 23), none, []⟩,
        ⟨some 25, .fldAddr 1 (.t 1), none, []⟩,
        ⟨some 26, .load none (.t 25), none, []⟩,
        ⟨some 27, .move (.t 4), none, []⟩,
        ⟨some 28, .idxAddr 2 (.t 26) (.t 27), none, []⟩,
        ⟨some 29, .fldAddr 1 (.t 28), none, []⟩,
        ⟨some 30, .load none (.t 29), none, []⟩,
        ⟨some 31, .build [(.int .i64 0), (.int .i64 0)] [(0, 1, (.t 24)), (1, 1, (.t 30))], none, []⟩,
        ⟨some 32, .buildSl 1 [(.int .i64 0), (.int .i64 0)] [(0, 2, (.t 31))], none, []⟩,
        ⟨some 33, .append 2 (.t 18) (.t 32), none, []⟩,
        ⟨some 34, .fldAddr 1 (.t 3), none, []⟩,
        ⟨none, .store none (.t 34) (.t 33), none, []⟩] (some [(0, []), (1, [0]), (2, []), (3, [2]), (4, []), (5, [3, 2, 4]), (6, [5, 3, 2, 4]), (7, [6, 5, 3, 2, 4]), (8, []), (9, [8]), (10, []), (11, [9, 8, 10]), (12, [11, 9, 8, 10]), (13, [12, 11, 9, 8, 10]), (14, [7, 6, 5, 3, 2, 4, 13, 12, 11, 9, 8, 10]), (15, [14, 7, 6, 5, 3, 2, 4, 13, 12, 11, 9, 8, 10]), (16, [1, 0, 15, 14, 7, 6, 5, 3, 2, 4, 13, 12, 11, 9, 8, 10]), (17, [0, 1, 2, 3, 4, 5, 6, 7, 8, 9, 10, 11, 12, 13, 14, 15, 16]), (18, [17, 0, 1, 2, 3, 4, 5, 6, 7, 8, 9, 10, 11, 12, 13, 14, 15, 16])]) [1, 2, 3, 4]))
    (.ops [⟨some 15, .move (.t 4), none, []⟩,
      ⟨some 16, .bin .add (.t 15) (.c (.int .i64 1)), none, []⟩,
      ⟨some 4, .move (.t 16), none, []⟩] none [1, 2, 3, 4]))))))
(.seq (.seq (.ops [⟨some 5, .move (.c (.int .i64 0)), none, []⟩] none [1, 2, 3, 5])
(.block 2 (.loop [1, 2, 3, 5] (.seq (.seq (.ops [⟨some 35, .move (.t 5), none, []⟩,
      ⟨some 36, .fldAddr 2 (.t 1), none, []⟩,
      ⟨some 37, .load none (.t 36), none, []⟩,
      ⟨some 38, .len .sl (.t 37), none, []⟩,
      ⟨some 39, .bin .lss (.t 35) (.t 38), none, []⟩] none [1, 2, 3, 5, 39])
    (.cond (.t 39)
      (.skip)
      (.exit 2)))
    (.seq (.block 3 (.seq (.ops [⟨some 42, .fldAddr 2 (.t 1), none, []⟩,
        ⟨some 43, .load none (.t 42), none, []⟩,
        ⟨some 44, .move (.t 5), none, []⟩,
        ⟨some 45, .idxAddr 5 (.t 43) (.t 44), none, []⟩,
        ⟨some 46, .load (some 5) (.t 45), none, []⟩,
        ⟨some 6, .alloc (.agg [(.str []), (.int .i64 0), (.int .i64 0), (.int .i64 0), .nils]), none, []⟩,
        ⟨none, .store (some 5) (.t 6) (.t 46), none, []⟩] none [1, 2, 3, 5, 6])
      (.ops [⟨some 47, .fldAddr 2 (.t 3), none, []⟩,
        ⟨some 48, .load none (.t 47), none, []⟩,
        ⟨some 49, .fldAddr 0 (.t 6), none, []⟩,
        ⟨some 50, .load none (.t 49), none, []⟩,
        ⟨some 51, .fldAddr 1 (.t 6), none, []⟩,
        ⟨some 52, .load none (.t 51), none, []⟩,
        ⟨some 53, .fldAddr 2 (.t 6), none, []⟩,
        ⟨some 54, .load none (.t 53), none, []⟩,
        ⟨some 55, .fldAddr 3 (.t 6), none, []⟩,
        ⟨some 56, .load none (.t 55), none, []⟩,
        ⟨some 57, .fldAddr 4 (.t 6), none, []⟩,
        ⟨some 58, .load none (.t 57), none, []⟩,
        ⟨some 59, .call 53 [(.t 58)], none, [1, 3, 5, 7, 9]⟩,
        ⟨some 60, .build [(.str []), (.int .i64 0), (.int .i64 0), (.int .i64 0), .nils] [(0, 1, (.t 50)), (1, 1, (.t 52)), (2, 1, (.t 54)), (3, 1, (.t 56)), (4, 1, (.t 59))], none, []⟩,
        ⟨some 61, .buildSl 1 [(.str []), (.int .i64 0), (.int .i64 0), (.int .i64 0), .nils] [(0, 5, (.t 60))], none, []⟩,
        ⟨some 62, .append 5 (.t 48) (.t 61), none, []⟩,
        ⟨some 63, .fldAddr 2 (.t 3), none, []⟩,
        ⟨none, .store none (.t 63) (.t 62), none, []⟩] (some [(0, []), (1, [0]), (2, []), (3, [2]), (4, []), (5, [4]), (6, []), (7, [6]), (8, []), (9, [8]), (10, []), (11, [10]), (12, [11, 10]), (13, [3, 2, 5, 4, 7, 6, 9, 8, 12, 11, 10]), (14, [13, 3, 2, 5, 4, 7, 6, 9, 8, 12, 11, 10]), (15, [1, 0, 14, 13, 3, 2, 5, 4, 7, 6, 9, 8, 12, 11, 10]), (16, [0, 1, 2, 3, 4, 5, 6, 7, 8, 9, 10, 11, 12, 13, 14, 15]), (17, [16, 0, 1, 2, 3, 4, 5, 6, 7, 8, 9, 10, 11, 12, 13, 14, 15])]) [1, 2, 3, 5])))
    (.ops [⟨some 40, .move (.t 5), none, []⟩,
      ⟨some 41, .bin .add (.t 40) (.c (.int .i64 1)), none, []⟩,
      ⟨some 5, .move (.t 41), none, []⟩] none [1, 2, 3, 5]))))))
(.seq (.ops [⟨some 64, .load (some 3) (.t 3), none, []⟩,
  ⟨none, .store (some 3) (.t 2) (.t 64), none, []⟩] none [2])
(.ret))))))
def f10 : SFunc := ⟨b10, [.cell (some 3) 2]⟩

/-- (*watchbill/guard.Guard).Twin -/
def b12 : SCode := (
.seq (.ops [⟨some 2, .move (.c .nilp), none, []⟩] none [0])
(.seq (.ops [⟨some 3, .move (.t 0), none, []⟩,
  ⟨some 4, .nilck (.t 3), none, []⟩,
  ⟨some 5, .fldAddr 0 (.t 4), none, []⟩,
  ⟨some 6, .load none (.t 5), none, []⟩,
  ⟨some 7, .move (.t 0), none, []⟩,
  ⟨some 8, .nilck (.t 7), none, []⟩,
  ⟨some 9, .fldAddr 1 (.t 8), none, []⟩,
  ⟨some 10, .load none (.t 9), none, []⟩,
  ⟨some 12, .move (.t 0), none, []⟩,
  ⟨some 13, .nilck (.t 12), none, []⟩,
  ⟨some 14, .fldAddr 2 (.t 13), none, []⟩,
  ⟨some 15, .load none (.t 14), none, []⟩,
  ⟨some 11, .call 54 [(.t 10)], none, [3, 11]⟩,
  ⟨some 16, .build [.nils, .nilm, (.int .i64 0)] [(0, 1, (.t 6)), (1, 1, (.t 11)), (2, 1, (.t 15))], none, []⟩,
  ⟨some 17, .box (.t 16), none, []⟩,
  ⟨some 2, .move (.t 17), none, []⟩] (some [(0, []), (1, [0]), (2, [1, 0]), (3, [2, 1, 0]), (4, []), (5, [4]), (6, [5, 4]), (7, [6, 5, 4]), (9, []), (10, [8]), (11, [9, 8]), (12, [10, 9, 8]), (8, [7, 6, 5, 4]), (13, [3, 2, 1, 0, 12, 7, 6, 5, 4, 11, 10, 9, 8]), (14, [13, 3, 2, 1, 0, 12, 7, 6, 5, 4, 11, 10, 9, 8]), (15, [14, 13, 3, 2, 1, 0, 12, 7, 6, 5, 4, 11, 10, 9, 8])]) [2])
(.ret)))
def f12 : SFunc := ⟨b12, [.t 2]⟩

/-- (*watchbill/guard.Guard).Ask -/
def b6 : SCode := (
.seq (.ops [⟨some 8, .move (.c (.int .i64 0)), none, []⟩] none [0, 1, 2, 3])
(.seq (.seq (.ops [⟨some 11, .move (.t 1), none, []⟩,
  ⟨some 12, .bin .lss (.t 11) (.c (.int .i64 0)), none, []⟩,
  ⟨some 13, .move (.t 12), none, []⟩,
  ⟨some 14, .move (.t 1), (some (13, false)), []⟩,
  ⟨some 15, .move (.t 0), (some (13, false)), []⟩,
  ⟨some 16, .nilck (.t 15), (some (13, false)), []⟩,
  ⟨some 17, .fldAddr 0 (.t 16), (some (13, false)), []⟩,
  ⟨some 18, .load none (.t 17), (some (13, false)), []⟩,
  ⟨some 19, .len .sl (.t 18), (some (13, false)), []⟩,
  ⟨some 20, .bin .geq (.t 14) (.t 19), (some (13, false)), []⟩,
  ⟨some 21, .pick (.t 13) (.c (.bool true)) (.t 20), none, []⟩] none [0, 1, 2, 3, 21])
(.cond (.t 21)
  (.seq (.ops [⟨some 8, .move (.c (.int .i64 3)), none, []⟩] none [8])
  (.ret))
  (.skip)))
(.seq (.seq (.ops [⟨some 22, .move (.t 2), none, []⟩,
  ⟨some 23, .move (.t 0), none, []⟩,
  ⟨some 24, .nilck (.t 23), none, []⟩,
  ⟨some 25, .fldAddr 2 (.t 24), none, []⟩,
  ⟨some 26, .load none (.t 25), none, []⟩,
  ⟨some 27, .bin .lss (.t 22) (.t 26), none, []⟩,
  ⟨some 28, .move (.t 27), none, []⟩,
  ⟨some 29, .move (.t 2), (some (28, false)), []⟩,
  ⟨some 30, .bin .lss (.t 29) (.c (.int .i64 0)), (some (28, false)), []⟩,
  ⟨some 31, .pick (.t 28) (.c (.bool true)) (.t 30), none, []⟩,
  ⟨some 32, .move (.t 31), none, []⟩,
  ⟨some 33, .move (.t 2), (some (32, false)), []⟩,
  ⟨some 34, .bin .gtr (.t 33) (.c (.int .i64 1099511627776)), (some (32, false)), []⟩,
  ⟨some 35, .pick (.t 32) (.c (.bool true)) (.t 34), none, []⟩] none [0, 1, 2, 3, 35])
(.cond (.t 35)
  (.seq (.ops [⟨some 8, .move (.c (.int .i64 1)), none, []⟩] none [8])
  (.ret))
  (.skip)))
(.seq (.ops [⟨some 37, .move (.t 0), none, []⟩,
  ⟨some 38, .nilck (.t 37), none, []⟩,
  ⟨some 39, .fldAddr 1 (.t 38), none, []⟩,
  ⟨some 40, .load none (.t 39), none, []⟩,
  ⟨some 41, .move (.t 1), none, []⟩,
  ⟨some 42, .lookup true .i (.int .i64 0) (.t 40) (.t 41), none, []⟩,
  ⟨some 36, .move (.t 42), none, []⟩,
  ⟨some 43, .ext 0 (.t 36), none, []⟩,
  ⟨some 44, .ext 1 (.t 36), none, []⟩,
  ⟨some 9, .move (.t 43), none, []⟩,
  ⟨some 10, .move (.t 44), none, []⟩] none [0, 1, 2, 3, 9, 10])
(.seq (.block 0 (.seq (.ops [⟨some 46, .move (.t 10), none, []⟩,
    ⟨some 47, .move (.t 46), none, []⟩,
    ⟨some 48, .move (.t 2), (some (47, true)), []⟩,
    ⟨some 49, .move (.t 9), (some (47, true)), []⟩,
    ⟨some 50, .bin .sub (.t 48) (.t 49), (some (47, true)), []⟩,
    ⟨some 51, .move (.t 0), (some (47, true)), []⟩,
    ⟨some 52, .nilck (.t 51), (some (47, true)), []⟩,
    ⟨some 53, .fldAddr 0 (.t 52), (some (47, true)), []⟩,
    ⟨some 54, .load none (.t 53), (some (47, true)), []⟩,
    ⟨some 55, .move (.t 1), (some (47, true)), []⟩,
    ⟨some 56, .idxAddr 1 (.t 54) (.t 55), (some (47, true)), []⟩,
    ⟨some 57, .load none (.t 56), (some (47, true)), []⟩,
    ⟨some 58, .bin .lss (.t 50) (.t 57), (some (47, true)), []⟩,
    ⟨some 59, .pick (.t 47) (.t 58) (.c (.bool false)), none, []⟩,
    ⟨some 45, .move (.t 59), none, []⟩] none [0, 1, 2, 3, 45])
  (.cond (.t 45)
    (.seq (.ops [⟨some 8, .move (.c (.int .i64 12)), none, []⟩] none [8])
    (.ret))
    (.seq (.ops [⟨some 61, .move (.t 3), none, []⟩,
      ⟨some 60, .move (.t 61), none, []⟩] none [0, 1, 2, 60])
    (.cond (.t 60)
      (.seq (.ops [⟨some 8, .move (.c (.int .i64 10)), none, []⟩] none [8])
      (.ret))
      (.skip))))))
(.seq (.ops [⟨some 62, .move (.t 0), none, []⟩,
  ⟨some 63, .nilck (.t 62), none, []⟩,
  ⟨some 64, .fldAddr 1 (.t 63), none, []⟩,
  ⟨some 65, .load none (.t 64), none, []⟩,
  ⟨some 66, .move (.t 1), none, []⟩,
  ⟨some 67, .move (.t 0), none, []⟩,
  ⟨some 68, .move (.t 2), none, []⟩,
  ⟨some 69, .move (.t 2), none, []⟩,
  ⟨some 70, .mapent .i (.int .i64 0) (.t 65) (.t 66), none, []⟩,
  ⟨some 71, .ext 1 (.t 70), none, []⟩,
  ⟨none, .entst (.t 65) (.t 71) (.t 68), none, []⟩,
  ⟨some 72, .nilck (.t 67), none, []⟩,
  ⟨some 73, .fldAddr 2 (.t 72), none, []⟩,
  ⟨none, .store none (.t 73) (.t 69), none, []⟩] none [])
(.seq (.ops [⟨some 8, .move (.c (.int .i64 0)), none, []⟩] none [8])
(.ret))))))))
def f6 : SFunc := ⟨b6, [.t 8]⟩

/-- (*watchbill/watchbillref21.Guard).Ask -/
def b13 : SCode := (
.seq (.ops [⟨some 8, .move (.c (.int .i64 0)), none, []⟩] none [0, 1, 2, 3])
(.seq (.seq (.ops [⟨some 10, .move (.t 1), none, []⟩,
  ⟨some 11, .bin .lss (.t 10) (.c (.int .i64 0)), none, []⟩,
  ⟨some 12, .move (.t 11), none, []⟩,
  ⟨some 13, .move (.t 1), (some (12, false)), []⟩,
  ⟨some 14, .move (.t 0), (some (12, false)), []⟩,
  ⟨some 15, .nilck (.t 14), (some (12, false)), []⟩,
  ⟨some 16, .fldAddr 1 (.t 15), (some (12, false)), []⟩,
  ⟨some 17, .load none (.t 16), (some (12, false)), []⟩,
  ⟨some 18, .len .sl (.t 17), (some (12, false)), []⟩,
  ⟨some 19, .bin .geq (.t 13) (.t 18), (some (12, false)), []⟩,
  ⟨some 20, .pick (.t 12) (.c (.bool true)) (.t 19), none, []⟩] none [0, 1, 2, 3, 20])
(.cond (.t 20)
  (.seq (.ops [⟨some 8, .move (.c (.int .i64 3)), none, []⟩] none [8])
  (.ret))
  (.skip)))
(.seq (.seq (.ops [⟨some 21, .move (.t 2), none, []⟩,
  ⟨some 22, .bin .lss (.t 21) (.c (.int .i64 0)), none, []⟩,
  ⟨some 23, .move (.t 22), none, []⟩,
  ⟨some 24, .move (.t 2), (some (23, false)), []⟩,
  ⟨some 25, .bin .gtr (.t 24) (.c (.int .i64 1099511627776)), (some (23, false)), []⟩,
  ⟨some 26, .pick (.t 23) (.c (.bool true)) (.t 25), none, []⟩,
  ⟨some 27, .move (.t 26), none, []⟩,
  ⟨some 28, .move (.t 2), (some (27, false)), []⟩,
  ⟨some 29, .move (.t 0), (some (27, false)), []⟩,
  ⟨some 30, .nilck (.t 29), (some (27, false)), []⟩,
  ⟨some 31, .fldAddr 2 (.t 30), (some (27, false)), []⟩,
  ⟨some 32, .load none (.t 31), (some (27, false)), []⟩,
  ⟨some 33, .bin .lss (.t 28) (.t 32), (some (27, false)), []⟩,
  ⟨some 34, .pick (.t 27) (.c (.bool true)) (.t 33), none, []⟩] none [0, 1, 2, 3, 34])
(.cond (.t 34)
  (.seq (.ops [⟨some 8, .move (.c (.int .i64 1)), none, []⟩] none [8])
  (.ret))
  (.skip)))
(.seq (.seq (.ops [⟨some 35, .move (.t 0), none, []⟩,
  ⟨some 36, .nilck (.t 35), none, []⟩,
  ⟨some 37, .fldAddr 1 (.t 36), none, []⟩,
  ⟨some 38, .load none (.t 37), none, []⟩,
  ⟨some 39, .move (.t 1), none, []⟩,
  ⟨some 40, .idxAddr 1 (.t 38) (.t 39), none, []⟩,
  ⟨some 41, .load none (.t 40), none, []⟩,
  ⟨some 42, .bin .geq (.t 41) (.c (.int .i64 0)), none, []⟩,
  ⟨some 43, .move (.t 42), none, []⟩,
  ⟨some 44, .move (.t 2), (some (43, true)), []⟩,
  ⟨some 45, .move (.t 0), (some (43, true)), []⟩,
  ⟨some 46, .nilck (.t 45), (some (43, true)), []⟩,
  ⟨some 47, .fldAddr 1 (.t 46), (some (43, true)), []⟩,
  ⟨some 48, .load none (.t 47), (some (43, true)), []⟩,
  ⟨some 49, .move (.t 1), (some (43, true)), []⟩,
  ⟨some 50, .idxAddr 1 (.t 48) (.t 49), (some (43, true)), []⟩,
  ⟨some 51, .load none (.t 50), (some (43, true)), []⟩,
  ⟨some 52, .bin .sub (.t 44) (.t 51), (some (43, true)), []⟩,
  ⟨some 53, .move (.t 0), (some (43, true)), []⟩,
  ⟨some 54, .nilck (.t 53), (some (43, true)), []⟩,
  ⟨some 55, .fldAddr 0 (.t 54), (some (43, true)), []⟩,
  ⟨some 56, .load none (.t 55), (some (43, true)), []⟩,
  ⟨some 57, .move (.t 1), (some (43, true)), []⟩,
  ⟨some 58, .idxAddr 1 (.t 56) (.t 57), (some (43, true)), []⟩,
  ⟨some 59, .load none (.t 58), (some (43, true)), []⟩,
  ⟨some 60, .bin .lss (.t 52) (.t 59), (some (43, true)), []⟩,
  ⟨some 61, .pick (.t 43) (.t 60) (.c (.bool false)), none, []⟩] (some [(0, []), (1, [0]), (2, [1, 0]), (3, [2, 1, 0]), (4, []), (5, [3, 2, 1, 0, 4]), (6, [5, 3, 2, 1, 0, 4]), (7, [6, 5, 3, 2, 1, 0, 4]), (8, [7, 6, 5, 3, 2, 1, 0, 4]), (9, [8, 7, 6, 5, 3, 2, 1, 0, 4]), (10, [8, 7, 6, 5, 3, 2, 1, 0, 4]), (11, [10, 8, 7, 6, 5, 3, 2, 1, 0, 4]), (12, [11, 10, 8, 7, 6, 5, 3, 2, 1, 0, 4]), (13, [12, 11, 10, 8, 7, 6, 5, 3, 2, 1, 0, 4]), (14, [8, 7, 6, 5, 3, 2, 1, 0, 4]), (15, [13, 12, 11, 10, 8, 7, 6, 5, 3, 2, 1, 0, 4, 14]), (16, [15, 13, 12, 11, 10, 8, 7, 6, 5, 3, 2, 1, 0, 4, 14]), (17, [9, 8, 7, 6, 5, 3, 2, 1, 0, 4, 16, 15, 13, 12, 11, 10, 14]), (18, [8, 7, 6, 5, 3, 2, 1, 0, 4]), (19, [18, 8, 7, 6, 5, 3, 2, 1, 0, 4]), (20, [19, 18, 8, 7, 6, 5, 3, 2, 1, 0, 4]), (21, [20, 19, 18, 8, 7, 6, 5, 3, 2, 1, 0, 4]), (22, [8, 7, 6, 5, 3, 2, 1, 0, 4]), (23, [21, 20, 19, 18, 8, 7, 6, 5, 3, 2, 1, 0, 4, 22]), (24, [23, 21, 20, 19, 18, 8, 7, 6, 5, 3, 2, 1, 0, 4, 22]), (25, [17, 9, 8, 7, 6, 5, 3, 2, 1, 0, 4, 16, 15, 13, 12, 11, 10, 14, 24, 23, 21, 20, 19, 18, 22]), (26, [8, 7, 6, 5, 3, 2, 1, 0, 4, 25, 17, 9, 16, 15, 13, 12, 11, 10, 14, 24, 23, 21, 20, 19, 18, 22])]) [0, 1, 2, 3, 61])
(.cond (.t 61)
  (.seq (.ops [⟨some 8, .move (.c (.int .i64 12)), none, []⟩] none [8])
  (.ret))
  (.skip)))
(.seq (.seq (.ops [⟨some 62, .move (.t 3), none, []⟩] none [0, 1, 2, 62])
(.cond (.t 62)
  (.seq (.ops [⟨some 8, .move (.c (.int .i64 10)), none, []⟩] none [8])
  (.ret))
  (.skip)))
(.seq (.ops [⟨some 63, .buildSl 0 [] [], none, []⟩,
  ⟨some 64, .move (.t 0), none, []⟩,
  ⟨some 65, .nilck (.t 64), none, []⟩,
  ⟨some 66, .fldAddr 1 (.t 65), none, []⟩,
  ⟨some 67, .load none (.t 66), none, []⟩,
  ⟨some 68, .append 1 (.t 63) (.t 67), none, []⟩,
  ⟨some 9, .move (.t 68), none, []⟩] none [0, 1, 2, 9])
(.seq (.ops [⟨some 69, .move (.t 9), none, []⟩,
  ⟨some 70, .move (.t 1), none, []⟩,
  ⟨some 71, .move (.t 2), none, []⟩,
  ⟨some 72, .idxAddr 1 (.t 69) (.t 70), none, []⟩,
  ⟨none, .store none (.t 72) (.t 71), none, []⟩] none [0, 2, 9])
(.seq (.ops [⟨some 73, .move (.t 0), none, []⟩,
  ⟨some 74, .move (.t 9), none, []⟩,
  ⟨some 75, .nilck (.t 73), none, []⟩,
  ⟨some 76, .fldAddr 1 (.t 75), none, []⟩,
  ⟨none, .store none (.t 76) (.t 74), none, []⟩] none [0, 2])
(.seq (.ops [⟨some 77, .move (.t 0), none, []⟩,
  ⟨some 78, .move (.t 2), none, []⟩,
  ⟨some 79, .nilck (.t 77), none, []⟩,
  ⟨some 80, .fldAddr 2 (.t 79), none, []⟩,
  ⟨none, .store none (.t 80) (.t 78), none, []⟩] none [])
(.seq (.ops [⟨some 8, .move (.c (.int .i64 0)), none, []⟩] none [8])
(.ret)))))))))))
def f13 : SFunc := ⟨b13, [.t 8]⟩

/-- (*watchbill/guard.Guard).Last -/
def b8 : SCode := (
.seq (.ops [⟨some 4, .move (.c (.int .i64 0)), none, []⟩,
  ⟨some 5, .move (.c (.bool false)), none, []⟩] none [0, 1])
(.seq (.ops [⟨some 9, .move (.t 0), none, []⟩,
  ⟨some 10, .nilck (.t 9), none, []⟩,
  ⟨some 11, .fldAddr 1 (.t 10), none, []⟩,
  ⟨some 12, .load none (.t 11), none, []⟩,
  ⟨some 13, .move (.t 1), none, []⟩,
  ⟨some 14, .lookup true .i (.int .i64 0) (.t 12) (.t 13), none, []⟩,
  ⟨some 8, .move (.t 14), none, []⟩,
  ⟨some 15, .ext 0 (.t 8), none, []⟩,
  ⟨some 16, .ext 1 (.t 8), none, []⟩,
  ⟨some 6, .move (.t 15), none, []⟩,
  ⟨some 7, .move (.t 16), none, []⟩] none [6, 7])
(.seq (.ops [⟨some 17, .move (.t 6), none, []⟩,
  ⟨some 18, .move (.t 7), none, []⟩,
  ⟨some 4, .move (.t 17), none, []⟩,
  ⟨some 5, .move (.t 18), none, []⟩] none [4, 5])
(.ret))))
def f8 : SFunc := ⟨b8, [.t 4, .t 5]⟩

/-- (*watchbill/watchbillref21.Guard).Last -/
def b14 : SCode := (
.seq (.ops [⟨some 4, .move (.c (.int .i64 0)), none, []⟩,
  ⟨some 5, .move (.c (.bool false)), none, []⟩] none [0, 1])
(.seq (.seq (.ops [⟨some 6, .move (.t 1), none, []⟩,
  ⟨some 7, .bin .lss (.t 6) (.c (.int .i64 0)), none, []⟩,
  ⟨some 8, .move (.t 7), none, []⟩,
  ⟨some 9, .move (.t 1), (some (8, false)), []⟩,
  ⟨some 10, .move (.t 0), (some (8, false)), []⟩,
  ⟨some 11, .nilck (.t 10), (some (8, false)), []⟩,
  ⟨some 12, .fldAddr 1 (.t 11), (some (8, false)), []⟩,
  ⟨some 13, .load none (.t 12), (some (8, false)), []⟩,
  ⟨some 14, .len .sl (.t 13), (some (8, false)), []⟩,
  ⟨some 15, .bin .geq (.t 9) (.t 14), (some (8, false)), []⟩,
  ⟨some 16, .pick (.t 8) (.c (.bool true)) (.t 15), none, []⟩,
  ⟨some 17, .move (.t 16), none, []⟩,
  ⟨some 18, .move (.t 0), (some (17, false)), []⟩,
  ⟨some 19, .nilck (.t 18), (some (17, false)), []⟩,
  ⟨some 20, .fldAddr 1 (.t 19), (some (17, false)), []⟩,
  ⟨some 21, .load none (.t 20), (some (17, false)), []⟩,
  ⟨some 22, .move (.t 1), (some (17, false)), []⟩,
  ⟨some 23, .idxAddr 1 (.t 21) (.t 22), (some (17, false)), []⟩,
  ⟨some 24, .load none (.t 23), (some (17, false)), []⟩,
  ⟨some 25, .bin .lss (.t 24) (.c (.int .i64 0)), (some (17, false)), []⟩,
  ⟨some 26, .pick (.t 17) (.c (.bool true)) (.t 25), none, []⟩] none [0, 1, 26])
(.cond (.t 26)
  (.seq (.ops [⟨some 4, .move (.c (.int .i64 0)), none, []⟩,
    ⟨some 5, .move (.c (.bool false)), none, []⟩] none [4, 5])
  (.ret))
  (.skip)))
(.seq (.ops [⟨some 27, .move (.t 0), none, []⟩,
  ⟨some 28, .nilck (.t 27), none, []⟩,
  ⟨some 29, .fldAddr 1 (.t 28), none, []⟩,
  ⟨some 30, .load none (.t 29), none, []⟩,
  ⟨some 31, .move (.t 1), none, []⟩,
  ⟨some 32, .idxAddr 1 (.t 30) (.t 31), none, []⟩,
  ⟨some 33, .load none (.t 32), none, []⟩,
  ⟨some 4, .move (.t 33), none, []⟩,
  ⟨some 5, .move (.c (.bool true)), none, []⟩] none [4, 5])
(.ret))))
def f14 : SFunc := ⟨b14, [.t 4, .t 5]⟩

/-- watchbill/watchbilllaw7.Two -/
def b52 : SCode := (
.seq (.ops [⟨some 0, .alloc (.agg [(.int .i64 0), .nils, .nils]), none, []⟩] none [0])
(.seq (.ops [⟨some 3, .build [(.int .i64 0), (.int .i64 0), (.int .i64 0), (.int .i64 0), .nils] [(0, 1, (.c (.int .i64 1))), (1, 1, (.c (.int .i64 1)))], none, []⟩,
  ⟨some 4, .build [(.int .i64 0), (.int .i64 0), (.int .i64 0), (.int .i64 0), .nils] [(0, 1, (.c (.int .i64 2)))], none, []⟩,
  ⟨some 5, .build [(.int .i64 0), (.int .i64 0), (.int .i64 0), (.int .i64 0), .nils] [(0, 1, (.c (.int .i64 1))), (1, 1, (.c (.int .i64 1)))], none, []⟩,
  ⟨some 6, .build [(.int .i64 0), (.int .i64 0), (.int .i64 0), (.int .i64 0), .nils] [(0, 1, (.c (.int .i64 3)))], none, []⟩,
  ⟨some 7, .buildSl 4 [(.int .i64 0), (.int .i64 0), (.int .i64 0), (.int .i64 0), .nils, (.int .i64 0), (.int .i64 0), (.int .i64 0), (.int .i64 0), .nils, (.int .i64 0), (.int .i64 0), (.int .i64 0), (.int .i64 0), .nils, (.int .i64 0), (.int .i64 0), (.int .i64 0), (.int .i64 0), .nils] [(0, 5, (.t 3)), (5, 5, (.t 4)), (10, 5, (.t 5)), (15, 5, (.t 6))], none, []⟩,
  ⟨some 8, .build [(.str []), (.int .i64 0), (.int .i64 0), (.int .i64 0), .nils] [(0, 1, (.c (.str [102, 97, 115, 116]))), (1, 1, (.c (.int .i64 10))), (2, 1, (.c (.int .i64 8))), (3, 1, (.c (.int .i64 3))), (4, 1, (.t 7))], none, []⟩,
  ⟨some 1, .alloc (.agg [(.str []), (.int .i64 0), (.int .i64 0), (.int .i64 0), .nils]), none, []⟩,
  ⟨none, .store (some 5) (.t 1) (.t 8), none, []⟩] none [0, 1])
(.seq (.ops [⟨some 9, .build [(.int .i64 0), (.int .i64 0), (.int .i64 0), (.int .i64 0), .nils] [(0, 1, (.c (.int .i64 2)))], none, []⟩,
  ⟨some 10, .build [(.int .i64 0), (.int .i64 0), (.int .i64 0), (.int .i64 0), .nils] [(0, 1, (.c (.int .i64 1))), (1, 1, (.c (.int .i64 4)))], none, []⟩,
  ⟨some 11, .build [(.int .i64 0), (.int .i64 0), (.int .i64 0), (.int .i64 0), .nils] [(0, 1, (.c (.int .i64 3)))], none, []⟩,
  ⟨some 12, .build [(.int .i64 0), (.int .i64 0), (.int .i64 0), (.int .i64 0), .nils] [(0, 1, (.c (.int .i64 1))), (1, 1, (.c (.int .i64 1)))], none, []⟩,
  ⟨some 13, .buildSl 4 [(.int .i64 0), (.int .i64 0), (.int .i64 0), (.int .i64 0), .nils, (.int .i64 0), (.int .i64 0), (.int .i64 0), (.int .i64 0), .nils, (.int .i64 0), (.int .i64 0), (.int .i64 0), (.int .i64 0), .nils, (.int .i64 0), (.int .i64 0), (.int .i64 0), (.int .i64 0), .nils] [(0, 5, (.t 9)), (5, 5, (.t 10)), (10, 5, (.t 11)), (15, 5, (.t 12))], none, []⟩,
  ⟨some 14, .build [(.str []), (.int .i64 0), (.int .i64 0), (.int .i64 0), .nils] [(0, 1, (.c (.str [115, 108, 111, 119]))), (1, 1, (.c (.int .i64 20))), (2, 1, (.c (.int .i64 20))), (3, 1, (.c (.int .i64 6))), (4, 1, (.t 13))], none, []⟩,
  ⟨some 2, .alloc (.agg [(.str []), (.int .i64 0), (.int .i64 0), (.int .i64 0), .nils]), none, []⟩,
  ⟨none, .store (some 5) (.t 2) (.t 14), none, []⟩] none [0, 1, 2])
(.seq (.ops [⟨some 15, .load (some 5) (.t 1), none, []⟩,
  ⟨some 16, .load (some 5) (.t 2), none, []⟩,
  ⟨some 17, .buildSl 2 [(.str []), (.int .i64 0), (.int .i64 0), (.int .i64 0), .nils, (.str []), (.int .i64 0), (.int .i64 0), (.int .i64 0), .nils] [(0, 5, (.t 15)), (5, 5, (.t 16))], none, []⟩,
  ⟨some 18, .build [(.int .i64 0), .nils, .nils] [(0, 1, (.c (.int .i64 1))), (2, 1, (.t 17))], none, []⟩,
  ⟨none, .store (some 3) (.t 0) (.t 18), none, []⟩] none [0])
(.ret)))))
def f52 : SFunc := ⟨b52, [.cell (some 3) 0]⟩

/-- watchbill/watchbilllaw5.OfAll -/
def b53 : SCode := (
.seq (.ops [⟨some 2, .move (.c .nils), none, []⟩] none [0])
(.seq (.ops [⟨some 3, .move (.c .nils), none, []⟩] none [0, 3])
(.seq (.seq (.ops [⟨some 4, .move (.c (.int .i64 0)), none, []⟩] none [0, 3, 4])
(.block 0 (.loop [0, 3, 4] (.seq (.seq (.ops [⟨some 5, .move (.t 4), none, []⟩,
      ⟨some 6, .move (.t 0), none, []⟩,
      ⟨some 7, .len .sl (.t 6), none, []⟩,
      ⟨some 8, .bin .lss (.t 5) (.t 7), none, []⟩] none [0, 3, 4, 8])
    (.cond (.t 8)
      (.skip)
      (.exit 0)))
    (.seq (.block 1 (.ops [⟨some 11, .move (.t 3), none, []⟩,
        ⟨some 12, .move (.t 0), none, []⟩,
        ⟨some 13, .move (.t 4), none, []⟩,
        ⟨some 14, .idxAddr 5 (.t 12) (.t 13), none, []⟩,
        ⟨some 15, .load (some 5) (.t 14), none, []⟩,
        ⟨some 16, .call 32 [(.t 15)], none, []⟩,
        ⟨some 17, .buildSl 1 [(.int .i64 0), (.int .i64 0), (.int .i64 0), (.int .i64 0), .nils] [(0, 5, (.t 16))], none, []⟩,
        ⟨some 18, .append 5 (.t 11) (.t 17), none, []⟩,
        ⟨some 3, .move (.t 18), none, []⟩] none [0, 3, 4]))
    (.ops [⟨some 9, .move (.t 4), none, []⟩,
      ⟨some 10, .bin .add (.t 9) (.c (.int .i64 1)), none, []⟩,
      ⟨some 4, .move (.t 10), none, []⟩] none [0, 3, 4]))))))
(.seq (.ops [⟨some 19, .move (.t 3), none, []⟩,
  ⟨some 2, .move (.t 19), none, []⟩] none [2])
(.ret)))))
def f53 : SFunc := ⟨b53, [.t 2]⟩

/-- watchbill/watchbilllaw5.Of -/
def b32 : SCode := (
.seq (.ops [⟨some 1, .box (.t 0), none, []⟩,
  ⟨some 2, .alloc (.agg [(.int .i64 0), (.int .i64 0), (.int .i64 0), (.int .i64 0), .nils]), none, []⟩] none [1, 2])
(.seq (.ops [⟨some 5, .fldAddr 0 (.t 1), none, []⟩,
  ⟨some 6, .load none (.t 5), none, []⟩,
  ⟨some 7, .fldAddr 1 (.t 1), none, []⟩,
  ⟨some 8, .load none (.t 7), none, []⟩,
  ⟨some 9, .fldAddr 2 (.t 1), none, []⟩,
  ⟨some 10, .load none (.t 9), none, []⟩,
  ⟨some 11, .fldAddr 3 (.t 1), none, []⟩,
  ⟨some 12, .load none (.t 11), none, []⟩,
  ⟨some 13, .build [(.int .i64 0), (.int .i64 0), (.int .i64 0), (.int .i64 0), .nils] [(0, 1, (.t 6)), (1, 1, (.t 8)), (2, 1, (.t 10)), (3, 1, (.t 12))], none, []⟩,
  ⟨some 3, .alloc (.agg [(.int .i64 0), (.int .i64 0), (.int .i64 0), (.int .i64 0), .nils]), none, []⟩,
  ⟨none, .store (some 5) (.t 3) (.t 13), none, []⟩] none [1, 2, 3])
(.seq (.seq (.ops [⟨some 4, .move (.c (.int .i64 0)), none, []⟩] none [1, 2, 3, 4])
(.block 0 (.loop [1, 2, 3, 4] (.seq (.seq (.ops [⟨some 14, .move (.t 4), none, []⟩,
      ⟨some 15, .fldAddr 4 (.t 1), none, []⟩,
      ⟨some 16, .load none (.t 15), none, []⟩,
      ⟨some 17, .len .sl (.t 16), none, []⟩,
      ⟨some 18, .bin .lss (.t 14) (.t 17), none, []⟩] none [1, 2, 3, 4, 18])
    (.cond (.t 18)
      (.skip)
      (.exit 0)))
    (.seq (.block 1 (.ops [⟨some 21, .fldAddr 4 (.t 3), none, []⟩,
        ⟨some 22, .load none (.t 21), none, []⟩,
        ⟨some 23, .fldAddr 4 (.t 1), none, []⟩,
        ⟨some 24, .load none (.t 23), none, []⟩,
        ⟨some 25, .move (.t 4), none, []⟩,
        ⟨some 26, .idxAddr 3 (.t 24) (.t 25), none, []⟩,
        ⟨some 27, .fldAddr 0 (.t 26), none, []⟩,
        ⟨some 28, .load none (.t 27), none, []⟩,
        ⟨some 29, .fldAddr 4 (.t 1), none, []⟩,
        ⟨some 30, .load none (.t 29), none, []⟩,
        ⟨some 31, .move (.t 4), none, []⟩,
        ⟨some 32, .idxAddr 3 (.t 30) (.t 31), none, []⟩,
        ⟨some 33, .fldAddr 1 (.t 32), none, []⟩,
        ⟨some 34, .load none (.t 33), none, []⟩,
        ⟨some 35, .fldAddr 4 (.t 1), none, []⟩,
        ⟨some 36, .load none (.t 35), none, []⟩,
        ⟨some 37, .move (.t 4), none, []⟩,
        ⟨some 38, .idxAddr 3 (.t 36) (.t 37), none, []⟩,
        ⟨some 39, .fldAddr 2 (.t 38), none, []⟩,
        ⟨some 40, .load none (.t 39), none, []⟩,
        ⟨some 41, .build [(.bool false), (.int .i64 0), (.int .i64 0)] [(0, 1, (.t 28)), (1, 1, (.t 34)), (2, 1, (.t 40))], none, []⟩,
        ⟨some 42, .buildSl 1 [(.bool false), (.int .i64 0), (.int .i64 0)] [(0, 3, (.t 41))], none, []⟩,
        ⟨some 43, .append 3 (.t 22) (.t 42), none, []⟩,
        ⟨some 44, .fldAddr 4 (.t 3), none, []⟩,
        ⟨none, .store none (.t 44) (.t 43), none, []⟩] (some [(0, []), (1, [0]), (2, []), (3, [2]), (4, []), (5, [3, 2, 4]), (6, [5, 3, 2, 4]), (7, [6, 5, 3, 2, 4]), (8, []), (9, [8]), (10, []), (11, [9, 8, 10]), (12, [11, 9, 8, 10]), (13, [12, 11, 9, 8, 10]), (14, []), (15, [14]), (16, []), (17, [15, 14, 16]), (18, [17, 15, 14, 16]), (19, [18, 17, 15, 14, 16]), (20, [7, 6, 5, 3, 2, 4, 13, 12, 11, 9, 8, 10, 19, 18, 17, 15, 14, 16]), (21, [20, 7, 6, 5, 3, 2, 4, 13, 12, 11, 9, 8, 10, 19, 18, 17, 15, 14, 16]), (22, [1, 0, 21, 20, 7, 6, 5, 3, 2, 4, 13, 12, 11, 9, 8, 10, 19, 18, 17, 15, 14, 16]), (23, [0, 1, 2, 3, 4, 5, 6, 7, 8, 9, 10, 11, 12, 13, 14, 15, 16, 17, 18, 19, 20, 21, 22]), (24, [23, 0, 1, 2, 3, 4, 5, 6, 7, 8, 9, 10, 11, 12, 13, 14, 15, 16, 17, 18, 19, 20, 21, 22])]) [1, 2, 3, 4]))
    (.ops [⟨some 19, .move (.t 4), none, []⟩,
      ⟨some 20, .bin .add (.t 19) (.c (.int .i64 1)), none, []⟩,
      ⟨some 4, .move (.t 20), none, []⟩] none [1, 2, 3, 4]))))))
(.seq (.ops [⟨some 45, .load (some 5) (.t 3), none, []⟩,
  ⟨none, .store (some 5) (.t 2) (.t 45), none, []⟩] none [2])
(.ret)))))
def f32 : SFunc := ⟨b32, [.cell (some 5) 2]⟩

def lk {α : Type} : List (Nat × α) → Nat → Option α
  | [], _ => none
  | (k, v) :: r, i => match Nat.beq i k with | true => some v | false => lk r i

def pgl : List (Nat × SFunc) := [
  (9, f9),
  (4, f4),
  (5, f5),
  (11, f11),
  (10, f10),
  (12, f12),
  (6, f6),
  (13, f13),
  (8, f8),
  (14, f14),
  (52, f52),
  (53, f53),
  (32, f32)]

def pg : Prog := lk pgl

theorem pg9 : pg 9 = some f9 := rfl
theorem pg4 : pg 4 = some f4 := rfl
theorem pg5 : pg 5 = some f5 := rfl
theorem pg11 : pg 11 = some f11 := rfl
theorem pg10 : pg 10 = some f10 := rfl
theorem pg12 : pg 12 = some f12 := rfl
theorem pg6 : pg 6 = some f6 := rfl
theorem pg13 : pg 13 = some f13 := rfl
theorem pg8 : pg 8 = some f8 := rfl
theorem pg14 : pg 14 = some f14 := rfl
theorem pg52 : pg 52 = some f52 := rfl
theorem pg53 : pg 53 = some f53 := rfl
theorem pg32 : pg 32 = some f32 := rfl

end Go.Cl.S
