/-
  The functions' clean texts, printed by a program out of the loaded ones.
-/
import Derived.Test.YtnfajbkbmlmdoaaGreatDoorM1
namespace Go.Cl.S
open Go Go.Cl

/-- watchbill/watchbilllaw24.ScriptTells -/
def b456 : SCode := (
.seq (.ops [⟨some 4, .move (.c (.bool false)), none, []⟩] none [0, 1])
(.seq (.seq (.ops [⟨some 13, .call 457 [], none, []⟩,
  ⟨some 14, .not (.t 13), none, []⟩] none [0, 1, 14])
(.cond (.t 14)
  (.seq (.ops [⟨some 4, .move (.c (.bool false)), none, []⟩] none [4])
  (.ret))
  (.skip)))
(.seq (.seq (.ops [⟨some 15, .move (.t 0), none, []⟩,
  ⟨some 16, .call 458 [(.t 15)], none, []⟩,
  ⟨some 17, .not (.t 16), none, []⟩,
  ⟨some 18, .move (.t 17), none, []⟩,
  ⟨some 19, .move (.t 1), (some (18, false)), []⟩,
  ⟨some 20, .call 458 [(.t 19)], (some (18, false)), []⟩,
  ⟨some 21, .not (.t 20), (some (18, false)), []⟩,
  ⟨some 22, .pick (.t 18) (.c (.bool true)) (.t 21), none, []⟩] none [0, 1, 22])
(.cond (.t 22)
  (.seq (.ops [⟨some 4, .move (.c (.bool true)), none, []⟩] none [4])
  (.ret))
  (.skip)))
(.seq (.ops [⟨some 24, .move (.t 0), none, []⟩,
  ⟨some 25, .call 447 [(.t 24)], none, []⟩,
  ⟨some 23, .move (.t 25), none, []⟩,
  ⟨some 26, .ext 0 (.t 23), none, []⟩,
  ⟨some 27, .ext 1 (.t 23), none, []⟩,
  ⟨some 5, .move (.t 26), none, []⟩,
  ⟨some 6, .move (.t 27), none, []⟩] none [0, 1, 5, 6])
(.seq (.ops [⟨some 29, .move (.t 0), none, []⟩,
  ⟨some 30, .call 459 [(.t 29)], none, []⟩,
  ⟨some 28, .move (.t 30), none, []⟩,
  ⟨some 31, .ext 0 (.t 28), none, []⟩,
  ⟨some 32, .ext 1 (.t 28), none, []⟩,
  ⟨some 7, .move (.t 31), none, []⟩,
  ⟨some 8, .move (.t 32), none, []⟩] none [0, 1, 5, 6, 7, 8])
(.seq (.seq (.ops [⟨some 33, .move (.t 5), none, []⟩,
  ⟨some 34, .move (.t 7), none, []⟩,
  ⟨some 35, .bin .neq (.t 33) (.t 34), none, []⟩,
  ⟨some 36, .move (.t 35), none, []⟩,
  ⟨some 37, .move (.t 6), (some (36, false)), []⟩,
  ⟨some 38, .move (.t 8), (some (36, false)), []⟩,
  ⟨some 39, .bin .neq (.t 37) (.t 38), (some (36, false)), []⟩,
  ⟨some 40, .pick (.t 36) (.c (.bool true)) (.t 39), none, []⟩,
  ⟨some 41, .move (.t 40), none, []⟩,
  ⟨some 42, .move (.t 0), (some (41, false)), []⟩,
  ⟨some 43, .move (.t 1), (some (41, false)), []⟩,
  ⟨some 44, .call 460 [(.t 42), (.t 43)], (some (41, false)), []⟩,
  ⟨some 45, .move (.t 0), (some (41, false)), []⟩,
  ⟨some 46, .move (.t 1), (some (41, false)), []⟩,
  ⟨some 47, .call 461 [(.t 45), (.t 46)], (some (41, false)), []⟩,
  ⟨some 48, .eq true .b (.t 44) (.t 47), (some (41, false)), []⟩,
  ⟨some 49, .pick (.t 41) (.c (.bool true)) (.t 48), none, []⟩] none [0, 8, 49])
(.cond (.t 49)
  (.seq (.ops [⟨some 4, .move (.c (.bool false)), none, []⟩] none [4])
  (.ret))
  (.skip)))
(.seq (.seq (.ops [⟨some 50, .move (.t 8), none, []⟩,
  ⟨some 51, .bin .neq (.t 50) (.c (.int .i64 0)), none, []⟩] none [0, 51])
(.cond (.t 51)
  (.seq (.ops [⟨some 4, .move (.c (.bool true)), none, []⟩] none [4])
  (.ret))
  (.skip)))
(.seq (.ops [⟨some 52, .move (.t 0), none, []⟩,
  ⟨some 53, .call 462 [(.t 52)], none, []⟩,
  ⟨some 9, .move (.t 53), none, []⟩] none [0, 9])
(.seq (.ops [⟨some 55, .move (.t 9), none, []⟩,
  ⟨some 56, .call 463 [(.t 55)], none, []⟩,
  ⟨some 54, .move (.t 56), none, []⟩,
  ⟨some 57, .ext 0 (.t 54), none, []⟩,
  ⟨some 58, .ext 1 (.t 54), none, []⟩,
  ⟨some 59, .ext 2 (.t 54), none, []⟩,
  ⟨some 10, .move (.t 57), none, []⟩,
  ⟨some 11, .move (.t 58), none, []⟩,
  ⟨some 12, .move (.t 59), none, []⟩] none [0, 9, 10, 12])
(.seq (.ops [⟨some 60, .move (.t 9), none, []⟩,
  ⟨some 61, .move (.t 0), none, []⟩,
  ⟨some 62, .call 464 [(.t 61)], none, []⟩,
  ⟨some 63, .bin .eql (.t 60) (.t 62), none, []⟩,
  ⟨some 64, .move (.t 63), none, []⟩,
  ⟨some 65, .move (.t 12), (some (64, true)), []⟩,
  ⟨some 66, .bin .eql (.t 65) (.c (.int .i64 0)), (some (64, true)), []⟩,
  ⟨some 67, .pick (.t 64) (.t 66) (.c (.bool false)), none, []⟩,
  ⟨some 68, .move (.t 67), none, []⟩,
  ⟨some 69, .move (.t 10), (some (68, true)), []⟩,
  ⟨some 70, .move (.t 0), (some (68, true)), []⟩,
  ⟨some 71, .call 465 [(.t 69), (.t 70)], (some (68, true)), []⟩,
  ⟨some 72, .pick (.t 68) (.t 71) (.c (.bool false)), none, []⟩,
  ⟨some 4, .move (.t 72), none, []⟩] none [4])
(.ret)))))))))))
def f456 : SFunc := ⟨b456, [.t 4]⟩

/-- watchbill/watchbilllaw24.ScriptReads -/
def b466 : SCode := (
.seq (.ops [⟨some 2, .move (.c (.bool false)), none, []⟩] none [0])
(.seq (.seq (.ops [⟨some 9, .call 457 [], none, []⟩,
  ⟨some 10, .not (.t 9), none, []⟩] none [0, 10])
(.cond (.t 10)
  (.seq (.ops [⟨some 2, .move (.c (.bool false)), none, []⟩] none [2])
  (.ret))
  (.skip)))
(.seq (.seq (.ops [⟨some 11, .move (.t 0), none, []⟩,
  ⟨some 12, .len .str (.t 11), none, []⟩,
  ⟨some 13, .bin .gtr (.t 12) (.c (.int .i64 1000)), none, []⟩] none [0, 13])
(.cond (.t 13)
  (.seq (.ops [⟨some 2, .move (.c (.bool true)), none, []⟩] none [2])
  (.ret))
  (.skip)))
(.seq (.ops [⟨some 15, .move (.t 0), none, []⟩,
  ⟨some 16, .call 463 [(.t 15)], none, []⟩,
  ⟨some 14, .move (.t 16), none, []⟩,
  ⟨some 17, .ext 0 (.t 14), none, []⟩,
  ⟨some 18, .ext 1 (.t 14), none, []⟩,
  ⟨some 19, .ext 2 (.t 14), none, []⟩,
  ⟨some 3, .move (.t 17), none, []⟩,
  ⟨some 4, .move (.t 18), none, []⟩,
  ⟨some 5, .move (.t 19), none, []⟩] none [0, 3, 4, 5])
(.seq (.ops [⟨some 21, .move (.t 0), none, []⟩,
  ⟨some 22, .call 467 [(.t 21)], none, []⟩,
  ⟨some 20, .move (.t 22), none, []⟩,
  ⟨some 23, .ext 0 (.t 20), none, []⟩,
  ⟨some 24, .ext 1 (.t 20), none, []⟩,
  ⟨some 25, .ext 2 (.t 20), none, []⟩,
  ⟨some 6, .move (.t 23), none, []⟩,
  ⟨some 7, .move (.t 24), none, []⟩,
  ⟨some 8, .move (.t 25), none, []⟩] none [0, 3, 4, 5, 6, 7, 8])
(.seq (.seq (.ops [⟨some 26, .move (.t 4), none, []⟩,
  ⟨some 27, .move (.t 7), none, []⟩,
  ⟨some 28, .bin .neq (.t 26) (.t 27), none, []⟩,
  ⟨some 29, .move (.t 28), none, []⟩,
  ⟨some 30, .move (.t 5), (some (29, false)), []⟩,
  ⟨some 31, .move (.t 8), (some (29, false)), []⟩,
  ⟨some 32, .bin .neq (.t 30) (.t 31), (some (29, false)), []⟩,
  ⟨some 33, .pick (.t 29) (.c (.bool true)) (.t 32), none, []⟩,
  ⟨some 34, .move (.t 33), none, []⟩,
  ⟨some 35, .move (.t 3), (some (34, false)), []⟩,
  ⟨some 36, .move (.t 6), (some (34, false)), []⟩,
  ⟨some 37, .call 465 [(.t 35), (.t 36)], (some (34, false)), []⟩,
  ⟨some 38, .not (.t 37), (some (34, false)), []⟩,
  ⟨some 39, .pick (.t 34) (.c (.bool true)) (.t 38), none, []⟩] none [0, 3, 8, 39])
(.cond (.t 39)
  (.seq (.ops [⟨some 2, .move (.c (.bool false)), none, []⟩] none [2])
  (.ret))
  (.skip)))
(.seq (.ops [⟨some 40, .move (.t 8), none, []⟩,
  ⟨some 41, .bin .neq (.t 40) (.c (.int .i64 0)), none, []⟩,
  ⟨some 42, .move (.t 41), none, []⟩,
  ⟨some 43, .move (.t 3), (some (42, false)), []⟩,
  ⟨some 44, .call 462 [(.t 43)], (some (42, false)), []⟩,
  ⟨some 45, .move (.t 0), (some (42, false)), []⟩,
  ⟨some 46, .bin .eql (.t 44) (.t 45), (some (42, false)), []⟩,
  ⟨some 47, .pick (.t 42) (.c (.bool true)) (.t 46), none, []⟩,
  ⟨some 2, .move (.t 47), none, []⟩] none [2])
(.ret))))))))
def f466 : SFunc := ⟨b466, [.t 2]⟩

/-- watchbill/watchbilllaw24.ScriptSizes -/
def b468 : SCode := (
.seq (.ops [⟨some 6, .move (.c (.bool false)), none, []⟩] none [0, 1, 2])
(.seq (.seq (.ops [⟨some 15, .call 457 [], none, []⟩,
  ⟨some 16, .not (.t 15), none, []⟩] none [0, 1, 2, 16])
(.cond (.t 16)
  (.seq (.ops [⟨some 6, .move (.c (.bool false)), none, []⟩] none [6])
  (.ret))
  (.skip)))
(.seq (.ops [⟨some 17, .move (.t 0), none, []⟩,
  ⟨some 18, .bin .rem (.t 17) (.c (.int .u16 4100)), none, []⟩,
  ⟨some 19, .conv .i64 (.t 18), none, []⟩,
  ⟨some 20, .move (.t 1), none, []⟩,
  ⟨some 21, .bin .rem (.t 20) (.c (.int .u8 67)), none, []⟩,
  ⟨some 22, .conv .i64 (.t 21), none, []⟩,
  ⟨some 7, .move (.t 19), none, []⟩,
  ⟨some 8, .move (.t 22), none, []⟩] none [2, 7, 8])
(.seq (.ops [⟨some 23, .move (.t 7), none, []⟩,
  ⟨some 24, .mksl [.nils] (.t 23) (.t 23), none, []⟩,
  ⟨some 9, .move (.t 24), none, []⟩] none [2, 7, 8, 9])
(.seq (.ops [⟨some 25, .move (.t 7), none, []⟩,
  ⟨some 26, .bin .quo (.t 25) (.c (.int .i64 2)), none, []⟩,
  ⟨some 10, .move (.t 26), none, []⟩] none [2, 7, 8, 9, 10])
(.seq (.seq (.ops [⟨some 27, .move (.t 7), none, []⟩,
  ⟨some 28, .bin .gtr (.t 27) (.c (.int .i64 0)), none, []⟩] none [2, 7, 8, 9, 10, 28])
(.cond (.t 28)
  (.seq (.ops [⟨some 11, .move (.c (.int .i64 0)), none, []⟩] none [2, 7, 8, 9, 10, 11])
  (.block 0 (.loop [2, 7, 8, 9, 10, 11] (.seq (.seq (.ops [⟨some 29, .move (.t 11), none, []⟩,
        ⟨some 30, .move (.t 8), none, []⟩,
        ⟨some 31, .bin .lss (.t 29) (.t 30), none, []⟩] none [2, 7, 8, 9, 10, 11, 31])
      (.cond (.t 31)
        (.skip)
        (.exit 0)))
      (.seq (.block 1 (.ops [⟨some 34, .move (.t 9), none, []⟩,
          ⟨some 35, .move (.t 10), none, []⟩,
          ⟨some 36, .move (.t 9), none, []⟩,
          ⟨some 37, .move (.t 10), none, []⟩,
          ⟨some 38, .idxAddr 1 (.t 36) (.t 37), none, []⟩,
          ⟨some 39, .load none (.t 38), none, []⟩,
          ⟨some 40, .move (.t 2), none, []⟩,
          ⟨some 41, .conv .i64 (.t 40), none, []⟩,
          ⟨some 42, .buildSl 1 [(.int .i64 0)] [(0, 1, (.t 41))], none, []⟩,
          ⟨some 43, .append 1 (.t 39) (.t 42), none, []⟩,
          ⟨some 44, .idxAddr 1 (.t 34) (.t 35), none, []⟩,
          ⟨none, .store none (.t 44) (.t 43), none, []⟩] none [2, 7, 8, 9, 10, 11]))
      (.ops [⟨some 32, .move (.t 11), none, []⟩,
        ⟨some 33, .bin .add (.t 32) (.c (.int .i64 1)), none, []⟩,
        ⟨some 11, .move (.t 33), none, []⟩] none [2, 7, 8, 9, 10, 11]))))))
  (.skip)))
(.seq (.ops [⟨some 46, .move (.t 9), none, []⟩,
  ⟨some 47, .call 447 [(.t 46)], none, []⟩,
  ⟨some 45, .move (.t 47), none, []⟩,
  ⟨some 48, .ext 0 (.t 45), none, []⟩,
  ⟨some 49, .ext 1 (.t 45), none, []⟩,
  ⟨some 12, .move (.t 48), none, []⟩,
  ⟨some 13, .move (.t 49), none, []⟩] none [2, 7, 8, 10, 12, 13])
(.seq (.ops [⟨some 50, .move (.t 2), none, []⟩,
  ⟨some 51, .bin .lss (.t 50) (.c (.int .i8 (-1))), none, []⟩,
  ⟨some 52, .move (.t 51), none, []⟩,
  ⟨some 53, .move (.t 2), (some (52, false)), []⟩,
  ⟨some 54, .bin .gtr (.t 53) (.c (.int .i8 12)), (some (52, false)), []⟩,
  ⟨some 55, .pick (.t 52) (.c (.bool true)) (.t 54), none, []⟩,
  ⟨some 14, .move (.t 55), none, []⟩] none [7, 8, 10, 12, 13, 14])
(.seq (.block 2 (.seq (.ops [⟨some 57, .move (.t 7), none, []⟩,
    ⟨some 58, .bin .gtr (.t 57) (.c (.int .i64 4096)), none, []⟩,
    ⟨some 56, .move (.t 58), none, []⟩] none [7, 8, 10, 12, 13, 14, 56])
  (.cond (.t 56)
    (.seq (.ops [⟨some 59, .move (.t 13), none, []⟩,
      ⟨some 60, .bin .eql (.t 59) (.c (.int .i64 18)), none, []⟩,
      ⟨some 61, .move (.t 60), none, []⟩,
      ⟨some 62, .move (.t 12), (some (61, true)), []⟩,
      ⟨some 63, .bin .eql (.t 62) (.c (.int .i64 0)), (some (61, true)), []⟩,
      ⟨some 64, .pick (.t 61) (.t 63) (.c (.bool false)), none, []⟩,
      ⟨some 6, .move (.t 64), none, []⟩] none [6])
    (.ret))
    (.seq (.ops [⟨some 66, .move (.t 7), none, []⟩,
      ⟨some 67, .bin .gtr (.t 66) (.c (.int .i64 0)), none, []⟩,
      ⟨some 68, .move (.t 67), none, []⟩,
      ⟨some 69, .move (.t 8), (some (68, true)), []⟩,
      ⟨some 70, .bin .gtr (.t 69) (.c (.int .i64 64)), (some (68, true)), []⟩,
      ⟨some 71, .pick (.t 68) (.t 70) (.c (.bool false)), none, []⟩,
      ⟨some 65, .move (.t 71), none, []⟩] none [7, 8, 10, 12, 13, 14, 65])
    (.cond (.t 65)
      (.seq (.ops [⟨some 72, .move (.t 13), none, []⟩,
        ⟨some 73, .bin .eql (.t 72) (.c (.int .i64 18)), none, []⟩,
        ⟨some 74, .move (.t 73), none, []⟩,
        ⟨some 75, .move (.t 12), (some (74, true)), []⟩,
        ⟨some 76, .move (.t 10), (some (74, true)), []⟩,
        ⟨some 77, .bin .eql (.t 75) (.t 76), (some (74, true)), []⟩,
        ⟨some 78, .pick (.t 74) (.t 77) (.c (.bool false)), none, []⟩,
        ⟨some 6, .move (.t 78), none, []⟩] none [6])
      (.ret))
      (.seq (.ops [⟨some 80, .move (.t 7), none, []⟩,
        ⟨some 81, .bin .gtr (.t 80) (.c (.int .i64 0)), none, []⟩,
        ⟨some 82, .move (.t 81), none, []⟩,
        ⟨some 83, .move (.t 8), (some (82, true)), []⟩,
        ⟨some 84, .bin .gtr (.t 83) (.c (.int .i64 0)), (some (82, true)), []⟩,
        ⟨some 85, .pick (.t 82) (.t 84) (.c (.bool false)), none, []⟩,
        ⟨some 86, .move (.t 85), none, []⟩,
        ⟨some 87, .move (.t 14), (some (86, true)), []⟩,
        ⟨some 88, .pick (.t 86) (.t 87) (.c (.bool false)), none, []⟩,
        ⟨some 79, .move (.t 88), none, []⟩] none [10, 12, 13, 79])
      (.cond (.t 79)
        (.seq (.ops [⟨some 89, .move (.t 13), none, []⟩,
          ⟨some 90, .bin .eql (.t 89) (.c (.int .i64 1)), none, []⟩,
          ⟨some 91, .move (.t 90), none, []⟩,
          ⟨some 92, .move (.t 12), (some (91, true)), []⟩,
          ⟨some 93, .move (.t 10), (some (91, true)), []⟩,
          ⟨some 94, .bin .eql (.t 92) (.t 93), (some (91, true)), []⟩,
          ⟨some 95, .pick (.t 91) (.t 94) (.c (.bool false)), none, []⟩,
          ⟨some 6, .move (.t 95), none, []⟩] none [6])
        (.ret))
        (.skip))))))))
(.seq (.ops [⟨some 96, .move (.t 13), none, []⟩,
  ⟨some 97, .bin .eql (.t 96) (.c (.int .i64 0)), none, []⟩,
  ⟨some 98, .move (.t 97), none, []⟩,
  ⟨some 99, .move (.t 12), (some (98, true)), []⟩,
  ⟨some 100, .bin .eql (.t 99) (.c (.int .i64 0)), (some (98, true)), []⟩,
  ⟨some 101, .pick (.t 98) (.t 100) (.c (.bool false)), none, []⟩,
  ⟨some 6, .move (.t 101), none, []⟩] none [6])
(.ret)))))))))))
def f468 : SFunc := ⟨b468, [.t 6]⟩

/-- watchbill/watchbilllaw24.known -/
def b457 : SCode := (
.seq (.ops [⟨some 0, .move (.c (.bool false)), none, []⟩] none [])
(.seq (.ops [⟨some 17, .call 463 [(.c (.str [49, 10, 10, 48, 32, 45, 49, 10]))], none, []⟩,
  ⟨some 16, .move (.t 17), none, []⟩,
  ⟨some 18, .ext 0 (.t 16), none, []⟩,
  ⟨some 19, .ext 1 (.t 16), none, []⟩,
  ⟨some 20, .ext 2 (.t 16), none, []⟩,
  ⟨some 1, .move (.t 18), none, []⟩,
  ⟨some 2, .move (.t 19), none, []⟩,
  ⟨some 3, .move (.t 20), none, []⟩] none [1, 3])
(.seq (.ops [⟨some 22, .call 463 [(.c (.str [49, 10, 49, 51, 10]))], none, []⟩,
  ⟨some 21, .move (.t 22), none, []⟩,
  ⟨some 23, .ext 0 (.t 21), none, []⟩,
  ⟨some 24, .ext 1 (.t 21), none, []⟩,
  ⟨some 25, .ext 2 (.t 21), none, []⟩,
  ⟨some 4, .move (.t 23), none, []⟩,
  ⟨some 5, .move (.t 24), none, []⟩,
  ⟨some 6, .move (.t 25), none, []⟩] none [1, 3, 5, 6])
(.seq (.ops [⟨some 27, .call 463 [(.c (.str [49, 10, 50, 32, 10]))], none, []⟩,
  ⟨some 26, .move (.t 27), none, []⟩,
  ⟨some 28, .ext 0 (.t 26), none, []⟩,
  ⟨some 29, .ext 1 (.t 26), none, []⟩,
  ⟨some 30, .ext 2 (.t 26), none, []⟩,
  ⟨some 7, .move (.t 28), none, []⟩,
  ⟨some 8, .move (.t 29), none, []⟩,
  ⟨some 9, .move (.t 30), none, []⟩] none [1, 3, 5, 6, 8, 9])
(.seq (.ops [⟨some 32, .call 52 [], none, []⟩,
  ⟨some 33, .buildSl 2 [(.int .i64 0), (.int .i64 0)] [(0, 1, (.c (.int .i64 1))), (1, 1, (.c (.int .i64 1)))], none, []⟩,
  ⟨some 34, .buildSl 2 [.nils, .nils] [(0, 1, (.t 33)), (1, 1, (.c .nils))], none, []⟩,
  ⟨some 35, .call 436 [(.t 32), (.t 34)], none, []⟩,
  ⟨some 31, .move (.t 35), none, []⟩,
  ⟨some 36, .ext 0 (.t 31), none, []⟩,
  ⟨some 37, .ext 1 (.t 31), none, []⟩,
  ⟨some 10, .move (.t 36), none, []⟩,
  ⟨some 11, .move (.t 37), none, []⟩] none [1, 3, 5, 6, 8, 9, 10, 11])
(.seq (.ops [⟨some 39, .call 52 [], none, []⟩,
  ⟨some 40, .buildSl 1 [(.int .i64 0)] [(0, 1, (.c (.int .i64 13)))], none, []⟩,
  ⟨some 41, .buildSl 1 [.nils] [(0, 1, (.t 40))], none, []⟩,
  ⟨some 42, .call 436 [(.t 39), (.t 41)], none, []⟩,
  ⟨some 38, .move (.t 42), none, []⟩,
  ⟨some 43, .ext 0 (.t 38), none, []⟩,
  ⟨some 44, .ext 1 (.t 38), none, []⟩,
  ⟨some 12, .move (.t 43), none, []⟩,
  ⟨some 13, .move (.t 44), none, []⟩] none [1, 3, 5, 6, 8, 9, 10, 11, 13])
(.seq (.ops [⟨some 46, .mksl [.nils] (.c (.int .i64 4097)) (.c (.int .i64 4097)), none, []⟩,
  ⟨some 47, .call 447 [(.t 46)], none, []⟩,
  ⟨some 45, .move (.t 47), none, []⟩,
  ⟨some 48, .ext 0 (.t 45), none, []⟩,
  ⟨some 49, .ext 1 (.t 45), none, []⟩,
  ⟨some 14, .move (.t 48), none, []⟩,
  ⟨some 15, .move (.t 49), none, []⟩] none [1, 3, 5, 6, 8, 9, 10, 11, 13, 14, 15])
(.seq (.ops [⟨some 50, .move (.t 3), none, []⟩,
  ⟨some 51, .bin .eql (.t 50) (.c (.int .i64 0)), none, []⟩,
  ⟨some 52, .move (.t 51), none, []⟩,
  ⟨some 53, .move (.t 1), (some (52, true)), []⟩,
  ⟨some 54, .buildSl 1 [(.int .i64 0)] [(0, 1, (.c (.int .i64 1)))], (some (52, true)), []⟩,
  ⟨some 55, .buildSl 2 [(.int .i64 0), (.int .i64 0)] [(0, 1, (.c (.int .i64 0))), (1, 1, (.c (.int .i64 (-1))))], (some (52, true)), []⟩,
  ⟨some 56, .buildSl 3 [.nils, .nils, .nils] [(0, 1, (.t 54)), (1, 1, (.c .nils)), (2, 1, (.t 55))], (some (52, true)), []⟩,
  ⟨some 57, .call 465 [(.t 53), (.t 56)], (some (52, true)), []⟩,
  ⟨some 58, .pick (.t 52) (.t 57) (.c (.bool false)), none, []⟩,
  ⟨some 59, .move (.t 58), none, []⟩,
  ⟨some 60, .move (.t 1), (some (59, true)), []⟩,
  ⟨some 61, .call 462 [(.t 60)], (some (59, true)), []⟩,
  ⟨some 62, .bin .eql (.t 61) (.c (.str [49, 10, 10, 48, 32, 45, 49, 10])), (some (59, true)), []⟩,
  ⟨some 63, .pick (.t 59) (.t 62) (.c (.bool false)), none, []⟩,
  ⟨some 64, .move (.t 63), none, []⟩,
  ⟨some 65, .move (.t 6), (some (64, true)), []⟩,
  ⟨some 66, .bin .eql (.t 65) (.c (.int .i64 1)), (some (64, true)), []⟩,
  ⟨some 67, .pick (.t 64) (.t 66) (.c (.bool false)), none, []⟩,
  ⟨some 68, .move (.t 67), none, []⟩,
  ⟨some 69, .move (.t 5), (some (68, true)), []⟩,
  ⟨some 70, .bin .eql (.t 69) (.c (.int .i64 1)), (some (68, true)), []⟩,
  ⟨some 71, .pick (.t 68) (.t 70) (.c (.bool false)), none, []⟩,
  ⟨some 72, .move (.t 71), none, []⟩,
  ⟨some 73, .move (.t 9), (some (72, true)), []⟩,
  ⟨some 74, .bin .eql (.t 73) (.c (.int .i64 2)), (some (72, true)), []⟩,
  ⟨some 75, .pick (.t 72) (.t 74) (.c (.bool false)), none, []⟩,
  ⟨some 76, .move (.t 75), none, []⟩,
  ⟨some 77, .move (.t 8), (some (76, true)), []⟩,
  ⟨some 78, .bin .eql (.t 77) (.c (.int .i64 1)), (some (76, true)), []⟩,
  ⟨some 79, .pick (.t 76) (.t 78) (.c (.bool false)), none, []⟩,
  ⟨some 80, .move (.t 79), none, []⟩,
  ⟨some 81, .move (.t 11), (some (80, true)), []⟩,
  ⟨some 82, .bin .eql (.t 81) (.c (.int .i64 0)), (some (80, true)), []⟩,
  ⟨some 83, .pick (.t 80) (.t 82) (.c (.bool false)), none, []⟩,
  ⟨some 84, .move (.t 83), none, []⟩,
  ⟨some 85, .move (.t 10), (some (84, true)), []⟩,
  ⟨some 86, .call 114 [(.t 85)], (some (84, true)), []⟩,
  ⟨some 87, .bin .eql (.t 86) (.c (.str [48, 32, 114, 101, 108, 101, 97, 115, 101, 32, 49, 10, 48, 32, 114, 101, 102, 117, 115, 101, 32, 49, 32, 49, 50, 10, 48, 32, 114, 101, 115, 117, 108, 116, 32, 49, 32, 48, 32, 48, 32, 48, 32, 48, 10, 48, 32, 114, 117, 110, 115, 32, 49, 10, 49, 32, 114, 117, 110, 115, 32, 49, 10])), (some (84, true)), []⟩,
  ⟨some 88, .pick (.t 84) (.t 87) (.c (.bool false)), none, []⟩,
  ⟨some 89, .move (.t 88), none, []⟩,
  ⟨some 90, .move (.t 13), (some (89, true)), []⟩,
  ⟨some 91, .bin .eql (.t 90) (.c (.int .i64 1)), (some (89, true)), []⟩,
  ⟨some 92, .pick (.t 89) (.t 91) (.c (.bool false)), none, []⟩,
  ⟨some 93, .move (.t 92), none, []⟩,
  ⟨some 94, .move (.t 14), (some (93, true)), []⟩,
  ⟨some 95, .bin .eql (.t 94) (.c (.int .i64 0)), (some (93, true)), []⟩,
  ⟨some 96, .pick (.t 93) (.t 95) (.c (.bool false)), none, []⟩,
  ⟨some 97, .move (.t 96), none, []⟩,
  ⟨some 98, .move (.t 15), (some (97, true)), []⟩,
  ⟨some 99, .bin .eql (.t 98) (.c (.int .i64 18)), (some (97, true)), []⟩,
  ⟨some 100, .pick (.t 97) (.t 99) (.c (.bool false)), none, []⟩,
  ⟨some 101, .move (.t 100), none, []⟩,
  ⟨some 102, .move (.t 1), (some (101, true)), []⟩,
  ⟨some 103, .move (.t 1), (some (101, true)), []⟩,
  ⟨some 104, .call 460 [(.t 102), (.t 103)], (some (101, true)), []⟩,
  ⟨some 105, .pick (.t 101) (.t 104) (.c (.bool false)), none, []⟩,
  ⟨some 106, .move (.t 105), none, []⟩,
  ⟨some 107, .move (.t 1), (some (106, true)), []⟩,
  ⟨some 108, .call 460 [(.t 107), (.c .nils)], (some (106, true)), []⟩,
  ⟨some 109, .not (.t 108), (some (106, true)), []⟩,
  ⟨some 110, .pick (.t 106) (.t 109) (.c (.bool false)), none, []⟩,
  ⟨some 0, .move (.t 110), none, []⟩] none [0])
(.ret)))))))))
def f457 : SFunc := ⟨b457, [.t 0]⟩

/-- watchbill/watchbilllaw23.Asks -/
def b458 : SCode := (
.seq (.ops [⟨some 2, .move (.c (.bool false)), none, []⟩] none [0])
(.seq (.seq (.ops [⟨some 4, .move (.t 0), none, []⟩,
  ⟨some 5, .len .sl (.t 4), none, []⟩,
  ⟨some 6, .bin .gtr (.t 5) (.c (.int .i64 120)), none, []⟩] none [0, 6])
(.cond (.t 6)
  (.seq (.ops [⟨some 2, .move (.c (.bool false)), none, []⟩] none [2])
  (.ret))
  (.skip)))
(.seq (.seq (.ops [⟨some 3, .move (.c (.int .i64 0)), none, []⟩] none [0, 3])
(.block 0 (.loop [0, 3] (.seq (.seq (.ops [⟨some 7, .move (.t 3), none, []⟩,
      ⟨some 8, .move (.t 0), none, []⟩,
      ⟨some 9, .len .sl (.t 8), none, []⟩,
      ⟨some 10, .bin .lss (.t 7) (.t 9), none, []⟩] none [0, 3, 10])
    (.cond (.t 10)
      (.skip)
      (.exit 0)))
    (.seq (.block 1 (.seq (.ops [⟨some 13, .move (.t 0), none, []⟩,
        ⟨some 14, .move (.t 3), none, []⟩,
        ⟨some 15, .idxAddr 1 (.t 13) (.t 14), none, []⟩,
        ⟨some 16, .load none (.t 15), none, []⟩,
        ⟨some 17, .len .sl (.t 16), none, []⟩,
        ⟨some 18, .bin .gtr (.t 17) (.c (.int .i64 70)), none, []⟩] none [0, 3, 18])
      (.cond (.t 18)
        (.seq (.ops [⟨some 2, .move (.c (.bool false)), none, []⟩] none [2])
        (.ret))
        (.skip))))
    (.ops [⟨some 11, .move (.t 3), none, []⟩,
      ⟨some 12, .bin .add (.t 11) (.c (.int .i64 1)), none, []⟩,
      ⟨some 3, .move (.t 12), none, []⟩] none [0, 3]))))))
(.seq (.ops [⟨some 2, .move (.c (.bool true)), none, []⟩] none [2])
(.ret)))))
def f458 : SFunc := ⟨b458, [.t 2]⟩

/-- watchbill/script.Check -/
def b447 : SCode := (
.seq (.ops [⟨some 2, .move (.c (.int .i64 0)), none, []⟩,
  ⟨some 3, .move (.c (.int .i64 0)), none, []⟩] none [0])
(.seq (.seq (.ops [⟨some 6, .move (.t 0), none, []⟩,
  ⟨some 7, .len .sl (.t 6), none, []⟩,
  ⟨some 8, .bin .gtr (.t 7) (.c (.int .i64 4096)), none, []⟩] none [0, 8])
(.cond (.t 8)
  (.seq (.ops [⟨some 2, .move (.c (.int .i64 0)), none, []⟩,
    ⟨some 3, .move (.c (.int .i64 18)), none, []⟩] none [2, 3])
  (.ret))
  (.skip)))
(.seq (.seq (.ops [⟨some 9, .move (.t 0), none, []⟩,
  ⟨some 10, .len .sl (.t 9), none, []⟩,
  ⟨some 11, .move (.c (.int .i64 0)), none, []⟩] none [9, 10, 11])
(.block 0 (.loop [9, 10, 11] (.seq (.ops [⟨some 12, .bin .lss (.t 11) (.t 10), none, []⟩] none [9, 10, 11, 12])
    (.seq (.cond (.t 12)
      (.skip)
      (.exit 0))
    (.seq (.block 1 (.seq (.ops [⟨some 13, .move (.t 11), none, []⟩,
        ⟨some 14, .idxAddr 1 (.t 9) (.t 11), none, []⟩,
        ⟨some 15, .load none (.t 14), none, []⟩,
        ⟨some 4, .move (.t 13), none, []⟩,
        ⟨some 5, .move (.t 15), none, []⟩] none [4, 5, 9, 10, 11])
      (.seq (.seq (.ops [⟨some 16, .move (.t 5), none, []⟩,
        ⟨some 17, .len .sl (.t 16), none, []⟩,
        ⟨some 18, .bin .gtr (.t 17) (.c (.int .i64 64)), none, []⟩] none [4, 5, 9, 10, 11, 18])
      (.cond (.t 18)
        (.seq (.ops [⟨some 19, .move (.t 4), none, []⟩,
          ⟨some 2, .move (.t 19), none, []⟩,
          ⟨some 3, .move (.c (.int .i64 18)), none, []⟩] none [2, 3])
        (.ret))
        (.skip)))
      (.seq (.ops [⟨some 20, .move (.t 5), none, []⟩,
        ⟨some 21, .call 452 [(.t 20), (.c (.fn 451 []))], none, []⟩] none [4, 9, 10, 11, 21])
      (.cond (.t 21)
        (.seq (.ops [⟨some 22, .move (.t 4), none, []⟩,
          ⟨some 2, .move (.t 22), none, []⟩,
          ⟨some 3, .move (.c (.int .i64 1)), none, []⟩] none [2, 3])
        (.ret))
        (.skip))))))
    (.ops [⟨some 23, .bin .add (.t 11) (.c (.int .i64 1)), none, []⟩,
      ⟨some 11, .move (.t 23), none, []⟩] none [9, 10, 11])))))))
(.seq (.ops [⟨some 2, .move (.c (.int .i64 0)), none, []⟩,
  ⟨some 3, .move (.c (.int .i64 0)), none, []⟩] none [2, 3])
(.ret)))))
def f447 : SFunc := ⟨b447, [.t 2, .t 3]⟩

/-- watchbill/watchbillref28.CheckScript -/
def b459 : SCode := (
.seq (.ops [⟨some 2, .move (.c (.int .i64 0)), none, []⟩,
  ⟨some 3, .move (.c (.int .i64 0)), none, []⟩] none [0])
(.seq (.seq (.ops [⟨some 6, .move (.t 0), none, []⟩,
  ⟨some 7, .len .sl (.t 6), none, []⟩,
  ⟨some 8, .bin .gtr (.t 7) (.c (.int .i64 4096)), none, []⟩] none [0, 8])
(.cond (.t 8)
  (.seq (.ops [⟨some 2, .move (.c (.int .i64 0)), none, []⟩,
    ⟨some 3, .move (.c (.int .i64 18)), none, []⟩] none [2, 3])
  (.ret))
  (.skip)))
(.seq (.seq (.ops [⟨some 4, .move (.c (.int .i64 0)), none, []⟩] none [0, 4])
(.block 0 (.loop [0, 4] (.seq (.seq (.ops [⟨some 9, .move (.t 4), none, []⟩,
      ⟨some 10, .move (.t 0), none, []⟩,
      ⟨some 11, .len .sl (.t 10), none, []⟩,
      ⟨some 12, .bin .lss (.t 9) (.t 11), none, []⟩] none [0, 4, 12])
    (.cond (.t 12)
      (.skip)
      (.exit 0)))
    (.seq (.block 1 (.seq (.seq (.ops [⟨some 15, .move (.t 0), none, []⟩,
        ⟨some 16, .move (.t 4), none, []⟩,
        ⟨some 17, .idxAddr 1 (.t 15) (.t 16), none, []⟩,
        ⟨some 18, .load none (.t 17), none, []⟩,
        ⟨some 19, .len .sl (.t 18), none, []⟩,
        ⟨some 20, .bin .gtr (.t 19) (.c (.int .i64 64)), none, []⟩] none [0, 4, 20])
      (.cond (.t 20)
        (.seq (.ops [⟨some 21, .move (.t 4), none, []⟩,
          ⟨some 2, .move (.t 21), none, []⟩,
          ⟨some 3, .move (.c (.int .i64 18)), none, []⟩] none [2, 3])
        (.ret))
        (.skip)))
      (.seq (.ops [⟨some 5, .move (.c (.int .i64 0)), none, []⟩] none [0, 4, 5])
      (.block 2 (.loop [0, 4, 5] (.seq (.seq (.ops [⟨some 22, .move (.t 5), none, []⟩,
            ⟨some 23, .move (.t 0), none, []⟩,
            ⟨some 24, .move (.t 4), none, []⟩,
            ⟨some 25, .idxAddr 1 (.t 23) (.t 24), none, []⟩,
            ⟨some 26, .load none (.t 25), none, []⟩,
            ⟨some 27, .len .sl (.t 26), none, []⟩,
            ⟨some 28, .bin .lss (.t 22) (.t 27), none, []⟩] none [0, 4, 5, 28])
          (.cond (.t 28)
            (.skip)
            (.exit 2)))
          (.seq (.block 3 (.seq (.ops [⟨some 31, .move (.t 0), none, []⟩,
              ⟨some 32, .move (.t 4), none, []⟩,
              ⟨some 33, .idxAddr 1 (.t 31) (.t 32), none, []⟩,
              ⟨some 34, .load none (.t 33), none, []⟩,
              ⟨some 35, .move (.t 5), none, []⟩,
              ⟨some 36, .idxAddr 1 (.t 34) (.t 35), none, []⟩,
              ⟨some 37, .load none (.t 36), none, []⟩,
              ⟨some 38, .bin .lss (.t 37) (.c (.int .i64 (-1))), none, []⟩,
              ⟨some 39, .move (.t 38), none, []⟩,
              ⟨some 40, .move (.t 0), (some (39, false)), []⟩,
              ⟨some 41, .move (.t 4), (some (39, false)), []⟩,
              ⟨some 42, .idxAddr 1 (.t 40) (.t 41), (some (39, false)), []⟩,
              ⟨some 43, .load none (.t 42), (some (39, false)), []⟩,
              ⟨some 44, .move (.t 5), (some (39, false)), []⟩,
              ⟨some 45, .idxAddr 1 (.t 43) (.t 44), (some (39, false)), []⟩,
              ⟨some 46, .load none (.t 45), (some (39, false)), []⟩,
              ⟨some 47, .bin .gtr (.t 46) (.c (.int .i64 12)), (some (39, false)), []⟩,
              ⟨some 48, .pick (.t 39) (.c (.bool true)) (.t 47), none, []⟩] none [0, 4, 5, 48])
            (.cond (.t 48)
              (.seq (.ops [⟨some 49, .move (.t 4), none, []⟩,
                ⟨some 2, .move (.t 49), none, []⟩,
                ⟨some 3, .move (.c (.int .i64 1)), none, []⟩] none [2, 3])
              (.ret))
              (.skip))))
          (.ops [⟨some 29, .move (.t 5), none, []⟩,
            ⟨some 30, .bin .add (.t 29) (.c (.int .i64 1)), none, []⟩,
            ⟨some 5, .move (.t 30), none, []⟩] none [0, 4, 5]))))))))
    (.ops [⟨some 13, .move (.t 4), none, []⟩,
      ⟨some 14, .bin .add (.t 13) (.c (.int .i64 1)), none, []⟩,
      ⟨some 4, .move (.t 14), none, []⟩] none [0, 4]))))))
(.seq (.ops [⟨some 2, .move (.c (.int .i64 0)), none, []⟩,
  ⟨some 3, .move (.c (.int .i64 0)), none, []⟩] none [2, 3])
(.ret)))))
def f459 : SFunc := ⟨b459, [.t 2, .t 3]⟩

/-- watchbill/script.Same -/
def b460 : SCode := (
.seq (.ops [⟨some 4, .move (.c (.bool false)), none, []⟩] none [0, 1])
(.seq (.ops [⟨some 5, .move (.t 0), none, []⟩,
  ⟨some 6, .move (.t 1), none, []⟩,
  ⟨some 7, .call 470 [(.t 5), (.t 6), (.c (.fn 469 []))], none, []⟩,
  ⟨some 4, .move (.t 7), none, []⟩] none [4])
(.ret)))
def f460 : SFunc := ⟨b460, [.t 4]⟩

/-- watchbill/watchbillref28.SameScript -/
def b461 : SCode := (
.seq (.ops [⟨some 4, .move (.c (.bool false)), none, []⟩] none [0, 1])
(.seq (.seq (.ops [⟨some 6, .move (.t 0), none, []⟩,
  ⟨some 7, .len .sl (.t 6), none, []⟩,
  ⟨some 8, .move (.t 1), none, []⟩,
  ⟨some 9, .len .sl (.t 8), none, []⟩,
  ⟨some 10, .bin .neq (.t 7) (.t 9), none, []⟩] none [0, 1, 10])
(.cond (.t 10)
  (.seq (.ops [⟨some 4, .move (.c (.bool false)), none, []⟩] none [4])
  (.ret))
  (.skip)))
(.seq (.seq (.ops [⟨some 5, .move (.c (.int .i64 0)), none, []⟩] none [0, 1, 5])
(.block 0 (.loop [0, 1, 5] (.seq (.seq (.ops [⟨some 11, .move (.t 5), none, []⟩,
      ⟨some 12, .move (.t 0), none, []⟩,
      ⟨some 13, .len .sl (.t 12), none, []⟩,
      ⟨some 14, .bin .lss (.t 11) (.t 13), none, []⟩] none [0, 1, 5, 14])
    (.cond (.t 14)
      (.skip)
      (.exit 0)))
    (.seq (.block 1 (.seq (.ops [⟨some 17, .move (.t 0), none, []⟩,
        ⟨some 18, .move (.t 5), none, []⟩,
        ⟨some 19, .idxAddr 1 (.t 17) (.t 18), none, []⟩,
        ⟨some 20, .load none (.t 19), none, []⟩,
        ⟨some 21, .move (.t 1), none, []⟩,
        ⟨some 22, .move (.t 5), none, []⟩,
        ⟨some 23, .idxAddr 1 (.t 21) (.t 22), none, []⟩,
        ⟨some 24, .load none (.t 23), none, []⟩,
        ⟨some 25, .call 64 [(.t 20), (.t 24)], none, []⟩,
        ⟨some 26, .not (.t 25), none, []⟩] (some [(0, []), (1, []), (2, [0, 1]), (3, [2, 0, 1]), (4, []), (5, []), (6, [4, 5]), (7, [6, 4, 5]), (8, [3, 2, 0, 1, 7, 6, 4, 5]), (9, [8, 3, 2, 0, 1, 7, 6, 4, 5])]) [0, 1, 5, 26])
      (.cond (.t 26)
        (.seq (.ops [⟨some 4, .move (.c (.bool false)), none, []⟩] none [4])
        (.ret))
        (.skip))))
    (.ops [⟨some 15, .move (.t 5), none, []⟩,
      ⟨some 16, .bin .add (.t 15) (.c (.int .i64 1)), none, []⟩,
      ⟨some 5, .move (.t 16), none, []⟩] none [0, 1, 5]))))))
(.seq (.ops [⟨some 4, .move (.c (.bool true)), none, []⟩] none [4])
(.ret)))))
def f461 : SFunc := ⟨b461, [.t 4]⟩

/-- watchbill/script.Text -/
def b462 : SCode := (
.seq (.ops [⟨some 2, .move (.c (.str [])), none, []⟩] none [0])
(.seq (.ops [⟨some 3, .allocB 5, none, []⟩] none [0, 3])
(.seq (.seq (.ops [⟨some 9, .move (.t 0), none, []⟩,
  ⟨some 10, .len .sl (.t 9), none, []⟩,
  ⟨some 11, .move (.c (.int .i64 0)), none, []⟩] none [3, 9, 10, 11])
(.block 0 (.loop [3, 9, 10, 11] (.seq (.ops [⟨some 12, .bin .lss (.t 11) (.t 10), none, []⟩] none [3, 9, 10, 11, 12])
    (.seq (.cond (.t 12)
      (.skip)
      (.exit 0))
    (.seq (.block 1 (.seq (.ops [⟨some 13, .idxAddr 1 (.t 9) (.t 11), none, []⟩,
        ⟨some 14, .load none (.t 13), none, []⟩,
        ⟨some 5, .move (.t 14), none, []⟩] none [3, 5, 9, 10, 11])
      (.seq (.ops [⟨some 6, .move (.c .nils), none, []⟩] none [3, 5, 6, 9, 10, 11])
      (.seq (.seq (.ops [⟨some 15, .move (.t 5), none, []⟩,
        ⟨some 16, .len .sl (.t 15), none, []⟩,
        ⟨some 17, .move (.c (.int .i64 0)), none, []⟩] none [3, 6, 9, 10, 11, 15, 16, 17])
      (.block 2 (.loop [3, 6, 9, 10, 11, 15, 16, 17] (.seq (.ops [⟨some 18, .bin .lss (.t 17) (.t 16), none, []⟩] none [3, 6, 9, 10, 11, 15, 16, 17, 18])
          (.seq (.cond (.t 18)
            (.skip)
            (.exit 2))
          (.seq (.block 3 (.seq (.ops [⟨some 19, .idxAddr 1 (.t 15) (.t 17), none, []⟩,
              ⟨some 20, .load none (.t 19), none, []⟩,
              ⟨some 8, .move (.t 20), none, []⟩] none [3, 6, 8, 9, 10, 11, 15, 16, 17])
            (.ops [⟨some 21, .move (.t 6), none, []⟩,
              ⟨some 22, .move (.t 8), none, []⟩,
              ⟨some 23, .call 99 [(.t 22)], none, []⟩,
              ⟨some 24, .buildSl 1 [(.str [])] [(0, 1, (.t 23))], none, []⟩,
              ⟨some 25, .append 1 (.t 21) (.t 24), none, []⟩,
              ⟨some 6, .move (.t 25), none, []⟩] none [3, 6, 9, 10, 11, 15, 16, 17])))
          (.ops [⟨some 26, .bin .add (.t 17) (.c (.int .i64 1)), none, []⟩,
            ⟨some 17, .move (.t 26), none, []⟩] none [3, 6, 9, 10, 11, 15, 16, 17])))))))
      (.ops [⟨some 27, .move (.t 6), none, []⟩,
        ⟨some 28, .call 128 [(.t 27), (.c (.str [32]))], none, []⟩,
        ⟨some 29, .bin .add (.t 28) (.c (.str [10])), none, []⟩,
        ⟨some 30, .call 136 [(.t 3), (.t 29)], none, []⟩] none [3, 9, 10, 11])))))
    (.ops [⟨some 31, .bin .add (.t 11) (.c (.int .i64 1)), none, []⟩,
      ⟨some 11, .move (.t 31), none, []⟩] none [3, 9, 10, 11])))))))
(.seq (.ops [⟨some 32, .call 137 [(.t 3)], none, []⟩,
  ⟨some 2, .move (.t 32), none, []⟩] none [2])
(.ret)))))
def f462 : SFunc := ⟨b462, [.t 2]⟩

/-- watchbill/script.Parse -/
def b463 : SCode := (
.seq (.ops [⟨some 2, .move (.c .nils), none, []⟩,
  ⟨some 3, .move (.c (.int .i64 0)), none, []⟩,
  ⟨some 4, .move (.c (.int .i64 0)), none, []⟩] none [0])
(.seq (.ops [⟨some 15, .move (.t 0), none, []⟩,
  ⟨some 16, .call 90 [(.t 15)], none, []⟩,
  ⟨some 14, .move (.t 16), none, []⟩,
  ⟨some 17, .ext 0 (.t 14), none, []⟩,
  ⟨some 18, .ext 1 (.t 14), none, []⟩,
  ⟨some 5, .move (.t 17), none, []⟩,
  ⟨some 6, .move (.t 18), none, []⟩] none [5, 6])
(.seq (.seq (.ops [⟨some 19, .move (.t 6), none, []⟩,
  ⟨some 20, .bin .neq (.t 19) (.c (.int .i64 0)), none, []⟩] none [5, 6, 20])
(.cond (.t 20)
  (.seq (.ops [⟨some 21, .move (.t 6), none, []⟩,
    ⟨some 2, .move (.c .nils), none, []⟩,
    ⟨some 3, .move (.c (.int .i64 0)), none, []⟩,
    ⟨some 4, .move (.t 21), none, []⟩] none [2, 3, 4])
  (.ret))
  (.skip)))
(.seq (.ops [⟨some 7, .move (.c .nils), none, []⟩] none [5, 7])
(.seq (.skip)
(.seq (.seq (.ops [⟨some 22, .move (.t 5), none, []⟩,
  ⟨some 23, .len .sl (.t 22), none, []⟩,
  ⟨some 24, .move (.c (.int .i64 0)), none, []⟩] none [7, 22, 23, 24])
(.block 0 (.loop [7, 22, 23, 24] (.seq (.ops [⟨some 25, .bin .lss (.t 24) (.t 23), none, []⟩] none [7, 22, 23, 24, 25])
    (.seq (.cond (.t 25)
      (.skip)
      (.exit 0))
    (.seq (.block 1 (.seq (.ops [⟨some 26, .move (.t 24), none, []⟩,
        ⟨some 27, .idxAddr 1 (.t 22) (.t 24), none, []⟩,
        ⟨some 28, .load none (.t 27), none, []⟩,
        ⟨some 8, .move (.t 26), none, []⟩,
        ⟨some 9, .move (.t 28), none, []⟩] none [7, 8, 9, 22, 23, 24])
      (.seq (.ops [⟨some 30, .move (.t 9), none, []⟩,
        ⟨some 31, .call 471 [(.t 30)], none, []⟩,
        ⟨some 29, .move (.t 31), none, []⟩,
        ⟨some 32, .ext 0 (.t 29), none, []⟩,
        ⟨some 33, .ext 1 (.t 29), none, []⟩,
        ⟨some 10, .move (.t 32), none, []⟩,
        ⟨some 11, .move (.t 33), none, []⟩] none [7, 8, 10, 11, 22, 23, 24])
      (.seq (.seq (.ops [⟨some 34, .move (.t 11), none, []⟩,
        ⟨some 35, .bin .eql (.t 34) (.c (.int .i64 0)), none, []⟩] none [7, 8, 10, 11, 22, 23, 24, 35])
      (.cond (.t 35)
        (.seq (.ops [⟨some 36, .move (.t 7), none, []⟩,
          ⟨some 37, .move (.t 10), none, []⟩,
          ⟨some 38, .buildSl 1 [.nils] [(0, 1, (.t 37))], none, []⟩,
          ⟨some 39, .append 1 (.t 36) (.t 38), none, []⟩,
          ⟨some 7, .move (.t 39), none, []⟩] none [7, 22, 23, 24])
        (.exit 1))
        (.skip)))
      (.seq (.ops [⟨some 40, .move (.t 8), none, []⟩,
        ⟨some 41, .move (.t 11), none, []⟩,
        ⟨some 2, .move (.c .nils), none, []⟩,
        ⟨some 3, .move (.t 40), none, []⟩,
        ⟨some 4, .move (.t 41), none, []⟩] none [2, 3, 4])
      (.ret))))))
    (.ops [⟨some 42, .bin .add (.t 24) (.c (.int .i64 1)), none, []⟩,
      ⟨some 24, .move (.t 42), none, []⟩] none [7, 22, 23, 24])))))))
(.seq (.seq (.ops [⟨some 44, .move (.t 7), none, []⟩,
  ⟨some 45, .call 447 [(.t 44)], none, []⟩,
  ⟨some 43, .move (.t 45), none, []⟩,
  ⟨some 46, .ext 0 (.t 43), none, []⟩,
  ⟨some 47, .ext 1 (.t 43), none, []⟩,
  ⟨some 12, .move (.t 46), none, []⟩,
  ⟨some 13, .move (.t 47), none, []⟩] none [7, 12, 13])
(.seq (.ops [⟨some 48, .move (.t 13), none, []⟩,
  ⟨some 49, .bin .neq (.t 48) (.c (.int .i64 0)), none, []⟩] none [7, 12, 13, 49])
(.cond (.t 49)
  (.seq (.ops [⟨some 50, .move (.t 12), none, []⟩,
    ⟨some 51, .move (.t 13), none, []⟩,
    ⟨some 2, .move (.c .nils), none, []⟩,
    ⟨some 3, .move (.t 50), none, []⟩,
    ⟨some 4, .move (.t 51), none, []⟩] none [2, 3, 4])
  (.ret))
  (.skip))))
(.seq (.ops [⟨some 52, .move (.t 7), none, []⟩,
  ⟨some 2, .move (.t 52), none, []⟩,
  ⟨some 3, .move (.c (.int .i64 0)), none, []⟩,
  ⟨some 4, .move (.c (.int .i64 0)), none, []⟩] none [2, 3, 4])
(.ret)))))))))
def f463 : SFunc := ⟨b463, [.t 2, .t 3, .t 4]⟩

/-- watchbill/watchbillref28.ScriptText -/
def b464 : SCode := (
.seq (.ops [⟨some 2, .move (.c (.str [])), none, []⟩] none [0])
(.seq (.ops [⟨some 3, .move (.c (.str [])), none, []⟩] none [0, 3])
(.seq (.seq (.ops [⟨some 4, .move (.c (.int .i64 0)), none, []⟩] none [0, 3, 4])
(.block 0 (.loop [0, 3, 4] (.seq (.seq (.ops [⟨some 6, .move (.t 4), none, []⟩,
      ⟨some 7, .move (.t 0), none, []⟩,
      ⟨some 8, .len .sl (.t 7), none, []⟩,
      ⟨some 9, .bin .lss (.t 6) (.t 8), none, []⟩] none [0, 3, 4, 9])
    (.cond (.t 9)
      (.skip)
      (.exit 0)))
    (.seq (.block 1 (.seq (.seq (.ops [⟨some 5, .move (.c (.int .i64 0)), none, []⟩] none [0, 3, 4, 5])
      (.block 2 (.loop [0, 3, 4, 5] (.seq (.seq (.ops [⟨some 12, .move (.t 5), none, []⟩,
            ⟨some 13, .move (.t 0), none, []⟩,
            ⟨some 14, .move (.t 4), none, []⟩,
            ⟨some 15, .idxAddr 1 (.t 13) (.t 14), none, []⟩,
            ⟨some 16, .load none (.t 15), none, []⟩,
            ⟨some 17, .len .sl (.t 16), none, []⟩,
            ⟨some 18, .bin .lss (.t 12) (.t 17), none, []⟩] none [0, 3, 4, 5, 18])
          (.cond (.t 18)
            (.skip)
            (.exit 2)))
          (.seq (.block 3 (.seq (.seq (.ops [⟨some 21, .move (.t 5), none, []⟩,
              ⟨some 22, .bin .gtr (.t 21) (.c (.int .i64 0)), none, []⟩] none [0, 3, 4, 5, 22])
            (.cond (.t 22)
              (.ops [⟨some 23, .move (.t 3), none, []⟩,
                ⟨some 24, .bin .add (.t 23) (.c (.str [32])), none, []⟩,
                ⟨some 3, .move (.t 24), none, []⟩] none [0, 3, 4, 5])
              (.skip)))
            (.ops [⟨some 25, .move (.t 3), none, []⟩,
              ⟨some 26, .move (.t 0), none, []⟩,
              ⟨some 27, .move (.t 4), none, []⟩,
              ⟨some 28, .idxAddr 1 (.t 26) (.t 27), none, []⟩,
              ⟨some 29, .load none (.t 28), none, []⟩,
              ⟨some 30, .move (.t 5), none, []⟩,
              ⟨some 31, .idxAddr 1 (.t 29) (.t 30), none, []⟩,
              ⟨some 32, .load none (.t 31), none, []⟩,
              ⟨some 33, .call 101 [(.t 32)], none, []⟩,
              ⟨some 34, .bin .add (.t 25) (.t 33), none, []⟩,
              ⟨some 3, .move (.t 34), none, []⟩] none [0, 3, 4, 5])))
          (.ops [⟨some 19, .move (.t 5), none, []⟩,
            ⟨some 20, .bin .add (.t 19) (.c (.int .i64 1)), none, []⟩,
            ⟨some 5, .move (.t 20), none, []⟩] none [0, 3, 4, 5]))))))
      (.ops [⟨some 35, .move (.t 3), none, []⟩,
        ⟨some 36, .bin .add (.t 35) (.c (.str [10])), none, []⟩,
        ⟨some 3, .move (.t 36), none, []⟩] none [0, 3, 4])))
    (.ops [⟨some 10, .move (.t 4), none, []⟩,
      ⟨some 11, .bin .add (.t 10) (.c (.int .i64 1)), none, []⟩,
      ⟨some 4, .move (.t 11), none, []⟩] none [0, 3, 4]))))))
(.seq (.ops [⟨some 37, .move (.t 3), none, []⟩,
  ⟨some 2, .move (.t 37), none, []⟩] none [2])
(.ret)))))
def f464 : SFunc := ⟨b464, [.t 2]⟩

/-- watchbill/watchbilllaw24.Same -/
def b465 : SCode := (
.seq (.ops [⟨some 4, .move (.c (.bool false)), none, []⟩] none [0, 1])
(.seq (.ops [⟨some 5, .move (.t 0), none, []⟩,
  ⟨some 6, .move (.t 1), none, []⟩,
  ⟨some 7, .call 461 [(.t 5), (.t 6)], none, []⟩,
  ⟨some 4, .move (.t 7), none, []⟩] none [4])
(.ret)))
def f465 : SFunc := ⟨b465, [.t 4]⟩

/-- watchbill/watchbillref28.ParseScript -/
def b467 : SCode := (
.seq (.ops [⟨some 2, .move (.c .nils), none, []⟩,
  ⟨some 3, .move (.c (.int .i64 0)), none, []⟩,
  ⟨some 4, .move (.c (.int .i64 0)), none, []⟩] none [0])
(.seq (.ops [⟨some 17, .move (.t 0), none, []⟩,
  ⟨some 18, .call 91 [(.t 17)], none, []⟩,
  ⟨some 16, .move (.t 18), none, []⟩,
  ⟨some 19, .ext 0 (.t 16), none, []⟩,
  ⟨some 20, .ext 1 (.t 16), none, []⟩,
  ⟨some 5, .move (.t 19), none, []⟩,
  ⟨some 6, .move (.t 20), none, []⟩] none [5, 6])
(.seq (.seq (.ops [⟨some 21, .move (.t 6), none, []⟩,
  ⟨some 22, .bin .neq (.t 21) (.c (.int .i64 0)), none, []⟩] none [5, 6, 22])
(.cond (.t 22)
  (.seq (.ops [⟨some 23, .move (.t 6), none, []⟩,
    ⟨some 2, .move (.c .nils), none, []⟩,
    ⟨some 3, .move (.c (.int .i64 0)), none, []⟩,
    ⟨some 4, .move (.t 23), none, []⟩] none [2, 3, 4])
  (.ret))
  (.skip)))
(.seq (.ops [⟨some 7, .move (.c .nils), none, []⟩] none [5, 7])
(.seq (.seq (.ops [⟨some 8, .move (.c (.int .i64 0)), none, []⟩] none [5, 7, 8])
(.block 0 (.loop [5, 7, 8] (.seq (.seq (.ops [⟨some 24, .move (.t 8), none, []⟩,
      ⟨some 25, .move (.t 5), none, []⟩,
      ⟨some 26, .len .sl (.t 25), none, []⟩,
      ⟨some 27, .bin .lss (.t 24) (.t 26), none, []⟩] none [5, 7, 8, 27])
    (.cond (.t 27)
      (.skip)
      (.exit 0)))
    (.seq (.block 1 (.seq (.ops [⟨some 31, .move (.t 5), none, []⟩,
        ⟨some 32, .move (.t 8), none, []⟩,
        ⟨some 33, .idxAddr 1 (.t 31) (.t 32), none, []⟩,
        ⟨some 34, .load none (.t 33), none, []⟩,
        ⟨some 35, .call 93 [(.t 34)], none, []⟩,
        ⟨some 30, .move (.t 35), none, []⟩,
        ⟨some 36, .ext 0 (.t 30), none, []⟩,
        ⟨some 37, .ext 1 (.t 30), none, []⟩,
        ⟨some 9, .move (.t 36), none, []⟩,
        ⟨some 10, .move (.t 37), none, []⟩] none [5, 7, 8, 9, 10])
      (.seq (.seq (.ops [⟨some 38, .move (.t 10), none, []⟩,
        ⟨some 39, .bin .neq (.t 38) (.c (.int .i64 0)), none, []⟩] none [5, 7, 8, 9, 10, 39])
      (.cond (.t 39)
        (.seq (.ops [⟨some 40, .move (.t 8), none, []⟩,
          ⟨some 41, .move (.t 10), none, []⟩,
          ⟨some 2, .move (.c .nils), none, []⟩,
          ⟨some 3, .move (.t 40), none, []⟩,
          ⟨some 4, .move (.t 41), none, []⟩] none [2, 3, 4])
        (.ret))
        (.skip)))
      (.seq (.ops [⟨some 11, .move (.c .nils), none, []⟩] none [5, 7, 8, 9, 11])
      (.seq (.seq (.ops [⟨some 12, .move (.c (.int .i64 0)), none, []⟩] none [5, 7, 8, 9, 11, 12])
      (.block 2 (.loop [5, 7, 8, 9, 11, 12] (.seq (.seq (.ops [⟨some 42, .move (.t 12), none, []⟩,
            ⟨some 43, .move (.t 9), none, []⟩,
            ⟨some 44, .len .sl (.t 43), none, []⟩,
            ⟨some 45, .bin .lss (.t 42) (.t 44), none, []⟩] none [5, 7, 8, 9, 11, 12, 45])
          (.cond (.t 45)
            (.skip)
            (.exit 2)))
          (.seq (.block 3 (.seq (.ops [⟨some 49, .move (.t 9), none, []⟩,
              ⟨some 50, .move (.t 12), none, []⟩,
              ⟨some 51, .idxAddr 1 (.t 49) (.t 50), none, []⟩,
              ⟨some 52, .load none (.t 51), none, []⟩,
              ⟨some 53, .call 138 [(.t 52)], none, []⟩,
              ⟨some 48, .move (.t 53), none, []⟩,
              ⟨some 54, .ext 0 (.t 48), none, []⟩,
              ⟨some 55, .ext 1 (.t 48), none, []⟩,
              ⟨some 13, .move (.t 54), none, []⟩,
              ⟨some 14, .move (.t 55), none, []⟩] none [5, 7, 8, 9, 11, 12, 13, 14])
            (.seq (.seq (.ops [⟨some 56, .move (.t 14), none, []⟩,
              ⟨some 57, .bin .neq (.t 56) (.c (.int .i64 0)), none, []⟩] none [5, 7, 8, 9, 11, 12, 13, 14, 57])
            (.cond (.t 57)
              (.seq (.ops [⟨some 58, .move (.t 8), none, []⟩,
                ⟨some 59, .move (.t 14), none, []⟩,
                ⟨some 2, .move (.c .nils), none, []⟩,
                ⟨some 3, .move (.t 58), none, []⟩,
                ⟨some 4, .move (.t 59), none, []⟩] none [2, 3, 4])
              (.ret))
              (.skip)))
            (.ops [⟨some 60, .move (.t 11), none, []⟩,
              ⟨some 61, .move (.t 13), none, []⟩,
              ⟨some 62, .buildSl 1 [(.int .i64 0)] [(0, 1, (.t 61))], none, []⟩,
              ⟨some 63, .append 1 (.t 60) (.t 62), none, []⟩,
              ⟨some 11, .move (.t 63), none, []⟩] none [5, 7, 8, 9, 11, 12]))))
          (.ops [⟨some 46, .move (.t 12), none, []⟩,
            ⟨some 47, .bin .add (.t 46) (.c (.int .i64 1)), none, []⟩,
            ⟨some 12, .move (.t 47), none, []⟩] none [5, 7, 8, 9, 11, 12]))))))
      (.ops [⟨some 64, .move (.t 7), none, []⟩,
        ⟨some 65, .move (.t 11), none, []⟩,
        ⟨some 66, .buildSl 1 [.nils] [(0, 1, (.t 65))], none, []⟩,
        ⟨some 67, .append 1 (.t 64) (.t 66), none, []⟩,
        ⟨some 7, .move (.t 67), none, []⟩] none [5, 7, 8]))))))
    (.ops [⟨some 28, .move (.t 8), none, []⟩,
      ⟨some 29, .bin .add (.t 28) (.c (.int .i64 1)), none, []⟩,
      ⟨some 8, .move (.t 29), none, []⟩] none [5, 7, 8]))))))
(.seq (.ops [⟨some 69, .move (.t 7), none, []⟩,
  ⟨some 70, .call 459 [(.t 69)], none, []⟩,
  ⟨some 68, .move (.t 70), none, []⟩,
  ⟨some 71, .ext 0 (.t 68), none, []⟩,
  ⟨some 72, .ext 1 (.t 68), none, []⟩,
  ⟨some 15, .move (.t 71), none, []⟩,
  ⟨some 6, .move (.t 72), none, []⟩] none [6, 7, 15])
(.seq (.seq (.ops [⟨some 73, .move (.t 6), none, []⟩,
  ⟨some 74, .bin .neq (.t 73) (.c (.int .i64 0)), none, []⟩] none [6, 7, 15, 74])
(.cond (.t 74)
  (.seq (.ops [⟨some 75, .move (.t 15), none, []⟩,
    ⟨some 76, .move (.t 6), none, []⟩,
    ⟨some 2, .move (.c .nils), none, []⟩,
    ⟨some 3, .move (.t 75), none, []⟩,
    ⟨some 4, .move (.t 76), none, []⟩] none [2, 3, 4])
  (.ret))
  (.skip)))
(.seq (.ops [⟨some 77, .move (.t 7), none, []⟩,
  ⟨some 2, .move (.t 77), none, []⟩,
  ⟨some 3, .move (.c (.int .i64 0)), none, []⟩,
  ⟨some 4, .move (.c (.int .i64 0)), none, []⟩] none [2, 3, 4])
(.ret)))))))))
def f467 : SFunc := ⟨b467, [.t 2, .t 3, .t 4]⟩

/-- watchbill/script.Run -/
def b436 : SCode := (
.seq (.ops [⟨some 2, .box (.t 0), none, []⟩,
  ⟨some 4, .move (.c .nils), none, []⟩,
  ⟨some 5, .move (.c (.int .i64 0)), none, []⟩] none [1, 2])
(.seq (.seq (.ops [⟨some 18, .load (some 3) (.t 2), none, []⟩,
  ⟨some 19, .call 265 [(.t 18)], none, []⟩,
  ⟨some 17, .move (.t 19), none, []⟩,
  ⟨some 20, .ext 0 (.t 17), none, []⟩,
  ⟨some 21, .ext 1 (.t 17), none, []⟩,
  ⟨some 6, .move (.t 20), none, []⟩,
  ⟨some 7, .move (.t 21), none, []⟩] none [1, 2, 7])
(.seq (.ops [⟨some 22, .move (.t 7), none, []⟩,
  ⟨some 23, .bin .neq (.t 22) (.c (.int .i64 0)), none, []⟩] none [1, 2, 7, 23])
(.cond (.t 23)
  (.seq (.ops [⟨some 24, .move (.t 7), none, []⟩,
    ⟨some 4, .move (.c .nils), none, []⟩,
    ⟨some 5, .move (.t 24), none, []⟩] none [4, 5])
  (.ret))
  (.skip))))
(.seq (.seq (.ops [⟨some 26, .move (.t 1), none, []⟩,
  ⟨some 27, .call 447 [(.t 26)], none, []⟩,
  ⟨some 25, .move (.t 27), none, []⟩,
  ⟨some 28, .ext 0 (.t 25), none, []⟩,
  ⟨some 29, .ext 1 (.t 25), none, []⟩,
  ⟨some 8, .move (.t 28), none, []⟩,
  ⟨some 9, .move (.t 29), none, []⟩] none [1, 2, 9])
(.seq (.ops [⟨some 30, .move (.t 9), none, []⟩,
  ⟨some 31, .bin .neq (.t 30) (.c (.int .i64 0)), none, []⟩] none [1, 2, 9, 31])
(.cond (.t 31)
  (.seq (.ops [⟨some 32, .move (.t 9), none, []⟩,
    ⟨some 4, .move (.c .nils), none, []⟩,
    ⟨some 5, .move (.t 32), none, []⟩] none [4, 5])
  (.ret))
  (.skip))))
(.seq (.ops [⟨some 34, .load (some 3) (.t 2), none, []⟩,
  ⟨some 35, .call 441 [(.t 34)], none, []⟩,
  ⟨some 33, .move (.t 35), none, []⟩,
  ⟨some 36, .ext 0 (.t 33), none, []⟩,
  ⟨some 37, .ext 1 (.t 33), none, []⟩,
  ⟨some 10, .move (.t 36), none, []⟩,
  ⟨some 11, .move (.t 37), none, []⟩] none [1, 10, 11])
(.seq (.seq (.ops [⟨some 38, .move (.t 11), none, []⟩,
  ⟨some 39, .bin .neq (.t 38) (.c (.int .i64 0)), none, []⟩] none [1, 10, 11, 39])
(.cond (.t 39)
  (.seq (.ops [⟨some 40, .move (.t 11), none, []⟩,
    ⟨some 4, .move (.c .nils), none, []⟩,
    ⟨some 5, .move (.t 40), none, []⟩] none [4, 5])
  (.ret))
  (.skip)))
(.seq (.ops [⟨some 12, .move (.c .nils), none, []⟩] none [1, 10, 12])
(.seq (.seq (.ops [⟨some 41, .move (.t 1), none, []⟩,
  ⟨some 42, .len .sl (.t 41), none, []⟩,
  ⟨some 43, .move (.c (.int .i64 0)), none, []⟩] none [10, 12, 41, 42, 43])
(.block 0 (.loop [10, 12, 41, 42, 43] (.seq (.ops [⟨some 44, .bin .lss (.t 43) (.t 42), none, []⟩] none [10, 12, 41, 42, 43, 44])
    (.seq (.cond (.t 44)
      (.skip)
      (.exit 0))
    (.seq (.block 1 (.seq (.ops [⟨some 45, .idxAddr 1 (.t 41) (.t 43), none, []⟩,
        ⟨some 46, .load none (.t 45), none, []⟩,
        ⟨some 14, .move (.t 46), none, []⟩] none [10, 12, 14, 41, 42, 43])
      (.seq (.ops [⟨some 48, .move (.t 10), none, []⟩,
        ⟨some 49, .move (.t 14), none, []⟩,
        ⟨some 50, .call 442 [(.t 48), (.t 49)], none, []⟩,
        ⟨some 47, .move (.t 50), none, []⟩,
        ⟨some 51, .ext 0 (.t 47), none, []⟩,
        ⟨some 52, .ext 1 (.t 47), none, []⟩,
        ⟨some 15, .move (.t 51), none, []⟩,
        ⟨some 16, .move (.t 52), none, []⟩] none [10, 12, 15, 16, 41, 42, 43])
      (.seq (.seq (.ops [⟨some 53, .move (.t 16), none, []⟩,
        ⟨some 54, .bin .neq (.t 53) (.c (.int .i64 0)), none, []⟩] none [10, 12, 15, 16, 41, 42, 43, 54])
      (.cond (.t 54)
        (.seq (.ops [⟨some 55, .move (.t 16), none, []⟩,
          ⟨some 4, .move (.c .nils), none, []⟩,
          ⟨some 5, .move (.t 55), none, []⟩] none [4, 5])
        (.ret))
        (.skip)))
      (.ops [⟨some 56, .move (.t 12), none, []⟩,
        ⟨some 57, .move (.t 15), none, []⟩,
        ⟨some 58, .append 7 (.t 56) (.t 57), none, []⟩,
        ⟨some 12, .move (.t 58), none, []⟩] none [10, 12, 41, 42, 43])))))
    (.ops [⟨some 59, .bin .add (.t 43) (.c (.int .i64 1)), none, []⟩,
      ⟨some 43, .move (.t 59), none, []⟩] none [10, 12, 41, 42, 43])))))))
(.seq (.ops [⟨some 60, .move (.t 12), none, []⟩,
  ⟨some 4, .move (.t 60), none, []⟩,
  ⟨some 5, .move (.c (.int .i64 0)), none, []⟩] none [4, 5])
(.ret)))))))))
def f436 : SFunc := ⟨b436, [.t 4, .t 5]⟩

/-- watchbill/watchbilllaw7.Two -/
def b52 : SCode := (
.seq (.ops [⟨some 0, .alloc (.agg [(.int .i64 0), .nils, .nils]), none, []⟩] none [0])
(.seq (.ops [⟨some 3, .build [(.int .i64 0), (.int .i64 0), (.int .i64 0), (.int .i64 0), .nils] [(0, 1, (.c (.int .i64 1))), (1, 1, (.c (.int .i64 1)))], none, []⟩,
  ⟨some 4, .build [(.int .i64 0), (.int .i64 0), (.int .i64 0), (.int .i64 0), .nils] [(0, 1, (.c (.int .i64 2)))], none, []⟩,
  ⟨some 5, .build [(.int .i64 0), (.int .i64 0), (.int .i64 0), (.int .i64 0), .nils] [(0, 1, (.c (.int .i64 1))), (1, 1, (.c (.int .i64 1)))], none, []⟩,
  ⟨some 6, .build [(.int .i64 0), (.int .i64 0), (.int .i64 0), (.int .i64 0), .nils] [(0, 1, (.c (.int .i64 3)))], none, []⟩,
  ⟨some 7, .buildSl 4 [(.int .i64 0), (.int .i64 0), (.int .i64 0), (.int .i64 0), .nils, (.int .i64 0), (.int .i64 0), (.int .i64 0), (.int .i64 0), .nils, (.int .i64 0), (.int .i64 0), (.int .i64 0), (.int .i64 0), .nils, (.int .i64 0), (.int .i64 0), (.int .i64 0), (.int .i64 0), .nils] [(0, 5, (.t 3)), (5, 5, (.t 4)), (10, 5, (.t 5)), (15, 5, (.t 6))], none, []⟩,
  ⟨some 8, .build [(.str []), (.int .i64 0), (.int .i64 0), (.int .i64 0), .nils] [(0, 1, (.c (.str [102, 97, 115, 116]))), (1, 1, (.c (.int .i64 10))), (2, 1, (.c (.int .i64 8))), (3, 1, (.c (.int .i64 3))), (4, 1, (.t 7))], none, []⟩,
  ⟨some 1, .alloc (.agg [(.str []), (.int .i64 0), (.int .i64 0), (.int .i64 0), .nils]), none, []⟩,
  ⟨none, .store (some 5) (.t 1) (.t 8), none, []⟩] none [0, 1])
(.seq (.ops [⟨some 9, .build [(.int .i64 0), (.int .i64 0), (.int .i64 0), (.int .i64 0), .nils] [(0, 1, (.c (.int .i64 2)))], none, []⟩,
  ⟨some 10, .build [(.int .i64 0), (.int .i64 0), (.int .i64 0), (.int .i64 0), .nils] [(0, 1, (.c (.int .i64 1))), (1, 1, (.c (.int .i64 4)))], none, []⟩,
  ⟨some 11, .build [(.int .i64 0), (.int .i64 0), (.int .i64 0), (.int .i64 0), .nils] [(0, 1, (.c (.int .i64 3)))], none, []⟩,
  ⟨some 12, .build [(.int .i64 0), (.int .i64 0), (.int .i64 0), (.int .i64 0), .nils] [(0, 1, (.c (.int .i64 1))), (1, 1, (.c (.int .i64 1)))], none, []⟩,
  ⟨some 13, .buildSl 4 [(.int .i64 0), (.int .i64 0), (.int .i64 0), (.int .i64 0), .nils, (.int .i64 0), (.int .i64 0), (.int .i64 0), (.int .i64 0), .nils, (.int .i64 0), (.int .i64 0), (.int .i64 0), (.int .i64 0), .nils, (.int .i64 0), (.int .i64 0), (.int .i64 0), (.int .i64 0), .nils] [(0, 5, (.t 9)), (5, 5, (.t 10)), (10, 5, (.t 11)), (15, 5, (.t 12))], none, []⟩,
  ⟨some 14, .build [(.str []), (.int .i64 0), (.int .i64 0), (.int .i64 0), .nils] [(0, 1, (.c (.str [115, 108, 111, 119]))), (1, 1, (.c (.int .i64 20))), (2, 1, (.c (.int .i64 20))), (3, 1, (.c (.int .i64 6))), (4, 1, (.t 13))], none, []⟩,
  ⟨some 2, .alloc (.agg [(.str []), (.int .i64 0), (.int .i64 0), (.int .i64 0), .nils]), none, []⟩,
  ⟨none, .store (some 5) (.t 2) (.t 14), none, []⟩] none [0, 1, 2])
(.seq (.ops [⟨some 15, .load (some 5) (.t 1), none, []⟩,
  ⟨some 16, .load (some 5) (.t 2), none, []⟩,
  ⟨some 17, .buildSl 2 [(.str []), (.int .i64 0), (.int .i64 0), (.int .i64 0), .nils, (.str []), (.int .i64 0), (.int .i64 0), (.int .i64 0), .nils] [(0, 5, (.t 15)), (5, 5, (.t 16))], none, []⟩,
  ⟨some 18, .build [(.int .i64 0), .nils, .nils] [(0, 1, (.c (.int .i64 1))), (2, 1, (.t 17))], none, []⟩,
  ⟨none, .store (some 3) (.t 0) (.t 18), none, []⟩] none [0])
(.ret)))))
def f52 : SFunc := ⟨b52, [.cell (some 3) 0]⟩

/-- watchbill/event.Lines -/
def b114 : SCode := (
.seq (.ops [⟨some 2, .move (.c (.str [])), none, []⟩] none [0])
(.seq (.ops [⟨some 3, .allocB 5, none, []⟩] none [0, 3])
(.seq (.skip)
(.seq (.seq (.ops [⟨some 6, .move (.t 0), none, []⟩,
  ⟨some 7, .len .sl (.t 6), none, []⟩,
  ⟨some 8, .move (.c (.int .i64 0)), none, []⟩] none [3, 6, 7, 8])
(.block 0 (.loop [3, 6, 7, 8] (.seq (.ops [⟨some 9, .bin .lss (.t 8) (.t 7), none, []⟩] none [3, 6, 7, 8, 9])
    (.seq (.cond (.t 9)
      (.skip)
      (.exit 0))
    (.seq (.block 1 (.seq (.ops [⟨some 10, .idxAddr 7 (.t 6) (.t 8), none, []⟩,
        ⟨some 11, .load (some 7) (.t 10), none, []⟩,
        ⟨some 5, .alloc (.agg [(.int .i64 0), (.int .i64 0), (.int .i64 0), (.int .i64 0), (.int .i64 0), (.int .i64 0), (.int .i64 0)]), none, []⟩,
        ⟨none, .store (some 7) (.t 5) (.t 11), none, []⟩] none [3, 5, 6, 7, 8])
      (.seq (.ops [⟨some 12, .load (some 7) (.t 5), none, []⟩,
        ⟨some 13, .call 111 [(.t 12)], none, []⟩,
        ⟨some 14, .bin .add (.t 13) (.c (.str [10])), none, []⟩,
        ⟨some 15, .call 136 [(.t 3), (.t 14)], none, []⟩] none [3, 6, 7, 8])
      (.exit 1))))
    (.ops [⟨some 16, .bin .add (.t 8) (.c (.int .i64 1)), none, []⟩,
      ⟨some 8, .move (.t 16), none, []⟩] none [3, 6, 7, 8])))))))
(.seq (.ops [⟨some 17, .call 137 [(.t 3)], none, []⟩,
  ⟨some 2, .move (.t 17), none, []⟩] none [2])
(.ret))))))
def f114 : SFunc := ⟨b114, [.t 2]⟩

/-- slices.ContainsFunc[[]int,int] -/
def b452 : SCode := (
.seq (.ops [⟨some 4, .move (.c (.bool false)), none, []⟩] none [0, 1])
(.seq (.ops [⟨some 5, .move (.t 0), none, []⟩,
  ⟨some 6, .move (.t 1), none, []⟩,
  ⟨some 7, .call 455 [(.t 5), (.t 6)], none, []⟩,
  ⟨some 8, .bin .geq (.t 7) (.c (.int .i64 0)), none, []⟩,
  ⟨some 4, .move (.t 8), none, []⟩] none [4])
(.ret)))
def f452 : SFunc := ⟨b452, [.t 4]⟩

/-- watchbill/script.Check$1 -/
def b451 : SCode := (
.seq (.ops [⟨some 2, .move (.c (.bool false)), none, []⟩] none [0])
(.seq (.ops [⟨some 3, .move (.t 0), none, []⟩,
  ⟨some 4, .bin .lss (.t 3) (.c (.int .i64 (-1))), none, []⟩,
  ⟨some 5, .move (.t 4), none, []⟩,
  ⟨some 6, .move (.t 0), (some (5, false)), []⟩,
  ⟨some 7, .bin .gtr (.t 6) (.c (.int .i64 12)), (some (5, false)), []⟩,
  ⟨some 8, .pick (.t 5) (.c (.bool true)) (.t 7), none, []⟩,
  ⟨some 2, .move (.t 8), none, []⟩] none [2])
(.ret)))
def f451 : SFunc := ⟨b451, [.t 2]⟩

/-- slices.EqualFunc[watchbill/script.Script,watchbill/script.Script,[]int,[]int] -/
def b470 : SCode := (
.seq (.ops [⟨some 6, .move (.c (.bool false)), none, []⟩] none [0, 1, 2])
(.seq (.seq (.ops [⟨some 10, .move (.t 0), none, []⟩,
  ⟨some 11, .len .sl (.t 10), none, []⟩,
  ⟨some 12, .move (.t 1), none, []⟩,
  ⟨some 13, .len .sl (.t 12), none, []⟩,
  ⟨some 14, .bin .neq (.t 11) (.t 13), none, []⟩] none [0, 1, 2, 14])
(.cond (.t 14)
  (.seq (.ops [⟨some 6, .move (.c (.bool false)), none, []⟩] none [6])
  (.ret))
  (.skip)))
(.seq (.seq (.ops [⟨some 15, .move (.t 0), none, []⟩,
  ⟨some 16, .len .sl (.t 15), none, []⟩,
  ⟨some 17, .move (.c (.int .i64 0)), none, []⟩] none [1, 2, 15, 16, 17])
(.block 0 (.loop [1, 2, 15, 16, 17] (.seq (.ops [⟨some 18, .bin .lss (.t 17) (.t 16), none, []⟩] none [1, 2, 15, 16, 17, 18])
    (.seq (.cond (.t 18)
      (.skip)
      (.exit 0))
    (.seq (.block 1 (.seq (.ops [⟨some 19, .move (.t 17), none, []⟩,
        ⟨some 20, .idxAddr 1 (.t 15) (.t 17), none, []⟩,
        ⟨some 21, .load none (.t 20), none, []⟩,
        ⟨some 7, .move (.t 19), none, []⟩,
        ⟨some 8, .move (.t 21), none, []⟩] none [1, 2, 7, 8, 15, 16, 17])
      (.seq (.ops [⟨some 22, .move (.t 1), none, []⟩,
        ⟨some 23, .move (.t 7), none, []⟩,
        ⟨some 24, .idxAddr 1 (.t 22) (.t 23), none, []⟩,
        ⟨some 25, .load none (.t 24), none, []⟩,
        ⟨some 9, .move (.t 25), none, []⟩] none [1, 2, 8, 9, 15, 16, 17])
      (.seq (.ops [⟨some 26, .move (.t 2), none, []⟩,
        ⟨some 27, .move (.t 8), none, []⟩,
        ⟨some 28, .move (.t 9), none, []⟩,
        ⟨some 29, .callv (.t 26) [(.t 27), (.t 28)], none, []⟩,
        ⟨some 30, .not (.t 29), none, []⟩] none [1, 2, 15, 16, 17, 30])
      (.cond (.t 30)
        (.seq (.ops [⟨some 6, .move (.c (.bool false)), none, []⟩] none [6])
        (.ret))
        (.skip))))))
    (.ops [⟨some 31, .bin .add (.t 17) (.c (.int .i64 1)), none, []⟩,
      ⟨some 17, .move (.t 31), none, []⟩] none [1, 2, 15, 16, 17])))))))
(.seq (.ops [⟨some 6, .move (.c (.bool true)), none, []⟩] none [6])
(.ret)))))
def f470 : SFunc := ⟨b470, [.t 6]⟩

/-- watchbill/script.Same$1 -/
def b469 : SCode := (
.seq (.ops [⟨some 4, .move (.c (.bool false)), none, []⟩] none [0, 1])
(.seq (.ops [⟨some 5, .move (.t 0), none, []⟩,
  ⟨some 6, .move (.t 1), none, []⟩,
  ⟨some 7, .call 61 [(.t 5), (.t 6)], none, []⟩,
  ⟨some 4, .move (.t 7), none, []⟩] none [4])
(.ret)))
def f469 : SFunc := ⟨b469, [.t 4]⟩

/-- slices.Equal[[]int,int] -/
def b61 : SCode := (
.seq (.ops [⟨some 4, .move (.c (.bool false)), none, []⟩] none [0, 1])
(.seq (.seq (.ops [⟨some 6, .move (.t 0), none, []⟩,
  ⟨some 7, .len .sl (.t 6), none, []⟩,
  ⟨some 8, .move (.t 1), none, []⟩,
  ⟨some 9, .len .sl (.t 8), none, []⟩,
  ⟨some 10, .bin .neq (.t 7) (.t 9), none, []⟩] none [0, 1, 10])
(.cond (.t 10)
  (.seq (.ops [⟨some 4, .move (.c (.bool false)), none, []⟩] none [4])
  (.ret))
  (.skip)))
(.seq (.seq (.ops [⟨some 11, .move (.t 0), none, []⟩,
  ⟨some 12, .len .sl (.t 11), none, []⟩,
  ⟨some 13, .move (.c (.int .i64 0)), none, []⟩] none [0, 1, 12, 13])
(.block 0 (.loop [0, 1, 12, 13] (.seq (.ops [⟨some 14, .bin .lss (.t 13) (.t 12), none, []⟩] none [0, 1, 12, 13, 14])
    (.seq (.cond (.t 14)
      (.skip)
      (.exit 0))
    (.seq (.block 1 (.seq (.ops [⟨some 15, .move (.t 13), none, []⟩,
        ⟨some 5, .move (.t 15), none, []⟩] none [0, 1, 5, 12, 13])
      (.seq (.ops [⟨some 16, .move (.t 0), none, []⟩,
        ⟨some 17, .move (.t 5), none, []⟩,
        ⟨some 18, .idxAddr 1 (.t 16) (.t 17), none, []⟩,
        ⟨some 19, .load none (.t 18), none, []⟩,
        ⟨some 20, .move (.t 1), none, []⟩,
        ⟨some 21, .move (.t 5), none, []⟩,
        ⟨some 22, .idxAddr 1 (.t 20) (.t 21), none, []⟩,
        ⟨some 23, .load none (.t 22), none, []⟩,
        ⟨some 24, .bin .neq (.t 19) (.t 23), none, []⟩] (some [(0, []), (1, []), (2, [0, 1]), (3, [2, 0, 1]), (4, []), (5, []), (6, [4, 5]), (7, [6, 4, 5]), (8, [3, 2, 0, 1, 7, 6, 4, 5])]) [0, 1, 12, 13, 24])
      (.cond (.t 24)
        (.seq (.ops [⟨some 4, .move (.c (.bool false)), none, []⟩] none [4])
        (.ret))
        (.skip)))))
    (.ops [⟨some 25, .bin .add (.t 13) (.c (.int .i64 1)), none, []⟩,
      ⟨some 13, .move (.t 25), none, []⟩] none [0, 1, 12, 13])))))))
(.seq (.ops [⟨some 4, .move (.c (.bool true)), none, []⟩] none [4])
(.ret)))))
def f61 : SFunc := ⟨b61, [.t 4]⟩

/-- watchbill/watchbillref21.Ints -/
def b64 : SCode := (
.seq (.ops [⟨some 4, .move (.c (.bool false)), none, []⟩] none [0, 1])
(.seq (.seq (.ops [⟨some 6, .move (.t 0), none, []⟩,
  ⟨some 7, .len .sl (.t 6), none, []⟩,
  ⟨some 8, .move (.t 1), none, []⟩,
  ⟨some 9, .len .sl (.t 8), none, []⟩,
  ⟨some 10, .bin .neq (.t 7) (.t 9), none, []⟩] none [0, 1, 10])
(.cond (.t 10)
  (.seq (.ops [⟨some 4, .move (.c (.bool false)), none, []⟩] none [4])
  (.ret))
  (.skip)))
(.seq (.seq (.ops [⟨some 5, .move (.c (.int .i64 0)), none, []⟩] none [0, 1, 5])
(.block 0 (.loop [0, 1, 5] (.seq (.seq (.ops [⟨some 11, .move (.t 5), none, []⟩,
      ⟨some 12, .move (.t 0), none, []⟩,
      ⟨some 13, .len .sl (.t 12), none, []⟩,
      ⟨some 14, .bin .lss (.t 11) (.t 13), none, []⟩] none [0, 1, 5, 14])
    (.cond (.t 14)
      (.skip)
      (.exit 0)))
    (.seq (.block 1 (.seq (.ops [⟨some 17, .move (.t 0), none, []⟩,
        ⟨some 18, .move (.t 5), none, []⟩,
        ⟨some 19, .idxAddr 1 (.t 17) (.t 18), none, []⟩,
        ⟨some 20, .load none (.t 19), none, []⟩,
        ⟨some 21, .move (.t 1), none, []⟩,
        ⟨some 22, .move (.t 5), none, []⟩,
        ⟨some 23, .idxAddr 1 (.t 21) (.t 22), none, []⟩,
        ⟨some 24, .load none (.t 23), none, []⟩,
        ⟨some 25, .bin .neq (.t 20) (.t 24), none, []⟩] (some [(0, []), (1, []), (2, [0, 1]), (3, [2, 0, 1]), (4, []), (5, []), (6, [4, 5]), (7, [6, 4, 5]), (8, [3, 2, 0, 1, 7, 6, 4, 5])]) [0, 1, 5, 25])
      (.cond (.t 25)
        (.seq (.ops [⟨some 4, .move (.c (.bool false)), none, []⟩] none [4])
        (.ret))
        (.skip))))
    (.ops [⟨some 15, .move (.t 5), none, []⟩,
      ⟨some 16, .bin .add (.t 15) (.c (.int .i64 1)), none, []⟩,
      ⟨some 5, .move (.t 16), none, []⟩] none [0, 1, 5]))))))
(.seq (.ops [⟨some 4, .move (.c (.bool true)), none, []⟩] none [4])
(.ret)))))
def f64 : SFunc := ⟨b64, [.t 4]⟩

/-- watchbill/word.Text -/
def b99 : SCode := (
.seq (.ops [⟨some 2, .move (.c (.str [])), none, []⟩] none [0])
(.seq (.ops [⟨some 3, .move (.t 0), none, []⟩,
  ⟨some 4, .call 126 [(.t 3), (.c (.int .i64 10))], none, []⟩,
  ⟨some 2, .move (.t 4), none, []⟩] none [2])
(.ret)))
def f99 : SFunc := ⟨b99, [.t 2]⟩

/-- watchbill/word.Lines -/
def b90 : SCode := (
.seq (.ops [⟨some 2, .move (.c .nils), none, []⟩,
  ⟨some 3, .move (.c (.int .i64 0)), none, []⟩] none [0])
(.seq (.seq (.ops [⟨some 6, .move (.t 0), none, []⟩,
  ⟨some 7, .bin .eql (.t 6) (.c (.str [])), none, []⟩] none [0, 7])
(.cond (.t 7)
  (.seq (.ops [⟨some 2, .move (.c .nils), none, []⟩,
    ⟨some 3, .move (.c (.int .i64 0)), none, []⟩] none [2, 3])
  (.ret))
  (.skip)))
(.seq (.ops [⟨some 9, .move (.t 0), none, []⟩,
  ⟨some 10, .call 121 [(.t 9), (.c (.str [10]))], none, []⟩,
  ⟨some 8, .move (.t 10), none, []⟩,
  ⟨some 11, .ext 0 (.t 8), none, []⟩,
  ⟨some 12, .ext 1 (.t 8), none, []⟩,
  ⟨some 4, .move (.t 11), none, []⟩,
  ⟨some 5, .move (.t 12), none, []⟩] none [4, 5])
(.seq (.seq (.ops [⟨some 13, .move (.t 5), none, []⟩,
  ⟨some 14, .not (.t 13), none, []⟩] none [4, 14])
(.cond (.t 14)
  (.seq (.ops [⟨some 2, .move (.c .nils), none, []⟩,
    ⟨some 3, .move (.c (.int .i64 2)), none, []⟩] none [2, 3])
  (.ret))
  (.skip)))
(.seq (.ops [⟨some 15, .move (.t 4), none, []⟩,
  ⟨some 16, .call 122 [(.t 15), (.c (.str [10]))], none, []⟩,
  ⟨some 2, .move (.t 16), none, []⟩,
  ⟨some 3, .move (.c (.int .i64 0)), none, []⟩] none [2, 3])
(.ret))))))
def f90 : SFunc := ⟨b90, [.t 2, .t 3]⟩

/-- watchbill/script.line -/
def b471 : SCode := (
.seq (.ops [⟨some 2, .move (.c .nils), none, []⟩,
  ⟨some 3, .move (.c (.int .i64 0)), none, []⟩] none [0])
(.seq (.ops [⟨some 12, .move (.t 0), none, []⟩,
  ⟨some 13, .call 92 [(.t 12)], none, []⟩,
  ⟨some 11, .move (.t 13), none, []⟩,
  ⟨some 14, .ext 0 (.t 11), none, []⟩,
  ⟨some 15, .ext 1 (.t 11), none, []⟩,
  ⟨some 4, .move (.t 14), none, []⟩,
  ⟨some 5, .move (.t 15), none, []⟩] none [4, 5])
(.seq (.seq (.ops [⟨some 16, .move (.t 5), none, []⟩,
  ⟨some 17, .bin .neq (.t 16) (.c (.int .i64 0)), none, []⟩] none [4, 5, 17])
(.cond (.t 17)
  (.seq (.ops [⟨some 18, .move (.t 5), none, []⟩,
    ⟨some 2, .move (.c .nils), none, []⟩,
    ⟨some 3, .move (.t 18), none, []⟩] none [2, 3])
  (.ret))
  (.skip)))
(.seq (.ops [⟨some 6, .move (.c .nils), none, []⟩] none [4, 6])
(.seq (.skip)
(.seq (.seq (.ops [⟨some 19, .move (.t 4), none, []⟩,
  ⟨some 20, .len .sl (.t 19), none, []⟩,
  ⟨some 21, .move (.c (.int .i64 0)), none, []⟩] none [6, 19, 20, 21])
(.block 0 (.loop [6, 19, 20, 21] (.seq (.ops [⟨some 22, .bin .lss (.t 21) (.t 20), none, []⟩] none [6, 19, 20, 21, 22])
    (.seq (.cond (.t 22)
      (.skip)
      (.exit 0))
    (.seq (.block 1 (.seq (.ops [⟨some 23, .idxAddr 1 (.t 19) (.t 21), none, []⟩,
        ⟨some 24, .load none (.t 23), none, []⟩,
        ⟨some 8, .move (.t 24), none, []⟩] none [6, 8, 19, 20, 21])
      (.seq (.ops [⟨some 26, .move (.t 8), none, []⟩,
        ⟨some 27, .call 94 [(.t 26)], none, []⟩,
        ⟨some 25, .move (.t 27), none, []⟩,
        ⟨some 28, .ext 0 (.t 25), none, []⟩,
        ⟨some 29, .ext 1 (.t 25), none, []⟩,
        ⟨some 9, .move (.t 28), none, []⟩,
        ⟨some 10, .move (.t 29), none, []⟩] none [6, 9, 10, 19, 20, 21])
      (.seq (.seq (.ops [⟨some 30, .move (.t 10), none, []⟩,
        ⟨some 31, .bin .eql (.t 30) (.c (.int .i64 0)), none, []⟩,
        ⟨some 32, .move (.t 31), none, []⟩,
        ⟨some 33, .move (.t 9), (some (32, true)), []⟩,
        ⟨some 34, .bin .lss (.t 33) (.c (.int .i64 (-2147483648))), (some (32, true)), []⟩,
        ⟨some 35, .move (.t 34), (some (32, true)), []⟩,
        ⟨some 36, .move (.t 9), (some (35, false)), []⟩,
        ⟨some 37, .bin .gtr (.t 36) (.c (.int .i64 2147483647)), (some (35, false)), []⟩,
        ⟨some 38, .pick (.t 35) (.c (.bool true)) (.t 37), (some (32, true)), []⟩,
        ⟨some 39, .pick (.t 32) (.t 38) (.c (.bool false)), none, []⟩] none [6, 9, 10, 19, 20, 21, 39])
      (.cond (.t 39)
        (.ops [⟨some 10, .move (.c (.int .i64 14)), none, []⟩] none [6, 9, 10, 19, 20, 21])
        (.skip)))
      (.seq (.seq (.ops [⟨some 40, .move (.t 10), none, []⟩,
        ⟨some 41, .bin .eql (.t 40) (.c (.int .i64 0)), none, []⟩] none [6, 9, 10, 19, 20, 21, 41])
      (.cond (.t 41)
        (.seq (.ops [⟨some 42, .move (.t 6), none, []⟩,
          ⟨some 43, .move (.t 9), none, []⟩,
          ⟨some 44, .buildSl 1 [(.int .i64 0)] [(0, 1, (.t 43))], none, []⟩,
          ⟨some 45, .append 1 (.t 42) (.t 44), none, []⟩,
          ⟨some 6, .move (.t 45), none, []⟩] none [6, 19, 20, 21])
        (.exit 1))
        (.skip)))
      (.seq (.ops [⟨some 46, .move (.t 10), none, []⟩,
        ⟨some 2, .move (.c .nils), none, []⟩,
        ⟨some 3, .move (.t 46), none, []⟩] none [2, 3])
      (.ret)))))))
    (.ops [⟨some 47, .bin .add (.t 21) (.c (.int .i64 1)), none, []⟩,
      ⟨some 21, .move (.t 47), none, []⟩] none [6, 19, 20, 21])))))))
(.seq (.ops [⟨some 48, .move (.t 6), none, []⟩,
  ⟨some 2, .move (.t 48), none, []⟩,
  ⟨some 3, .move (.c (.int .i64 0)), none, []⟩] none [2, 3])
(.ret))))))))
def f471 : SFunc := ⟨b471, [.t 2, .t 3]⟩

/-- watchbill/watchbillref8.Word -/
def b101 : SCode := (
.seq (.ops [⟨some 2, .move (.c (.str [])), none, []⟩] none [0])
(.seq (.seq (.ops [⟨some 4, .move (.t 0), none, []⟩,
  ⟨some 5, .bin .lss (.t 4) (.c (.int .i64 0)), none, []⟩] none [0, 5])
(.cond (.t 5)
  (.seq (.seq (.ops [⟨some 6, .move (.t 0), none, []⟩,
    ⟨some 7, .bin .gtr (.t 6) (.c (.int .i64 (-10))), none, []⟩] none [0, 7])
  (.cond (.t 7)
    (.seq (.ops [⟨some 8, .move (.t 0), none, []⟩,
      ⟨some 9, .bin .sub (.c (.int .i64 0)) (.t 8), none, []⟩,
      ⟨some 10, .call 101 [(.t 9)], none, []⟩,
      ⟨some 11, .bin .add (.c (.str [45])) (.t 10), none, []⟩,
      ⟨some 2, .move (.t 11), none, []⟩] none [2])
    (.ret))
    (.skip)))
  (.seq (.ops [⟨some 12, .move (.t 0), none, []⟩,
    ⟨some 13, .bin .quo (.t 12) (.c (.int .i64 10)), none, []⟩,
    ⟨some 14, .call 101 [(.t 13)], none, []⟩,
    ⟨some 15, .move (.t 0), none, []⟩,
    ⟨some 16, .bin .rem (.t 15) (.c (.int .i64 10)), none, []⟩,
    ⟨some 17, .bin .sub (.c (.int .i64 0)) (.t 16), none, []⟩,
    ⟨some 18, .call 101 [(.t 17)], none, []⟩,
    ⟨some 19, .bin .add (.t 14) (.t 18), none, []⟩,
    ⟨some 2, .move (.t 19), none, []⟩] none [2])
  (.ret)))
  (.skip)))
(.seq (.ops [⟨some 20, .move (.t 0), none, []⟩,
  ⟨some 21, .bin .rem (.t 20) (.c (.int .i64 10)), none, []⟩,
  ⟨some 22, .bin .add (.c (.int .i64 48)) (.t 21), none, []⟩,
  ⟨some 23, .conv .u8 (.t 22), none, []⟩,
  ⟨some 24, .buildSl 1 [(.int .u8 0)] [(0, 1, (.t 23))], none, []⟩,
  ⟨some 25, .toStr (.t 24), none, []⟩,
  ⟨some 3, .move (.t 25), none, []⟩] none [0, 3])
(.seq (.block 0 (.loop [0, 3] (.seq (.seq (.ops [⟨some 26, .move (.t 0), none, []⟩,
      ⟨some 27, .bin .geq (.t 26) (.c (.int .i64 10)), none, []⟩] none [0, 3, 27])
    (.cond (.t 27)
      (.skip)
      (.exit 0)))
    (.block 1 (.seq (.ops [⟨some 28, .move (.t 0), none, []⟩,
        ⟨some 29, .bin .quo (.t 28) (.c (.int .i64 10)), none, []⟩,
        ⟨some 0, .move (.t 29), none, []⟩] none [0, 3])
      (.ops [⟨some 30, .move (.t 0), none, []⟩,
        ⟨some 31, .bin .rem (.t 30) (.c (.int .i64 10)), none, []⟩,
        ⟨some 32, .bin .add (.c (.int .i64 48)) (.t 31), none, []⟩,
        ⟨some 33, .conv .u8 (.t 32), none, []⟩,
        ⟨some 34, .buildSl 1 [(.int .u8 0)] [(0, 1, (.t 33))], none, []⟩,
        ⟨some 35, .toStr (.t 34), none, []⟩,
        ⟨some 36, .move (.t 3), none, []⟩,
        ⟨some 37, .bin .add (.t 35) (.t 36), none, []⟩,
        ⟨some 3, .move (.t 37), none, []⟩] none [0, 3]))))))
(.seq (.ops [⟨some 38, .move (.t 3), none, []⟩,
  ⟨some 2, .move (.t 38), none, []⟩] none [2])
(.ret))))))
def f101 : SFunc := ⟨b101, [.t 2]⟩

/-- watchbill/watchbillref8.Lines -/
def b91 : SCode := (
.seq (.ops [⟨some 2, .move (.c .nils), none, []⟩,
  ⟨some 3, .move (.c (.int .i64 0)), none, []⟩] none [0])
(.seq (.seq (.ops [⟨some 7, .move (.t 0), none, []⟩,
  ⟨some 8, .bin .neq (.t 7) (.c (.str [])), none, []⟩,
  ⟨some 9, .move (.t 8), none, []⟩,
  ⟨some 10, .move (.t 0), (some (9, true)), []⟩,
  ⟨some 11, .move (.t 0), (some (9, true)), []⟩,
  ⟨some 12, .len .str (.t 11), (some (9, true)), []⟩,
  ⟨some 13, .bin .sub (.t 12) (.c (.int .i64 1)), (some (9, true)), []⟩,
  ⟨some 14, .idxStr (.t 10) (.t 13), (some (9, true)), []⟩,
  ⟨some 15, .bin .neq (.t 14) (.c (.int .u8 10)), (some (9, true)), []⟩,
  ⟨some 16, .pick (.t 9) (.t 15) (.c (.bool false)), none, []⟩] none [0, 16])
(.cond (.t 16)
  (.seq (.ops [⟨some 2, .move (.c .nils), none, []⟩,
    ⟨some 3, .move (.c (.int .i64 2)), none, []⟩] none [2, 3])
  (.ret))
  (.skip)))
(.seq (.ops [⟨some 4, .move (.c .nils), none, []⟩] none [0, 4])
(.seq (.ops [⟨some 5, .move (.c (.int .i64 0)), none, []⟩] none [0, 4, 5])
(.seq (.seq (.ops [⟨some 6, .move (.c (.int .i64 0)), none, []⟩] none [0, 4, 5, 6])
(.block 0 (.loop [0, 4, 5, 6] (.seq (.seq (.ops [⟨some 17, .move (.t 6), none, []⟩,
      ⟨some 18, .move (.t 0), none, []⟩,
      ⟨some 19, .len .str (.t 18), none, []⟩,
      ⟨some 20, .bin .lss (.t 17) (.t 19), none, []⟩] none [0, 4, 5, 6, 20])
    (.cond (.t 20)
      (.skip)
      (.exit 0)))
    (.seq (.block 1 (.seq (.ops [⟨some 23, .move (.t 0), none, []⟩,
        ⟨some 24, .move (.t 6), none, []⟩,
        ⟨some 25, .idxStr (.t 23) (.t 24), none, []⟩,
        ⟨some 26, .bin .eql (.t 25) (.c (.int .u8 10)), none, []⟩] none [0, 4, 5, 6, 26])
      (.cond (.t 26)
        (.seq (.ops [⟨some 27, .move (.t 4), none, []⟩,
          ⟨some 28, .move (.t 0), none, []⟩,
          ⟨some 29, .move (.t 5), none, []⟩,
          ⟨some 30, .move (.t 6), none, []⟩,
          ⟨some 31, .slStr (.t 28) (some (.t 29)) (some (.t 30)), none, []⟩,
          ⟨some 32, .buildSl 1 [(.str [])] [(0, 1, (.t 31))], none, []⟩,
          ⟨some 33, .append 1 (.t 27) (.t 32), none, []⟩,
          ⟨some 4, .move (.t 33), none, []⟩] none [0, 4, 6])
        (.ops [⟨some 34, .move (.t 6), none, []⟩,
          ⟨some 35, .bin .add (.t 34) (.c (.int .i64 1)), none, []⟩,
          ⟨some 5, .move (.t 35), none, []⟩] none [0, 4, 5, 6]))
        (.skip))))
    (.ops [⟨some 21, .move (.t 6), none, []⟩,
      ⟨some 22, .bin .add (.t 21) (.c (.int .i64 1)), none, []⟩,
      ⟨some 6, .move (.t 22), none, []⟩] none [0, 4, 5, 6]))))))
(.seq (.ops [⟨some 36, .move (.t 4), none, []⟩,
  ⟨some 2, .move (.t 36), none, []⟩,
  ⟨some 3, .move (.c (.int .i64 0)), none, []⟩] none [2, 3])
(.ret)))))))
def f91 : SFunc := ⟨b91, [.t 2, .t 3]⟩

/-- watchbill/watchbillref8.Split -/
def b93 : SCode := (
.seq (.ops [⟨some 2, .move (.c .nils), none, []⟩,
  ⟨some 3, .move (.c (.int .i64 0)), none, []⟩] none [0])
(.seq (.seq (.ops [⟨some 7, .move (.t 0), none, []⟩,
  ⟨some 8, .bin .eql (.t 7) (.c (.str [])), none, []⟩] none [0, 8])
(.cond (.t 8)
  (.seq (.ops [⟨some 2, .move (.c .nils), none, []⟩,
    ⟨some 3, .move (.c (.int .i64 0)), none, []⟩] none [2, 3])
  (.ret))
  (.skip)))
(.seq (.ops [⟨some 4, .move (.c .nils), none, []⟩] none [0, 4])
(.seq (.ops [⟨some 5, .move (.c (.str [])), none, []⟩] none [0, 4, 5])
(.seq (.seq (.ops [⟨some 6, .move (.c (.int .i64 0)), none, []⟩] none [0, 4, 5, 6])
(.block 0 (.loop [0, 4, 5, 6] (.seq (.seq (.ops [⟨some 9, .move (.t 6), none, []⟩,
      ⟨some 10, .move (.t 0), none, []⟩,
      ⟨some 11, .len .str (.t 10), none, []⟩,
      ⟨some 12, .bin .leq (.t 9) (.t 11), none, []⟩] none [0, 4, 5, 6, 12])
    (.cond (.t 12)
      (.skip)
      (.exit 0)))
    (.seq (.block 1 (.seq (.seq (.ops [⟨some 15, .move (.t 6), none, []⟩,
        ⟨some 16, .move (.t 0), none, []⟩,
        ⟨some 17, .len .str (.t 16), none, []⟩,
        ⟨some 18, .bin .eql (.t 15) (.t 17), none, []⟩,
        ⟨some 19, .move (.t 18), none, []⟩,
        ⟨some 20, .move (.t 0), (some (19, false)), []⟩,
        ⟨some 21, .move (.t 6), (some (19, false)), []⟩,
        ⟨some 22, .idxStr (.t 20) (.t 21), (some (19, false)), []⟩,
        ⟨some 23, .bin .eql (.t 22) (.c (.int .u8 32)), (some (19, false)), []⟩,
        ⟨some 24, .pick (.t 19) (.c (.bool true)) (.t 23), none, []⟩] none [0, 4, 5, 6, 24])
      (.cond (.t 24)
        (.seq (.seq (.ops [⟨some 25, .move (.t 5), none, []⟩,
          ⟨some 26, .bin .eql (.t 25) (.c (.str [])), none, []⟩] none [0, 4, 5, 6, 26])
        (.cond (.t 26)
          (.seq (.ops [⟨some 2, .move (.c .nils), none, []⟩,
            ⟨some 3, .move (.c (.int .i64 2)), none, []⟩] none [2, 3])
          (.ret))
          (.skip)))
        (.seq (.ops [⟨some 27, .move (.t 4), none, []⟩,
          ⟨some 28, .move (.t 5), none, []⟩,
          ⟨some 29, .buildSl 1 [(.str [])] [(0, 1, (.t 28))], none, []⟩,
          ⟨some 30, .append 1 (.t 27) (.t 29), none, []⟩,
          ⟨some 4, .move (.t 30), none, []⟩] none [0, 4, 6])
        (.seq (.ops [⟨some 5, .move (.c (.str [])), none, []⟩] none [0, 4, 5, 6])
        (.exit 1))))
        (.skip)))
      (.seq (.seq (.ops [⟨some 31, .move (.t 0), none, []⟩,
        ⟨some 32, .move (.t 6), none, []⟩,
        ⟨some 33, .idxStr (.t 31) (.t 32), none, []⟩,
        ⟨some 34, .bin .lss (.t 33) (.c (.int .u8 33)), none, []⟩,
        ⟨some 35, .move (.t 34), none, []⟩,
        ⟨some 36, .move (.t 0), (some (35, false)), []⟩,
        ⟨some 37, .move (.t 6), (some (35, false)), []⟩,
        ⟨some 38, .idxStr (.t 36) (.t 37), (some (35, false)), []⟩,
        ⟨some 39, .bin .gtr (.t 38) (.c (.int .u8 126)), (some (35, false)), []⟩,
        ⟨some 40, .pick (.t 35) (.c (.bool true)) (.t 39), none, []⟩] none [0, 4, 5, 6, 40])
      (.cond (.t 40)
        (.seq (.ops [⟨some 2, .move (.c .nils), none, []⟩,
          ⟨some 3, .move (.c (.int .i64 2)), none, []⟩] none [2, 3])
        (.ret))
        (.skip)))
      (.ops [⟨some 41, .move (.t 5), none, []⟩,
        ⟨some 42, .move (.t 0), none, []⟩,
        ⟨some 43, .move (.t 6), none, []⟩,
        ⟨some 44, .move (.t 6), none, []⟩,
        ⟨some 45, .bin .add (.t 44) (.c (.int .i64 1)), none, []⟩,
        ⟨some 46, .slStr (.t 42) (some (.t 43)) (some (.t 45)), none, []⟩,
        ⟨some 47, .bin .add (.t 41) (.t 46), none, []⟩,
        ⟨some 5, .move (.t 47), none, []⟩] none [0, 4, 5, 6]))))
    (.ops [⟨some 13, .move (.t 6), none, []⟩,
      ⟨some 14, .bin .add (.t 13) (.c (.int .i64 1)), none, []⟩,
      ⟨some 6, .move (.t 14), none, []⟩] none [0, 4, 5, 6]))))))
(.seq (.ops [⟨some 48, .move (.t 4), none, []⟩,
  ⟨some 2, .move (.t 48), none, []⟩,
  ⟨some 3, .move (.c (.int .i64 0)), none, []⟩] none [2, 3])
(.ret)))))))
def f93 : SFunc := ⟨b93, [.t 2, .t 3]⟩

/-- watchbill/watchbillref8.Small -/
def b138 : SCode := (
.seq (.ops [⟨some 2, .move (.c (.int .i64 0)), none, []⟩,
  ⟨some 3, .move (.c (.int .i64 0)), none, []⟩] none [0])
(.seq (.ops [⟨some 7, .move (.t 0), none, []⟩,
  ⟨some 8, .call 95 [(.t 7)], none, []⟩,
  ⟨some 6, .move (.t 8), none, []⟩,
  ⟨some 9, .ext 0 (.t 6), none, []⟩,
  ⟨some 10, .ext 1 (.t 6), none, []⟩,
  ⟨some 4, .move (.t 9), none, []⟩,
  ⟨some 5, .move (.t 10), none, []⟩] none [4, 5])
(.seq (.seq (.ops [⟨some 11, .move (.t 5), none, []⟩,
  ⟨some 12, .bin .neq (.t 11) (.c (.int .i64 0)), none, []⟩] none [4, 5, 12])
(.cond (.t 12)
  (.seq (.ops [⟨some 13, .move (.t 5), none, []⟩,
    ⟨some 2, .move (.c (.int .i64 0)), none, []⟩,
    ⟨some 3, .move (.t 13), none, []⟩] none [2, 3])
  (.ret))
  (.skip)))
(.seq (.seq (.ops [⟨some 14, .move (.t 4), none, []⟩,
  ⟨some 15, .bin .lss (.t 14) (.c (.int .i64 (-2147483648))), none, []⟩,
  ⟨some 16, .move (.t 15), none, []⟩,
  ⟨some 17, .move (.t 4), (some (16, false)), []⟩,
  ⟨some 18, .bin .gtr (.t 17) (.c (.int .i64 2147483647)), (some (16, false)), []⟩,
  ⟨some 19, .pick (.t 16) (.c (.bool true)) (.t 18), none, []⟩] none [4, 19])
(.cond (.t 19)
  (.seq (.ops [⟨some 2, .move (.c (.int .i64 0)), none, []⟩,
    ⟨some 3, .move (.c (.int .i64 14)), none, []⟩] none [2, 3])
  (.ret))
  (.skip)))
(.seq (.ops [⟨some 20, .move (.t 4), none, []⟩,
  ⟨some 2, .move (.t 20), none, []⟩,
  ⟨some 3, .move (.c (.int .i64 0)), none, []⟩] none [2, 3])
(.ret))))))
def f138 : SFunc := ⟨b138, [.t 2, .t 3]⟩

/-- watchbill/set.Check -/
def b265 : SCode := (
.seq (.ops [⟨some 1, .box (.t 0), none, []⟩,
  ⟨some 2, .move (.c (.int .i64 0)), none, []⟩,
  ⟨some 3, .move (.c (.int .i64 0)), none, []⟩] none [1])
(.seq (.seq (.ops [⟨some 8, .fldAddr 0 (.t 1), none, []⟩,
  ⟨some 9, .load none (.t 8), none, []⟩,
  ⟨some 10, .bin .lss (.t 9) (.c (.int .i64 0)), none, []⟩,
  ⟨some 11, .move (.t 10), none, []⟩,
  ⟨some 12, .fldAddr 0 (.t 1), (some (11, false)), []⟩,
  ⟨some 13, .load none (.t 12), (some (11, false)), []⟩,
  ⟨some 14, .bin .gtr (.t 13) (.c (.int .i64 8)), (some (11, false)), []⟩,
  ⟨some 15, .pick (.t 11) (.c (.bool true)) (.t 14), none, []⟩] none [1, 15])
(.cond (.t 15)
  (.seq (.ops [⟨some 2, .move (.c (.int .i64 0)), none, []⟩,
    ⟨some 3, .move (.c (.int .i64 1)), none, []⟩] none [2, 3])
  (.ret))
  (.skip)))
(.seq (.seq (.ops [⟨some 16, .fldAddr 1 (.t 1), none, []⟩,
  ⟨some 17, .load none (.t 16), none, []⟩,
  ⟨some 18, .len .sl (.t 17), none, []⟩,
  ⟨some 19, .bin .gtr (.t 18) (.c (.int .i64 8)), none, []⟩,
  ⟨some 20, .move (.t 19), none, []⟩,
  ⟨some 21, .fldAddr 2 (.t 1), (some (20, false)), []⟩,
  ⟨some 22, .load none (.t 21), (some (20, false)), []⟩,
  ⟨some 23, .len .sl (.t 22), (some (20, false)), []⟩,
  ⟨some 24, .bin .lss (.t 23) (.c (.int .i64 1)), (some (20, false)), []⟩,
  ⟨some 25, .pick (.t 20) (.c (.bool true)) (.t 24), none, []⟩,
  ⟨some 26, .move (.t 25), none, []⟩,
  ⟨some 27, .fldAddr 2 (.t 1), (some (26, false)), []⟩,
  ⟨some 28, .load none (.t 27), (some (26, false)), []⟩,
  ⟨some 29, .len .sl (.t 28), (some (26, false)), []⟩,
  ⟨some 30, .bin .gtr (.t 29) (.c (.int .i64 12)), (some (26, false)), []⟩,
  ⟨some 31, .pick (.t 26) (.c (.bool true)) (.t 30), none, []⟩] none [1, 31])
(.cond (.t 31)
  (.seq (.ops [⟨some 2, .move (.c (.int .i64 0)), none, []⟩,
    ⟨some 3, .move (.c (.int .i64 18)), none, []⟩] none [2, 3])
  (.ret))
  (.skip)))
(.seq (.seq (.ops [⟨some 32, .fldAddr 1 (.t 1), none, []⟩,
  ⟨some 33, .load none (.t 32), none, []⟩,
  ⟨some 34, .len .sl (.t 33), none, []⟩,
  ⟨some 35, .move (.c (.int .i64 0)), none, []⟩] none [1, 33, 34, 35])
(.block 0 (.loop [1, 33, 34, 35] (.seq (.ops [⟨some 36, .bin .lss (.t 35) (.t 34), none, []⟩] none [1, 33, 34, 35, 36])
    (.seq (.cond (.t 36)
      (.skip)
      (.exit 0))
    (.seq (.block 1 (.seq (.ops [⟨some 37, .idxAddr 2 (.t 33) (.t 35), none, []⟩,
        ⟨some 38, .load (some 2) (.t 37), none, []⟩,
        ⟨some 5, .alloc (.agg [(.int .i64 0), (.int .i64 0)]), none, []⟩,
        ⟨none, .store (some 2) (.t 5) (.t 38), none, []⟩] none [1, 5, 33, 34, 35])
      (.seq (.ops [⟨some 39, .fldAddr 0 (.t 5), none, []⟩,
        ⟨some 40, .load none (.t 39), none, []⟩,
        ⟨some 41, .bin .lss (.t 40) (.c (.int .i64 0)), none, []⟩,
        ⟨some 42, .move (.t 41), none, []⟩,
        ⟨some 43, .fldAddr 0 (.t 5), (some (42, false)), []⟩,
        ⟨some 44, .load none (.t 43), (some (42, false)), []⟩,
        ⟨some 45, .bin .gtr (.t 44) (.c (.int .i64 16)), (some (42, false)), []⟩,
        ⟨some 46, .pick (.t 42) (.c (.bool true)) (.t 45), none, []⟩,
        ⟨some 47, .move (.t 46), none, []⟩,
        ⟨some 48, .fldAddr 1 (.t 5), (some (47, false)), []⟩,
        ⟨some 49, .load none (.t 48), (some (47, false)), []⟩,
        ⟨some 50, .bin .lss (.t 49) (.c (.int .i64 (-1))), (some (47, false)), []⟩,
        ⟨some 51, .pick (.t 47) (.c (.bool true)) (.t 50), none, []⟩,
        ⟨some 52, .move (.t 51), none, []⟩,
        ⟨some 53, .fldAddr 1 (.t 5), (some (52, false)), []⟩,
        ⟨some 54, .load none (.t 53), (some (52, false)), []⟩,
        ⟨some 55, .fldAddr 2 (.t 1), (some (52, false)), []⟩,
        ⟨some 56, .load none (.t 55), (some (52, false)), []⟩,
        ⟨some 57, .len .sl (.t 56), (some (52, false)), []⟩,
        ⟨some 58, .bin .geq (.t 54) (.t 57), (some (52, false)), []⟩,
        ⟨some 59, .pick (.t 52) (.c (.bool true)) (.t 58), none, []⟩] none [1, 33, 34, 35, 59])
      (.cond (.t 59)
        (.seq (.ops [⟨some 2, .move (.c (.int .i64 0)), none, []⟩,
          ⟨some 3, .move (.c (.int .i64 1)), none, []⟩] none [2, 3])
        (.ret))
        (.skip)))))
    (.ops [⟨some 60, .bin .add (.t 35) (.c (.int .i64 1)), none, []⟩,
      ⟨some 35, .move (.t 60), none, []⟩] none [1, 33, 34, 35])))))))
(.seq (.skip)
(.seq (.seq (.ops [⟨some 61, .fldAddr 2 (.t 1), none, []⟩,
  ⟨some 62, .load none (.t 61), none, []⟩,
  ⟨some 63, .len .sl (.t 62), none, []⟩,
  ⟨some 64, .move (.c (.int .i64 0)), none, []⟩] none [1, 63, 64])
(.block 2 (.loop [1, 63, 64] (.seq (.ops [⟨some 65, .bin .lss (.t 64) (.t 63), none, []⟩] none [1, 63, 64, 65])
    (.seq (.cond (.t 65)
      (.skip)
      (.exit 2))
    (.seq (.block 3 (.seq (.ops [⟨some 66, .move (.t 64), none, []⟩,
        ⟨some 6, .move (.t 66), none, []⟩] none [1, 6, 63, 64])
      (.seq (.ops [⟨some 67, .load (some 3) (.t 1), none, []⟩,
        ⟨some 68, .move (.t 6), none, []⟩,
        ⟨some 69, .call 273 [(.t 67), (.t 68)], none, []⟩,
        ⟨some 7, .move (.t 69), none, []⟩] none [1, 6, 7, 63, 64])
      (.seq (.seq (.ops [⟨some 70, .move (.t 7), none, []⟩,
        ⟨some 71, .bin .eql (.t 70) (.c (.int .i64 0)), none, []⟩] none [1, 6, 7, 63, 64, 71])
      (.cond (.t 71)
        (.exit 3)
        (.skip)))
      (.seq (.ops [⟨some 72, .move (.t 6), none, []⟩,
        ⟨some 73, .move (.t 7), none, []⟩,
        ⟨some 2, .move (.t 72), none, []⟩,
        ⟨some 3, .move (.t 73), none, []⟩] none [2, 3])
      (.ret))))))
    (.ops [⟨some 74, .bin .add (.t 64) (.c (.int .i64 1)), none, []⟩,
      ⟨some 64, .move (.t 74), none, []⟩] none [1, 63, 64])))))))
(.seq (.ops [⟨some 2, .move (.c (.int .i64 0)), none, []⟩,
  ⟨some 3, .move (.c (.int .i64 0)), none, []⟩] none [2, 3])
(.ret))))))))
def f265 : SFunc := ⟨b265, [.t 2, .t 3]⟩

/-- watchbill/engine.New -/
def b441 : SCode := (
.seq (.ops [⟨some 1, .box (.t 0), none, []⟩,
  ⟨some 2, .move (.c .nilp), none, []⟩,
  ⟨some 3, .move (.c (.int .i64 0)), none, []⟩] none [1])
(.seq (.ops [⟨some 7, .load (some 3) (.t 1), none, []⟩,
  ⟨some 8, .call 305 [(.t 7)], none, []⟩,
  ⟨some 6, .move (.t 8), none, []⟩,
  ⟨some 9, .ext 0 (.t 6), none, []⟩,
  ⟨some 10, .ext 1 (.t 6), none, []⟩,
  ⟨some 4, .move (.t 9), none, []⟩,
  ⟨some 5, .move (.t 10), none, []⟩] none [4, 5])
(.seq (.seq (.ops [⟨some 11, .move (.t 5), none, []⟩,
  ⟨some 12, .bin .neq (.t 11) (.c (.int .i64 0)), none, []⟩] none [4, 5, 12])
(.cond (.t 12)
  (.seq (.ops [⟨some 13, .move (.t 5), none, []⟩,
    ⟨some 2, .move (.c .nilp), none, []⟩,
    ⟨some 3, .move (.t 13), none, []⟩] none [2, 3])
  (.ret))
  (.skip)))
(.seq (.ops [⟨some 14, .move (.t 4), none, []⟩,
  ⟨some 15, .build [.nilp] [(0, 1, (.t 14))], none, []⟩,
  ⟨some 16, .box (.t 15), none, []⟩,
  ⟨some 2, .move (.t 16), none, []⟩,
  ⟨some 3, .move (.c (.int .i64 0)), none, []⟩] none [2, 3])
(.ret)))))
def f441 : SFunc := ⟨b441, [.t 2, .t 3]⟩

/-- (*watchbill/engine.Engine).Tick -/
def b442 : SCode := (
.seq (.ops [⟨some 4, .move (.c .nils), none, []⟩,
  ⟨some 5, .move (.c (.int .i64 0)), none, []⟩] none [0, 1])
(.seq (.seq (.ops [⟨some 13, .move (.t 0), none, []⟩,
  ⟨some 14, .nilck (.t 13), none, []⟩,
  ⟨some 15, .fldAddr 0 (.t 14), none, []⟩,
  ⟨some 16, .load none (.t 15), none, []⟩,
  ⟨some 17, .call 444 [(.t 16)], none, []⟩,
  ⟨some 18, .bin .geq (.t 17) (.c (.int .i64 1099511627776)), none, []⟩] none [0, 1, 18])
(.cond (.t 18)
  (.seq (.ops [⟨some 4, .move (.c .nils), none, []⟩,
    ⟨some 5, .move (.c (.int .i64 1)), none, []⟩] none [4, 5])
  (.ret))
  (.skip)))
(.seq (.seq (.ops [⟨some 19, .move (.t 1), none, []⟩,
  ⟨some 20, .len .sl (.t 19), none, []⟩,
  ⟨some 21, .bin .gtr (.t 20) (.c (.int .i64 64)), none, []⟩] none [0, 1, 21])
(.cond (.t 21)
  (.seq (.ops [⟨some 4, .move (.c .nils), none, []⟩,
    ⟨some 5, .move (.c (.int .i64 18)), none, []⟩] none [4, 5])
  (.ret))
  (.skip)))
(.seq (.ops [⟨some 6, .move (.c .nils), none, []⟩] none [0, 1, 6])
(.seq (.seq (.ops [⟨some 22, .move (.t 1), none, []⟩,
  ⟨some 23, .len .sl (.t 22), none, []⟩,
  ⟨some 24, .move (.c (.int .i64 0)), none, []⟩] none [0, 6, 22, 23, 24])
(.block 0 (.loop [0, 6, 22, 23, 24] (.seq (.ops [⟨some 25, .bin .lss (.t 24) (.t 23), none, []⟩] none [0, 6, 22, 23, 24, 25])
    (.seq (.cond (.t 25)
      (.skip)
      (.exit 0))
    (.seq (.block 1 (.seq (.ops [⟨some 26, .idxAddr 1 (.t 22) (.t 24), none, []⟩,
        ⟨some 27, .load none (.t 26), none, []⟩,
        ⟨some 8, .move (.t 27), none, []⟩] none [0, 6, 8, 22, 23, 24])
      (.ops [⟨some 28, .move (.t 6), none, []⟩,
        ⟨some 29, .move (.t 0), none, []⟩,
        ⟨some 30, .nilck (.t 29), none, []⟩,
        ⟨some 31, .fldAddr 0 (.t 30), none, []⟩,
        ⟨some 32, .load none (.t 31), none, []⟩,
        ⟨some 33, .move (.t 8), none, []⟩,
        ⟨some 34, .call 306 [(.t 32), (.t 33)], none, []⟩,
        ⟨some 35, .buildSl 1 [(.int .i64 0), (.int .i64 0), (.int .i64 0), (.int .i64 0), (.int .i64 0), (.int .i64 0), (.int .i64 0)] [(0, 7, (.t 34))], none, []⟩,
        ⟨some 36, .append 7 (.t 28) (.t 35), none, []⟩,
        ⟨some 6, .move (.t 36), none, []⟩] none [0, 6, 22, 23, 24])))
    (.ops [⟨some 37, .bin .add (.t 24) (.c (.int .i64 1)), none, []⟩,
      ⟨some 24, .move (.t 37), none, []⟩] none [0, 6, 22, 23, 24])))))))
(.seq (.ops [⟨some 38, .move (.t 6), none, []⟩,
  ⟨some 39, .move (.t 0), none, []⟩,
  ⟨some 40, .nilck (.t 39), none, []⟩,
  ⟨some 41, .fldAddr 0 (.t 40), none, []⟩,
  ⟨some 42, .load none (.t 41), none, []⟩,
  ⟨some 43, .call 449 [(.t 42)], none, []⟩,
  ⟨some 44, .append 7 (.t 38) (.t 43), none, []⟩,
  ⟨some 6, .move (.t 44), none, []⟩] none [0, 6])
(.seq (.skip)
(.seq (.block 2 (.loop [0, 6] (.block 3 (.seq (.ops [⟨some 46, .move (.t 0), none, []⟩,
        ⟨some 47, .nilck (.t 46), none, []⟩,
        ⟨some 48, .fldAddr 0 (.t 47), none, []⟩,
        ⟨some 49, .load none (.t 48), none, []⟩,
        ⟨some 50, .call 309 [(.t 49)], none, []⟩,
        ⟨some 45, .move (.t 50), none, []⟩,
        ⟨some 51, .ext 0 (.t 45), none, []⟩,
        ⟨some 52, .ext 1 (.t 45), none, []⟩,
        ⟨some 9, .move (.t 51), none, []⟩,
        ⟨some 10, .move (.t 52), none, []⟩] none [0, 6, 9, 10])
      (.seq (.block 4 (.seq (.ops [⟨some 54, .move (.t 10), none, []⟩,
          ⟨some 55, .not (.t 54), none, []⟩,
          ⟨some 53, .move (.t 55), none, []⟩] none [0, 6, 9, 53])
        (.cond (.t 53)
          (.seq (.ops [⟨some 56, .move (.t 6), none, []⟩,
            ⟨some 57, .move (.t 0), none, []⟩,
            ⟨some 58, .nilck (.t 57), none, []⟩,
            ⟨some 59, .fldAddr 0 (.t 58), none, []⟩,
            ⟨some 60, .load none (.t 59), none, []⟩,
            ⟨some 61, .call 444 [(.t 60)], none, []⟩,
            ⟨some 62, .build [(.int .i64 0), (.int .i64 0), (.int .i64 0), (.int .i64 0), (.int .i64 0), (.int .i64 0), (.int .i64 0)] [(0, 1, (.t 61)), (1, 1, (.c (.int .i64 8)))], none, []⟩,
            ⟨some 63, .buildSl 1 [(.int .i64 0), (.int .i64 0), (.int .i64 0), (.int .i64 0), (.int .i64 0), (.int .i64 0), (.int .i64 0)] [(0, 7, (.t 62))], none, []⟩,
            ⟨some 64, .append 7 (.t 56) (.t 63), none, []⟩,
            ⟨some 6, .move (.t 64), none, []⟩] none [0, 6])
          (.exit 2))
          (.seq (.ops [⟨some 66, .move (.t 0), none, []⟩,
            ⟨some 67, .nilck (.t 66), none, []⟩,
            ⟨some 68, .fldAddr 0 (.t 67), none, []⟩,
            ⟨some 69, .load none (.t 68), none, []⟩,
            ⟨some 70, .move (.t 9), none, []⟩,
            ⟨some 71, .call 312 [(.t 69), (.t 70)], none, []⟩,
            ⟨some 72, .fld 3 none (.t 71), none, []⟩,
            ⟨some 73, .bin .neq (.t 72) (.c (.int .i64 0)), none, []⟩,
            ⟨some 65, .move (.t 73), none, []⟩] none [0, 6, 9, 65])
          (.cond (.t 65)
            (.seq (.ops [⟨some 74, .move (.t 6), none, []⟩,
              ⟨some 75, .move (.t 0), none, []⟩,
              ⟨some 76, .nilck (.t 75), none, []⟩,
              ⟨some 77, .fldAddr 0 (.t 76), none, []⟩,
              ⟨some 78, .load none (.t 77), none, []⟩,
              ⟨some 79, .move (.t 9), none, []⟩,
              ⟨some 80, .call 310 [(.t 78), (.t 79)], none, []⟩,
              ⟨some 81, .append 7 (.t 74) (.t 80), none, []⟩,
              ⟨some 6, .move (.t 81), none, []⟩] none [0, 6])
            (.seq (.ops [⟨some 82, .move (.t 6), none, []⟩,
              ⟨some 83, .move (.t 0), none, []⟩,
              ⟨some 84, .call 450 [(.t 83)], none, []⟩,
              ⟨some 85, .append 7 (.t 82) (.t 84), none, []⟩,
              ⟨some 6, .move (.t 85), none, []⟩] none [0, 6])
            (.exit 2)))
            (.skip))))))
      (.seq (.ops [⟨some 87, .move (.t 0), none, []⟩,
        ⟨some 88, .nilck (.t 87), none, []⟩,
        ⟨some 89, .fldAddr 0 (.t 88), none, []⟩,
        ⟨some 90, .load none (.t 89), none, []⟩,
        ⟨some 91, .move (.t 9), none, []⟩,
        ⟨some 92, .call 307 [(.t 90), (.t 91), (.c (.bool false))], none, []⟩,
        ⟨some 86, .move (.t 92), none, []⟩,
        ⟨some 93, .ext 0 (.t 86), none, []⟩,
        ⟨some 94, .ext 1 (.t 86), none, []⟩,
        ⟨some 11, .move (.t 93), none, []⟩,
        ⟨some 12, .move (.t 94), none, []⟩] none [0, 6, 11])
      (.ops [⟨some 95, .move (.t 6), none, []⟩,
        ⟨some 96, .move (.t 11), none, []⟩,
        ⟨some 97, .append 7 (.t 95) (.t 96), none, []⟩,
        ⟨some 6, .move (.t 97), none, []⟩] none [0, 6])))))))
(.seq (.ops [⟨some 98, .move (.t 0), none, []⟩,
  ⟨some 99, .nilck (.t 98), none, []⟩,
  ⟨some 100, .fldAddr 0 (.t 99), none, []⟩,
  ⟨some 101, .load none (.t 100), none, []⟩,
  ⟨some 102, .call 316 [(.t 101)], none, []⟩] none [6])
(.seq (.ops [⟨some 103, .move (.t 6), none, []⟩,
  ⟨some 4, .move (.t 103), none, []⟩,
  ⟨some 5, .move (.c (.int .i64 0)), none, []⟩] none [4, 5])
(.ret)))))))))))
def f442 : SFunc := ⟨b442, [.t 4, .t 5]⟩

/-- watchbill/event.Text -/
def b111 : SCode := (
.seq (.ops [⟨some 1, .box (.t 0), none, []⟩,
  ⟨some 2, .move (.c (.str [])), none, []⟩] none [1])
(.seq (.seq (.ops [⟨some 5, .fldAddr 1 (.t 1), none, []⟩,
  ⟨some 6, .load none (.t 5), none, []⟩,
  ⟨some 7, .bin .lss (.t 6) (.c (.int .i64 1)), none, []⟩,
  ⟨some 8, .move (.t 7), none, []⟩,
  ⟨some 9, .fldAddr 1 (.t 1), (some (8, false)), []⟩,
  ⟨some 10, .load none (.t 9), (some (8, false)), []⟩,
  ⟨some 11, .bin .gtr (.t 10) (.c (.int .i64 8)), (some (8, false)), []⟩,
  ⟨some 12, .pick (.t 8) (.c (.bool true)) (.t 11), none, []⟩] none [1, 12])
(.cond (.t 12)
  (.seq (.ops [⟨some 2, .move (.c (.str [])), none, []⟩] none [2])
  (.ret))
  (.skip)))
(.seq (.ops [⟨some 14, .fldAddr 1 (.t 1), none, []⟩,
  ⟨some 15, .load none (.t 14), none, []⟩,
  ⟨some 3, .alloc (.agg [(.str []), (.bool false), (.bool false), (.bool false), (.bool false)]), none, []⟩,
  ⟨some 13, .call 127 [], none, [1]⟩,
  ⟨some 16, .idxAddr 5 (.t 13) (.t 15), none, []⟩,
  ⟨some 17, .load (some 5) (.t 16), none, []⟩,
  ⟨none, .store (some 5) (.t 3) (.t 17), none, []⟩] (some [(1, []), (2, [0]), (5, []), (0, []), (3, [3, 1, 0]), (4, [4, 3, 1, 0]), (6, [2, 5, 4, 3, 1, 0])]) [1, 3])
(.seq (.ops [⟨some 18, .fldAddr 0 (.t 1), none, []⟩,
  ⟨some 19, .load none (.t 18), none, []⟩,
  ⟨some 21, .fldAddr 0 (.t 3), none, []⟩,
  ⟨some 22, .load none (.t 21), none, []⟩,
  ⟨some 20, .call 99 [(.t 19)], none, [3]⟩,
  ⟨some 23, .buildSl 2 [(.str []), (.str [])] [(0, 1, (.t 20)), (1, 1, (.t 22))], none, []⟩,
  ⟨some 4, .move (.t 23), none, []⟩] (some [(0, []), (1, [0]), (3, []), (4, [2]), (2, [1, 0]), (5, [4, 1, 0, 3, 2]), (6, [5, 4, 1, 0, 3, 2])]) [1, 3, 4])
(.seq (.seq (.ops [⟨some 24, .fldAddr 1 (.t 3), none, []⟩,
  ⟨some 25, .load none (.t 24), none, []⟩] none [1, 3, 4, 25])
(.cond (.t 25)
  (.ops [⟨some 26, .move (.t 4), none, []⟩,
    ⟨some 27, .fldAddr 2 (.t 1), none, []⟩,
    ⟨some 28, .load none (.t 27), none, []⟩,
    ⟨some 29, .call 99 [(.t 28)], none, []⟩,
    ⟨some 30, .buildSl 1 [(.str [])] [(0, 1, (.t 29))], none, []⟩,
    ⟨some 31, .append 1 (.t 26) (.t 30), none, []⟩,
    ⟨some 4, .move (.t 31), none, []⟩] none [1, 3, 4])
  (.skip)))
(.seq (.seq (.ops [⟨some 32, .fldAddr 2 (.t 3), none, []⟩,
  ⟨some 33, .load none (.t 32), none, []⟩] none [1, 3, 4, 33])
(.cond (.t 33)
  (.ops [⟨some 34, .move (.t 4), none, []⟩,
    ⟨some 35, .fldAddr 3 (.t 1), none, []⟩,
    ⟨some 36, .load none (.t 35), none, []⟩,
    ⟨some 37, .call 99 [(.t 36)], none, []⟩,
    ⟨some 38, .buildSl 1 [(.str [])] [(0, 1, (.t 37))], none, []⟩,
    ⟨some 39, .append 1 (.t 34) (.t 38), none, []⟩,
    ⟨some 4, .move (.t 39), none, []⟩] none [1, 3, 4])
  (.skip)))
(.seq (.seq (.ops [⟨some 40, .fldAddr 3 (.t 3), none, []⟩,
  ⟨some 41, .load none (.t 40), none, []⟩] none [1, 3, 4, 41])
(.cond (.t 41)
  (.ops [⟨some 42, .move (.t 4), none, []⟩,
    ⟨some 43, .fldAddr 4 (.t 1), none, []⟩,
    ⟨some 44, .load none (.t 43), none, []⟩,
    ⟨some 45, .call 99 [(.t 44)], none, []⟩,
    ⟨some 46, .buildSl 1 [(.str [])] [(0, 1, (.t 45))], none, []⟩,
    ⟨some 47, .append 1 (.t 42) (.t 46), none, []⟩,
    ⟨some 4, .move (.t 47), none, []⟩] none [1, 3, 4])
  (.skip)))
(.seq (.seq (.ops [⟨some 48, .fldAddr 4 (.t 3), none, []⟩,
  ⟨some 49, .load none (.t 48), none, []⟩] none [1, 4, 49])
(.cond (.t 49)
  (.ops [⟨some 50, .move (.t 4), none, []⟩,
    ⟨some 51, .fldAddr 5 (.t 1), none, []⟩,
    ⟨some 52, .load none (.t 51), none, []⟩,
    ⟨some 54, .fldAddr 6 (.t 1), none, []⟩,
    ⟨some 55, .load none (.t 54), none, []⟩,
    ⟨some 53, .call 99 [(.t 52)], none, [4]⟩,
    ⟨some 56, .call 99 [(.t 55)], none, []⟩,
    ⟨some 57, .buildSl 2 [(.str []), (.str [])] [(0, 1, (.t 53)), (1, 1, (.t 56))], none, []⟩,
    ⟨some 58, .append 1 (.t 50) (.t 57), none, []⟩,
    ⟨some 4, .move (.t 58), none, []⟩] (some [(0, []), (1, []), (2, [1]), (4, []), (5, [3]), (3, [2, 1]), (6, [4, 3, 5, 2, 1]), (7, [5, 2, 1, 6, 4, 3]), (8, [0, 7, 5, 2, 1, 6, 4, 3]), (9, [8, 0, 7, 5, 2, 1, 6, 4, 3])]) [4])
  (.skip)))
(.seq (.ops [⟨some 59, .move (.t 4), none, []⟩,
  ⟨some 60, .call 128 [(.t 59), (.c (.str [32]))], none, []⟩,
  ⟨some 2, .move (.t 60), none, []⟩] none [2])
(.ret))))))))))
def f111 : SFunc := ⟨b111, [.t 2]⟩

/-- slices.IndexFunc[[]int,int] -/
def b455 : SCode := (
.seq (.ops [⟨some 4, .move (.c (.int .i64 0)), none, []⟩] none [0, 1])
(.seq (.seq (.ops [⟨some 6, .move (.t 0), none, []⟩,
  ⟨some 7, .len .sl (.t 6), none, []⟩,
  ⟨some 8, .move (.c (.int .i64 0)), none, []⟩] none [0, 1, 7, 8])
(.block 0 (.loop [0, 1, 7, 8] (.seq (.ops [⟨some 9, .bin .lss (.t 8) (.t 7), none, []⟩] none [0, 1, 7, 8, 9])
    (.seq (.cond (.t 9)
      (.skip)
      (.exit 0))
    (.seq (.block 1 (.seq (.ops [⟨some 10, .move (.t 8), none, []⟩,
        ⟨some 5, .move (.t 10), none, []⟩] none [0, 1, 5, 7, 8])
      (.seq (.ops [⟨some 11, .move (.t 1), none, []⟩,
        ⟨some 12, .move (.t 0), none, []⟩,
        ⟨some 13, .move (.t 5), none, []⟩,
        ⟨some 14, .idxAddr 1 (.t 12) (.t 13), none, []⟩,
        ⟨some 15, .load none (.t 14), none, []⟩,
        ⟨some 16, .callv (.t 11) [(.t 15)], none, []⟩] none [0, 1, 5, 7, 8, 16])
      (.cond (.t 16)
        (.seq (.ops [⟨some 17, .move (.t 5), none, []⟩,
          ⟨some 4, .move (.t 17), none, []⟩] none [4])
        (.ret))
        (.skip)))))
    (.ops [⟨some 18, .bin .add (.t 8) (.c (.int .i64 1)), none, []⟩,
      ⟨some 8, .move (.t 18), none, []⟩] none [0, 1, 7, 8])))))))
(.seq (.ops [⟨some 4, .move (.c (.int .i64 (-1))), none, []⟩] none [4])
(.ret))))
def f455 : SFunc := ⟨b455, [.t 4]⟩

/-- watchbill/word.Split -/
def b92 : SCode := (
.seq (.ops [⟨some 2, .move (.c .nils), none, []⟩,
  ⟨some 3, .move (.c (.int .i64 0)), none, []⟩] none [0])
(.seq (.seq (.ops [⟨some 8, .move (.t 0), none, []⟩,
  ⟨some 9, .bin .eql (.t 8) (.c (.str [])), none, []⟩] none [0, 9])
(.cond (.t 9)
  (.seq (.ops [⟨some 2, .move (.c .nils), none, []⟩,
    ⟨some 3, .move (.c (.int .i64 0)), none, []⟩] none [2, 3])
  (.ret))
  (.skip)))
(.seq (.ops [⟨some 10, .move (.t 0), none, []⟩,
  ⟨some 11, .call 122 [(.t 10), (.c (.str [32]))], none, []⟩,
  ⟨some 4, .move (.t 11), none, []⟩] none [4])
(.seq (.skip)
(.seq (.seq (.ops [⟨some 12, .move (.t 4), none, []⟩,
  ⟨some 13, .len .sl (.t 12), none, []⟩,
  ⟨some 14, .move (.c (.int .i64 0)), none, []⟩] none [4, 12, 13, 14])
(.block 0 (.loop [4, 12, 13, 14] (.seq (.ops [⟨some 15, .bin .lss (.t 14) (.t 13), none, []⟩] none [4, 12, 13, 14, 15])
    (.seq (.cond (.t 15)
      (.skip)
      (.exit 0))
    (.seq (.block 1 (.seq (.ops [⟨some 16, .idxAddr 1 (.t 12) (.t 14), none, []⟩,
        ⟨some 17, .load none (.t 16), none, []⟩,
        ⟨some 6, .move (.t 17), none, []⟩] none [4, 6, 12, 13, 14])
      (.seq (.seq (.ops [⟨some 18, .move (.t 6), none, []⟩,
        ⟨some 19, .len .str (.t 18), none, []⟩,
        ⟨some 20, .move (.c (.int .i64 0)), none, []⟩] none [4, 6, 12, 13, 14, 19, 20])
      (.block 2 (.loop [4, 6, 12, 13, 14, 19, 20] (.seq (.ops [⟨some 21, .bin .lss (.t 20) (.t 19), none, []⟩] none [4, 6, 12, 13, 14, 19, 20, 21])
          (.seq (.cond (.t 21)
            (.skip)
            (.exit 2))
          (.seq (.block 3 (.seq (.ops [⟨some 22, .move (.t 20), none, []⟩,
              ⟨some 7, .move (.t 22), none, []⟩] none [4, 6, 7, 12, 13, 14, 19, 20])
            (.seq (.ops [⟨some 23, .move (.t 6), none, []⟩,
              ⟨some 24, .move (.t 7), none, []⟩,
              ⟨some 25, .idxStr (.t 23) (.t 24), none, []⟩,
              ⟨some 26, .bin .lss (.t 25) (.c (.int .u8 33)), none, []⟩,
              ⟨some 27, .move (.t 26), none, []⟩,
              ⟨some 28, .move (.t 6), (some (27, false)), []⟩,
              ⟨some 29, .move (.t 7), (some (27, false)), []⟩,
              ⟨some 30, .idxStr (.t 28) (.t 29), (some (27, false)), []⟩,
              ⟨some 31, .bin .gtr (.t 30) (.c (.int .u8 126)), (some (27, false)), []⟩,
              ⟨some 32, .pick (.t 27) (.c (.bool true)) (.t 31), none, []⟩] none [4, 6, 12, 13, 14, 19, 20, 32])
            (.cond (.t 32)
              (.seq (.ops [⟨some 2, .move (.c .nils), none, []⟩,
                ⟨some 3, .move (.c (.int .i64 2)), none, []⟩] none [2, 3])
              (.ret))
              (.skip)))))
          (.ops [⟨some 33, .bin .add (.t 20) (.c (.int .i64 1)), none, []⟩,
            ⟨some 20, .move (.t 33), none, []⟩] none [4, 6, 12, 13, 14, 19, 20])))))))
      (.seq (.seq (.ops [⟨some 34, .move (.t 6), none, []⟩,
        ⟨some 35, .bin .neq (.t 34) (.c (.str [])), none, []⟩] none [4, 12, 13, 14, 35])
      (.cond (.t 35)
        (.exit 1)
        (.skip)))
      (.seq (.ops [⟨some 2, .move (.c .nils), none, []⟩,
        ⟨some 3, .move (.c (.int .i64 2)), none, []⟩] none [2, 3])
      (.ret))))))
    (.ops [⟨some 36, .bin .add (.t 14) (.c (.int .i64 1)), none, []⟩,
      ⟨some 14, .move (.t 36), none, []⟩] none [4, 12, 13, 14])))))))
(.seq (.ops [⟨some 37, .move (.t 4), none, []⟩,
  ⟨some 2, .move (.t 37), none, []⟩,
  ⟨some 3, .move (.c (.int .i64 0)), none, []⟩] none [2, 3])
(.ret)))))))
def f92 : SFunc := ⟨b92, [.t 2, .t 3]⟩

/-- watchbill/word.Number -/
def b94 : SCode := (
.seq (.ops [⟨some 2, .move (.c (.int .i64 0)), none, []⟩,
  ⟨some 3, .move (.c (.int .i64 0)), none, []⟩] none [0])
(.seq (.ops [⟨some 7, .move (.t 0), none, []⟩,
  ⟨some 8, .call 123 [(.t 7), (.c (.str [45]))], none, []⟩,
  ⟨some 4, .move (.t 8), none, []⟩] none [0, 4])
(.seq (.seq (.ops [⟨some 9, .move (.t 4), none, []⟩,
  ⟨some 10, .bin .eql (.t 9) (.c (.str [])), none, []⟩,
  ⟨some 11, .move (.t 10), none, []⟩,
  ⟨some 12, .move (.t 4), (some (11, false)), []⟩,
  ⟨some 13, .call 124 [(.t 12), (.c (.str [48, 49, 50, 51, 52, 53, 54, 55, 56, 57]))], (some (11, false)), []⟩,
  ⟨some 14, .bin .neq (.t 13) (.c (.str [])), (some (11, false)), []⟩,
  ⟨some 15, .pick (.t 11) (.c (.bool true)) (.t 14), none, []⟩,
  ⟨some 16, .move (.t 15), none, []⟩,
  ⟨some 17, .move (.t 4), (some (16, false)), []⟩,
  ⟨some 18, .len .str (.t 17), (some (16, false)), []⟩,
  ⟨some 19, .bin .gtr (.t 18) (.c (.int .i64 1)), (some (16, false)), []⟩,
  ⟨some 20, .move (.t 19), (some (16, false)), []⟩,
  ⟨some 21, .move (.t 4), (some (20, true)), []⟩,
  ⟨some 22, .idxStr (.t 21) (.c (.int .i64 0)), (some (20, true)), []⟩,
  ⟨some 23, .bin .eql (.t 22) (.c (.int .u8 48)), (some (20, true)), []⟩,
  ⟨some 24, .pick (.t 20) (.t 23) (.c (.bool false)), (some (16, false)), []⟩,
  ⟨some 25, .pick (.t 16) (.c (.bool true)) (.t 24), none, []⟩,
  ⟨some 26, .move (.t 25), none, []⟩,
  ⟨some 27, .move (.t 0), (some (26, false)), []⟩,
  ⟨some 28, .bin .eql (.t 27) (.c (.str [45, 48])), (some (26, false)), []⟩,
  ⟨some 29, .pick (.t 26) (.c (.bool true)) (.t 28), none, []⟩] none [0, 29])
(.cond (.t 29)
  (.seq (.ops [⟨some 2, .move (.c (.int .i64 0)), none, []⟩,
    ⟨some 3, .move (.c (.int .i64 2)), none, []⟩] none [2, 3])
  (.ret))
  (.skip)))
(.seq (.ops [⟨some 31, .move (.t 0), none, []⟩,
  ⟨some 32, .call 125 [(.t 31), (.c (.int .i64 10)), (.c (.int .i64 64))], none, []⟩,
  ⟨some 30, .move (.t 32), none, []⟩,
  ⟨some 33, .ext 0 (.t 30), none, []⟩,
  ⟨some 34, .ext 1 (.t 30), none, []⟩,
  ⟨some 5, .move (.t 33), none, []⟩,
  ⟨some 6, .move (.t 34), none, []⟩] none [5, 6])
(.seq (.seq (.ops [⟨some 35, .move (.t 6), none, []⟩,
  ⟨some 36, .eq true .i (.t 35) (.c .nili), none, []⟩] none [5, 36])
(.cond (.t 36)
  (.seq (.ops [⟨some 2, .move (.c (.int .i64 0)), none, []⟩,
    ⟨some 3, .move (.c (.int .i64 14)), none, []⟩] none [2, 3])
  (.ret))
  (.skip)))
(.seq (.ops [⟨some 37, .move (.t 5), none, []⟩,
  ⟨some 2, .move (.t 37), none, []⟩,
  ⟨some 3, .move (.c (.int .i64 0)), none, []⟩] none [2, 3])
(.ret)))))))
def f94 : SFunc := ⟨b94, [.t 2, .t 3]⟩

/-- watchbill/watchbillref8.Number -/
def b95 : SCode := (
.seq (.ops [⟨some 2, .move (.c (.int .i64 0)), none, []⟩,
  ⟨some 3, .move (.c (.int .i64 0)), none, []⟩] none [0])
(.seq (.ops [⟨some 10, .move (.t 0), none, []⟩,
  ⟨some 4, .move (.t 10), none, []⟩] none [0, 4])
(.seq (.ops [⟨some 11, .move (.t 0), none, []⟩,
  ⟨some 12, .len .str (.t 11), none, []⟩,
  ⟨some 13, .bin .gtr (.t 12) (.c (.int .i64 0)), none, []⟩,
  ⟨some 14, .move (.t 13), none, []⟩,
  ⟨some 15, .move (.t 0), (some (14, true)), []⟩,
  ⟨some 16, .idxStr (.t 15) (.c (.int .i64 0)), (some (14, true)), []⟩,
  ⟨some 17, .bin .eql (.t 16) (.c (.int .u8 45)), (some (14, true)), []⟩,
  ⟨some 18, .pick (.t 14) (.t 17) (.c (.bool false)), none, []⟩,
  ⟨some 5, .move (.t 18), none, []⟩] none [0, 4, 5])
(.seq (.seq (.ops [⟨some 19, .move (.t 5), none, []⟩] none [0, 4, 5, 19])
(.cond (.t 19)
  (.ops [⟨some 20, .move (.t 0), none, []⟩,
    ⟨some 21, .slStr (.t 20) (some (.c (.int .i64 1))) none, none, []⟩,
    ⟨some 4, .move (.t 21), none, []⟩] none [4, 5])
  (.skip)))
(.seq (.seq (.ops [⟨some 22, .move (.t 4), none, []⟩,
  ⟨some 23, .bin .eql (.t 22) (.c (.str [])), none, []⟩,
  ⟨some 24, .move (.t 23), none, []⟩,
  ⟨some 25, .move (.t 4), (some (24, false)), []⟩,
  ⟨some 26, .idxStr (.t 25) (.c (.int .i64 0)), (some (24, false)), []⟩,
  ⟨some 27, .bin .eql (.t 26) (.c (.int .u8 48)), (some (24, false)), []⟩,
  ⟨some 28, .move (.t 27), (some (24, false)), []⟩,
  ⟨some 29, .move (.t 4), (some (28, true)), []⟩,
  ⟨some 30, .len .str (.t 29), (some (28, true)), []⟩,
  ⟨some 31, .bin .gtr (.t 30) (.c (.int .i64 1)), (some (28, true)), []⟩,
  ⟨some 32, .move (.t 31), (some (28, true)), []⟩,
  ⟨some 33, .move (.t 5), (some (32, false)), []⟩,
  ⟨some 34, .pick (.t 32) (.c (.bool true)) (.t 33), (some (28, true)), []⟩,
  ⟨some 35, .pick (.t 28) (.t 34) (.c (.bool false)), (some (24, false)), []⟩,
  ⟨some 36, .pick (.t 24) (.c (.bool true)) (.t 35), none, []⟩] none [4, 5, 36])
(.cond (.t 36)
  (.seq (.ops [⟨some 2, .move (.c (.int .i64 0)), none, []⟩,
    ⟨some 3, .move (.c (.int .i64 2)), none, []⟩] none [2, 3])
  (.ret))
  (.skip)))
(.seq (.seq (.ops [⟨some 6, .move (.c (.int .i64 0)), none, []⟩] none [4, 5, 6])
(.block 0 (.loop [4, 5, 6] (.seq (.seq (.ops [⟨some 37, .move (.t 6), none, []⟩,
      ⟨some 38, .move (.t 4), none, []⟩,
      ⟨some 39, .len .str (.t 38), none, []⟩,
      ⟨some 40, .bin .lss (.t 37) (.t 39), none, []⟩] none [4, 5, 6, 40])
    (.cond (.t 40)
      (.skip)
      (.exit 0)))
    (.seq (.block 1 (.seq (.ops [⟨some 43, .move (.t 4), none, []⟩,
        ⟨some 44, .move (.t 6), none, []⟩,
        ⟨some 45, .idxStr (.t 43) (.t 44), none, []⟩,
        ⟨some 46, .bin .lss (.t 45) (.c (.int .u8 48)), none, []⟩,
        ⟨some 47, .move (.t 46), none, []⟩,
        ⟨some 48, .move (.t 4), (some (47, false)), []⟩,
        ⟨some 49, .move (.t 6), (some (47, false)), []⟩,
        ⟨some 50, .idxStr (.t 48) (.t 49), (some (47, false)), []⟩,
        ⟨some 51, .bin .gtr (.t 50) (.c (.int .u8 57)), (some (47, false)), []⟩,
        ⟨some 52, .pick (.t 47) (.c (.bool true)) (.t 51), none, []⟩] none [4, 5, 6, 52])
      (.cond (.t 52)
        (.seq (.ops [⟨some 2, .move (.c (.int .i64 0)), none, []⟩,
          ⟨some 3, .move (.c (.int .i64 2)), none, []⟩] none [2, 3])
        (.ret))
        (.skip))))
    (.ops [⟨some 41, .move (.t 6), none, []⟩,
      ⟨some 42, .bin .add (.t 41) (.c (.int .i64 1)), none, []⟩,
      ⟨some 6, .move (.t 42), none, []⟩] none [4, 5, 6]))))))
(.seq (.ops [⟨some 7, .move (.c (.int .i64 0)), none, []⟩] none [4, 5, 7])
(.seq (.seq (.ops [⟨some 8, .move (.c (.int .i64 0)), none, []⟩] none [4, 5, 7, 8])
(.block 2 (.loop [4, 5, 7, 8] (.seq (.seq (.ops [⟨some 53, .move (.t 8), none, []⟩,
      ⟨some 54, .move (.t 4), none, []⟩,
      ⟨some 55, .len .str (.t 54), none, []⟩,
      ⟨some 56, .bin .lss (.t 53) (.t 55), none, []⟩] none [4, 5, 7, 8, 56])
    (.cond (.t 56)
      (.skip)
      (.exit 2)))
    (.seq (.block 3 (.seq (.ops [⟨some 59, .move (.t 4), none, []⟩,
        ⟨some 60, .move (.t 8), none, []⟩,
        ⟨some 61, .idxStr (.t 59) (.t 60), none, []⟩,
        ⟨some 62, .bin .sub (.t 61) (.c (.int .u8 48)), none, []⟩,
        ⟨some 63, .conv .i64 (.t 62), none, []⟩,
        ⟨some 9, .move (.t 63), none, []⟩] none [4, 5, 7, 8, 9])
      (.seq (.seq (.ops [⟨some 64, .move (.t 7), none, []⟩,
        ⟨some 65, .move (.t 9), none, []⟩,
        ⟨some 66, .bin .add (.c (.int .i64 (-9223372036854775808))) (.t 65), none, []⟩,
        ⟨some 67, .bin .quo (.t 66) (.c (.int .i64 10)), none, []⟩,
        ⟨some 68, .bin .lss (.t 64) (.t 67), none, []⟩] none [4, 5, 7, 8, 9, 68])
      (.cond (.t 68)
        (.seq (.ops [⟨some 2, .move (.c (.int .i64 0)), none, []⟩,
          ⟨some 3, .move (.c (.int .i64 14)), none, []⟩] none [2, 3])
        (.ret))
        (.skip)))
      (.ops [⟨some 69, .move (.t 7), none, []⟩,
        ⟨some 70, .bin .mul (.c (.int .i64 10)) (.t 69), none, []⟩,
        ⟨some 71, .move (.t 9), none, []⟩,
        ⟨some 72, .bin .sub (.t 70) (.t 71), none, []⟩,
        ⟨some 7, .move (.t 72), none, []⟩] none [4, 5, 7, 8]))))
    (.ops [⟨some 57, .move (.t 8), none, []⟩,
      ⟨some 58, .bin .add (.t 57) (.c (.int .i64 1)), none, []⟩,
      ⟨some 8, .move (.t 58), none, []⟩] none [4, 5, 7, 8]))))))
(.seq (.seq (.ops [⟨some 73, .move (.t 5), none, []⟩] none [7, 73])
(.cond (.t 73)
  (.seq (.ops [⟨some 74, .move (.t 7), none, []⟩,
    ⟨some 2, .move (.t 74), none, []⟩,
    ⟨some 3, .move (.c (.int .i64 0)), none, []⟩] none [2, 3])
  (.ret))
  (.skip)))
(.seq (.seq (.ops [⟨some 75, .move (.t 7), none, []⟩,
  ⟨some 76, .bin .eql (.t 75) (.c (.int .i64 (-9223372036854775808))), none, []⟩] none [7, 76])
(.cond (.t 76)
  (.seq (.ops [⟨some 2, .move (.c (.int .i64 0)), none, []⟩,
    ⟨some 3, .move (.c (.int .i64 14)), none, []⟩] none [2, 3])
  (.ret))
  (.skip)))
(.seq (.ops [⟨some 77, .move (.t 7), none, []⟩,
  ⟨some 78, .bin .sub (.c (.int .i64 0)) (.t 77), none, []⟩,
  ⟨some 2, .move (.t 78), none, []⟩,
  ⟨some 3, .move (.c (.int .i64 0)), none, []⟩] none [2, 3])
(.ret))))))))))))
def f95 : SFunc := ⟨b95, [.t 2, .t 3]⟩

/-- watchbill/set.task -/
def b273 : SCode := (
.seq (.ops [⟨some 2, .box (.t 0), none, []⟩,
  ⟨some 4, .move (.c (.int .i64 0)), none, []⟩] none [1, 2])
(.seq (.ops [⟨some 12, .fldAddr 2 (.t 2), none, []⟩,
  ⟨some 13, .load none (.t 12), none, []⟩,
  ⟨some 14, .move (.t 1), none, []⟩,
  ⟨some 15, .idxAddr 5 (.t 13) (.t 14), none, []⟩,
  ⟨some 16, .load (some 5) (.t 15), none, []⟩,
  ⟨some 5, .alloc (.agg [(.str []), (.int .i64 0), (.int .i64 0), (.int .i64 0), .nils]), none, []⟩,
  ⟨none, .store (some 5) (.t 5) (.t 16), none, []⟩] none [1, 2, 5])
(.seq (.seq (.ops [⟨some 17, .fldAddr 0 (.t 5), none, []⟩,
  ⟨some 18, .load none (.t 17), none, []⟩,
  ⟨some 19, .call 97 [(.t 18)], none, []⟩,
  ⟨some 20, .not (.t 19), none, []⟩] none [1, 2, 5, 20])
(.cond (.t 20)
  (.seq (.ops [⟨some 4, .move (.c (.int .i64 3)), none, []⟩] none [4])
  (.ret))
  (.skip)))
(.seq (.seq (.ops [⟨some 22, .load (some 3) (.t 2), none, []⟩,
  ⟨some 23, .fldAddr 0 (.t 5), none, []⟩,
  ⟨some 24, .load none (.t 23), none, []⟩,
  ⟨some 25, .call 285 [(.t 22), (.t 24)], none, []⟩,
  ⟨some 21, .move (.t 25), none, []⟩,
  ⟨some 26, .ext 0 (.t 21), none, []⟩,
  ⟨some 27, .ext 1 (.t 21), none, []⟩,
  ⟨some 6, .move (.t 26), none, []⟩,
  ⟨some 7, .move (.t 27), none, []⟩] none [1, 2, 5, 6])
(.seq (.ops [⟨some 28, .move (.t 6), none, []⟩,
  ⟨some 29, .move (.t 1), none, []⟩,
  ⟨some 30, .bin .lss (.t 28) (.t 29), none, []⟩] none [2, 5, 30])
(.cond (.t 30)
  (.seq (.ops [⟨some 4, .move (.c (.int .i64 6)), none, []⟩] none [4])
  (.ret))
  (.skip))))
(.seq (.seq (.ops [⟨some 31, .fldAddr 1 (.t 5), none, []⟩,
  ⟨some 32, .load none (.t 31), none, []⟩,
  ⟨some 33, .bin .lss (.t 32) (.c (.int .i64 1)), none, []⟩,
  ⟨some 34, .move (.t 33), none, []⟩,
  ⟨some 35, .fldAddr 1 (.t 5), (some (34, false)), []⟩,
  ⟨some 36, .load none (.t 35), (some (34, false)), []⟩,
  ⟨some 37, .bin .gtr (.t 36) (.c (.int .i64 1099511627776)), (some (34, false)), []⟩,
  ⟨some 38, .pick (.t 34) (.c (.bool true)) (.t 37), none, []⟩,
  ⟨some 39, .move (.t 38), none, []⟩,
  ⟨some 40, .fldAddr 2 (.t 5), (some (39, false)), []⟩,
  ⟨some 41, .load none (.t 40), (some (39, false)), []⟩,
  ⟨some 42, .bin .lss (.t 41) (.c (.int .i64 1)), (some (39, false)), []⟩,
  ⟨some 43, .pick (.t 39) (.c (.bool true)) (.t 42), none, []⟩,
  ⟨some 44, .move (.t 43), none, []⟩,
  ⟨some 45, .fldAddr 2 (.t 5), (some (44, false)), []⟩,
  ⟨some 46, .load none (.t 45), (some (44, false)), []⟩,
  ⟨some 47, .fldAddr 1 (.t 5), (some (44, false)), []⟩,
  ⟨some 48, .load none (.t 47), (some (44, false)), []⟩,
  ⟨some 49, .bin .gtr (.t 46) (.t 48), (some (44, false)), []⟩,
  ⟨some 50, .pick (.t 44) (.c (.bool true)) (.t 49), none, []⟩,
  ⟨some 51, .move (.t 50), none, []⟩,
  ⟨some 52, .fldAddr 3 (.t 5), (some (51, false)), []⟩,
  ⟨some 53, .load none (.t 52), (some (51, false)), []⟩,
  ⟨some 54, .bin .lss (.t 53) (.c (.int .i64 1)), (some (51, false)), []⟩,
  ⟨some 55, .pick (.t 51) (.c (.bool true)) (.t 54), none, []⟩,
  ⟨some 56, .move (.t 55), none, []⟩,
  ⟨some 57, .fldAddr 3 (.t 5), (some (56, false)), []⟩,
  ⟨some 58, .load none (.t 57), (some (56, false)), []⟩,
  ⟨some 59, .fldAddr 2 (.t 5), (some (56, false)), []⟩,
  ⟨some 60, .load none (.t 59), (some (56, false)), []⟩,
  ⟨some 61, .bin .gtr (.t 58) (.t 60), (some (56, false)), []⟩,
  ⟨some 62, .pick (.t 56) (.c (.bool true)) (.t 61), none, []⟩] none [2, 5, 62])
(.cond (.t 62)
  (.seq (.ops [⟨some 4, .move (.c (.int .i64 1)), none, []⟩] none [4])
  (.ret))
  (.skip)))
(.seq (.seq (.ops [⟨some 64, .fldAddr 4 (.t 5), none, []⟩,
  ⟨some 65, .load none (.t 64), none, []⟩,
  ⟨some 66, .call 286 [(.t 65)], none, []⟩,
  ⟨some 63, .move (.t 66), none, []⟩,
  ⟨some 67, .ext 0 (.t 63), none, []⟩,
  ⟨some 68, .ext 1 (.t 63), none, []⟩,
  ⟨some 8, .move (.t 67), none, []⟩,
  ⟨some 9, .move (.t 68), none, []⟩] none [2, 5, 9])
(.seq (.ops [⟨some 69, .move (.t 9), none, []⟩,
  ⟨some 70, .bin .neq (.t 69) (.c (.int .i64 0)), none, []⟩] none [2, 5, 9, 70])
(.cond (.t 70)
  (.seq (.ops [⟨some 71, .move (.t 9), none, []⟩,
    ⟨some 4, .move (.t 71), none, []⟩] none [4])
  (.ret))
  (.skip))))
(.seq (.seq (.ops [⟨some 72, .fldAddr 4 (.t 5), none, []⟩,
  ⟨some 73, .load none (.t 72), none, []⟩,
  ⟨some 74, .call 287 [(.t 73)], none, []⟩,
  ⟨some 75, .bin .eql (.t 74) (.c (.int .i64 0)), none, []⟩] none [2, 5, 75])
(.cond (.t 75)
  (.seq (.ops [⟨some 4, .move (.c (.int .i64 5)), none, []⟩] none [4])
  (.ret))
  (.skip)))
(.seq (.seq (.ops [⟨some 76, .fldAddr 4 (.t 5), none, []⟩,
  ⟨some 77, .load none (.t 76), none, []⟩,
  ⟨some 78, .len .sl (.t 77), none, []⟩,
  ⟨some 79, .move (.c (.int .i64 0)), none, []⟩] none [2, 77, 78, 79])
(.block 0 (.loop [2, 77, 78, 79] (.seq (.ops [⟨some 80, .bin .lss (.t 79) (.t 78), none, []⟩] none [2, 77, 78, 79, 80])
    (.seq (.cond (.t 80)
      (.skip)
      (.exit 0))
    (.seq (.block 1 (.seq (.ops [⟨some 81, .idxAddr 5 (.t 77) (.t 79), none, []⟩,
        ⟨some 82, .load (some 5) (.t 81), none, []⟩,
        ⟨some 11, .alloc (.agg [(.int .i64 0), (.int .i64 0), (.int .i64 0), (.int .i64 0), .nils]), none, []⟩,
        ⟨none, .store (some 5) (.t 11) (.t 82), none, []⟩] none [2, 11, 77, 78, 79])
      (.seq (.ops [⟨some 83, .load (some 3) (.t 2), none, []⟩,
        ⟨some 84, .load (some 5) (.t 11), none, []⟩,
        ⟨some 85, .call 288 [(.t 83), (.t 84)], none, []⟩,
        ⟨some 86, .not (.t 85), none, []⟩] none [2, 77, 78, 79, 86])
      (.cond (.t 86)
        (.seq (.ops [⟨some 4, .move (.c (.int .i64 3)), none, []⟩] none [4])
        (.ret))
        (.skip)))))
    (.ops [⟨some 87, .bin .add (.t 79) (.c (.int .i64 1)), none, []⟩,
      ⟨some 79, .move (.t 87), none, []⟩] none [2, 77, 78, 79])))))))
(.seq (.ops [⟨some 4, .move (.c (.int .i64 0)), none, []⟩] none [4])
(.ret))))))))))
def f273 : SFunc := ⟨b273, [.t 4]⟩

/-- watchbill/core.New -/
def b305 : SCode := (
.seq (.ops [⟨some 1, .box (.t 0), none, []⟩,
  ⟨some 2, .move (.c .nilp), none, []⟩,
  ⟨some 3, .move (.c (.int .i64 0)), none, []⟩] none [1])
(.seq (.seq (.ops [⟨some 12, .load (some 3) (.t 1), none, []⟩,
  ⟨some 13, .call 265 [(.t 12)], none, []⟩,
  ⟨some 11, .move (.t 13), none, []⟩,
  ⟨some 14, .ext 0 (.t 11), none, []⟩,
  ⟨some 15, .ext 1 (.t 11), none, []⟩,
  ⟨some 4, .move (.t 14), none, []⟩,
  ⟨some 5, .move (.t 15), none, []⟩] none [1, 5])
(.seq (.ops [⟨some 16, .move (.t 5), none, []⟩,
  ⟨some 17, .bin .neq (.t 16) (.c (.int .i64 0)), none, []⟩] none [1, 5, 17])
(.cond (.t 17)
  (.seq (.ops [⟨some 18, .move (.t 5), none, []⟩,
    ⟨some 2, .move (.c .nilp), none, []⟩,
    ⟨some 3, .move (.t 18), none, []⟩] none [2, 3])
  (.ret))
  (.skip))))
(.seq (.ops [⟨some 19, .load (some 3) (.t 1), none, []⟩,
  ⟨some 20, .call 317 [(.t 19)], none, []⟩,
  ⟨none, .store (some 3) (.t 1) (.t 20), none, []⟩] none [1])
(.seq (.ops [⟨some 21, .load (some 3) (.t 1), none, []⟩,
  ⟨some 22, .load (some 3) (.t 1), none, []⟩,
  ⟨some 24, .load (some 3) (.t 1), none, []⟩,
  ⟨some 26, .fldAddr 2 (.t 1), none, []⟩,
  ⟨some 27, .load none (.t 26), none, []⟩,
  ⟨some 28, .len .sl (.t 27), none, []⟩,
  ⟨some 29, .mksl [(.bool false), .nils, (.int .i64 0), (.int .i64 0), (.int .i64 0), (.int .i64 0), (.int .i64 0), (.int .i64 0), (.bool false), .nils] (.t 28) (.t 28), none, []⟩,
  ⟨some 30, .load (some 3) (.t 1), none, []⟩,
  ⟨some 23, .call 318 [(.t 22)], none, [0, 2, 4, 5, 7]⟩,
  ⟨some 25, .call 319 [(.t 24)], none, [0, 4, 5, 7]⟩,
  ⟨some 31, .call 5 [(.t 30)], none, [0, 4, 5]⟩,
  ⟨some 32, .call 320 [], none, [0, 4, 5]⟩,
  ⟨some 33, .build [(.int .i64 0), .nils, .nils, .nils, .nils, .nils, .nils, .nils, .nilp, .nilp, (.int .i64 0), (.int .i64 0)] [(0, 3, (.t 21)), (3, 1, (.t 23)), (4, 1, (.t 25)), (5, 1, (.t 29)), (8, 1, (.t 31)), (9, 1, (.t 32))], none, []⟩,
  ⟨some 34, .box (.t 33), none, []⟩,
  ⟨some 6, .move (.t 34), none, []⟩] (some [(0, []), (1, []), (3, []), (5, []), (6, [3]), (7, [4, 3]), (8, [5, 4, 3]), (9, []), (2, [1]), (4, [2, 8, 1]), (10, [7, 9, 2, 8, 1]), (11, [10, 7, 9, 2, 8, 1]), (12, [0, 8, 1, 9, 2, 6, 5, 4, 3, 10, 7, 11]), (13, [12, 0, 8, 1, 9, 2, 6, 5, 4, 3, 10, 7, 11]), (14, [13, 12, 0, 8, 1, 9, 2, 6, 5, 4, 3, 10, 7, 11])]) [1, 6])
(.seq (.seq (.ops [⟨some 35, .fldAddr 1 (.t 1), none, []⟩,
  ⟨some 36, .load none (.t 35), none, []⟩,
  ⟨some 37, .len .sl (.t 36), none, []⟩,
  ⟨some 38, .move (.c (.int .i64 0)), none, []⟩] none [1, 6, 36, 37, 38])
(.block 0 (.loop [1, 6, 36, 37, 38] (.seq (.ops [⟨some 39, .bin .lss (.t 38) (.t 37), none, []⟩] none [1, 6, 36, 37, 38, 39])
    (.seq (.cond (.t 39)
      (.skip)
      (.exit 0))
    (.seq (.block 1 (.seq (.ops [⟨some 40, .idxAddr 2 (.t 36) (.t 38), none, []⟩,
        ⟨some 41, .load (some 2) (.t 40), none, []⟩,
        ⟨some 8, .alloc (.agg [(.int .i64 0), (.int .i64 0)]), none, []⟩,
        ⟨none, .store (some 2) (.t 8) (.t 41), none, []⟩] none [1, 6, 8, 36, 37, 38])
      (.seq (.ops [⟨some 43, .fldAddr 0 (.t 8), none, []⟩,
        ⟨some 44, .load none (.t 43), none, []⟩,
        ⟨some 45, .call 321 [(.t 44)], none, []⟩,
        ⟨some 42, .move (.t 45), none, []⟩,
        ⟨some 46, .ext 0 (.t 42), none, []⟩,
        ⟨some 47, .ext 1 (.t 42), none, []⟩,
        ⟨some 9, .move (.t 46), none, []⟩,
        ⟨some 10, .move (.t 47), none, []⟩] none [1, 6, 9, 36, 37, 38])
      (.ops [⟨some 48, .move (.t 6), none, []⟩,
        ⟨some 49, .move (.t 6), none, []⟩,
        ⟨some 50, .nilck (.t 49), none, []⟩,
        ⟨some 51, .fldAddr 6 (.t 50), none, []⟩,
        ⟨some 52, .load none (.t 51), none, []⟩,
        ⟨some 53, .move (.t 9), none, []⟩,
        ⟨some 54, .buildSl 1 [.nilp] [(0, 1, (.t 53))], none, []⟩,
        ⟨some 55, .append 1 (.t 52) (.t 54), none, []⟩,
        ⟨some 56, .nilck (.t 48), none, []⟩,
        ⟨some 57, .fldAddr 6 (.t 56), none, []⟩,
        ⟨none, .store none (.t 57) (.t 55), none, []⟩] none [1, 6, 36, 37, 38]))))
    (.ops [⟨some 58, .bin .add (.t 38) (.c (.int .i64 1)), none, []⟩,
      ⟨some 38, .move (.t 58), none, []⟩] none [1, 6, 36, 37, 38])))))))
(.seq (.seq (.ops [⟨some 59, .fldAddr 0 (.t 1), none, []⟩,
  ⟨some 60, .load none (.t 59), none, []⟩,
  ⟨some 61, .move (.c (.int .i64 0)), none, []⟩] none [6, 60, 61])
(.block 2 (.loop [6, 60, 61] (.seq (.ops [⟨some 62, .bin .lss (.t 61) (.t 60), none, []⟩] none [6, 60, 61, 62])
    (.seq (.cond (.t 62)
      (.skip)
      (.exit 2))
    (.seq (.block 3 (.ops [⟨some 63, .move (.t 6), none, []⟩,
        ⟨some 64, .move (.t 6), none, []⟩,
        ⟨some 65, .nilck (.t 64), none, []⟩,
        ⟨some 66, .fldAddr 7 (.t 65), none, []⟩,
        ⟨some 67, .load none (.t 66), none, []⟩,
        ⟨some 68, .call 322 [], none, [4]⟩,
        ⟨some 69, .buildSl 1 [.nilp] [(0, 1, (.t 68))], none, []⟩,
        ⟨some 70, .append 1 (.t 67) (.t 69), none, []⟩,
        ⟨some 71, .nilck (.t 63), none, []⟩,
        ⟨some 72, .fldAddr 7 (.t 71), none, []⟩,
        ⟨none, .store none (.t 72) (.t 70), none, []⟩] (some [(0, []), (1, []), (2, [1]), (3, [2, 1]), (4, [3, 2, 1]), (5, []), (6, [5]), (7, [4, 3, 2, 1, 6, 5]), (8, [0, 1, 2, 3, 4, 5, 6, 7]), (9, [8, 0, 1, 2, 3, 4, 5, 6, 7]), (10, [9, 8, 0, 1, 2, 3, 4, 5, 6, 7])]) [6, 60, 61]))
    (.ops [⟨some 73, .bin .add (.t 61) (.c (.int .i64 1)), none, []⟩,
      ⟨some 61, .move (.t 73), none, []⟩] none [6, 60, 61])))))))
(.seq (.ops [⟨some 74, .move (.t 6), none, []⟩,
  ⟨some 2, .move (.t 74), none, []⟩,
  ⟨some 3, .move (.c (.int .i64 0)), none, []⟩] none [2, 3])
(.ret))))))))
def f305 : SFunc := ⟨b305, [.t 2, .t 3]⟩

/-- (*watchbill/core.Core).Now -/
def b444 : SCode := (
.seq (.ops [⟨some 2, .move (.c (.int .i64 0)), none, []⟩] none [0])
(.seq (.ops [⟨some 3, .move (.t 0), none, []⟩,
  ⟨some 4, .nilck (.t 3), none, []⟩,
  ⟨some 5, .fldAddr 10 (.t 4), none, []⟩,
  ⟨some 6, .load none (.t 5), none, []⟩,
  ⟨some 2, .move (.t 6), none, []⟩] none [2])
(.ret)))
def f444 : SFunc := ⟨b444, [.t 2]⟩

/-- (*watchbill/core.Core).Ask -/
def b306 : SCode := (
.seq (.ops [⟨some 4, .alloc (.agg [(.int .i64 0), (.int .i64 0), (.int .i64 0), (.int .i64 0), (.int .i64 0), (.int .i64 0), (.int .i64 0)]), none, []⟩] none [0, 1, 4])
(.seq (.ops [⟨some 8, .move (.t 0), none, []⟩,
  ⟨some 9, .move (.t 1), none, []⟩,
  ⟨some 10, .call 323 [(.t 8), (.t 9)], none, []⟩,
  ⟨some 11, .move (.t 10), none, []⟩,
  ⟨some 12, .move (.t 0), (some (11, true)), []⟩,
  ⟨some 13, .nilck (.t 12), (some (11, true)), []⟩,
  ⟨some 14, .fldAddr 5 (.t 13), (some (11, true)), []⟩,
  ⟨some 15, .load none (.t 14), (some (11, true)), []⟩,
  ⟨some 16, .move (.t 1), (some (11, true)), []⟩,
  ⟨some 17, .idxAddr 10 (.t 15) (.t 16), (some (11, true)), []⟩,
  ⟨some 18, .fldAddr 0 (.t 17), (some (11, true)), []⟩,
  ⟨some 19, .load none (.t 18), (some (11, true)), []⟩,
  ⟨some 20, .pick (.t 11) (.t 19) (.c (.bool false)), none, []⟩,
  ⟨some 5, .move (.t 20), none, []⟩] none [0, 1, 4, 5])
(.seq (.seq (.ops [⟨some 21, .move (.t 0), none, []⟩,
  ⟨some 22, .nilck (.t 21), none, []⟩,
  ⟨some 23, .fldAddr 8 (.t 22), none, []⟩,
  ⟨some 24, .load none (.t 23), none, []⟩,
  ⟨some 25, .move (.t 1), none, []⟩,
  ⟨some 26, .move (.t 0), none, []⟩,
  ⟨some 27, .nilck (.t 26), none, []⟩,
  ⟨some 28, .fldAddr 10 (.t 27), none, []⟩,
  ⟨some 29, .load none (.t 28), none, []⟩,
  ⟨some 30, .move (.t 5), none, []⟩,
  ⟨some 31, .call 6 [(.t 24), (.t 25), (.t 29), (.t 30)], none, []⟩,
  ⟨some 6, .move (.t 31), none, []⟩] (some [(0, []), (1, [0]), (2, [1, 0]), (3, [2, 1, 0]), (4, []), (5, []), (6, [5]), (7, [6, 5]), (8, [7, 6, 5]), (9, []), (10, [3, 2, 1, 0, 4, 8, 7, 6, 5, 9]), (11, [10, 3, 2, 1, 0, 4, 8, 7, 6, 5, 9])]) [0, 1, 4, 6])
(.seq (.ops [⟨some 32, .move (.t 6), none, []⟩,
  ⟨some 33, .bin .neq (.t 32) (.c (.int .i64 0)), none, []⟩] none [0, 1, 4, 6, 33])
(.cond (.t 33)
  (.seq (.ops [⟨some 34, .move (.t 0), none, []⟩,
    ⟨some 35, .nilck (.t 34), none, []⟩,
    ⟨some 36, .fldAddr 10 (.t 35), none, []⟩,
    ⟨some 37, .load none (.t 36), none, []⟩,
    ⟨some 38, .move (.t 1), none, []⟩,
    ⟨some 39, .move (.t 6), none, []⟩,
    ⟨some 40, .build [(.int .i64 0), (.int .i64 0), (.int .i64 0), (.int .i64 0), (.int .i64 0), (.int .i64 0), (.int .i64 0)] [(0, 1, (.t 37)), (1, 1, (.c (.int .i64 2))), (2, 1, (.t 38)), (4, 1, (.t 39))], none, []⟩,
    ⟨none, .store (some 7) (.t 4) (.t 40), none, []⟩] none [4])
  (.ret))
  (.skip))))
(.seq (.ops [⟨some 41, .move (.t 0), none, []⟩,
  ⟨some 42, .nilck (.t 41), none, []⟩,
  ⟨some 43, .fldAddr 0 (.t 42), none, []⟩,
  ⟨some 44, .fldAddr 2 (.t 43), none, []⟩,
  ⟨some 45, .load none (.t 44), none, []⟩,
  ⟨some 46, .move (.t 1), none, []⟩,
  ⟨some 47, .idxAddr 5 (.t 45) (.t 46), none, []⟩,
  ⟨some 48, .load (some 5) (.t 47), none, []⟩,
  ⟨some 7, .alloc (.agg [(.str []), (.int .i64 0), (.int .i64 0), (.int .i64 0), .nils]), none, []⟩,
  ⟨none, .store (some 5) (.t 7) (.t 48), none, []⟩] none [0, 1, 4, 7])
(.seq (.ops [⟨some 49, .move (.t 0), none, []⟩,
  ⟨some 50, .nilck (.t 49), none, []⟩,
  ⟨some 51, .fldAddr 5 (.t 50), none, []⟩,
  ⟨some 52, .load none (.t 51), none, []⟩,
  ⟨some 53, .move (.t 1), none, []⟩,
  ⟨some 54, .fldAddr 4 (.t 7), none, []⟩,
  ⟨some 55, .load none (.t 54), none, []⟩,
  ⟨some 56, .fldAddr 3 (.t 7), none, []⟩,
  ⟨some 57, .load none (.t 56), none, []⟩,
  ⟨some 58, .move (.t 0), none, []⟩,
  ⟨some 59, .nilck (.t 58), none, []⟩,
  ⟨some 60, .fldAddr 10 (.t 59), none, []⟩,
  ⟨some 61, .load none (.t 60), none, []⟩,
  ⟨some 62, .move (.t 0), none, []⟩,
  ⟨some 63, .call 324 [(.t 62)], none, [3, 6, 8, 12]⟩,
  ⟨some 64, .call 48 [(.t 55), (.t 57), (.t 61), (.t 63)], none, [3]⟩,
  ⟨some 65, .idxAddr 10 (.t 52) (.t 53), none, []⟩,
  ⟨none, .store (some 10) (.t 65) (.t 64), none, []⟩] (some [(0, []), (1, [0]), (2, [1, 0]), (3, [2, 1, 0]), (4, []), (5, []), (6, [5]), (7, []), (8, [7]), (9, []), (10, [9]), (11, [10, 9]), (12, [11, 10, 9]), (13, []), (14, [13]), (15, [6, 5, 8, 7, 12, 11, 10, 9, 14, 13]), (16, [3, 2, 1, 0, 4, 5, 6, 7, 8, 9, 10, 11, 12, 13, 14, 15]), (17, [16, 3, 2, 1, 0, 4, 5, 6, 7, 8, 9, 10, 11, 12, 13, 14, 15])]) [0, 1, 4])
(.seq (.ops [⟨some 66, .move (.t 0), none, []⟩,
  ⟨some 67, .nilck (.t 66), none, []⟩,
  ⟨some 68, .fldAddr 10 (.t 67), none, []⟩,
  ⟨some 69, .load none (.t 68), none, []⟩,
  ⟨some 70, .move (.t 1), none, []⟩,
  ⟨some 71, .build [(.int .i64 0), (.int .i64 0), (.int .i64 0), (.int .i64 0), (.int .i64 0), (.int .i64 0), (.int .i64 0)] [(0, 1, (.t 69)), (1, 1, (.c (.int .i64 1))), (2, 1, (.t 70))], none, []⟩,
  ⟨none, .store (some 7) (.t 4) (.t 71), none, []⟩] none [4])
(.ret)))))))
def f306 : SFunc := ⟨b306, [.cell (some 7) 4]⟩

/-- (*watchbill/core.Core).Expire -/
def b449 : SCode := (
.seq (.ops [⟨some 2, .move (.c .nils), none, []⟩] none [0])
(.seq (.ops [⟨some 3, .move (.c .nils), none, []⟩] none [0, 3])
(.seq (.seq (.ops [⟨some 6, .move (.t 0), none, []⟩,
  ⟨some 7, .nilck (.t 6), none, []⟩,
  ⟨some 8, .fldAddr 9 (.t 7), none, []⟩,
  ⟨some 9, .load none (.t 8), none, []⟩,
  ⟨some 10, .call 454 [(.t 9)], none, []⟩,
  ⟨some 11, .len .sl (.t 10), none, []⟩,
  ⟨some 12, .move (.c (.int .i64 0)), none, []⟩] none [0, 3, 10, 11, 12])
(.block 0 (.loop [0, 3, 10, 11, 12] (.seq (.ops [⟨some 13, .bin .lss (.t 12) (.t 11), none, []⟩] none [0, 3, 10, 11, 12, 13])
    (.seq (.cond (.t 13)
      (.skip)
      (.exit 0))
    (.seq (.block 1 (.seq (.ops [⟨some 14, .idxAddr 1 (.t 10) (.t 12), none, []⟩,
        ⟨some 15, .load none (.t 14), none, []⟩,
        ⟨some 5, .move (.t 15), none, []⟩] none [0, 3, 5, 10, 11, 12])
      (.ops [⟨some 16, .move (.t 3), none, []⟩,
        ⟨some 17, .move (.t 0), none, []⟩,
        ⟨some 18, .move (.t 0), none, []⟩,
        ⟨some 19, .nilck (.t 18), none, []⟩,
        ⟨some 20, .fldAddr 10 (.t 19), none, []⟩,
        ⟨some 21, .load none (.t 20), none, []⟩,
        ⟨some 22, .move (.t 5), none, []⟩,
        ⟨some 23, .build [(.int .i64 0), (.int .i64 0), (.int .i64 0), (.int .i64 0)] [(0, 1, (.t 22)), (1, 1, (.c (.int .i64 (-1)))), (3, 1, (.c (.int .i64 17)))], none, []⟩,
        ⟨some 24, .call 345 [(.t 17), (.t 21), (.t 23)], none, []⟩,
        ⟨some 25, .buildSl 1 [(.int .i64 0), (.int .i64 0), (.int .i64 0), (.int .i64 0), (.int .i64 0), (.int .i64 0), (.int .i64 0)] [(0, 7, (.t 24))], none, []⟩,
        ⟨some 26, .append 7 (.t 16) (.t 25), none, []⟩,
        ⟨some 3, .move (.t 26), none, []⟩] none [0, 3, 10, 11, 12])))
    (.ops [⟨some 27, .bin .add (.t 12) (.c (.int .i64 1)), none, []⟩,
      ⟨some 12, .move (.t 27), none, []⟩] none [0, 3, 10, 11, 12])))))))
(.seq (.ops [⟨some 28, .move (.t 3), none, []⟩,
  ⟨some 2, .move (.t 28), none, []⟩] none [2])
(.ret)))))
def f449 : SFunc := ⟨b449, [.t 2]⟩

/-- (*watchbill/core.Core).Top -/
def b309 : SCode := (
.seq (.ops [⟨some 2, .move (.c (.int .i64 0)), none, []⟩,
  ⟨some 3, .move (.c (.bool false)), none, []⟩] none [0])
(.seq (.ops [⟨some 8, .move (.t 0), none, []⟩,
  ⟨some 9, .call 308 [(.t 8)], none, []⟩,
  ⟨some 4, .move (.t 9), none, []⟩] none [0, 4])
(.seq (.ops [⟨some 5, .move (.c (.int .i64 (-1))), none, []⟩] none [0, 4, 5])
(.seq (.seq (.ops [⟨some 10, .move (.t 0), none, []⟩,
  ⟨some 11, .nilck (.t 10), none, []⟩,
  ⟨some 12, .fldAddr 5 (.t 11), none, []⟩,
  ⟨some 13, .load none (.t 12), none, []⟩,
  ⟨some 14, .len .sl (.t 13), none, []⟩,
  ⟨some 15, .move (.c (.int .i64 0)), none, []⟩] none [0, 4, 5, 13, 14, 15])
(.block 0 (.loop [0, 4, 5, 13, 14, 15] (.seq (.ops [⟨some 16, .bin .lss (.t 15) (.t 14), none, []⟩] none [0, 4, 5, 13, 14, 15, 16])
    (.seq (.cond (.t 16)
      (.skip)
      (.exit 0))
    (.seq (.block 1 (.seq (.ops [⟨some 17, .move (.t 15), none, []⟩,
        ⟨some 18, .idxAddr 10 (.t 13) (.t 15), none, []⟩,
        ⟨some 19, .load (some 10) (.t 18), none, []⟩,
        ⟨some 7, .alloc (.agg [(.bool false), .nils, (.int .i64 0), (.int .i64 0), (.int .i64 0), (.int .i64 0), (.int .i64 0), (.int .i64 0), (.bool false), .nils]), none, []⟩,
        ⟨some 6, .move (.t 17), none, []⟩,
        ⟨none, .store (some 10) (.t 7) (.t 19), none, []⟩] none [0, 4, 5, 6, 7, 13, 14, 15])
      (.seq (.seq (.ops [⟨some 20, .fldAddr 0 (.t 7), none, []⟩,
        ⟨some 21, .load none (.t 20), none, []⟩,
        ⟨some 22, .not (.t 21), none, []⟩,
        ⟨some 23, .move (.t 22), none, []⟩,
        ⟨some 24, .fldAddr 8 (.t 7), (some (23, false)), []⟩,
        ⟨some 25, .load none (.t 24), (some (23, false)), []⟩,
        ⟨some 26, .pick (.t 23) (.c (.bool true)) (.t 25), none, []⟩] none [0, 4, 5, 6, 7, 13, 14, 15, 26])
      (.cond (.t 26)
        (.exit 1)
        (.skip)))
      (.seq (.ops [⟨some 27, .move (.t 5), none, []⟩,
        ⟨some 28, .bin .lss (.t 27) (.c (.int .i64 0)), none, []⟩,
        ⟨some 29, .move (.t 28), none, []⟩,
        ⟨some 30, .move (.t 4), (some (29, false)), []⟩,
        ⟨some 31, .move (.t 6), (some (29, false)), []⟩,
        ⟨some 32, .idxAddr 1 (.t 30) (.t 31), (some (29, false)), []⟩,
        ⟨some 33, .load none (.t 32), (some (29, false)), []⟩,
        ⟨some 34, .move (.t 4), (some (29, false)), []⟩,
        ⟨some 35, .move (.t 5), (some (29, false)), []⟩,
        ⟨some 36, .idxAddr 1 (.t 34) (.t 35), (some (29, false)), []⟩,
        ⟨some 37, .load none (.t 36), (some (29, false)), []⟩,
        ⟨some 38, .bin .gtr (.t 33) (.t 37), (some (29, false)), []⟩,
        ⟨some 39, .pick (.t 29) (.c (.bool true)) (.t 38), none, []⟩,
        ⟨some 40, .move (.t 39), none, []⟩,
        ⟨some 41, .move (.t 4), (some (40, false)), []⟩,
        ⟨some 42, .move (.t 6), (some (40, false)), []⟩,
        ⟨some 43, .idxAddr 1 (.t 41) (.t 42), (some (40, false)), []⟩,
        ⟨some 44, .load none (.t 43), (some (40, false)), []⟩,
        ⟨some 45, .move (.t 4), (some (40, false)), []⟩,
        ⟨some 46, .move (.t 5), (some (40, false)), []⟩,
        ⟨some 47, .idxAddr 1 (.t 45) (.t 46), (some (40, false)), []⟩,
        ⟨some 48, .load none (.t 47), (some (40, false)), []⟩,
        ⟨some 49, .bin .eql (.t 44) (.t 48), (some (40, false)), []⟩,
        ⟨some 50, .move (.t 49), (some (40, false)), []⟩,
        ⟨some 51, .fldAddr 7 (.t 7), (some (50, true)), []⟩,
        ⟨some 52, .load none (.t 51), (some (50, true)), []⟩,
        ⟨some 53, .move (.t 0), (some (50, true)), []⟩,
        ⟨some 54, .nilck (.t 53), (some (50, true)), []⟩,
        ⟨some 55, .fldAddr 5 (.t 54), (some (50, true)), []⟩,
        ⟨some 56, .load none (.t 55), (some (50, true)), []⟩,
        ⟨some 57, .move (.t 5), (some (50, true)), []⟩,
        ⟨some 58, .idxAddr 10 (.t 56) (.t 57), (some (50, true)), []⟩,
        ⟨some 59, .fldAddr 7 (.t 58), (some (50, true)), []⟩,
        ⟨some 60, .load none (.t 59), (some (50, true)), []⟩,
        ⟨some 61, .bin .lss (.t 52) (.t 60), (some (50, true)), []⟩,
        ⟨some 62, .pick (.t 50) (.t 61) (.c (.bool false)), (some (40, false)), []⟩,
        ⟨some 63, .pick (.t 40) (.c (.bool true)) (.t 62), none, []⟩] (some [(0, []), (1, [0]), (2, [1, 0]), (3, [2, 1, 0]), (4, [2, 1, 0]), (5, [3, 2, 1, 0, 4]), (6, [5, 3, 2, 1, 0, 4]), (7, [2, 1, 0]), (8, [2, 1, 0]), (9, [7, 2, 1, 0, 8]), (10, [9, 7, 2, 1, 0, 8]), (11, [6, 5, 3, 2, 1, 0, 4, 10, 9, 7, 8]), (12, [2, 1, 0, 11, 6, 5, 3, 4, 10, 9, 7, 8]), (13, [12, 2, 1, 0, 11, 6, 5, 3, 4, 10, 9, 7, 8]), (14, [13, 12, 2, 1, 0, 11, 6, 5, 3, 4, 10, 9, 7, 8]), (15, [13, 12, 2, 1, 0, 11, 6, 5, 3, 4, 10, 9, 7, 8]), (16, [14, 13, 12, 2, 1, 0, 11, 6, 5, 3, 4, 10, 9, 7, 8, 15]), (17, [16, 14, 13, 12, 2, 1, 0, 11, 6, 5, 3, 4, 10, 9, 7, 8, 15]), (18, [13, 12, 2, 1, 0, 11, 6, 5, 3, 4, 10, 9, 7, 8]), (19, [13, 12, 2, 1, 0, 11, 6, 5, 3, 4, 10, 9, 7, 8]), (20, [18, 13, 12, 2, 1, 0, 11, 6, 5, 3, 4, 10, 9, 7, 8, 19]), (21, [20, 18, 13, 12, 2, 1, 0, 11, 6, 5, 3, 4, 10, 9, 7, 8, 19]), (22, [17, 16, 14, 13, 12, 2, 1, 0, 11, 6, 5, 3, 4, 10, 9, 7, 8, 15, 21, 20, 18, 19]), (23, [22, 17, 16, 14, 13, 12, 2, 1, 0, 11, 6, 5, 3, 4, 10, 9, 7, 8, 15, 21, 20, 18, 19]), (24, [23, 22, 17, 16, 14, 13, 12, 2, 1, 0, 11, 6, 5, 3, 4, 10, 9, 7, 8, 15, 21, 20, 18, 19]), (25, [24, 23, 22, 17, 16, 14, 13, 12, 2, 1, 0, 11, 6, 5, 3, 4, 10, 9, 7, 8, 15, 21, 20, 18, 19]), (26, [23, 22, 17, 16, 14, 13, 12, 2, 1, 0, 11, 6, 5, 3, 4, 10, 9, 7, 8, 15, 21, 20, 18, 19]), (27, [26, 23, 22, 17, 16, 14, 13, 12, 2, 1, 0, 11, 6, 5, 3, 4, 10, 9, 7, 8, 15, 21, 20, 18, 19]), (28, [27, 26, 23, 22, 17, 16, 14, 13, 12, 2, 1, 0, 11, 6, 5, 3, 4, 10, 9, 7, 8, 15, 21, 20, 18, 19]), (29, [28, 27, 26, 23, 22, 17, 16, 14, 13, 12, 2, 1, 0, 11, 6, 5, 3, 4, 10, 9, 7, 8, 15, 21, 20, 18, 19]), (30, [23, 22, 17, 16, 14, 13, 12, 2, 1, 0, 11, 6, 5, 3, 4, 10, 9, 7, 8, 15, 21, 20, 18, 19]), (31, [29, 28, 27, 26, 23, 22, 17, 16, 14, 13, 12, 2, 1, 0, 11, 6, 5, 3, 4, 10, 9, 7, 8, 15, 21, 20, 18, 19, 30]), (32, [31, 29, 28, 27, 26, 23, 22, 17, 16, 14, 13, 12, 2, 1, 0, 11, 6, 5, 3, 4, 10, 9, 7, 8, 15, 21, 20, 18, 19, 30]), (33, [32, 31, 29, 28, 27, 26, 23, 22, 17, 16, 14, 13, 12, 2, 1, 0, 11, 6, 5, 3, 4, 10, 9, 7, 8, 15, 21, 20, 18, 19, 30]), (34, [25, 24, 23, 22, 17, 16, 14, 13, 12, 2, 1, 0, 11, 6, 5, 3, 4, 10, 9, 7, 8, 15, 21, 20, 18, 19, 33, 32, 31, 29, 28, 27, 26, 30]), (35, [23, 22, 17, 16, 14, 13, 12, 2, 1, 0, 11, 6, 5, 3, 4, 10, 9, 7, 8, 15, 21, 20, 18, 19, 34, 25, 24, 33, 32, 31, 29, 28, 27, 26, 30]), (36, [13, 12, 2, 1, 0, 11, 6, 5, 3, 4, 10, 9, 7, 8, 35, 23, 22, 17, 16, 14, 15, 21, 20, 18, 19, 34, 25, 24, 33, 32, 31, 29, 28, 27, 26, 30])]) [0, 4, 5, 6, 13, 14, 15, 63])
      (.cond (.t 63)
        (.ops [⟨some 64, .move (.t 6), none, []⟩,
          ⟨some 5, .move (.t 64), none, []⟩] none [0, 4, 5, 13, 14, 15])
        (.skip))))))
    (.ops [⟨some 65, .bin .add (.t 15) (.c (.int .i64 1)), none, []⟩,
      ⟨some 15, .move (.t 65), none, []⟩] none [0, 4, 5, 13, 14, 15])))))))
(.seq (.ops [⟨some 66, .move (.t 5), none, []⟩,
  ⟨some 67, .mx [(.t 66), (.c (.int .i64 0))], none, []⟩,
  ⟨some 68, .move (.t 5), none, []⟩,
  ⟨some 69, .bin .geq (.t 68) (.c (.int .i64 0)), none, []⟩,
  ⟨some 2, .move (.t 67), none, []⟩,
  ⟨some 3, .move (.t 69), none, []⟩] none [2, 3])
(.ret))))))
def f309 : SFunc := ⟨b309, [.t 2, .t 3]⟩

/-- (*watchbill/core.Core).Job -/
def b312 : SCode := (
.seq (.ops [⟨some 4, .alloc (.agg [(.bool false), .nils, (.int .i64 0), (.int .i64 0), (.int .i64 0), (.int .i64 0), (.int .i64 0), (.int .i64 0), (.bool false), .nils]), none, []⟩] none [0, 1, 4])
(.seq (.seq (.ops [⟨some 6, .move (.t 0), none, []⟩,
  ⟨some 7, .move (.t 1), none, []⟩,
  ⟨some 8, .call 323 [(.t 6), (.t 7)], none, []⟩,
  ⟨some 9, .not (.t 8), none, []⟩] none [0, 1, 4, 9])
(.cond (.t 9)
  (.seq (.ops [⟨some 10, .build [(.bool false), .nils, (.int .i64 0), (.int .i64 0), (.int .i64 0), (.int .i64 0), (.int .i64 0), (.int .i64 0), (.bool false), .nils] [], none, []⟩,
    ⟨none, .store (some 10) (.t 4) (.t 10), none, []⟩] none [4])
  (.ret))
  (.skip)))
(.seq (.ops [⟨some 11, .move (.t 0), none, []⟩,
  ⟨some 12, .nilck (.t 11), none, []⟩,
  ⟨some 13, .fldAddr 5 (.t 12), none, []⟩,
  ⟨some 14, .load none (.t 13), none, []⟩,
  ⟨some 15, .move (.t 1), none, []⟩,
  ⟨some 16, .idxAddr 10 (.t 14) (.t 15), none, []⟩,
  ⟨some 17, .load (some 10) (.t 16), none, []⟩,
  ⟨some 5, .alloc (.agg [(.bool false), .nils, (.int .i64 0), (.int .i64 0), (.int .i64 0), (.int .i64 0), (.int .i64 0), (.int .i64 0), (.bool false), .nils]), none, []⟩,
  ⟨none, .store (some 10) (.t 5) (.t 17), none, []⟩] none [4, 5])
(.seq (.ops [⟨some 18, .fldAddr 1 (.t 5), none, []⟩,
  ⟨some 19, .load none (.t 18), none, []⟩,
  ⟨some 21, .fldAddr 9 (.t 5), none, []⟩,
  ⟨some 22, .load none (.t 21), none, []⟩,
  ⟨some 20, .call 333 [(.t 19)], none, [3]⟩,
  ⟨some 24, .fldAddr 1 (.t 5), none, []⟩,
  ⟨some 23, .call 55 [(.t 22)], none, []⟩,
  ⟨none, .store none (.t 24) (.t 20), none, []⟩,
  ⟨some 25, .fldAddr 9 (.t 5), none, []⟩,
  ⟨none, .store none (.t 25) (.t 23), none, []⟩] (some [(0, []), (1, [0]), (3, []), (4, [2]), (2, [1, 0]), (6, [0, 1, 4, 2, 3]), (5, [3, 2, 4, 1, 0]), (7, [5, 0, 1, 4, 2, 3, 6]), (8, [0, 1, 4, 2, 3, 6, 5, 7]), (9, [8, 0, 1, 4, 2, 3, 6, 5, 7])]) [4, 5])
(.seq (.ops [⟨some 26, .load (some 10) (.t 5), none, []⟩,
  ⟨none, .store (some 10) (.t 4) (.t 26), none, []⟩] none [4])
(.ret))))))
def f312 : SFunc := ⟨b312, [.cell (some 10) 4]⟩

/-- (*watchbill/core.Core).Tick -/
def b310 : SCode := (
.seq (.ops [⟨some 4, .move (.c .nils), none, []⟩] none [0, 1])
(.seq (.seq (.ops [⟨some 8, .move (.t 0), none, []⟩,
  ⟨some 9, .move (.t 1), none, []⟩,
  ⟨some 10, .call 323 [(.t 8), (.t 9)], none, []⟩,
  ⟨some 11, .not (.t 10), none, []⟩,
  ⟨some 12, .move (.t 11), none, []⟩,
  ⟨some 13, .move (.t 0), (some (12, false)), []⟩,
  ⟨some 14, .nilck (.t 13), (some (12, false)), []⟩,
  ⟨some 15, .fldAddr 5 (.t 14), (some (12, false)), []⟩,
  ⟨some 16, .load none (.t 15), (some (12, false)), []⟩,
  ⟨some 17, .move (.t 1), (some (12, false)), []⟩,
  ⟨some 18, .idxAddr 10 (.t 16) (.t 17), (some (12, false)), []⟩,
  ⟨some 19, .fldAddr 0 (.t 18), (some (12, false)), []⟩,
  ⟨some 20, .load none (.t 19), (some (12, false)), []⟩,
  ⟨some 21, .not (.t 20), (some (12, false)), []⟩,
  ⟨some 22, .pick (.t 12) (.c (.bool true)) (.t 21), none, []⟩,
  ⟨some 23, .move (.t 22), none, []⟩,
  ⟨some 24, .move (.t 0), (some (23, false)), []⟩,
  ⟨some 25, .nilck (.t 24), (some (23, false)), []⟩,
  ⟨some 26, .fldAddr 5 (.t 25), (some (23, false)), []⟩,
  ⟨some 27, .load none (.t 26), (some (23, false)), []⟩,
  ⟨some 28, .move (.t 1), (some (23, false)), []⟩,
  ⟨some 29, .idxAddr 10 (.t 27) (.t 28), (some (23, false)), []⟩,
  ⟨some 30, .fldAddr 8 (.t 29), (some (23, false)), []⟩,
  ⟨some 31, .load none (.t 30), (some (23, false)), []⟩,
  ⟨some 32, .pick (.t 23) (.c (.bool true)) (.t 31), none, []⟩,
  ⟨some 33, .move (.t 32), none, []⟩,
  ⟨some 34, .move (.t 0), (some (33, false)), []⟩,
  ⟨some 35, .nilck (.t 34), (some (33, false)), []⟩,
  ⟨some 36, .fldAddr 5 (.t 35), (some (33, false)), []⟩,
  ⟨some 37, .load none (.t 36), (some (33, false)), []⟩,
  ⟨some 38, .move (.t 1), (some (33, false)), []⟩,
  ⟨some 39, .idxAddr 10 (.t 37) (.t 38), (some (33, false)), []⟩,
  ⟨some 40, .fldAddr 3 (.t 39), (some (33, false)), []⟩,
  ⟨some 41, .load none (.t 40), (some (33, false)), []⟩,
  ⟨some 42, .bin .eql (.t 41) (.c (.int .i64 0)), (some (33, false)), []⟩,
  ⟨some 43, .pick (.t 33) (.c (.bool true)) (.t 42), none, []⟩] none [0, 1, 43])
(.cond (.t 43)
  (.seq (.ops [⟨some 4, .move (.c .nils), none, []⟩] none [4])
  (.ret))
  (.skip)))
(.seq (.ops [⟨some 44, .move (.t 0), none, []⟩,
  ⟨some 45, .nilck (.t 44), none, []⟩,
  ⟨some 46, .fldAddr 10 (.t 45), none, []⟩,
  ⟨some 47, .load none (.t 46), none, []⟩,
  ⟨some 48, .move (.t 1), none, []⟩,
  ⟨some 49, .build [(.int .i64 0), (.int .i64 0), (.int .i64 0), (.int .i64 0), (.int .i64 0), (.int .i64 0), (.int .i64 0)] [(0, 1, (.t 47)), (1, 1, (.c (.int .i64 3))), (2, 1, (.t 48))], none, []⟩,
  ⟨some 50, .buildSl 1 [(.int .i64 0), (.int .i64 0), (.int .i64 0), (.int .i64 0), (.int .i64 0), (.int .i64 0), (.int .i64 0)] [(0, 7, (.t 49))], none, []⟩,
  ⟨some 5, .move (.t 50), none, []⟩] none [0, 1, 5])
(.seq (.ops [⟨some 52, .move (.t 0), none, []⟩,
  ⟨some 53, .nilck (.t 52), none, []⟩,
  ⟨some 54, .fldAddr 5 (.t 53), none, []⟩,
  ⟨some 55, .load none (.t 54), none, []⟩,
  ⟨some 56, .move (.t 1), none, []⟩,
  ⟨some 57, .idxAddr 10 (.t 55) (.t 56), none, []⟩,
  ⟨some 58, .load (some 10) (.t 57), none, []⟩,
  ⟨some 59, .call 39 [(.t 58)], none, []⟩,
  ⟨some 51, .move (.t 59), none, []⟩,
  ⟨some 60, .ext 0 (.t 51), none, []⟩,
  ⟨some 61, .ext 1 (.t 51), none, []⟩,
  ⟨some 6, .alloc (.agg [(.bool false), .nils, (.int .i64 0), (.int .i64 0), (.int .i64 0), (.int .i64 0), (.int .i64 0), (.int .i64 0), (.bool false), .nils]), none, []⟩,
  ⟨none, .store (some 10) (.t 6) (.t 60), none, []⟩,
  ⟨some 7, .move (.t 61), none, []⟩] none [0, 1, 5, 6, 7])
(.seq (.ops [⟨some 62, .move (.t 0), none, []⟩,
  ⟨some 63, .nilck (.t 62), none, []⟩,
  ⟨some 64, .fldAddr 5 (.t 63), none, []⟩,
  ⟨some 65, .load none (.t 64), none, []⟩,
  ⟨some 66, .move (.t 1), none, []⟩,
  ⟨some 67, .load (some 10) (.t 6), none, []⟩,
  ⟨some 68, .idxAddr 10 (.t 65) (.t 66), none, []⟩,
  ⟨none, .store (some 10) (.t 68) (.t 67), none, []⟩] (some [(0, []), (1, [0]), (2, [1, 0]), (3, [2, 1, 0]), (4, []), (5, []), (6, [3, 2, 1, 0, 4, 5]), (7, [6, 3, 2, 1, 0, 4, 5])]) [0, 1, 5, 7])
(.seq (.seq (.ops [⟨some 69, .move (.t 7), none, []⟩] none [0, 1, 5, 69])
(.cond (.t 69)
  (.ops [⟨some 70, .move (.t 5), none, []⟩,
    ⟨some 71, .move (.t 0), none, []⟩,
    ⟨some 72, .move (.t 0), none, []⟩,
    ⟨some 73, .nilck (.t 72), none, []⟩,
    ⟨some 74, .fldAddr 10 (.t 73), none, []⟩,
    ⟨some 75, .load none (.t 74), none, []⟩,
    ⟨some 76, .bin .add (.t 75) (.c (.int .i64 1)), none, []⟩,
    ⟨some 77, .move (.t 1), none, []⟩,
    ⟨some 78, .call 332 [(.t 71), (.t 76), (.t 77)], none, []⟩,
    ⟨some 79, .append 7 (.t 70) (.t 78), none, []⟩,
    ⟨some 5, .move (.t 79), none, []⟩] none [5])
  (.skip)))
(.seq (.ops [⟨some 80, .move (.t 5), none, []⟩,
  ⟨some 4, .move (.t 80), none, []⟩] none [4])
(.ret))))))))
def f310 : SFunc := ⟨b310, [.t 4]⟩

/-- (*watchbill/engine.Engine).behind -/
def b450 : SCode := (
.seq (.ops [⟨some 2, .move (.c .nils), none, []⟩] none [0])
(.seq (.ops [⟨some 3, .move (.c .nils), none, []⟩] none [0, 3])
(.block 0 (.loop [0, 3] (.block 1 (.seq (.ops [⟨some 9, .move (.t 0), none, []⟩,
        ⟨some 10, .nilck (.t 9), none, []⟩,
        ⟨some 11, .fldAddr 0 (.t 10), none, []⟩,
        ⟨some 12, .load none (.t 11), none, []⟩,
        ⟨some 13, .call 309 [(.t 12)], none, []⟩,
        ⟨some 8, .move (.t 13), none, []⟩,
        ⟨some 14, .ext 0 (.t 8), none, []⟩,
        ⟨some 15, .ext 1 (.t 8), none, []⟩,
        ⟨some 4, .move (.t 14), none, []⟩,
        ⟨some 5, .move (.t 15), none, []⟩] none [0, 3, 4, 5])
      (.seq (.seq (.ops [⟨some 16, .move (.t 5), none, []⟩,
        ⟨some 17, .not (.t 16), none, []⟩,
        ⟨some 18, .move (.t 17), none, []⟩,
        ⟨some 19, .move (.t 0), (some (18, false)), []⟩,
        ⟨some 20, .nilck (.t 19), (some (18, false)), []⟩,
        ⟨some 21, .fldAddr 0 (.t 20), (some (18, false)), []⟩,
        ⟨some 22, .load none (.t 21), (some (18, false)), []⟩,
        ⟨some 23, .move (.t 4), (some (18, false)), []⟩,
        ⟨some 24, .call 312 [(.t 22), (.t 23)], (some (18, false)), []⟩,
        ⟨some 25, .fld 3 none (.t 24), (some (18, false)), []⟩,
        ⟨some 26, .bin .neq (.t 25) (.c (.int .i64 0)), (some (18, false)), []⟩,
        ⟨some 27, .pick (.t 18) (.c (.bool true)) (.t 26), none, []⟩] none [0, 3, 4, 27])
      (.cond (.t 27)
        (.seq (.ops [⟨some 28, .move (.t 3), none, []⟩,
          ⟨some 2, .move (.t 28), none, []⟩] none [2])
        (.ret))
        (.skip)))
      (.seq (.ops [⟨some 30, .move (.t 0), none, []⟩,
        ⟨some 31, .nilck (.t 30), none, []⟩,
        ⟨some 32, .fldAddr 0 (.t 31), none, []⟩,
        ⟨some 33, .load none (.t 32), none, []⟩,
        ⟨some 34, .move (.t 4), none, []⟩,
        ⟨some 35, .call 307 [(.t 33), (.t 34), (.c (.bool true))], none, []⟩,
        ⟨some 29, .move (.t 35), none, []⟩,
        ⟨some 36, .ext 0 (.t 29), none, []⟩,
        ⟨some 37, .ext 1 (.t 29), none, []⟩,
        ⟨some 6, .move (.t 36), none, []⟩,
        ⟨some 7, .move (.t 37), none, []⟩] none [0, 3, 6])
      (.ops [⟨some 38, .move (.t 3), none, []⟩,
        ⟨some 39, .move (.t 6), none, []⟩,
        ⟨some 40, .append 7 (.t 38) (.t 39), none, []⟩,
        ⟨some 3, .move (.t 40), none, []⟩] none [0, 3])))))))))
def f450 : SFunc := ⟨b450, [.t 2]⟩

/-- (*watchbill/core.Core).Op -/
def b307 : SCode := (
.seq (.ops [⟨some 6, .move (.c .nils), none, []⟩,
  ⟨some 7, .move (.c (.bool false)), none, []⟩] none [0, 1, 2])
(.seq (.seq (.ops [⟨some 14, .move (.t 0), none, []⟩,
  ⟨some 15, .move (.t 1), none, []⟩,
  ⟨some 16, .call 323 [(.t 14), (.t 15)], none, []⟩,
  ⟨some 17, .not (.t 16), none, []⟩,
  ⟨some 18, .move (.t 17), none, []⟩,
  ⟨some 19, .move (.t 0), (some (18, false)), []⟩,
  ⟨some 20, .nilck (.t 19), (some (18, false)), []⟩,
  ⟨some 21, .fldAddr 5 (.t 20), (some (18, false)), []⟩,
  ⟨some 22, .load none (.t 21), (some (18, false)), []⟩,
  ⟨some 23, .move (.t 1), (some (18, false)), []⟩,
  ⟨some 24, .idxAddr 10 (.t 22) (.t 23), (some (18, false)), []⟩,
  ⟨some 25, .fldAddr 0 (.t 24), (some (18, false)), []⟩,
  ⟨some 26, .load none (.t 25), (some (18, false)), []⟩,
  ⟨some 27, .not (.t 26), (some (18, false)), []⟩,
  ⟨some 28, .pick (.t 18) (.c (.bool true)) (.t 27), none, []⟩,
  ⟨some 29, .move (.t 28), none, []⟩,
  ⟨some 30, .move (.t 0), (some (29, false)), []⟩,
  ⟨some 31, .nilck (.t 30), (some (29, false)), []⟩,
  ⟨some 32, .fldAddr 5 (.t 31), (some (29, false)), []⟩,
  ⟨some 33, .load none (.t 32), (some (29, false)), []⟩,
  ⟨some 34, .move (.t 1), (some (29, false)), []⟩,
  ⟨some 35, .idxAddr 10 (.t 33) (.t 34), (some (29, false)), []⟩,
  ⟨some 36, .fldAddr 8 (.t 35), (some (29, false)), []⟩,
  ⟨some 37, .load none (.t 36), (some (29, false)), []⟩,
  ⟨some 38, .pick (.t 29) (.c (.bool true)) (.t 37), none, []⟩,
  ⟨some 39, .move (.t 38), none, []⟩,
  ⟨some 40, .move (.t 0), (some (39, false)), []⟩,
  ⟨some 41, .nilck (.t 40), (some (39, false)), []⟩,
  ⟨some 42, .fldAddr 5 (.t 41), (some (39, false)), []⟩,
  ⟨some 43, .load none (.t 42), (some (39, false)), []⟩,
  ⟨some 44, .move (.t 1), (some (39, false)), []⟩,
  ⟨some 45, .idxAddr 10 (.t 43) (.t 44), (some (39, false)), []⟩,
  ⟨some 46, .fldAddr 3 (.t 45), (some (39, false)), []⟩,
  ⟨some 47, .load none (.t 46), (some (39, false)), []⟩,
  ⟨some 48, .bin .neq (.t 47) (.c (.int .i64 0)), (some (39, false)), []⟩,
  ⟨some 49, .pick (.t 39) (.c (.bool true)) (.t 48), none, []⟩] none [0, 1, 2, 49])
(.cond (.t 49)
  (.seq (.ops [⟨some 6, .move (.c .nils), none, []⟩,
    ⟨some 7, .move (.c (.bool false)), none, []⟩] none [6, 7])
  (.ret))
  (.skip)))
(.seq (.ops [⟨some 50, .move (.t 0), none, []⟩,
  ⟨some 51, .nilck (.t 50), none, []⟩,
  ⟨some 52, .fldAddr 10 (.t 51), none, []⟩,
  ⟨some 53, .load none (.t 52), none, []⟩,
  ⟨some 8, .move (.t 53), none, []⟩] none [0, 1, 2, 8])
(.seq (.seq (.ops [⟨some 54, .move (.t 2), none, []⟩] none [0, 1, 8, 54])
(.cond (.t 54)
  (.ops [⟨some 55, .move (.t 8), none, []⟩,
    ⟨some 56, .bin .add (.t 55) (.c (.int .i64 1)), none, []⟩,
    ⟨some 8, .move (.t 56), none, []⟩] none [0, 1, 8])
  (.skip)))
(.seq (.ops [⟨some 58, .move (.t 0), none, []⟩,
  ⟨some 59, .nilck (.t 58), none, []⟩,
  ⟨some 60, .fldAddr 5 (.t 59), none, []⟩,
  ⟨some 61, .load none (.t 60), none, []⟩,
  ⟨some 62, .move (.t 1), none, []⟩,
  ⟨some 63, .idxAddr 10 (.t 61) (.t 62), none, []⟩,
  ⟨some 64, .load (some 10) (.t 63), none, []⟩,
  ⟨some 65, .call 30 [(.t 64)], none, []⟩,
  ⟨some 57, .move (.t 65), none, []⟩,
  ⟨some 66, .ext 0 (.t 57), none, []⟩,
  ⟨some 67, .ext 1 (.t 57), none, []⟩,
  ⟨some 9, .alloc (.agg [(.int .i64 0), (.int .i64 0), (.int .i64 0), (.int .i64 0), .nils]), none, []⟩,
  ⟨none, .store (some 5) (.t 9) (.t 66), none, []⟩,
  ⟨some 10, .move (.t 67), none, []⟩] none [0, 1, 8, 9, 10])
(.seq (.ops [⟨some 11, .move (.c .nils), none, []⟩] none [0, 1, 8, 9, 10])
(.seq (.skip)
(.seq (.block 0 (.seq (.ops [⟨some 74, .move (.t 10), none, []⟩,
    ⟨some 75, .not (.t 74), none, []⟩,
    ⟨some 73, .move (.t 75), none, []⟩] none [0, 1, 8, 9, 73])
  (.cond (.t 73)
    (.seq (.ops [⟨some 76, .move (.t 0), none, []⟩,
      ⟨some 77, .nilck (.t 76), none, []⟩,
      ⟨some 78, .fldAddr 5 (.t 77), none, []⟩,
      ⟨some 79, .load none (.t 78), none, []⟩,
      ⟨some 80, .move (.t 1), none, []⟩,
      ⟨some 81, .build [(.bool false), .nils, (.int .i64 0), (.int .i64 0), (.int .i64 0), (.int .i64 0), (.int .i64 0), (.int .i64 0), (.bool false), .nils] [], none, []⟩,
      ⟨some 82, .idxAddr 10 (.t 79) (.t 80), none, []⟩,
      ⟨none, .store (some 10) (.t 82) (.t 81), none, []⟩] none [1, 8])
    (.seq (.ops [⟨some 83, .move (.t 8), none, []⟩,
      ⟨some 84, .move (.t 1), none, []⟩,
      ⟨some 85, .build [(.int .i64 0), (.int .i64 0), (.int .i64 0), (.int .i64 0), (.int .i64 0), (.int .i64 0), (.int .i64 0)] [(0, 1, (.t 83)), (1, 1, (.c (.int .i64 6))), (2, 1, (.t 84))], none, []⟩,
      ⟨some 86, .buildSl 1 [(.int .i64 0), (.int .i64 0), (.int .i64 0), (.int .i64 0), (.int .i64 0), (.int .i64 0), (.int .i64 0)] [(0, 7, (.t 85))], none, []⟩,
      ⟨some 11, .move (.t 86), none, []⟩] none [11])
    (.exit 0)))
    (.seq (.ops [⟨some 88, .fldAddr 0 (.t 9), none, []⟩,
      ⟨some 89, .load none (.t 88), none, []⟩,
      ⟨some 90, .bin .eql (.t 89) (.c (.int .i64 1)), none, []⟩,
      ⟨some 87, .move (.t 90), none, []⟩] none [0, 1, 8, 9, 87])
    (.cond (.t 87)
      (.ops [⟨some 91, .move (.t 0), none, []⟩,
        ⟨some 92, .move (.t 8), none, []⟩,
        ⟨some 93, .move (.t 1), none, []⟩,
        ⟨some 94, .call 325 [(.t 91), (.t 92), (.t 93)], none, []⟩,
        ⟨some 11, .move (.t 94), none, []⟩] none [11])
      (.seq (.ops [⟨some 96, .fldAddr 0 (.t 9), none, []⟩,
        ⟨some 97, .load none (.t 96), none, []⟩,
        ⟨some 98, .bin .eql (.t 97) (.c (.int .i64 2)), none, []⟩,
        ⟨some 95, .move (.t 98), none, []⟩] none [0, 1, 8, 9, 95])
      (.cond (.t 95)
        (.ops [⟨some 99, .move (.t 0), none, []⟩,
          ⟨some 100, .move (.t 8), none, []⟩,
          ⟨some 101, .move (.t 1), none, []⟩,
          ⟨some 102, .load (some 5) (.t 9), none, []⟩,
          ⟨some 103, .call 326 [(.t 99), (.t 100), (.t 101), (.t 102)], none, []⟩,
          ⟨some 11, .move (.t 103), none, []⟩] none [11])
        (.seq (.ops [⟨some 105, .fldAddr 0 (.t 9), none, []⟩,
          ⟨some 106, .load none (.t 105), none, []⟩,
          ⟨some 107, .bin .eql (.t 106) (.c (.int .i64 3)), none, []⟩,
          ⟨some 104, .move (.t 107), none, []⟩] none [0, 1, 8, 9, 104])
        (.cond (.t 104)
          (.seq (.ops [⟨some 108, .move (.t 0), none, []⟩,
            ⟨some 109, .call 308 [(.t 108)], none, []⟩,
            ⟨some 12, .move (.t 109), none, []⟩] none [0, 1, 8, 9, 12])
          (.seq (.ops [⟨some 110, .move (.t 0), none, []⟩,
            ⟨some 111, .move (.t 8), none, []⟩,
            ⟨some 112, .move (.t 1), none, []⟩,
            ⟨some 113, .call 327 [(.t 110), (.t 111), (.t 112), (.c (.int .i64 0)), (.c (.int .i64 0)), (.c (.int .i64 0))], none, []⟩,
            ⟨some 13, .alloc (.agg [(.int .i64 0), (.int .i64 0), (.int .i64 0), (.int .i64 0), (.int .i64 0), (.int .i64 0), (.int .i64 0)]), none, []⟩,
            ⟨none, .store (some 7) (.t 13) (.t 113), none, []⟩] none [0, 1, 8, 9, 12, 13])
          (.ops [⟨some 114, .load (some 7) (.t 13), none, []⟩,
            ⟨some 115, .buildSl 1 [(.int .i64 0), (.int .i64 0), (.int .i64 0), (.int .i64 0), (.int .i64 0), (.int .i64 0), (.int .i64 0)] [(0, 7, (.t 114))], none, []⟩,
            ⟨some 116, .move (.t 0), none, []⟩,
            ⟨some 117, .move (.t 8), none, []⟩,
            ⟨some 118, .move (.t 1), none, []⟩,
            ⟨some 119, .fldAddr 1 (.t 9), none, []⟩,
            ⟨some 120, .load none (.t 119), none, []⟩,
            ⟨some 121, .move (.t 12), none, []⟩,
            ⟨some 122, .call 328 [(.t 116), (.t 117), (.t 118), (.t 120), (.t 121)], none, [0]⟩,
            ⟨some 123, .append 7 (.t 115) (.t 122), none, []⟩,
            ⟨some 11, .move (.t 123), none, []⟩] (some [(0, []), (1, [0]), (2, []), (3, []), (4, []), (5, []), (6, [5]), (7, []), (8, [2, 3, 4, 6, 5, 7]), (9, [1, 0, 8, 2, 3, 4, 6, 5, 7]), (10, [9, 1, 0, 8, 2, 3, 4, 6, 5, 7])]) [11])))
          (.seq (.ops [⟨some 125, .fldAddr 0 (.t 9), none, []⟩,
            ⟨some 126, .load none (.t 125), none, []⟩,
            ⟨some 127, .bin .eql (.t 126) (.c (.int .i64 6)), none, []⟩,
            ⟨some 124, .move (.t 127), none, []⟩] none [0, 1, 8, 9, 124])
          (.cond (.t 124)
            (.ops [⟨some 128, .move (.t 0), none, []⟩,
              ⟨some 129, .move (.t 8), none, []⟩,
              ⟨some 130, .move (.t 1), none, []⟩,
              ⟨some 131, .load (some 5) (.t 9), none, []⟩,
              ⟨some 132, .call 329 [(.t 128), (.t 129), (.t 130), (.t 131)], none, []⟩,
              ⟨some 11, .move (.t 132), none, []⟩] none [11])
            (.ops [⟨some 68, .move (.t 0), none, []⟩,
              ⟨some 69, .move (.t 8), none, []⟩,
              ⟨some 70, .move (.t 1), none, []⟩,
              ⟨some 71, .load (some 5) (.t 9), none, []⟩,
              ⟨some 72, .call 330 [(.t 68), (.t 69), (.t 70), (.t 71)], none, []⟩,
              ⟨some 11, .move (.t 72), none, []⟩] none [11]))))))))))))
(.seq (.ops [⟨some 133, .move (.t 11), none, []⟩,
  ⟨some 6, .move (.t 133), none, []⟩,
  ⟨some 7, .move (.c (.bool true)), none, []⟩] none [6, 7])
(.ret))))))))))
def f307 : SFunc := ⟨b307, [.t 6, .t 7]⟩

/-- (*watchbill/core.Core).Next -/
def b316 : SCode := (
.ops [⟨some 2, .move (.t 0), none, []⟩,
  ⟨some 3, .nilck (.t 2), none, []⟩,
  ⟨some 4, .fldAddr 10 (.t 3), none, []⟩,
  ⟨some 5, .load none (.t 4), none, []⟩,
  ⟨some 6, .bin .add (.t 5) (.c (.int .i64 1)), none, []⟩,
  ⟨some 7, .nilck (.t 2), none, []⟩,
  ⟨some 8, .fldAddr 10 (.t 7), none, []⟩,
  ⟨none, .store none (.t 8) (.t 6), none, []⟩] none [])
def f316 : SFunc := ⟨b316, []⟩

/-- watchbill/event.shapes -/
def b127 : SCode := (
.seq (.ops [⟨some 0, .move (.c .nils), none, []⟩] none [])
(.seq (.ops [⟨some 1, .build [(.str []), (.bool false), (.bool false), (.bool false), (.bool false)] [], none, []⟩,
  ⟨some 2, .build [(.str []), (.bool false), (.bool false), (.bool false), (.bool false)] [(0, 1, (.c (.str [114, 101, 108, 101, 97, 115, 101]))), (1, 1, (.c (.bool true))), (2, 1, (.c (.bool false))), (3, 1, (.c (.bool false))), (4, 1, (.c (.bool false)))], none, []⟩,
  ⟨some 3, .build [(.str []), (.bool false), (.bool false), (.bool false), (.bool false)] [(0, 1, (.c (.str [114, 101, 102, 117, 115, 101]))), (1, 1, (.c (.bool true))), (2, 1, (.c (.bool false))), (3, 1, (.c (.bool true))), (4, 1, (.c (.bool false)))], none, []⟩,
  ⟨some 4, .build [(.str []), (.bool false), (.bool false), (.bool false), (.bool false)] [(0, 1, (.c (.str [114, 117, 110, 115]))), (1, 1, (.c (.bool true))), (2, 1, (.c (.bool false))), (3, 1, (.c (.bool false))), (4, 1, (.c (.bool false)))], none, []⟩,
  ⟨some 5, .build [(.str []), (.bool false), (.bool false), (.bool false), (.bool false)] [(0, 1, (.c (.str [114, 101, 115, 117, 108, 116]))), (1, 1, (.c (.bool true))), (2, 1, (.c (.bool true))), (3, 1, (.c (.bool true))), (4, 1, (.c (.bool true)))], none, []⟩,
  ⟨some 6, .build [(.str []), (.bool false), (.bool false), (.bool false), (.bool false)] [(0, 1, (.c (.str [119, 97, 105, 116, 115]))), (1, 1, (.c (.bool true))), (2, 1, (.c (.bool true))), (3, 1, (.c (.bool false))), (4, 1, (.c (.bool false)))], none, []⟩,
  ⟨some 7, .build [(.str []), (.bool false), (.bool false), (.bool false), (.bool false)] [(0, 1, (.c (.str [100, 111, 110, 101]))), (1, 1, (.c (.bool true))), (2, 1, (.c (.bool false))), (3, 1, (.c (.bool false))), (4, 1, (.c (.bool false)))], none, []⟩,
  ⟨some 8, .build [(.str []), (.bool false), (.bool false), (.bool false), (.bool false)] [(0, 1, (.c (.str [97, 98, 111, 114, 116]))), (1, 1, (.c (.bool true))), (2, 1, (.c (.bool false))), (3, 1, (.c (.bool false))), (4, 1, (.c (.bool false)))], none, []⟩,
  ⟨some 9, .build [(.str []), (.bool false), (.bool false), (.bool false), (.bool false)] [(0, 1, (.c (.str [105, 100, 108, 101]))), (1, 1, (.c (.bool false))), (2, 1, (.c (.bool false))), (3, 1, (.c (.bool false))), (4, 1, (.c (.bool false)))], none, []⟩,
  ⟨some 10, .buildSl 9 [(.str []), (.bool false), (.bool false), (.bool false), (.bool false), (.str []), (.bool false), (.bool false), (.bool false), (.bool false), (.str []), (.bool false), (.bool false), (.bool false), (.bool false), (.str []), (.bool false), (.bool false), (.bool false), (.bool false), (.str []), (.bool false), (.bool false), (.bool false), (.bool false), (.str []), (.bool false), (.bool false), (.bool false), (.bool false), (.str []), (.bool false), (.bool false), (.bool false), (.bool false), (.str []), (.bool false), (.bool false), (.bool false), (.bool false), (.str []), (.bool false), (.bool false), (.bool false), (.bool false)] [(0, 5, (.t 1)), (5, 5, (.t 2)), (10, 5, (.t 3)), (15, 5, (.t 4)), (20, 5, (.t 5)), (25, 5, (.t 6)), (30, 5, (.t 7)), (35, 5, (.t 8)), (40, 5, (.t 9))], none, []⟩,
  ⟨some 0, .move (.t 10), none, []⟩] none [0])
(.ret)))
def f127 : SFunc := ⟨b127, [.t 0]⟩

/-- watchbill/word.Name -/
def b97 : SCode := (
.seq (.ops [⟨some 2, .move (.c (.bool false)), none, []⟩] none [0])
(.seq (.ops [⟨some 3, .move (.t 0), none, []⟩,
  ⟨some 4, .len .str (.t 3), none, []⟩,
  ⟨some 5, .bin .geq (.t 4) (.c (.int .i64 1)), none, []⟩,
  ⟨some 6, .move (.t 5), none, []⟩,
  ⟨some 7, .move (.t 0), (some (6, true)), []⟩,
  ⟨some 8, .len .str (.t 7), (some (6, true)), []⟩,
  ⟨some 9, .bin .leq (.t 8) (.c (.int .i64 8)), (some (6, true)), []⟩,
  ⟨some 10, .pick (.t 6) (.t 9) (.c (.bool false)), none, []⟩,
  ⟨some 11, .move (.t 10), none, []⟩,
  ⟨some 12, .move (.t 0), (some (11, true)), []⟩,
  ⟨some 13, .call 124 [(.t 12), (.c (.str [97, 98, 99, 100, 101, 102, 103, 104, 105, 106, 107, 108, 109, 110, 111, 112, 113, 114, 115, 116, 117, 118, 119, 120, 121, 122]))], (some (11, true)), []⟩,
  ⟨some 14, .bin .eql (.t 13) (.c (.str [])), (some (11, true)), []⟩,
  ⟨some 15, .pick (.t 11) (.t 14) (.c (.bool false)), none, []⟩,
  ⟨some 2, .move (.t 15), none, []⟩] none [2])
(.ret)))
def f97 : SFunc := ⟨b97, [.t 2]⟩

/-- watchbill/set.Find -/
def b285 : SCode := (
.seq (.ops [⟨some 2, .box (.t 0), none, []⟩,
  ⟨some 4, .move (.c (.int .i64 0)), none, []⟩,
  ⟨some 5, .move (.c (.bool false)), none, []⟩] none [1, 2])
(.seq (.seq (.ops [⟨some 8, .fldAddr 2 (.t 2), none, []⟩,
  ⟨some 9, .load none (.t 8), none, []⟩,
  ⟨some 10, .len .sl (.t 9), none, []⟩,
  ⟨some 11, .move (.c (.int .i64 0)), none, []⟩] none [1, 9, 10, 11])
(.block 0 (.loop [1, 9, 10, 11] (.seq (.ops [⟨some 12, .bin .lss (.t 11) (.t 10), none, []⟩] none [1, 9, 10, 11, 12])
    (.seq (.cond (.t 12)
      (.skip)
      (.exit 0))
    (.seq (.block 1 (.seq (.ops [⟨some 13, .move (.t 11), none, []⟩,
        ⟨some 14, .idxAddr 5 (.t 9) (.t 11), none, []⟩,
        ⟨some 15, .load (some 5) (.t 14), none, []⟩,
        ⟨some 7, .alloc (.agg [(.str []), (.int .i64 0), (.int .i64 0), (.int .i64 0), .nils]), none, []⟩,
        ⟨some 6, .move (.t 13), none, []⟩,
        ⟨none, .store (some 5) (.t 7) (.t 15), none, []⟩] none [1, 6, 7, 9, 10, 11])
      (.seq (.ops [⟨some 16, .fldAddr 0 (.t 7), none, []⟩,
        ⟨some 17, .load none (.t 16), none, []⟩,
        ⟨some 18, .move (.t 1), none, []⟩,
        ⟨some 19, .bin .eql (.t 17) (.t 18), none, []⟩] none [1, 6, 9, 10, 11, 19])
      (.cond (.t 19)
        (.seq (.ops [⟨some 20, .move (.t 6), none, []⟩,
          ⟨some 4, .move (.t 20), none, []⟩,
          ⟨some 5, .move (.c (.bool true)), none, []⟩] none [4, 5])
        (.ret))
        (.skip)))))
    (.ops [⟨some 21, .bin .add (.t 11) (.c (.int .i64 1)), none, []⟩,
      ⟨some 11, .move (.t 21), none, []⟩] none [1, 9, 10, 11])))))))
(.seq (.ops [⟨some 4, .move (.c (.int .i64 0)), none, []⟩,
  ⟨some 5, .move (.c (.bool false)), none, []⟩] none [4, 5])
(.ret))))
def f285 : SFunc := ⟨b285, [.t 4, .t 5]⟩

/-- watchbill/prog.Check -/
def b286 : SCode := (
.seq (.ops [⟨some 2, .move (.c (.int .i64 0)), none, []⟩,
  ⟨some 3, .move (.c (.int .i64 0)), none, []⟩] none [0])
(.seq (.seq (.ops [⟨some 10, .move (.t 0), none, []⟩,
  ⟨some 11, .len .sl (.t 10), none, []⟩,
  ⟨some 12, .bin .gtr (.t 11) (.c (.int .i64 48)), none, []⟩] none [0, 12])
(.cond (.t 12)
  (.seq (.ops [⟨some 2, .move (.c (.int .i64 0)), none, []⟩,
    ⟨some 3, .move (.c (.int .i64 18)), none, []⟩] none [2, 3])
  (.ret))
  (.skip)))
(.seq (.seq (.ops [⟨some 13, .move (.t 0), none, []⟩,
  ⟨some 14, .len .sl (.t 13), none, []⟩,
  ⟨some 15, .move (.c (.int .i64 0)), none, []⟩] none [0, 13, 14, 15])
(.block 0 (.loop [0, 13, 14, 15] (.seq (.ops [⟨some 16, .bin .lss (.t 15) (.t 14), none, []⟩] none [0, 13, 14, 15, 16])
    (.seq (.cond (.t 16)
      (.skip)
      (.exit 0))
    (.seq (.block 1 (.seq (.ops [⟨some 17, .move (.t 15), none, []⟩,
        ⟨some 18, .idxAddr 5 (.t 13) (.t 15), none, []⟩,
        ⟨some 19, .load (some 5) (.t 18), none, []⟩,
        ⟨some 5, .alloc (.agg [(.int .i64 0), (.int .i64 0), (.int .i64 0), (.int .i64 0), .nils]), none, []⟩,
        ⟨some 4, .move (.t 17), none, []⟩,
        ⟨none, .store (some 5) (.t 5) (.t 19), none, []⟩] none [0, 4, 5, 13, 14, 15])
      (.seq (.ops [⟨some 20, .load (some 5) (.t 5), none, []⟩,
        ⟨some 21, .call 219 [(.t 20)], none, []⟩,
        ⟨some 6, .move (.t 21), none, []⟩] none [0, 4, 6, 13, 14, 15])
      (.seq (.ops [⟨some 22, .move (.t 6), none, []⟩,
        ⟨some 23, .bin .neq (.t 22) (.c (.int .i64 0)), none, []⟩] none [0, 4, 6, 13, 14, 15, 23])
      (.cond (.t 23)
        (.seq (.ops [⟨some 24, .move (.t 4), none, []⟩,
          ⟨some 25, .move (.t 6), none, []⟩,
          ⟨some 2, .move (.t 24), none, []⟩,
          ⟨some 3, .move (.t 25), none, []⟩] none [2, 3])
        (.ret))
        (.skip))))))
    (.ops [⟨some 26, .bin .add (.t 15) (.c (.int .i64 1)), none, []⟩,
      ⟨some 15, .move (.t 26), none, []⟩] none [0, 13, 14, 15])))))))
(.seq (.ops [⟨some 27, .build [.nils, .nils] [], none, []⟩,
  ⟨some 28, .box (.t 27), none, []⟩,
  ⟨some 7, .move (.t 28), none, []⟩] none [0, 7])
(.seq (.skip)
(.seq (.seq (.ops [⟨some 29, .move (.t 0), none, []⟩,
  ⟨some 30, .len .sl (.t 29), none, []⟩,
  ⟨some 31, .move (.c (.int .i64 0)), none, []⟩] none [0, 7, 29, 30, 31])
(.block 2 (.loop [0, 7, 29, 30, 31] (.seq (.ops [⟨some 32, .bin .lss (.t 31) (.t 30), none, []⟩] none [0, 7, 29, 30, 31, 32])
    (.seq (.cond (.t 32)
      (.skip)
      (.exit 2))
    (.seq (.block 3 (.seq (.ops [⟨some 33, .move (.t 31), none, []⟩,
        ⟨some 34, .idxAddr 5 (.t 29) (.t 31), none, []⟩,
        ⟨some 35, .load (some 5) (.t 34), none, []⟩,
        ⟨some 9, .alloc (.agg [(.int .i64 0), (.int .i64 0), (.int .i64 0), (.int .i64 0), .nils]), none, []⟩,
        ⟨some 8, .move (.t 33), none, []⟩,
        ⟨none, .store (some 5) (.t 9) (.t 35), none, []⟩] none [0, 7, 8, 9, 29, 30, 31])
      (.seq (.seq (.ops [⟨some 36, .move (.t 7), none, []⟩,
        ⟨some 37, .load (some 5) (.t 9), none, []⟩,
        ⟨some 38, .call 294 [(.t 36), (.t 37)], none, []⟩] none [0, 7, 8, 29, 30, 31, 38])
      (.cond (.t 38)
        (.exit 3)
        (.skip)))
      (.seq (.ops [⟨some 39, .move (.t 8), none, []⟩,
        ⟨some 2, .move (.t 39), none, []⟩,
        ⟨some 3, .move (.c (.int .i64 11)), none, []⟩] none [2, 3])
      (.ret)))))
    (.ops [⟨some 40, .bin .add (.t 31) (.c (.int .i64 1)), none, []⟩,
      ⟨some 31, .move (.t 40), none, []⟩] none [0, 7, 29, 30, 31])))))))
(.seq (.seq (.ops [⟨some 41, .move (.t 7), none, []⟩,
  ⟨some 42, .nilck (.t 41), none, []⟩,
  ⟨some 43, .fldAddr 1 (.t 42), none, []⟩,
  ⟨some 44, .load none (.t 43), none, []⟩,
  ⟨some 45, .len .sl (.t 44), none, []⟩,
  ⟨some 46, .bin .gtr (.t 45) (.c (.int .i64 0)), none, []⟩,
  ⟨some 47, .move (.t 46), none, []⟩,
  ⟨some 48, .move (.t 7), (some (47, false)), []⟩,
  ⟨some 49, .nilck (.t 48), (some (47, false)), []⟩,
  ⟨some 50, .fldAddr 0 (.t 49), (some (47, false)), []⟩,
  ⟨some 51, .load none (.t 50), (some (47, false)), []⟩,
  ⟨some 52, .len .sl (.t 51), (some (47, false)), []⟩,
  ⟨some 53, .bin .gtr (.t 52) (.c (.int .i64 0)), (some (47, false)), []⟩,
  ⟨some 54, .pick (.t 47) (.c (.bool true)) (.t 53), none, []⟩] none [0, 54])
(.cond (.t 54)
  (.seq (.ops [⟨some 55, .move (.t 0), none, []⟩,
    ⟨some 56, .len .sl (.t 55), none, []⟩,
    ⟨some 57, .bin .sub (.t 56) (.c (.int .i64 1)), none, []⟩,
    ⟨some 2, .move (.t 57), none, []⟩,
    ⟨some 3, .move (.c (.int .i64 11)), none, []⟩] none [2, 3])
  (.ret))
  (.skip)))
(.seq (.seq (.ops [⟨some 58, .move (.t 0), none, []⟩,
  ⟨some 59, .call 295 [(.t 58)], none, []⟩,
  ⟨some 60, .bin .gtr (.t 59) (.c (.int .i64 512)), none, []⟩] none [60])
(.cond (.t 60)
  (.seq (.ops [⟨some 2, .move (.c (.int .i64 0)), none, []⟩,
    ⟨some 3, .move (.c (.int .i64 4)), none, []⟩] none [2, 3])
  (.ret))
  (.skip)))
(.seq (.ops [⟨some 2, .move (.c (.int .i64 0)), none, []⟩,
  ⟨some 3, .move (.c (.int .i64 0)), none, []⟩] none [2, 3])
(.ret))))))))))
def f286 : SFunc := ⟨b286, [.t 2, .t 3]⟩

/-- watchbill/prog.Cost -/
def b287 : SCode := (
.seq (.ops [⟨some 2, .move (.c (.int .i64 0)), none, []⟩] none [0])
(.seq (.ops [⟨some 3, .alloc (.int .i64 0), none, []⟩,
  ⟨none, .store none (.t 3) (.c (.int .i64 0)), none, []⟩] none [0, 3])
(.seq (.ops [⟨some 4, .move (.t 0), none, []⟩,
  ⟨some 5, .mkfn 296 [(.t 3)], none, []⟩,
  ⟨some 6, .call 297 [(.t 4), (.t 5)], none, []⟩] none [3])
(.seq (.ops [⟨some 7, .load none (.t 3), none, []⟩,
  ⟨some 2, .move (.t 7), none, []⟩] none [2])
(.ret)))))
def f287 : SFunc := ⟨b287, [.t 2]⟩

/-- watchbill/set.known -/
def b288 : SCode := (
.seq (.ops [⟨some 2, .box (.t 0), none, []⟩,
  ⟨some 3, .box (.t 1), none, []⟩,
  ⟨some 4, .move (.c (.bool false)), none, []⟩] none [2, 3])
(.seq (.seq (.ops [⟨some 5, .fldAddr 0 (.t 3), none, []⟩,
  ⟨some 6, .load none (.t 5), none, []⟩] none [2, 3, 6])
(.block 0 (.seq (.seq (.ops [⟨some 8, .bin .eql (.t 6) (.c (.int .i64 2)), none, []⟩,
    ⟨some 7, .move (.t 8), none, []⟩] none [2, 3, 6, 7])
  (.cond (.t 7)
    (.skip)
    (.ops [⟨some 9, .bin .eql (.t 6) (.c (.int .i64 3)), none, []⟩,
      ⟨some 7, .move (.t 9), none, []⟩] none [2, 3, 6, 7])))
  (.cond (.t 7)
    (.seq (.ops [⟨some 10, .fldAddr 1 (.t 3), none, []⟩,
      ⟨some 11, .load none (.t 10), none, []⟩,
      ⟨some 12, .fldAddr 0 (.t 2), none, []⟩,
      ⟨some 13, .load none (.t 12), none, []⟩,
      ⟨some 14, .bin .lss (.t 11) (.t 13), none, []⟩,
      ⟨some 4, .move (.t 14), none, []⟩] none [4])
    (.ret))
    (.seq (.seq (.ops [⟨some 16, .bin .eql (.t 6) (.c (.int .i64 4)), none, []⟩,
      ⟨some 15, .move (.t 16), none, []⟩] none [2, 3, 6, 15])
    (.cond (.t 15)
      (.skip)
      (.seq (.ops [⟨some 17, .bin .eql (.t 6) (.c (.int .i64 5)), none, []⟩,
        ⟨some 15, .move (.t 17), none, []⟩] none [2, 3, 6, 15])
      (.cond (.t 15)
        (.skip)
        (.ops [⟨some 18, .bin .eql (.t 6) (.c (.int .i64 6)), none, []⟩,
          ⟨some 15, .move (.t 18), none, []⟩] none [2, 3, 15])))))
    (.cond (.t 15)
      (.seq (.ops [⟨some 19, .fldAddr 1 (.t 3), none, []⟩,
        ⟨some 20, .load none (.t 19), none, []⟩,
        ⟨some 21, .fldAddr 1 (.t 2), none, []⟩,
        ⟨some 22, .load none (.t 21), none, []⟩,
        ⟨some 23, .len .sl (.t 22), none, []⟩,
        ⟨some 24, .bin .lss (.t 20) (.t 23), none, []⟩,
        ⟨some 4, .move (.t 24), none, []⟩] none [4])
      (.ret))
      (.skip)))))))
(.seq (.ops [⟨some 25, .fldAddr 4 (.t 3), none, []⟩,
  ⟨some 26, .load none (.t 25), none, []⟩,
  ⟨some 27, .mkfn 298 [(.t 2)], none, []⟩,
  ⟨some 28, .call 235 [(.t 26), (.t 27)], none, []⟩,
  ⟨some 29, .not (.t 28), none, []⟩,
  ⟨some 4, .move (.t 29), none, []⟩] none [4])
(.ret))))
def f288 : SFunc := ⟨b288, [.t 4]⟩

/-- watchbill/core.copied -/
def b317 : SCode := (
.seq (.ops [⟨some 1, .box (.t 0), none, []⟩,
  ⟨some 2, .alloc (.agg [(.int .i64 0), .nils, .nils]), none, []⟩] none [1, 2])
(.seq (.ops [⟨some 4, .fldAddr 1 (.t 1), none, []⟩,
  ⟨some 5, .load none (.t 4), none, []⟩,
  ⟨some 6, .call 335 [(.t 5)], none, []⟩,
  ⟨some 7, .fldAddr 1 (.t 1), none, []⟩,
  ⟨none, .store none (.t 7) (.t 6), none, []⟩] none [1, 2])
(.seq (.ops [⟨some 8, .fldAddr 2 (.t 1), none, []⟩,
  ⟨some 9, .load none (.t 8), none, []⟩,
  ⟨some 10, .call 336 [(.t 9)], none, []⟩,
  ⟨some 11, .fldAddr 2 (.t 1), none, []⟩,
  ⟨none, .store none (.t 11) (.t 10), none, []⟩] none [1, 2])
(.seq (.seq (.ops [⟨some 12, .fldAddr 2 (.t 1), none, []⟩,
  ⟨some 13, .load none (.t 12), none, []⟩,
  ⟨some 14, .len .sl (.t 13), none, []⟩,
  ⟨some 15, .move (.c (.int .i64 0)), none, []⟩] none [1, 2, 14, 15])
(.block 0 (.loop [1, 2, 14, 15] (.seq (.ops [⟨some 16, .bin .lss (.t 15) (.t 14), none, []⟩] none [1, 2, 14, 15, 16])
    (.seq (.cond (.t 16)
      (.skip)
      (.exit 0))
    (.seq (.block 1 (.seq (.ops [⟨some 17, .move (.t 15), none, []⟩,
        ⟨some 3, .move (.t 17), none, []⟩] none [1, 2, 3, 14, 15])
      (.ops [⟨some 18, .fldAddr 2 (.t 1), none, []⟩,
        ⟨some 19, .load none (.t 18), none, []⟩,
        ⟨some 20, .move (.t 3), none, []⟩,
        ⟨some 21, .fldAddr 2 (.t 1), none, []⟩,
        ⟨some 22, .load none (.t 21), none, []⟩,
        ⟨some 23, .move (.t 3), none, []⟩,
        ⟨some 24, .idxAddr 5 (.t 22) (.t 23), none, []⟩,
        ⟨some 25, .fldAddr 4 (.t 24), none, []⟩,
        ⟨some 26, .load none (.t 25), none, []⟩,
        ⟨some 27, .call 333 [(.t 26)], none, [1]⟩,
        ⟨some 28, .idxAddr 5 (.t 19) (.t 20), none, []⟩,
        ⟨some 29, .fldAddr 4 (.t 28), none, []⟩,
        ⟨none, .store none (.t 29) (.t 27), none, []⟩] (some [(0, []), (1, [0]), (2, []), (3, []), (4, [3]), (5, []), (6, [4, 3, 5]), (7, [6, 4, 3, 5]), (8, [7, 6, 4, 3, 5]), (9, [8, 7, 6, 4, 3, 5]), (10, [1, 0, 2, 3, 4, 5, 6, 7, 8, 9]), (11, [10, 1, 0, 2, 3, 4, 5, 6, 7, 8, 9]), (12, [11, 10, 1, 0, 2, 3, 4, 5, 6, 7, 8, 9])]) [1, 2, 14, 15])))
    (.ops [⟨some 30, .bin .add (.t 15) (.c (.int .i64 1)), none, []⟩,
      ⟨some 15, .move (.t 30), none, []⟩] none [1, 2, 14, 15])))))))
(.seq (.ops [⟨some 31, .load (some 3) (.t 1), none, []⟩,
  ⟨none, .store (some 3) (.t 2) (.t 31), none, []⟩] none [2])
(.ret))))))
def f317 : SFunc := ⟨b317, [.cell (some 3) 2]⟩

/-- watchbill/order.Prios -/
def b318 : SCode := (
.seq (.ops [⟨some 1, .box (.t 0), none, []⟩,
  ⟨some 2, .move (.c .nils), none, []⟩] none [1])
(.seq (.ops [⟨some 3, .move (.c .nils), none, []⟩] none [1, 3])
(.seq (.seq (.ops [⟨some 8, .fldAddr 2 (.t 1), none, []⟩,
  ⟨some 9, .load none (.t 8), none, []⟩,
  ⟨some 10, .len .sl (.t 9), none, []⟩,
  ⟨some 11, .move (.c (.int .i64 0)), none, []⟩] none [1, 3, 10, 11])
(.block 0 (.loop [1, 3, 10, 11] (.seq (.ops [⟨some 12, .bin .lss (.t 11) (.t 10), none, []⟩] none [1, 3, 10, 11, 12])
    (.seq (.cond (.t 12)
      (.skip)
      (.exit 0))
    (.seq (.block 1 (.seq (.ops [⟨some 13, .move (.t 11), none, []⟩,
        ⟨some 4, .move (.t 13), none, []⟩] none [1, 3, 4, 10, 11])
      (.ops [⟨some 14, .move (.t 3), none, []⟩,
        ⟨some 15, .move (.t 4), none, []⟩,
        ⟨some 16, .buildSl 1 [(.int .i64 0)] [(0, 1, (.t 15))], none, []⟩,
        ⟨some 17, .append 1 (.t 14) (.t 16), none, []⟩,
        ⟨some 3, .move (.t 17), none, []⟩] none [1, 3, 10, 11])))
    (.ops [⟨some 18, .bin .add (.t 11) (.c (.int .i64 1)), none, []⟩,
      ⟨some 11, .move (.t 18), none, []⟩] none [1, 3, 10, 11])))))))
(.seq (.ops [⟨some 19, .move (.t 3), none, []⟩,
  ⟨some 20, .mkfn 337 [(.t 1)], none, []⟩,
  ⟨some 21, .call 338 [(.t 19), (.t 20)], none, []⟩] none [3])
(.seq (.ops [⟨some 22, .move (.t 3), none, []⟩,
  ⟨some 23, .len .sl (.t 22), none, []⟩,
  ⟨some 24, .mksl [(.int .i64 0)] (.t 23) (.t 23), none, []⟩,
  ⟨some 5, .move (.t 24), none, []⟩] none [3, 5])
(.seq (.seq (.ops [⟨some 25, .move (.t 3), none, []⟩,
  ⟨some 26, .len .sl (.t 25), none, []⟩,
  ⟨some 27, .move (.c (.int .i64 0)), none, []⟩] none [3, 5, 25, 26, 27])
(.block 2 (.loop [3, 5, 25, 26, 27] (.seq (.ops [⟨some 28, .bin .lss (.t 27) (.t 26), none, []⟩] none [3, 5, 25, 26, 27, 28])
    (.seq (.cond (.t 28)
      (.skip)
      (.exit 2))
    (.seq (.block 3 (.seq (.ops [⟨some 29, .move (.t 27), none, []⟩,
        ⟨some 30, .idxAddr 1 (.t 25) (.t 27), none, []⟩,
        ⟨some 31, .load none (.t 30), none, []⟩,
        ⟨some 6, .move (.t 29), none, []⟩,
        ⟨some 7, .move (.t 31), none, []⟩] none [3, 5, 6, 7, 25, 26, 27])
      (.ops [⟨some 32, .move (.t 5), none, []⟩,
        ⟨some 33, .move (.t 7), none, []⟩,
        ⟨some 34, .move (.t 3), none, []⟩,
        ⟨some 35, .len .sl (.t 34), none, []⟩,
        ⟨some 36, .move (.t 6), none, []⟩,
        ⟨some 37, .bin .sub (.t 35) (.t 36), none, []⟩,
        ⟨some 38, .idxAddr 1 (.t 32) (.t 33), none, []⟩,
        ⟨none, .store none (.t 38) (.t 37), none, []⟩] none [3, 5, 25, 26, 27])))
    (.ops [⟨some 39, .bin .add (.t 27) (.c (.int .i64 1)), none, []⟩,
      ⟨some 27, .move (.t 39), none, []⟩] none [3, 5, 25, 26, 27])))))))
(.seq (.ops [⟨some 40, .move (.t 5), none, []⟩,
  ⟨some 2, .move (.t 40), none, []⟩] none [2])
(.ret))))))))
def f318 : SFunc := ⟨b318, [.t 2]⟩

/-- watchbill/ceil.Of -/
def b319 : SCode := (
.seq (.ops [⟨some 1, .box (.t 0), none, []⟩,
  ⟨some 2, .move (.c .nils), none, []⟩] none [1])
(.seq (.ops [⟨some 8, .load (some 3) (.t 1), none, []⟩,
  ⟨some 9, .call 318 [(.t 8)], none, []⟩,
  ⟨some 3, .move (.t 9), none, []⟩] none [1, 3])
(.seq (.ops [⟨some 10, .fldAddr 0 (.t 1), none, []⟩,
  ⟨some 11, .load none (.t 10), none, []⟩,
  ⟨some 12, .mx [(.t 11), (.c (.int .i64 0))], none, []⟩,
  ⟨some 13, .mksl [(.int .i64 0)] (.t 12) (.t 12), none, []⟩,
  ⟨some 4, .move (.t 13), none, []⟩] none [1, 3, 4])
(.seq (.skip)
(.seq (.seq (.ops [⟨some 14, .move (.t 4), none, []⟩,
  ⟨some 15, .len .sl (.t 14), none, []⟩,
  ⟨some 16, .move (.c (.int .i64 0)), none, []⟩] none [1, 3, 4, 15, 16])
(.block 0 (.loop [1, 3, 4, 15, 16] (.seq (.ops [⟨some 17, .bin .lss (.t 16) (.t 15), none, []⟩] none [1, 3, 4, 15, 16, 17])
    (.seq (.cond (.t 17)
      (.skip)
      (.exit 0))
    (.seq (.block 1 (.seq (.ops [⟨some 18, .move (.t 16), none, []⟩,
        ⟨some 5, .move (.t 18), none, []⟩] none [1, 3, 4, 5, 15, 16])
      (.seq (.ops [⟨some 19, .fldAddr 2 (.t 1), none, []⟩,
        ⟨some 20, .load none (.t 19), none, []⟩,
        ⟨some 21, .len .sl (.t 20), none, []⟩,
        ⟨some 22, .move (.c (.int .i64 0)), none, []⟩] none [1, 3, 4, 5, 15, 16, 20, 21, 22])
      (.block 2 (.loop [1, 3, 4, 5, 15, 16, 20, 21, 22] (.seq (.ops [⟨some 23, .bin .lss (.t 22) (.t 21), none, []⟩] none [1, 3, 4, 5, 15, 16, 20, 21, 22, 23])
          (.seq (.cond (.t 23)
            (.skip)
            (.exit 2))
          (.seq (.block 3 (.seq (.ops [⟨some 24, .move (.t 22), none, []⟩,
              ⟨some 25, .idxAddr 5 (.t 20) (.t 22), none, []⟩,
              ⟨some 26, .load (some 5) (.t 25), none, []⟩,
              ⟨some 7, .alloc (.agg [(.str []), (.int .i64 0), (.int .i64 0), (.int .i64 0), .nils]), none, []⟩,
              ⟨some 6, .move (.t 24), none, []⟩,
              ⟨none, .store (some 5) (.t 7) (.t 26), none, []⟩] none [1, 3, 4, 5, 6, 7, 15, 16, 20, 21, 22])
            (.seq (.seq (.ops [⟨some 27, .fldAddr 4 (.t 7), none, []⟩,
              ⟨some 28, .load none (.t 27), none, []⟩,
              ⟨some 29, .call 339 [(.t 28)], none, []⟩,
              ⟨some 30, .move (.t 5), none, []⟩,
              ⟨some 31, .call 340 [(.t 29), (.t 30)], none, []⟩,
              ⟨some 32, .not (.t 31), none, []⟩] none [1, 3, 4, 5, 6, 15, 16, 20, 21, 22, 32])
            (.cond (.t 32)
              (.exit 3)
              (.skip)))
            (.seq (.ops [⟨some 33, .move (.t 4), none, []⟩,
              ⟨some 34, .move (.t 5), none, []⟩,
              ⟨some 35, .move (.t 4), none, []⟩,
              ⟨some 36, .move (.t 5), none, []⟩,
              ⟨some 37, .idxAddr 1 (.t 35) (.t 36), none, []⟩,
              ⟨some 38, .load none (.t 37), none, []⟩,
              ⟨some 39, .move (.t 3), none, []⟩,
              ⟨some 40, .move (.t 6), none, []⟩,
              ⟨some 41, .idxAddr 1 (.t 39) (.t 40), none, []⟩,
              ⟨some 42, .load none (.t 41), none, []⟩,
              ⟨some 43, .mx [(.t 38), (.t 42)], none, []⟩,
              ⟨some 44, .idxAddr 1 (.t 33) (.t 34), none, []⟩,
              ⟨none, .store none (.t 44) (.t 43), none, []⟩] (some [(0, []), (1, []), (2, []), (3, []), (4, [2, 3]), (5, [4, 2, 3]), (6, []), (7, []), (8, [6, 7]), (9, [8, 6, 7]), (10, [5, 4, 2, 3, 9, 8, 6, 7]), (11, [0, 1, 2, 3, 4, 5, 6, 7, 8, 9, 10]), (12, [11, 0, 1, 2, 3, 4, 5, 6, 7, 8, 9, 10])]) [1, 3, 4, 5, 15, 16, 20, 21, 22])
            (.seq (.ops [⟨some 45, .move (.t 4), none, []⟩,
              ⟨some 46, .move (.t 5), none, []⟩,
              ⟨some 47, .idxAddr 1 (.t 45) (.t 46), none, []⟩,
              ⟨some 48, .load none (.t 47), none, []⟩,
              ⟨some 49, .move (.t 3), none, []⟩,
              ⟨some 50, .len .sl (.t 49), none, []⟩,
              ⟨some 51, .bin .eql (.t 48) (.t 50), none, []⟩] none [1, 3, 4, 5, 15, 16, 20, 21, 22, 51])
            (.cond (.t 51)
              (.exit 1)
              (.skip)))))))
          (.ops [⟨some 52, .bin .add (.t 22) (.c (.int .i64 1)), none, []⟩,
            ⟨some 22, .move (.t 52), none, []⟩] none [1, 3, 4, 5, 15, 16, 20, 21, 22])))))))))
    (.ops [⟨some 53, .bin .add (.t 16) (.c (.int .i64 1)), none, []⟩,
      ⟨some 16, .move (.t 53), none, []⟩] none [1, 3, 4, 15, 16])))))))
(.seq (.ops [⟨some 54, .move (.t 4), none, []⟩,
  ⟨some 2, .move (.t 54), none, []⟩] none [2])
(.ret)))))))
def f319 : SFunc := ⟨b319, [.t 2]⟩

/-- watchbill/guard.New -/
def b5 : SCode := (
.seq (.ops [⟨some 1, .box (.t 0), none, []⟩,
  ⟨some 2, .move (.c .nilp), none, []⟩] none [1])
(.seq (.ops [⟨some 5, .mkmap, none, []⟩,
  ⟨some 6, .build [.nils, .nilm, (.int .i64 0)] [(1, 1, (.t 5))], none, []⟩,
  ⟨some 7, .box (.t 6), none, []⟩,
  ⟨some 3, .move (.t 7), none, []⟩] none [1, 3])
(.seq (.skip)
(.seq (.block 0 (.loop [1, 3] (.block 1 (.seq (.ops [⟨some 8, .move (.t 3), none, []⟩,
        ⟨some 9, .nilck (.t 8), none, []⟩,
        ⟨some 10, .fldAddr 0 (.t 9), none, []⟩,
        ⟨some 11, .load none (.t 10), none, []⟩,
        ⟨some 12, .len .sl (.t 11), none, []⟩,
        ⟨some 4, .move (.t 12), none, []⟩] none [1, 3, 4])
      (.seq (.seq (.ops [⟨some 13, .move (.t 4), none, []⟩,
        ⟨some 14, .fldAddr 2 (.t 1), none, []⟩,
        ⟨some 15, .load none (.t 14), none, []⟩,
        ⟨some 16, .len .sl (.t 15), none, []⟩,
        ⟨some 17, .bin .eql (.t 13) (.t 16), none, []⟩] none [1, 3, 4, 17])
      (.cond (.t 17)
        (.exit 0)
        (.skip)))
      (.ops [⟨some 18, .move (.t 3), none, []⟩,
        ⟨some 19, .move (.t 3), none, []⟩,
        ⟨some 20, .nilck (.t 19), none, []⟩,
        ⟨some 21, .fldAddr 0 (.t 20), none, []⟩,
        ⟨some 22, .load none (.t 21), none, []⟩,
        ⟨some 23, .fldAddr 2 (.t 1), none, []⟩,
        ⟨some 24, .load none (.t 23), none, []⟩,
        ⟨some 25, .move (.t 4), none, []⟩,
        ⟨some 26, .idxAddr 5 (.t 24) (.t 25), none, []⟩,
        ⟨some 27, .fldAddr 1 (.t 26), none, []⟩,
        ⟨some 28, .load none (.t 27), none, []⟩,
        ⟨some 29, .buildSl 1 [(.int .i64 0)] [(0, 1, (.t 28))], none, []⟩,
        ⟨some 30, .append 1 (.t 22) (.t 29), none, []⟩,
        ⟨some 31, .nilck (.t 18), none, []⟩,
        ⟨some 32, .fldAddr 0 (.t 31), none, []⟩,
        ⟨none, .store none (.t 32) (.t 30), none, []⟩] (some [(0, []), (1, []), (2, [1]), (3, [2, 1]), (4, [3, 2, 1]), (5, []), (6, [5]), (7, []), (8, [6, 5, 7]), (9, [8, 6, 5, 7]), (10, [9, 8, 6, 5, 7]), (11, [10, 9, 8, 6, 5, 7]), (12, [4, 3, 2, 1, 11, 10, 9, 8, 6, 5, 7]), (13, [0, 1, 2, 3, 4, 5, 6, 7, 8, 9, 10, 11, 12]), (14, [13, 0, 1, 2, 3, 4, 5, 6, 7, 8, 9, 10, 11, 12]), (15, [14, 13, 0, 1, 2, 3, 4, 5, 6, 7, 8, 9, 10, 11, 12])]) [1, 3]))))))
(.seq (.ops [⟨some 33, .move (.t 3), none, []⟩,
  ⟨some 2, .move (.t 33), none, []⟩] none [2])
(.ret))))))
def f5 : SFunc := ⟨b5, [.t 2]⟩

/-- watchbill/timer.New -/
def b320 : SCode := (
.seq (.ops [⟨some 0, .move (.c .nilp), none, []⟩] none [])
(.seq (.ops [⟨some 1, .build [.nils] [], none, []⟩,
  ⟨some 2, .box (.t 1), none, []⟩,
  ⟨some 0, .move (.t 2), none, []⟩] none [0])
(.ret)))
def f320 : SFunc := ⟨b320, [.t 0]⟩

/-- watchbill/lockq.New -/
def b322 : SCode := (
.seq (.ops [⟨some 0, .move (.c .nilp), none, []⟩] none [])
(.seq (.ops [⟨some 1, .build [(.int .i64 0), .nils] [(0, 1, (.c (.int .i64 (-1))))], none, []⟩,
  ⟨some 2, .box (.t 1), none, []⟩,
  ⟨some 0, .move (.t 2), none, []⟩] none [0])
(.ret)))
def f322 : SFunc := ⟨b322, [.t 0]⟩

/-- (*watchbill/core.Core).known -/
def b323 : SCode := (
.seq (.ops [⟨some 4, .move (.c (.bool false)), none, []⟩] none [0, 1])
(.seq (.ops [⟨some 5, .move (.t 1), none, []⟩,
  ⟨some 6, .bin .geq (.t 5) (.c (.int .i64 0)), none, []⟩,
  ⟨some 7, .move (.t 6), none, []⟩,
  ⟨some 8, .move (.t 1), (some (7, true)), []⟩,
  ⟨some 9, .move (.t 0), (some (7, true)), []⟩,
  ⟨some 10, .nilck (.t 9), (some (7, true)), []⟩,
  ⟨some 11, .fldAddr 5 (.t 10), (some (7, true)), []⟩,
  ⟨some 12, .load none (.t 11), (some (7, true)), []⟩,
  ⟨some 13, .len .sl (.t 12), (some (7, true)), []⟩,
  ⟨some 14, .bin .lss (.t 8) (.t 13), (some (7, true)), []⟩,
  ⟨some 15, .pick (.t 7) (.t 14) (.c (.bool false)), none, []⟩,
  ⟨some 4, .move (.t 15), none, []⟩] none [4])
(.ret)))
def f323 : SFunc := ⟨b323, [.t 4]⟩

/-- (*watchbill/guard.Guard).Ask -/
def b6 : SCode := (
.seq (.ops [⟨some 8, .move (.c (.int .i64 0)), none, []⟩] none [0, 1, 2, 3])
(.seq (.seq (.ops [⟨some 11, .move (.t 1), none, []⟩,
  ⟨some 12, .bin .lss (.t 11) (.c (.int .i64 0)), none, []⟩,
  ⟨some 13, .move (.t 12), none, []⟩,
  ⟨some 14, .move (.t 1), (some (13, false)), []⟩,
  ⟨some 15, .move (.t 0), (some (13, false)), []⟩,
  ⟨some 16, .nilck (.t 15), (some (13, false)), []⟩,
  ⟨some 17, .fldAddr 0 (.t 16), (some (13, false)), []⟩,
  ⟨some 18, .load none (.t 17), (some (13, false)), []⟩,
  ⟨some 19, .len .sl (.t 18), (some (13, false)), []⟩,
  ⟨some 20, .bin .geq (.t 14) (.t 19), (some (13, false)), []⟩,
  ⟨some 21, .pick (.t 13) (.c (.bool true)) (.t 20), none, []⟩] none [0, 1, 2, 3, 21])
(.cond (.t 21)
  (.seq (.ops [⟨some 8, .move (.c (.int .i64 3)), none, []⟩] none [8])
  (.ret))
  (.skip)))
(.seq (.seq (.ops [⟨some 22, .move (.t 2), none, []⟩,
  ⟨some 23, .move (.t 0), none, []⟩,
  ⟨some 24, .nilck (.t 23), none, []⟩,
  ⟨some 25, .fldAddr 2 (.t 24), none, []⟩,
  ⟨some 26, .load none (.t 25), none, []⟩,
  ⟨some 27, .bin .lss (.t 22) (.t 26), none, []⟩,
  ⟨some 28, .move (.t 27), none, []⟩,
  ⟨some 29, .move (.t 2), (some (28, false)), []⟩,
  ⟨some 30, .bin .lss (.t 29) (.c (.int .i64 0)), (some (28, false)), []⟩,
  ⟨some 31, .pick (.t 28) (.c (.bool true)) (.t 30), none, []⟩,
  ⟨some 32, .move (.t 31), none, []⟩,
  ⟨some 33, .move (.t 2), (some (32, false)), []⟩,
  ⟨some 34, .bin .gtr (.t 33) (.c (.int .i64 1099511627776)), (some (32, false)), []⟩,
  ⟨some 35, .pick (.t 32) (.c (.bool true)) (.t 34), none, []⟩] none [0, 1, 2, 3, 35])
(.cond (.t 35)
  (.seq (.ops [⟨some 8, .move (.c (.int .i64 1)), none, []⟩] none [8])
  (.ret))
  (.skip)))
(.seq (.ops [⟨some 37, .move (.t 0), none, []⟩,
  ⟨some 38, .nilck (.t 37), none, []⟩,
  ⟨some 39, .fldAddr 1 (.t 38), none, []⟩,
  ⟨some 40, .load none (.t 39), none, []⟩,
  ⟨some 41, .move (.t 1), none, []⟩,
  ⟨some 42, .lookup true .i (.int .i64 0) (.t 40) (.t 41), none, []⟩,
  ⟨some 36, .move (.t 42), none, []⟩,
  ⟨some 43, .ext 0 (.t 36), none, []⟩,
  ⟨some 44, .ext 1 (.t 36), none, []⟩,
  ⟨some 9, .move (.t 43), none, []⟩,
  ⟨some 10, .move (.t 44), none, []⟩] none [0, 1, 2, 3, 9, 10])
(.seq (.block 0 (.seq (.ops [⟨some 46, .move (.t 10), none, []⟩,
    ⟨some 47, .move (.t 46), none, []⟩,
    ⟨some 48, .move (.t 2), (some (47, true)), []⟩,
    ⟨some 49, .move (.t 9), (some (47, true)), []⟩,
    ⟨some 50, .bin .sub (.t 48) (.t 49), (some (47, true)), []⟩,
    ⟨some 51, .move (.t 0), (some (47, true)), []⟩,
    ⟨some 52, .nilck (.t 51), (some (47, true)), []⟩,
    ⟨some 53, .fldAddr 0 (.t 52), (some (47, true)), []⟩,
    ⟨some 54, .load none (.t 53), (some (47, true)), []⟩,
    ⟨some 55, .move (.t 1), (some (47, true)), []⟩,
    ⟨some 56, .idxAddr 1 (.t 54) (.t 55), (some (47, true)), []⟩,
    ⟨some 57, .load none (.t 56), (some (47, true)), []⟩,
    ⟨some 58, .bin .lss (.t 50) (.t 57), (some (47, true)), []⟩,
    ⟨some 59, .pick (.t 47) (.t 58) (.c (.bool false)), none, []⟩,
    ⟨some 45, .move (.t 59), none, []⟩] none [0, 1, 2, 3, 45])
  (.cond (.t 45)
    (.seq (.ops [⟨some 8, .move (.c (.int .i64 12)), none, []⟩] none [8])
    (.ret))
    (.seq (.ops [⟨some 61, .move (.t 3), none, []⟩,
      ⟨some 60, .move (.t 61), none, []⟩] none [0, 1, 2, 60])
    (.cond (.t 60)
      (.seq (.ops [⟨some 8, .move (.c (.int .i64 10)), none, []⟩] none [8])
      (.ret))
      (.skip))))))
(.seq (.ops [⟨some 62, .move (.t 0), none, []⟩,
  ⟨some 63, .nilck (.t 62), none, []⟩,
  ⟨some 64, .fldAddr 1 (.t 63), none, []⟩,
  ⟨some 65, .load none (.t 64), none, []⟩,
  ⟨some 66, .move (.t 1), none, []⟩,
  ⟨some 67, .move (.t 0), none, []⟩,
  ⟨some 68, .move (.t 2), none, []⟩,
  ⟨some 69, .move (.t 2), none, []⟩,
  ⟨some 70, .mapent .i (.int .i64 0) (.t 65) (.t 66), none, []⟩,
  ⟨some 71, .ext 1 (.t 70), none, []⟩,
  ⟨none, .entst (.t 65) (.t 71) (.t 68), none, []⟩,
  ⟨some 72, .nilck (.t 67), none, []⟩,
  ⟨some 73, .fldAddr 2 (.t 72), none, []⟩,
  ⟨none, .store none (.t 73) (.t 69), none, []⟩] none [])
(.seq (.ops [⟨some 8, .move (.c (.int .i64 0)), none, []⟩] none [8])
(.ret))))))))
def f6 : SFunc := ⟨b6, [.t 8]⟩

/-- watchbill/job.New -/
def b48 : SCode := (
.seq (.ops [⟨some 8, .alloc (.agg [(.bool false), .nils, (.int .i64 0), (.int .i64 0), (.int .i64 0), (.int .i64 0), (.int .i64 0), (.int .i64 0), (.bool false), .nils]), none, []⟩] none [0, 1, 2, 3, 8])
(.seq (.ops [⟨some 9, .move (.t 0), none, []⟩,
  ⟨some 10, .call 65 [(.t 9)], none, []⟩,
  ⟨some 11, .move (.t 1), none, []⟩,
  ⟨some 12, .move (.t 2), none, []⟩,
  ⟨some 13, .move (.t 3), none, []⟩,
  ⟨some 14, .build [(.bool false), .nils, (.int .i64 0), (.int .i64 0), (.int .i64 0), (.int .i64 0), (.int .i64 0), (.int .i64 0), (.bool false), .nils] [(0, 1, (.c (.bool true))), (1, 1, (.t 10)), (5, 1, (.t 11)), (6, 1, (.t 12)), (7, 1, (.t 13))], none, []⟩,
  ⟨none, .store (some 10) (.t 8) (.t 14), none, []⟩] none [8])
(.ret)))
def f48 : SFunc := ⟨b48, [.cell (some 10) 8]⟩

/-- (*watchbill/core.Core).next -/
def b324 : SCode := (
.seq (.ops [⟨some 2, .move (.c (.int .i64 0)), none, []⟩] none [0])
(.seq (.ops [⟨some 3, .move (.t 0), none, []⟩,
  ⟨some 4, .nilck (.t 3), none, []⟩,
  ⟨some 5, .fldAddr 11 (.t 4), none, []⟩,
  ⟨some 6, .load none (.t 5), none, []⟩,
  ⟨some 7, .bin .add (.t 6) (.c (.int .i64 1)), none, []⟩,
  ⟨some 8, .nilck (.t 3), none, []⟩,
  ⟨some 9, .fldAddr 11 (.t 8), none, []⟩,
  ⟨none, .store none (.t 9) (.t 7), none, []⟩] none [0])
(.seq (.ops [⟨some 10, .move (.t 0), none, []⟩,
  ⟨some 11, .nilck (.t 10), none, []⟩,
  ⟨some 12, .fldAddr 11 (.t 11), none, []⟩,
  ⟨some 13, .load none (.t 12), none, []⟩,
  ⟨some 2, .move (.t 13), none, []⟩] none [2])
(.ret))))
def f324 : SFunc := ⟨b324, [.t 2]⟩

/-- (*watchbill/timer.Timer).Tick -/
def b454 : SCode := (
.seq (.ops [⟨some 2, .move (.c .nils), none, []⟩] none [0])
(.seq (.ops [⟨some 3, .move (.c .nils), none, []⟩] none [0, 3])
(.seq (.seq (.ops [⟨some 4, .move (.t 0), none, []⟩,
  ⟨some 5, .nilck (.t 4), none, []⟩,
  ⟨some 6, .fldAddr 0 (.t 5), none, []⟩,
  ⟨some 7, .load none (.t 6), none, []⟩,
  ⟨some 8, .len .sl (.t 7), none, []⟩,
  ⟨some 9, .bin .gtr (.t 8) (.c (.int .i64 0)), none, []⟩] none [0, 3, 9])
(.cond (.t 9)
  (.ops [⟨some 10, .move (.t 0), none, []⟩,
    ⟨some 11, .nilck (.t 10), none, []⟩,
    ⟨some 12, .fldAddr 0 (.t 11), none, []⟩,
    ⟨some 13, .load none (.t 12), none, []⟩,
    ⟨some 14, .idxAddr 2 (.t 13) (.c (.int .i64 0)), none, []⟩,
    ⟨some 15, .fldAddr 1 (.t 14), none, []⟩,
    ⟨some 16, .load none (.t 15), none, []⟩,
    ⟨some 17, .bin .sub (.t 16) (.c (.int .i64 1)), none, []⟩,
    ⟨some 18, .idxAddr 2 (.t 13) (.c (.int .i64 0)), none, []⟩,
    ⟨some 19, .fldAddr 1 (.t 18), none, []⟩,
    ⟨none, .store none (.t 19) (.t 17), none, []⟩] none [0, 3])
  (.skip)))
(.seq (.block 0 (.loop [0, 3] (.seq (.seq (.ops [⟨some 20, .move (.t 0), none, []⟩,
      ⟨some 21, .nilck (.t 20), none, []⟩,
      ⟨some 22, .fldAddr 0 (.t 21), none, []⟩,
      ⟨some 23, .load none (.t 22), none, []⟩,
      ⟨some 24, .len .sl (.t 23), none, []⟩,
      ⟨some 25, .bin .gtr (.t 24) (.c (.int .i64 0)), none, []⟩,
      ⟨some 26, .move (.t 25), none, []⟩,
      ⟨some 27, .move (.t 0), (some (26, true)), []⟩,
      ⟨some 28, .nilck (.t 27), (some (26, true)), []⟩,
      ⟨some 29, .fldAddr 0 (.t 28), (some (26, true)), []⟩,
      ⟨some 30, .load none (.t 29), (some (26, true)), []⟩,
      ⟨some 31, .idxAddr 2 (.t 30) (.c (.int .i64 0)), (some (26, true)), []⟩,
      ⟨some 32, .fldAddr 1 (.t 31), (some (26, true)), []⟩,
      ⟨some 33, .load none (.t 32), (some (26, true)), []⟩,
      ⟨some 34, .bin .eql (.t 33) (.c (.int .i64 0)), (some (26, true)), []⟩,
      ⟨some 35, .pick (.t 26) (.t 34) (.c (.bool false)), none, []⟩] none [0, 3, 35])
    (.cond (.t 35)
      (.skip)
      (.exit 0)))
    (.block 1 (.seq (.ops [⟨some 36, .move (.t 3), none, []⟩,
        ⟨some 37, .move (.t 0), none, []⟩,
        ⟨some 38, .nilck (.t 37), none, []⟩,
        ⟨some 39, .fldAddr 0 (.t 38), none, []⟩,
        ⟨some 40, .load none (.t 39), none, []⟩,
        ⟨some 41, .idxAddr 2 (.t 40) (.c (.int .i64 0)), none, []⟩,
        ⟨some 42, .fldAddr 0 (.t 41), none, []⟩,
        ⟨some 43, .load none (.t 42), none, []⟩,
        ⟨some 44, .buildSl 1 [(.int .i64 0)] [(0, 1, (.t 43))], none, []⟩,
        ⟨some 45, .append 1 (.t 36) (.t 44), none, []⟩,
        ⟨some 3, .move (.t 45), none, []⟩] none [0, 3])
      (.ops [⟨some 46, .move (.t 0), none, []⟩,
        ⟨some 47, .move (.t 0), none, []⟩,
        ⟨some 48, .nilck (.t 47), none, []⟩,
        ⟨some 49, .fldAddr 0 (.t 48), none, []⟩,
        ⟨some 50, .load none (.t 49), none, []⟩,
        ⟨some 51, .call 389 [(.t 50), (.c (.int .i64 0)), (.c (.int .i64 1))], none, []⟩,
        ⟨some 52, .nilck (.t 46), none, []⟩,
        ⟨some 53, .fldAddr 0 (.t 52), none, []⟩,
        ⟨none, .store none (.t 53) (.t 51), none, []⟩] none [0, 3]))))))
(.seq (.ops [⟨some 54, .move (.t 3), none, []⟩,
  ⟨some 2, .move (.t 54), none, []⟩] none [2])
(.ret))))))
def f454 : SFunc := ⟨b454, [.t 2]⟩

/-- (*watchbill/core.Core).Prios -/
def b308 : SCode := (
.seq (.ops [⟨some 2, .move (.c .nils), none, []⟩] none [0])
(.seq (.ops [⟨some 9, .move (.t 0), none, []⟩,
  ⟨some 10, .nilck (.t 9), none, []⟩,
  ⟨some 11, .fldAddr 5 (.t 10), none, []⟩,
  ⟨some 12, .load none (.t 11), none, []⟩,
  ⟨some 13, .len .sl (.t 12), none, []⟩,
  ⟨some 14, .mksl [(.int .i64 0)] (.t 13) (.t 13), none, []⟩,
  ⟨some 15, .move (.t 0), none, []⟩,
  ⟨some 16, .nilck (.t 15), none, []⟩,
  ⟨some 17, .fldAddr 5 (.t 16), none, []⟩,
  ⟨some 18, .load none (.t 17), none, []⟩,
  ⟨some 19, .len .sl (.t 18), none, []⟩,
  ⟨some 20, .mksl [(.int .i64 0)] (.t 19) (.t 19), none, []⟩,
  ⟨some 3, .move (.t 14), none, []⟩,
  ⟨some 4, .move (.t 20), none, []⟩] (some [(0, []), (1, [0]), (2, [1, 0]), (3, [2, 1, 0]), (4, [3, 2, 1, 0]), (5, [4, 3, 2, 1, 0]), (6, []), (7, [6]), (8, [7, 6]), (9, [8, 7, 6]), (10, [9, 8, 7, 6]), (11, [10, 9, 8, 7, 6]), (12, [5, 4, 3, 2, 1, 0]), (13, [11, 10, 9, 8, 7, 6, 12, 5, 4, 3, 2, 1, 0])]) [0, 3, 4])
(.seq (.seq (.ops [⟨some 21, .move (.t 0), none, []⟩,
  ⟨some 22, .nilck (.t 21), none, []⟩,
  ⟨some 23, .fldAddr 5 (.t 22), none, []⟩,
  ⟨some 24, .load none (.t 23), none, []⟩,
  ⟨some 25, .len .sl (.t 24), none, []⟩,
  ⟨some 26, .move (.c (.int .i64 0)), none, []⟩] none [0, 3, 4, 24, 25, 26])
(.block 0 (.loop [0, 3, 4, 24, 25, 26] (.seq (.ops [⟨some 27, .bin .lss (.t 26) (.t 25), none, []⟩] none [0, 3, 4, 24, 25, 26, 27])
    (.seq (.cond (.t 27)
      (.skip)
      (.exit 0))
    (.seq (.block 1 (.seq (.ops [⟨some 28, .move (.t 26), none, []⟩,
        ⟨some 29, .idxAddr 10 (.t 24) (.t 26), none, []⟩,
        ⟨some 30, .load (some 10) (.t 29), none, []⟩,
        ⟨some 6, .alloc (.agg [(.bool false), .nils, (.int .i64 0), (.int .i64 0), (.int .i64 0), (.int .i64 0), (.int .i64 0), (.int .i64 0), (.bool false), .nils]), none, []⟩,
        ⟨some 5, .move (.t 28), none, []⟩,
        ⟨none, .store (some 10) (.t 6) (.t 30), none, []⟩] none [0, 3, 4, 5, 6, 24, 25, 26])
      (.seq (.seq (.ops [⟨some 31, .fldAddr 0 (.t 6), none, []⟩,
        ⟨some 32, .load none (.t 31), none, []⟩,
        ⟨some 33, .not (.t 32), none, []⟩] none [0, 3, 4, 5, 6, 24, 25, 26, 33])
      (.cond (.t 33)
        (.exit 1)
        (.skip)))
      (.seq (.ops [⟨some 34, .move (.t 3), none, []⟩,
        ⟨some 35, .move (.t 5), none, []⟩,
        ⟨some 36, .move (.t 0), none, []⟩,
        ⟨some 37, .nilck (.t 36), none, []⟩,
        ⟨some 38, .fldAddr 3 (.t 37), none, []⟩,
        ⟨some 39, .load none (.t 38), none, []⟩,
        ⟨some 40, .move (.t 5), none, []⟩,
        ⟨some 41, .idxAddr 1 (.t 39) (.t 40), none, []⟩,
        ⟨some 42, .load none (.t 41), none, []⟩,
        ⟨some 43, .idxAddr 1 (.t 34) (.t 35), none, []⟩,
        ⟨none, .store none (.t 43) (.t 42), none, []⟩] none [0, 3, 4, 5, 6, 24, 25, 26])
      (.seq (.ops [⟨some 44, .fldAddr 9 (.t 6), none, []⟩,
        ⟨some 45, .load none (.t 44), none, []⟩,
        ⟨some 46, .len .sl (.t 45), none, []⟩,
        ⟨some 47, .move (.c (.int .i64 0)), none, []⟩] none [0, 3, 4, 5, 24, 25, 26, 45, 46, 47])
      (.block 2 (.loop [0, 3, 4, 5, 24, 25, 26, 45, 46, 47] (.seq (.ops [⟨some 48, .bin .lss (.t 47) (.t 46), none, []⟩] none [0, 3, 4, 5, 24, 25, 26, 45, 46, 47, 48])
          (.seq (.cond (.t 48)
            (.skip)
            (.exit 2))
          (.seq (.block 3 (.seq (.ops [⟨some 49, .idxAddr 1 (.t 45) (.t 47), none, []⟩,
              ⟨some 50, .load none (.t 49), none, []⟩,
              ⟨some 8, .move (.t 50), none, []⟩] none [0, 3, 4, 5, 8, 24, 25, 26, 45, 46, 47])
            (.ops [⟨some 51, .move (.t 4), none, []⟩,
              ⟨some 52, .move (.t 5), none, []⟩,
              ⟨some 53, .move (.t 4), none, []⟩,
              ⟨some 54, .move (.t 5), none, []⟩,
              ⟨some 55, .idxAddr 1 (.t 53) (.t 54), none, []⟩,
              ⟨some 56, .load none (.t 55), none, []⟩,
              ⟨some 57, .move (.t 0), none, []⟩,
              ⟨some 58, .nilck (.t 57), none, []⟩,
              ⟨some 59, .fldAddr 4 (.t 58), none, []⟩,
              ⟨some 60, .load none (.t 59), none, []⟩,
              ⟨some 61, .move (.t 8), none, []⟩,
              ⟨some 62, .idxAddr 1 (.t 60) (.t 61), none, []⟩,
              ⟨some 63, .load none (.t 62), none, []⟩,
              ⟨some 64, .mx [(.t 56), (.t 63)], none, []⟩,
              ⟨some 65, .idxAddr 1 (.t 51) (.t 52), none, []⟩,
              ⟨none, .store none (.t 65) (.t 64), none, []⟩] (some [(0, []), (1, []), (2, []), (3, []), (4, [2, 3]), (5, [4, 2, 3]), (6, []), (7, [6]), (8, [7, 6]), (9, [8, 7, 6]), (10, []), (11, [9, 8, 7, 6, 10]), (12, [11, 9, 8, 7, 6, 10]), (13, [5, 4, 2, 3, 12, 11, 9, 8, 7, 6, 10]), (14, [0, 1, 2, 3, 4, 5, 6, 7, 8, 9, 10, 11, 12, 13]), (15, [14, 0, 1, 2, 3, 4, 5, 6, 7, 8, 9, 10, 11, 12, 13])]) [0, 3, 4, 5, 24, 25, 26, 45, 46, 47])))
          (.ops [⟨some 66, .bin .add (.t 47) (.c (.int .i64 1)), none, []⟩,
            ⟨some 47, .move (.t 66), none, []⟩] none [0, 3, 4, 5, 24, 25, 26, 45, 46, 47])))))))))))
    (.ops [⟨some 67, .bin .add (.t 26) (.c (.int .i64 1)), none, []⟩,
      ⟨some 26, .move (.t 67), none, []⟩] none [0, 3, 4, 24, 25, 26])))))))
(.seq (.ops [⟨some 68, .move (.t 3), none, []⟩,
  ⟨some 69, .move (.t 4), none, []⟩,
  ⟨some 70, .move (.t 0), none, []⟩,
  ⟨some 71, .call 331 [(.t 70)], none, []⟩,
  ⟨some 72, .call 17 [(.t 68), (.t 69), (.t 71)], none, []⟩,
  ⟨some 2, .move (.t 72), none, []⟩] none [2])
(.ret)))))
def f308 : SFunc := ⟨b308, [.t 2]⟩

/-- slices.Clone[[]watchbill/op.Op,watchbill/op.Op] -/
def b333 : SCode := (
.seq (.ops [⟨some 2, .move (.c .nils), none, []⟩] none [0])
(.seq (.seq (.ops [⟨some 3, .move (.t 0), none, []⟩,
  ⟨some 4, .eq false .s (.t 3) (.c .nils), none, []⟩] none [0, 4])
(.cond (.t 4)
  (.seq (.ops [⟨some 2, .move (.c .nils), none, []⟩] none [2])
  (.ret))
  (.skip)))
(.seq (.ops [⟨some 5, .buildSl 0 [] [], none, []⟩,
  ⟨some 6, .move (.t 0), none, []⟩,
  ⟨some 7, .append 5 (.t 5) (.t 6), none, []⟩,
  ⟨some 2, .move (.t 7), none, []⟩] none [2])
(.ret))))
def f333 : SFunc := ⟨b333, [.t 2]⟩

/-- slices.Clone[[]int,int] -/
def b55 : SCode := (
.seq (.ops [⟨some 2, .move (.c .nils), none, []⟩] none [0])
(.seq (.seq (.ops [⟨some 3, .move (.t 0), none, []⟩,
  ⟨some 4, .eq false .s (.t 3) (.c .nils), none, []⟩] none [0, 4])
(.cond (.t 4)
  (.seq (.ops [⟨some 2, .move (.c .nils), none, []⟩] none [2])
  (.ret))
  (.skip)))
(.seq (.ops [⟨some 5, .buildSl 0 [] [], none, []⟩,
  ⟨some 6, .move (.t 0), none, []⟩,
  ⟨some 7, .append 1 (.t 5) (.t 6), none, []⟩,
  ⟨some 2, .move (.t 7), none, []⟩] none [2])
(.ret))))
def f55 : SFunc := ⟨b55, [.t 2]⟩

/-- watchbill/job.Tick -/
def b39 : SCode := (
.seq (.ops [⟨some 1, .box (.t 0), none, []⟩,
  ⟨some 2, .alloc (.agg [(.bool false), .nils, (.int .i64 0), (.int .i64 0), (.int .i64 0), (.int .i64 0), (.int .i64 0), (.int .i64 0), (.bool false), .nils]), none, []⟩,
  ⟨some 3, .move (.c (.bool false)), none, []⟩] none [1, 2])
(.seq (.seq (.ops [⟨some 4, .fldAddr 0 (.t 1), none, []⟩,
  ⟨some 5, .load none (.t 4), none, []⟩,
  ⟨some 6, .not (.t 5), none, []⟩,
  ⟨some 7, .move (.t 6), none, []⟩,
  ⟨some 8, .fldAddr 3 (.t 1), (some (7, false)), []⟩,
  ⟨some 9, .load none (.t 8), (some (7, false)), []⟩,
  ⟨some 10, .bin .eql (.t 9) (.c (.int .i64 0)), (some (7, false)), []⟩,
  ⟨some 11, .pick (.t 7) (.c (.bool true)) (.t 10), none, []⟩] none [1, 2, 11])
(.cond (.t 11)
  (.seq (.ops [⟨some 12, .load (some 10) (.t 1), none, []⟩,
    ⟨none, .store (some 10) (.t 2) (.t 12), none, []⟩,
    ⟨some 3, .move (.c (.bool false)), none, []⟩] none [2, 3])
  (.ret))
  (.skip)))
(.seq (.ops [⟨some 13, .fldAddr 3 (.t 1), none, []⟩,
  ⟨some 14, .load none (.t 13), none, []⟩,
  ⟨some 15, .bin .sub (.t 14) (.c (.int .i64 1)), none, []⟩,
  ⟨some 16, .fldAddr 3 (.t 1), none, []⟩,
  ⟨none, .store none (.t 16) (.t 15), none, []⟩] none [1, 2])
(.seq (.ops [⟨some 17, .fldAddr 4 (.t 1), none, []⟩,
  ⟨some 18, .load none (.t 17), none, []⟩,
  ⟨some 19, .bin .add (.t 18) (.c (.int .i64 1)), none, []⟩,
  ⟨some 20, .fldAddr 4 (.t 1), none, []⟩,
  ⟨none, .store none (.t 20) (.t 19), none, []⟩] none [1, 2])
(.seq (.seq (.ops [⟨some 21, .fldAddr 3 (.t 1), none, []⟩,
  ⟨some 22, .load none (.t 21), none, []⟩,
  ⟨some 23, .bin .eql (.t 22) (.c (.int .i64 0)), none, []⟩] none [1, 2, 23])
(.cond (.t 23)
  (.seq (.ops [⟨some 24, .fldAddr 2 (.t 1), none, []⟩,
    ⟨some 25, .load none (.t 24), none, []⟩,
    ⟨some 26, .bin .add (.t 25) (.c (.int .i64 1)), none, []⟩,
    ⟨some 27, .fldAddr 2 (.t 1), none, []⟩,
    ⟨none, .store none (.t 27) (.t 26), none, []⟩] none [1, 2])
  (.seq (.ops [⟨some 28, .load (some 10) (.t 1), none, []⟩,
    ⟨none, .store (some 10) (.t 2) (.t 28), none, []⟩,
    ⟨some 3, .move (.c (.bool false)), none, []⟩] none [2, 3])
  (.ret)))
  (.skip)))
(.seq (.ops [⟨some 29, .load (some 10) (.t 1), none, []⟩,
  ⟨some 30, .fldAddr 4 (.t 1), none, []⟩,
  ⟨some 31, .load none (.t 30), none, []⟩,
  ⟨some 32, .fldAddr 5 (.t 1), none, []⟩,
  ⟨some 33, .load none (.t 32), none, []⟩,
  ⟨some 34, .bin .eql (.t 31) (.t 33), none, []⟩,
  ⟨none, .store (some 10) (.t 2) (.t 29), none, [2, 4]⟩,
  ⟨some 3, .move (.t 34), none, []⟩] (some [(0, []), (1, []), (2, [1]), (3, []), (4, [3]), (5, [2, 1, 4, 3]), (6, [0]), (7, [5, 2, 1, 4, 3, 6, 0])]) [2, 3])
(.ret)))))))
def f39 : SFunc := ⟨b39, [.cell (some 10) 2, .t 3]⟩

/-- watchbill/job.Now -/
def b30 : SCode := (
.seq (.ops [⟨some 1, .box (.t 0), none, []⟩,
  ⟨some 2, .alloc (.agg [(.int .i64 0), (.int .i64 0), (.int .i64 0), (.int .i64 0), .nils]), none, []⟩,
  ⟨some 3, .move (.c (.bool false)), none, []⟩] none [1, 2])
(.seq (.seq (.ops [⟨some 4, .fldAddr 0 (.t 1), none, []⟩,
  ⟨some 5, .load none (.t 4), none, []⟩,
  ⟨some 6, .not (.t 5), none, []⟩,
  ⟨some 7, .move (.t 6), none, []⟩,
  ⟨some 8, .fldAddr 2 (.t 1), (some (7, false)), []⟩,
  ⟨some 9, .load none (.t 8), (some (7, false)), []⟩,
  ⟨some 10, .bin .lss (.t 9) (.c (.int .i64 0)), (some (7, false)), []⟩,
  ⟨some 11, .pick (.t 7) (.c (.bool true)) (.t 10), none, []⟩,
  ⟨some 12, .move (.t 11), none, []⟩,
  ⟨some 13, .fldAddr 2 (.t 1), (some (12, false)), []⟩,
  ⟨some 14, .load none (.t 13), (some (12, false)), []⟩,
  ⟨some 15, .fldAddr 1 (.t 1), (some (12, false)), []⟩,
  ⟨some 16, .load none (.t 15), (some (12, false)), []⟩,
  ⟨some 17, .len .sl (.t 16), (some (12, false)), []⟩,
  ⟨some 18, .bin .geq (.t 14) (.t 17), (some (12, false)), []⟩,
  ⟨some 19, .pick (.t 12) (.c (.bool true)) (.t 18), none, []⟩] none [1, 2, 19])
(.cond (.t 19)
  (.seq (.ops [⟨some 20, .build [(.int .i64 0), (.int .i64 0), (.int .i64 0), (.int .i64 0), .nils] [], none, []⟩,
    ⟨none, .store (some 5) (.t 2) (.t 20), none, []⟩,
    ⟨some 3, .move (.c (.bool false)), none, []⟩] none [2, 3])
  (.ret))
  (.skip)))
(.seq (.ops [⟨some 21, .fldAddr 1 (.t 1), none, []⟩,
  ⟨some 22, .load none (.t 21), none, []⟩,
  ⟨some 23, .fldAddr 2 (.t 1), none, []⟩,
  ⟨some 24, .load none (.t 23), none, []⟩,
  ⟨some 25, .idxAddr 5 (.t 22) (.t 24), none, []⟩,
  ⟨some 26, .load (some 5) (.t 25), none, []⟩,
  ⟨none, .store (some 5) (.t 2) (.t 26), none, []⟩,
  ⟨some 3, .move (.c (.bool true)), none, []⟩] none [2, 3])
(.ret))))
def f30 : SFunc := ⟨b30, [.cell (some 5) 2, .t 3]⟩

/-- (*watchbill/core.Core).begin -/
def b325 : SCode := (
.seq (.ops [⟨some 6, .move (.c .nils), none, []⟩] none [0, 1, 2])
(.seq (.ops [⟨some 10, .move (.t 0), none, []⟩,
  ⟨some 11, .nilck (.t 10), none, []⟩,
  ⟨some 12, .fldAddr 5 (.t 11), none, []⟩,
  ⟨some 13, .load none (.t 12), none, []⟩,
  ⟨some 14, .move (.t 2), none, []⟩,
  ⟨some 15, .idxAddr 10 (.t 13) (.t 14), none, []⟩,
  ⟨some 16, .load (some 10) (.t 15), none, []⟩,
  ⟨some 17, .call 36 [(.t 16)], none, []⟩,
  ⟨some 9, .move (.t 17), none, []⟩,
  ⟨some 18, .ext 0 (.t 9), none, []⟩,
  ⟨some 19, .ext 1 (.t 9), none, []⟩,
  ⟨some 7, .alloc (.agg [(.bool false), .nils, (.int .i64 0), (.int .i64 0), (.int .i64 0), (.int .i64 0), (.int .i64 0), (.int .i64 0), (.bool false), .nils]), none, []⟩,
  ⟨none, .store (some 10) (.t 7) (.t 18), none, []⟩,
  ⟨some 8, .move (.t 19), none, []⟩] none [0, 1, 2, 7, 8])
(.seq (.seq (.ops [⟨some 20, .move (.t 8), none, []⟩,
  ⟨some 21, .not (.t 20), none, []⟩] none [0, 1, 2, 7, 21])
(.cond (.t 21)
  (.seq (.ops [⟨some 22, .move (.t 0), none, []⟩,
    ⟨some 23, .move (.t 1), none, []⟩,
    ⟨some 24, .move (.t 2), none, []⟩,
    ⟨some 25, .call 332 [(.t 22), (.t 23), (.t 24)], none, []⟩,
    ⟨some 6, .move (.t 25), none, []⟩] none [6])
  (.ret))
  (.skip)))
(.seq (.ops [⟨some 26, .move (.t 0), none, []⟩,
  ⟨some 27, .nilck (.t 26), none, []⟩,
  ⟨some 28, .fldAddr 5 (.t 27), none, []⟩,
  ⟨some 29, .load none (.t 28), none, []⟩,
  ⟨some 30, .move (.t 2), none, []⟩,
  ⟨some 31, .load (some 10) (.t 7), none, []⟩,
  ⟨some 32, .idxAddr 10 (.t 29) (.t 30), none, []⟩,
  ⟨none, .store (some 10) (.t 32) (.t 31), none, []⟩] (some [(0, []), (1, [0]), (2, [1, 0]), (3, [2, 1, 0]), (4, []), (5, []), (6, [3, 2, 1, 0, 4, 5]), (7, [6, 3, 2, 1, 0, 4, 5])]) [])
(.seq (.ops [⟨some 6, .move (.c .nils), none, []⟩] none [6])
(.ret))))))
def f325 : SFunc := ⟨b325, [.t 6]⟩

/-- (*watchbill/core.Core).lock -/
def b326 : SCode := (
.seq (.ops [⟨some 7, .box (.t 3), none, []⟩,
  ⟨some 8, .move (.c .nils), none, []⟩] none [0, 1, 2, 7])
(.seq (.ops [⟨some 12, .move (.t 0), none, []⟩,
  ⟨some 13, .nilck (.t 12), none, []⟩,
  ⟨some 14, .fldAddr 7 (.t 13), none, []⟩,
  ⟨some 15, .load none (.t 14), none, []⟩,
  ⟨some 16, .fldAddr 1 (.t 7), none, []⟩,
  ⟨some 17, .load none (.t 16), none, []⟩,
  ⟨some 18, .idxAddr 1 (.t 15) (.t 17), none, []⟩,
  ⟨some 19, .load none (.t 18), none, []⟩,
  ⟨some 20, .move (.t 2), none, []⟩,
  ⟨some 21, .move (.t 0), none, []⟩,
  ⟨some 22, .nilck (.t 21), none, []⟩,
  ⟨some 23, .fldAddr 11 (.t 22), none, []⟩,
  ⟨some 24, .load none (.t 23), none, []⟩,
  ⟨some 25, .bin .add (.t 24) (.c (.int .i64 1)), none, []⟩,
  ⟨some 26, .call 342 [(.t 19), (.t 20), (.t 25)], none, []⟩,
  ⟨some 11, .move (.t 26), none, []⟩,
  ⟨some 27, .ext 0 (.t 11), none, []⟩,
  ⟨some 28, .ext 1 (.t 11), none, []⟩,
  ⟨some 9, .move (.t 27), none, []⟩,
  ⟨some 10, .move (.t 28), none, []⟩] (some [(0, []), (1, [0]), (2, [1, 0]), (3, [2, 1, 0]), (4, []), (5, [4]), (6, [3, 2, 1, 0, 5, 4]), (7, [6, 3, 2, 1, 0, 5, 4]), (8, []), (9, []), (10, [9]), (11, [10, 9]), (12, [11, 10, 9]), (13, [12, 11, 10, 9]), (14, [7, 6, 3, 2, 1, 0, 5, 4, 8, 13, 12, 11, 10, 9]), (15, [14, 7, 6, 3, 2, 1, 0, 5, 4, 8, 13, 12, 11, 10, 9]), (16, [15, 14, 7, 6, 3, 2, 1, 0, 5, 4, 8, 13, 12, 11, 10, 9]), (17, [15, 14, 7, 6, 3, 2, 1, 0, 5, 4, 8, 13, 12, 11, 10, 9]), (18, [16, 15, 14, 7, 6, 3, 2, 1, 0, 5, 4, 8, 13, 12, 11, 10, 9]), (19, [17, 15, 14, 7, 6, 3, 2, 1, 0, 5, 4, 8, 13, 12, 11, 10, 9, 18, 16])]) [0, 1, 2, 7, 9])
(.seq (.seq (.ops [⟨some 29, .move (.t 9), none, []⟩,
  ⟨some 30, .not (.t 29), none, []⟩] none [0, 1, 2, 7, 30])
(.cond (.t 30)
  (.seq (.ops [⟨some 31, .move (.t 0), none, []⟩,
    ⟨some 32, .call 324 [(.t 31)], none, []⟩] none [0, 1, 2])
  (.seq (.ops [⟨some 33, .move (.t 0), none, []⟩,
    ⟨some 34, .move (.t 1), none, []⟩,
    ⟨some 35, .move (.t 2), none, []⟩,
    ⟨some 36, .call 343 [(.t 33), (.t 34), (.t 35)], none, []⟩,
    ⟨some 8, .move (.t 36), none, []⟩] none [8])
  (.ret)))
  (.skip)))
(.seq (.ops [⟨some 37, .move (.t 0), none, []⟩,
  ⟨some 38, .nilck (.t 37), none, []⟩,
  ⟨some 39, .fldAddr 5 (.t 38), none, []⟩,
  ⟨some 40, .load none (.t 39), none, []⟩,
  ⟨some 41, .move (.t 2), none, []⟩,
  ⟨some 42, .move (.t 0), none, []⟩,
  ⟨some 43, .nilck (.t 42), none, []⟩,
  ⟨some 44, .fldAddr 5 (.t 43), none, []⟩,
  ⟨some 45, .load none (.t 44), none, []⟩,
  ⟨some 46, .move (.t 2), none, []⟩,
  ⟨some 47, .idxAddr 10 (.t 45) (.t 46), none, []⟩,
  ⟨some 48, .load (some 10) (.t 47), none, []⟩,
  ⟨some 49, .fldAddr 1 (.t 7), none, []⟩,
  ⟨some 50, .load none (.t 49), none, []⟩,
  ⟨some 51, .call 43 [(.t 48), (.t 50)], none, [3]⟩,
  ⟨some 52, .idxAddr 10 (.t 40) (.t 41), none, []⟩,
  ⟨none, .store (some 10) (.t 52) (.t 51), none, []⟩] (some [(0, []), (1, [0]), (2, [1, 0]), (3, [2, 1, 0]), (4, []), (5, []), (6, [5]), (7, [6, 5]), (8, [7, 6, 5]), (9, []), (10, [8, 7, 6, 5, 9]), (11, [10, 8, 7, 6, 5, 9]), (12, []), (13, [12]), (14, [11, 10, 8, 7, 6, 5, 9, 13, 12]), (15, [3, 2, 1, 0, 4, 5, 6, 7, 8, 9, 10, 11, 12, 13, 14]), (16, [15, 3, 2, 1, 0, 4, 5, 6, 7, 8, 9, 10, 11, 12, 13, 14])]) [0, 1, 2])
(.seq (.ops [⟨some 53, .move (.t 0), none, []⟩,
  ⟨some 54, .move (.t 1), none, []⟩,
  ⟨some 55, .move (.t 2), none, []⟩,
  ⟨some 56, .call 327 [(.t 53), (.t 54), (.t 55), (.c (.int .i64 0)), (.c (.int .i64 0)), (.c (.int .i64 0))], none, []⟩,
  ⟨some 57, .buildSl 1 [(.int .i64 0), (.int .i64 0), (.int .i64 0), (.int .i64 0), (.int .i64 0), (.int .i64 0), (.int .i64 0)] [(0, 7, (.t 56))], none, []⟩,
  ⟨some 8, .move (.t 57), none, []⟩] none [8])
(.ret))))))
def f326 : SFunc := ⟨b326, [.t 8]⟩

/-- (*watchbill/core.Core).result -/
def b327 : SCode := (
.seq (.ops [⟨some 12, .alloc (.agg [(.int .i64 0), (.int .i64 0), (.int .i64 0), (.int .i64 0), (.int .i64 0), (.int .i64 0), (.int .i64 0)]), none, []⟩] none [0, 1, 2, 3, 4, 5, 12])
(.seq (.ops [⟨some 14, .move (.t 0), none, []⟩,
  ⟨some 15, .nilck (.t 14), none, []⟩,
  ⟨some 16, .fldAddr 5 (.t 15), none, []⟩,
  ⟨some 17, .load none (.t 16), none, []⟩,
  ⟨some 18, .move (.t 2), none, []⟩,
  ⟨some 19, .idxAddr 10 (.t 17) (.t 18), none, []⟩,
  ⟨some 20, .load (some 10) (.t 19), none, []⟩,
  ⟨some 13, .alloc (.agg [(.bool false), .nils, (.int .i64 0), (.int .i64 0), (.int .i64 0), (.int .i64 0), (.int .i64 0), (.int .i64 0), (.bool false), .nils]), none, []⟩,
  ⟨none, .store (some 10) (.t 13) (.t 20), none, []⟩] none [0, 1, 2, 3, 4, 5, 12, 13])
(.seq (.ops [⟨some 21, .move (.t 0), none, []⟩,
  ⟨some 22, .nilck (.t 21), none, []⟩,
  ⟨some 23, .fldAddr 5 (.t 22), none, []⟩,
  ⟨some 24, .load none (.t 23), none, []⟩,
  ⟨some 25, .move (.t 2), none, []⟩,
  ⟨some 26, .load (some 10) (.t 13), none, []⟩,
  ⟨some 27, .call 41 [(.t 26)], none, [3]⟩,
  ⟨some 28, .idxAddr 10 (.t 24) (.t 25), none, []⟩,
  ⟨none, .store (some 10) (.t 28) (.t 27), none, []⟩] (some [(0, []), (1, [0]), (2, [1, 0]), (3, [2, 1, 0]), (4, []), (5, []), (6, [5]), (7, [3, 2, 1, 0, 4, 5, 6]), (8, [7, 3, 2, 1, 0, 4, 5, 6])]) [1, 2, 3, 4, 5, 12, 13])
(.seq (.ops [⟨some 29, .move (.t 1), none, []⟩,
  ⟨some 30, .move (.t 2), none, []⟩,
  ⟨some 31, .fldAddr 2 (.t 13), none, []⟩,
  ⟨some 32, .load none (.t 31), none, []⟩,
  ⟨some 33, .move (.t 5), none, []⟩,
  ⟨some 34, .move (.t 3), none, []⟩,
  ⟨some 35, .move (.t 4), none, []⟩,
  ⟨some 36, .build [(.int .i64 0), (.int .i64 0), (.int .i64 0), (.int .i64 0), (.int .i64 0), (.int .i64 0), (.int .i64 0)] [(0, 1, (.t 29)), (1, 1, (.c (.int .i64 4))), (2, 1, (.t 30)), (3, 1, (.t 32)), (4, 1, (.t 33)), (5, 1, (.t 34)), (6, 1, (.t 35))], none, []⟩,
  ⟨none, .store (some 7) (.t 12) (.t 36), none, []⟩] none [12])
(.ret)))))
def f327 : SFunc := ⟨b327, [.cell (some 7) 12]⟩

/-- watchbill/op.Check -/
def b219 : SCode := (
.seq (.ops [⟨some 1, .box (.t 0), none, []⟩,
  ⟨some 2, .move (.c (.int .i64 0)), none, []⟩] none [1])
(.seq (.seq (.ops [⟨some 4, .fldAddr 0 (.t 1), none, []⟩,
  ⟨some 5, .load none (.t 4), none, []⟩,
  ⟨some 6, .bin .lss (.t 5) (.c (.int .i64 1)), none, []⟩,
  ⟨some 7, .move (.t 6), none, []⟩,
  ⟨some 8, .fldAddr 0 (.t 1), (some (7, false)), []⟩,
  ⟨some 9, .load none (.t 8), (some (7, false)), []⟩,
  ⟨some 10, .bin .gtr (.t 9) (.c (.int .i64 9)), (some (7, false)), []⟩,
  ⟨some 11, .pick (.t 7) (.c (.bool true)) (.t 10), none, []⟩] none [1, 11])
(.cond (.t 11)
  (.seq (.ops [⟨some 2, .move (.c (.int .i64 3)), none, []⟩] none [2])
  (.ret))
  (.skip)))
(.seq (.ops [⟨some 13, .fldAddr 0 (.t 1), none, []⟩,
  ⟨some 14, .load none (.t 13), none, []⟩,
  ⟨some 3, .alloc (.agg [(.str []), (.int .i64 0), (.int .i64 0), (.bool false), (.bool false)]), none, []⟩,
  ⟨some 12, .call 224 [], none, [1]⟩,
  ⟨some 15, .idxAddr 5 (.t 12) (.t 14), none, []⟩,
  ⟨some 16, .load (some 5) (.t 15), none, []⟩,
  ⟨none, .store (some 5) (.t 3) (.t 16), none, []⟩] (some [(1, []), (2, [0]), (5, []), (0, []), (3, [3, 1, 0]), (4, [4, 3, 1, 0]), (6, [2, 5, 4, 3, 1, 0])]) [1, 3])
(.seq (.block 0 (.seq (.ops [⟨some 18, .fldAddr 1 (.t 1), none, []⟩,
    ⟨some 19, .load none (.t 18), none, []⟩,
    ⟨some 20, .fldAddr 1 (.t 3), none, []⟩,
    ⟨some 21, .load none (.t 20), none, []⟩,
    ⟨some 22, .bin .lss (.t 19) (.t 21), none, []⟩,
    ⟨some 23, .move (.t 22), none, []⟩,
    ⟨some 24, .fldAddr 1 (.t 1), (some (23, false)), []⟩,
    ⟨some 25, .load none (.t 24), (some (23, false)), []⟩,
    ⟨some 26, .fldAddr 2 (.t 3), (some (23, false)), []⟩,
    ⟨some 27, .load none (.t 26), (some (23, false)), []⟩,
    ⟨some 28, .bin .gtr (.t 25) (.t 27), (some (23, false)), []⟩,
    ⟨some 29, .pick (.t 23) (.c (.bool true)) (.t 28), none, []⟩,
    ⟨some 30, .move (.t 29), none, []⟩,
    ⟨some 31, .fldAddr 0 (.t 1), (some (30, false)), []⟩,
    ⟨some 32, .load none (.t 31), (some (30, false)), []⟩,
    ⟨some 33, .bin .neq (.t 32) (.c (.int .i64 4)), (some (30, false)), []⟩,
    ⟨some 34, .move (.t 33), (some (30, false)), []⟩,
    ⟨some 35, .fldAddr 2 (.t 1), (some (34, true)), []⟩,
    ⟨some 36, .load none (.t 35), (some (34, true)), []⟩,
    ⟨some 37, .bin .neq (.t 36) (.c (.int .i64 0)), (some (34, true)), []⟩,
    ⟨some 38, .pick (.t 34) (.t 37) (.c (.bool false)), (some (30, false)), []⟩,
    ⟨some 39, .pick (.t 30) (.c (.bool true)) (.t 38), none, []⟩,
    ⟨some 17, .move (.t 39), none, []⟩] none [1, 3, 17])
  (.cond (.t 17)
    (.seq (.ops [⟨some 2, .move (.c (.int .i64 1)), none, []⟩] none [2])
    (.ret))
    (.seq (.ops [⟨some 41, .fldAddr 3 (.t 3), none, []⟩,
      ⟨some 42, .load none (.t 41), none, []⟩,
      ⟨some 43, .not (.t 42), none, []⟩,
      ⟨some 44, .move (.t 43), none, []⟩,
      ⟨some 45, .fldAddr 3 (.t 1), (some (44, true)), []⟩,
      ⟨some 46, .load none (.t 45), (some (44, true)), []⟩,
      ⟨some 47, .bin .neq (.t 46) (.c (.int .i64 0)), (some (44, true)), []⟩,
      ⟨some 48, .pick (.t 44) (.t 47) (.c (.bool false)), none, []⟩,
      ⟨some 49, .move (.t 48), none, []⟩,
      ⟨some 50, .fldAddr 3 (.t 1), (some (49, false)), []⟩,
      ⟨some 51, .load none (.t 50), (some (49, false)), []⟩,
      ⟨some 52, .bin .lss (.t 51) (.c (.int .i64 (-1))), (some (49, false)), []⟩,
      ⟨some 53, .pick (.t 49) (.c (.bool true)) (.t 52), none, []⟩,
      ⟨some 54, .move (.t 53), none, []⟩,
      ⟨some 55, .fldAddr 3 (.t 1), (some (54, false)), []⟩,
      ⟨some 56, .load none (.t 55), (some (54, false)), []⟩,
      ⟨some 57, .bin .gtr (.t 56) (.c (.int .i64 1000)), (some (54, false)), []⟩,
      ⟨some 58, .pick (.t 54) (.c (.bool true)) (.t 57), none, []⟩,
      ⟨some 40, .move (.t 58), none, []⟩] none [1, 3, 40])
    (.cond (.t 40)
      (.seq (.ops [⟨some 2, .move (.c (.int .i64 1)), none, []⟩] none [2])
      (.ret))
      (.seq (.ops [⟨some 60, .fldAddr 4 (.t 3), none, []⟩,
        ⟨some 61, .load none (.t 60), none, []⟩,
        ⟨some 59, .move (.t 61), none, []⟩] none [1, 59])
      (.cond (.t 59)
        (.seq (.ops [⟨some 62, .fldAddr 4 (.t 1), none, []⟩,
          ⟨some 63, .load none (.t 62), none, []⟩,
          ⟨some 64, .call 225 [(.t 63)], none, []⟩,
          ⟨some 2, .move (.t 64), none, []⟩] none [2])
        (.ret))
        (.seq (.ops [⟨some 66, .fldAddr 4 (.t 1), none, []⟩,
          ⟨some 67, .load none (.t 66), none, []⟩,
          ⟨some 68, .len .sl (.t 67), none, []⟩,
          ⟨some 69, .bin .gtr (.t 68) (.c (.int .i64 0)), none, []⟩,
          ⟨some 65, .move (.t 69), none, []⟩] none [65])
        (.cond (.t 65)
          (.seq (.ops [⟨some 2, .move (.c (.int .i64 1)), none, []⟩] none [2])
          (.ret))
          (.skip))))))))))
(.seq (.ops [⟨some 2, .move (.c (.int .i64 0)), none, []⟩] none [2])
(.ret))))))
def f219 : SFunc := ⟨b219, [.t 2]⟩

/-- (*watchbill/prog.order).take -/
def b294 : SCode := (
.seq (.ops [⟨some 3, .box (.t 1), none, []⟩,
  ⟨some 4, .move (.c (.bool false)), none, []⟩] none [0, 3])
(.seq (.ops [⟨some 6, .move (.t 0), none, []⟩,
  ⟨some 7, .nilck (.t 6), none, []⟩,
  ⟨some 8, .fldAddr 1 (.t 7), none, []⟩,
  ⟨some 9, .load none (.t 8), none, []⟩,
  ⟨some 10, .len .sl (.t 9), none, []⟩,
  ⟨some 11, .bin .sub (.t 10) (.c (.int .i64 1)), none, []⟩,
  ⟨some 5, .move (.t 11), none, []⟩] none [0, 3, 5])
(.seq (.seq (.ops [⟨some 12, .fldAddr 0 (.t 3), none, []⟩,
  ⟨some 13, .load none (.t 12), none, []⟩] none [0, 3, 5, 13])
(.block 0 (.seq (.ops [⟨some 26, .bin .eql (.t 13) (.c (.int .i64 8)), none, []⟩,
    ⟨some 25, .move (.t 26), none, []⟩] none [0, 3, 5, 13, 25])
  (.cond (.t 25)
    (.seq (.ops [⟨some 27, .move (.t 0), none, []⟩,
      ⟨some 28, .move (.t 0), none, []⟩,
      ⟨some 29, .nilck (.t 28), none, []⟩,
      ⟨some 30, .fldAddr 1 (.t 29), none, []⟩,
      ⟨some 31, .load none (.t 30), none, []⟩,
      ⟨some 32, .move (.t 0), none, []⟩,
      ⟨some 33, .nilck (.t 32), none, []⟩,
      ⟨some 34, .fldAddr 0 (.t 33), none, []⟩,
      ⟨some 35, .load none (.t 34), none, []⟩,
      ⟨some 36, .call 55 [(.t 35)], none, [4]⟩,
      ⟨some 37, .buildSl 1 [.nils] [(0, 1, (.t 36))], none, []⟩,
      ⟨some 38, .append 1 (.t 31) (.t 37), none, []⟩,
      ⟨some 39, .nilck (.t 27), none, []⟩,
      ⟨some 40, .fldAddr 1 (.t 39), none, []⟩,
      ⟨none, .store none (.t 40) (.t 38), none, []⟩] (some [(0, []), (1, []), (2, [1]), (3, [2, 1]), (4, [3, 2, 1]), (5, []), (6, [5]), (7, [6, 5]), (8, [7, 6, 5]), (9, [8, 7, 6, 5]), (10, [9, 8, 7, 6, 5]), (11, [4, 3, 2, 1, 10, 9, 8, 7, 6, 5]), (12, [0, 1, 2, 3, 4, 5, 6, 7, 8, 9, 10, 11]), (13, [12, 0, 1, 2, 3, 4, 5, 6, 7, 8, 9, 10, 11]), (14, [13, 12, 0, 1, 2, 3, 4, 5, 6, 7, 8, 9, 10, 11])]) [0])
    (.seq (.ops [⟨some 41, .move (.t 0), none, []⟩,
      ⟨some 42, .nilck (.t 41), none, []⟩,
      ⟨some 43, .fldAddr 1 (.t 42), none, []⟩,
      ⟨some 44, .load none (.t 43), none, []⟩,
      ⟨some 45, .len .sl (.t 44), none, []⟩,
      ⟨some 46, .bin .leq (.t 45) (.c (.int .i64 3)), none, []⟩,
      ⟨some 4, .move (.t 46), none, []⟩] none [4])
    (.ret)))
    (.seq (.ops [⟨some 48, .bin .eql (.t 13) (.c (.int .i64 9)), none, []⟩,
      ⟨some 47, .move (.t 48), none, []⟩] none [0, 3, 5, 13, 47])
    (.cond (.t 47)
      (.seq (.seq (.ops [⟨some 49, .move (.t 5), none, []⟩,
        ⟨some 50, .bin .lss (.t 49) (.c (.int .i64 0)), none, []⟩,
        ⟨some 51, .move (.t 50), none, []⟩,
        ⟨some 52, .move (.t 0), (some (51, false)), []⟩,
        ⟨some 53, .nilck (.t 52), (some (51, false)), []⟩,
        ⟨some 54, .fldAddr 1 (.t 53), (some (51, false)), []⟩,
        ⟨some 55, .load none (.t 54), (some (51, false)), []⟩,
        ⟨some 56, .move (.t 5), (some (51, false)), []⟩,
        ⟨some 57, .idxAddr 1 (.t 55) (.t 56), (some (51, false)), []⟩,
        ⟨some 58, .load none (.t 57), (some (51, false)), []⟩,
        ⟨some 59, .move (.t 0), (some (51, false)), []⟩,
        ⟨some 60, .nilck (.t 59), (some (51, false)), []⟩,
        ⟨some 61, .fldAddr 0 (.t 60), (some (51, false)), []⟩,
        ⟨some 62, .load none (.t 61), (some (51, false)), []⟩,
        ⟨some 63, .call 61 [(.t 58), (.t 62)], (some (51, false)), []⟩,
        ⟨some 64, .not (.t 63), (some (51, false)), []⟩,
        ⟨some 65, .pick (.t 51) (.c (.bool true)) (.t 64), none, []⟩] (some [(0, []), (1, [0]), (2, [1, 0]), (3, [2, 1, 0]), (4, [3, 2, 1, 0]), (5, [4, 3, 2, 1, 0]), (6, [5, 4, 3, 2, 1, 0]), (7, [2, 1, 0]), (8, [6, 5, 4, 3, 2, 1, 0, 7]), (9, [8, 6, 5, 4, 3, 2, 1, 0, 7]), (10, [2, 1, 0]), (11, [10, 2, 1, 0]), (12, [11, 10, 2, 1, 0]), (13, [12, 11, 10, 2, 1, 0]), (14, [9, 8, 6, 5, 4, 3, 2, 1, 0, 7, 13, 12, 11, 10]), (15, [14, 9, 8, 6, 5, 4, 3, 2, 1, 0, 7, 13, 12, 11, 10]), (16, [2, 1, 0, 15, 14, 9, 8, 6, 5, 4, 3, 7, 13, 12, 11, 10])]) [0, 5, 65])
      (.cond (.t 65)
        (.seq (.ops [⟨some 4, .move (.c (.bool false)), none, []⟩] none [4])
        (.ret))
        (.skip)))
      (.ops [⟨some 66, .move (.t 0), none, []⟩,
        ⟨some 67, .move (.t 0), none, []⟩,
        ⟨some 68, .nilck (.t 67), none, []⟩,
        ⟨some 69, .fldAddr 1 (.t 68), none, []⟩,
        ⟨some 70, .load none (.t 69), none, []⟩,
        ⟨some 71, .move (.t 5), none, []⟩,
        ⟨some 72, .slSl 1 (.t 70) none (some (.t 71)), none, []⟩,
        ⟨some 73, .nilck (.t 66), none, []⟩,
        ⟨some 74, .fldAddr 1 (.t 73), none, []⟩,
        ⟨none, .store none (.t 74) (.t 72), none, []⟩] none []))
      (.seq (.ops [⟨some 76, .bin .eql (.t 13) (.c (.int .i64 2)), none, []⟩,
        ⟨some 75, .move (.t 76), none, []⟩] none [0, 3, 13, 75])
      (.cond (.t 75)
        (.seq (.seq (.ops [⟨some 77, .move (.t 0), none, []⟩,
          ⟨some 78, .nilck (.t 77), none, []⟩,
          ⟨some 79, .fldAddr 0 (.t 78), none, []⟩,
          ⟨some 80, .load none (.t 79), none, []⟩,
          ⟨some 81, .len .sl (.t 80), none, []⟩,
          ⟨some 82, .bin .gtr (.t 81) (.c (.int .i64 0)), none, []⟩,
          ⟨some 83, .move (.t 82), none, []⟩,
          ⟨some 84, .move (.t 0), (some (83, true)), []⟩,
          ⟨some 85, .nilck (.t 84), (some (83, true)), []⟩,
          ⟨some 86, .fldAddr 0 (.t 85), (some (83, true)), []⟩,
          ⟨some 87, .load none (.t 86), (some (83, true)), []⟩,
          ⟨some 88, .move (.t 0), (some (83, true)), []⟩,
          ⟨some 89, .nilck (.t 88), (some (83, true)), []⟩,
          ⟨some 90, .fldAddr 0 (.t 89), (some (83, true)), []⟩,
          ⟨some 91, .load none (.t 90), (some (83, true)), []⟩,
          ⟨some 92, .len .sl (.t 91), (some (83, true)), []⟩,
          ⟨some 93, .bin .sub (.t 92) (.c (.int .i64 1)), (some (83, true)), []⟩,
          ⟨some 94, .idxAddr 1 (.t 87) (.t 93), (some (83, true)), []⟩,
          ⟨some 95, .load none (.t 94), (some (83, true)), []⟩,
          ⟨some 96, .fldAddr 1 (.t 3), (some (83, true)), []⟩,
          ⟨some 97, .load none (.t 96), (some (83, true)), []⟩,
          ⟨some 98, .bin .geq (.t 95) (.t 97), (some (83, true)), []⟩,
          ⟨some 99, .pick (.t 83) (.t 98) (.c (.bool false)), none, []⟩] (some [(0, []), (1, [0]), (2, [1, 0]), (3, [2, 1, 0]), (4, [3, 2, 1, 0]), (5, [4, 3, 2, 1, 0]), (6, [5, 4, 3, 2, 1, 0]), (7, [6, 5, 4, 3, 2, 1, 0]), (8, [7, 6, 5, 4, 3, 2, 1, 0]), (9, [8, 7, 6, 5, 4, 3, 2, 1, 0]), (10, [9, 8, 7, 6, 5, 4, 3, 2, 1, 0]), (11, [6, 5, 4, 3, 2, 1, 0]), (12, [11, 6, 5, 4, 3, 2, 1, 0]), (13, [12, 11, 6, 5, 4, 3, 2, 1, 0]), (14, [13, 12, 11, 6, 5, 4, 3, 2, 1, 0]), (15, [14, 13, 12, 11, 6, 5, 4, 3, 2, 1, 0]), (16, [15, 14, 13, 12, 11, 6, 5, 4, 3, 2, 1, 0]), (17, [10, 9, 8, 7, 6, 5, 4, 3, 2, 1, 0, 16, 15, 14, 13, 12, 11]), (18, [17, 10, 9, 8, 7, 6, 5, 4, 3, 2, 1, 0, 16, 15, 14, 13, 12, 11]), (19, [6, 5, 4, 3, 2, 1, 0]), (20, [19, 6, 5, 4, 3, 2, 1, 0]), (21, [18, 17, 10, 9, 8, 7, 6, 5, 4, 3, 2, 1, 0, 16, 15, 14, 13, 12, 11, 20, 19]), (22, [6, 5, 4, 3, 2, 1, 0, 21, 18, 17, 10, 9, 8, 7, 16, 15, 14, 13, 12, 11, 20, 19])]) [0, 3, 99])
        (.cond (.t 99)
          (.seq (.ops [⟨some 4, .move (.c (.bool false)), none, []⟩] none [4])
          (.ret))
          (.skip)))
        (.ops [⟨some 100, .move (.t 0), none, []⟩,
          ⟨some 101, .move (.t 0), none, []⟩,
          ⟨some 102, .nilck (.t 101), none, []⟩,
          ⟨some 103, .fldAddr 0 (.t 102), none, []⟩,
          ⟨some 104, .load none (.t 103), none, []⟩,
          ⟨some 105, .fldAddr 1 (.t 3), none, []⟩,
          ⟨some 106, .load none (.t 105), none, []⟩,
          ⟨some 107, .buildSl 1 [(.int .i64 0)] [(0, 1, (.t 106))], none, []⟩,
          ⟨some 108, .append 1 (.t 104) (.t 107), none, []⟩,
          ⟨some 109, .nilck (.t 100), none, []⟩,
          ⟨some 110, .fldAddr 0 (.t 109), none, []⟩,
          ⟨none, .store none (.t 110) (.t 108), none, []⟩] (some [(0, []), (1, []), (2, [1]), (3, [2, 1]), (4, [3, 2, 1]), (5, []), (6, [5]), (7, [6, 5]), (8, [4, 3, 2, 1, 7, 6, 5]), (9, [0, 1, 2, 3, 4, 5, 6, 7, 8]), (10, [9, 0, 1, 2, 3, 4, 5, 6, 7, 8]), (11, [10, 9, 0, 1, 2, 3, 4, 5, 6, 7, 8])]) []))
        (.seq (.ops [⟨some 112, .bin .eql (.t 13) (.c (.int .i64 3)), none, []⟩,
          ⟨some 111, .move (.t 112), none, []⟩] none [0, 3, 111])
        (.cond (.t 111)
          (.seq (.seq (.ops [⟨some 113, .move (.t 0), none, []⟩,
            ⟨some 114, .nilck (.t 113), none, []⟩,
            ⟨some 115, .fldAddr 0 (.t 114), none, []⟩,
            ⟨some 116, .load none (.t 115), none, []⟩,
            ⟨some 117, .len .sl (.t 116), none, []⟩,
            ⟨some 118, .bin .eql (.t 117) (.c (.int .i64 0)), none, []⟩,
            ⟨some 119, .move (.t 118), none, []⟩,
            ⟨some 120, .move (.t 0), (some (119, false)), []⟩,
            ⟨some 121, .nilck (.t 120), (some (119, false)), []⟩,
            ⟨some 122, .fldAddr 0 (.t 121), (some (119, false)), []⟩,
            ⟨some 123, .load none (.t 122), (some (119, false)), []⟩,
            ⟨some 124, .move (.t 0), (some (119, false)), []⟩,
            ⟨some 125, .nilck (.t 124), (some (119, false)), []⟩,
            ⟨some 126, .fldAddr 0 (.t 125), (some (119, false)), []⟩,
            ⟨some 127, .load none (.t 126), (some (119, false)), []⟩,
            ⟨some 128, .len .sl (.t 127), (some (119, false)), []⟩,
            ⟨some 129, .bin .sub (.t 128) (.c (.int .i64 1)), (some (119, false)), []⟩,
            ⟨some 130, .idxAddr 1 (.t 123) (.t 129), (some (119, false)), []⟩,
            ⟨some 131, .load none (.t 130), (some (119, false)), []⟩,
            ⟨some 132, .fldAddr 1 (.t 3), (some (119, false)), []⟩,
            ⟨some 133, .load none (.t 132), (some (119, false)), []⟩,
            ⟨some 134, .bin .neq (.t 131) (.t 133), (some (119, false)), []⟩,
            ⟨some 135, .pick (.t 119) (.c (.bool true)) (.t 134), none, []⟩] (some [(0, []), (1, [0]), (2, [1, 0]), (3, [2, 1, 0]), (4, [3, 2, 1, 0]), (5, [4, 3, 2, 1, 0]), (6, [5, 4, 3, 2, 1, 0]), (7, [6, 5, 4, 3, 2, 1, 0]), (8, [7, 6, 5, 4, 3, 2, 1, 0]), (9, [8, 7, 6, 5, 4, 3, 2, 1, 0]), (10, [9, 8, 7, 6, 5, 4, 3, 2, 1, 0]), (11, [6, 5, 4, 3, 2, 1, 0]), (12, [11, 6, 5, 4, 3, 2, 1, 0]), (13, [12, 11, 6, 5, 4, 3, 2, 1, 0]), (14, [13, 12, 11, 6, 5, 4, 3, 2, 1, 0]), (15, [14, 13, 12, 11, 6, 5, 4, 3, 2, 1, 0]), (16, [15, 14, 13, 12, 11, 6, 5, 4, 3, 2, 1, 0]), (17, [10, 9, 8, 7, 6, 5, 4, 3, 2, 1, 0, 16, 15, 14, 13, 12, 11]), (18, [17, 10, 9, 8, 7, 6, 5, 4, 3, 2, 1, 0, 16, 15, 14, 13, 12, 11]), (19, [6, 5, 4, 3, 2, 1, 0]), (20, [19, 6, 5, 4, 3, 2, 1, 0]), (21, [18, 17, 10, 9, 8, 7, 6, 5, 4, 3, 2, 1, 0, 16, 15, 14, 13, 12, 11, 20, 19]), (22, [6, 5, 4, 3, 2, 1, 0, 21, 18, 17, 10, 9, 8, 7, 16, 15, 14, 13, 12, 11, 20, 19])]) [0, 135])
          (.cond (.t 135)
            (.seq (.ops [⟨some 4, .move (.c (.bool false)), none, []⟩] none [4])
            (.ret))
            (.skip)))
          (.ops [⟨some 136, .move (.t 0), none, []⟩,
            ⟨some 137, .move (.t 0), none, []⟩,
            ⟨some 138, .nilck (.t 137), none, []⟩,
            ⟨some 139, .fldAddr 0 (.t 138), none, []⟩,
            ⟨some 140, .load none (.t 139), none, []⟩,
            ⟨some 141, .move (.t 0), none, []⟩,
            ⟨some 142, .nilck (.t 141), none, []⟩,
            ⟨some 143, .fldAddr 0 (.t 142), none, []⟩,
            ⟨some 144, .load none (.t 143), none, []⟩,
            ⟨some 145, .len .sl (.t 144), none, []⟩,
            ⟨some 146, .bin .sub (.t 145) (.c (.int .i64 1)), none, []⟩,
            ⟨some 147, .slSl 1 (.t 140) none (some (.t 146)), none, []⟩,
            ⟨some 148, .nilck (.t 136), none, []⟩,
            ⟨some 149, .fldAddr 0 (.t 148), none, []⟩,
            ⟨none, .store none (.t 149) (.t 147), none, []⟩] (some [(0, []), (1, []), (2, [1]), (3, [2, 1]), (4, [3, 2, 1]), (5, []), (6, [5]), (7, [6, 5]), (8, [7, 6, 5]), (9, [8, 7, 6, 5]), (10, [9, 8, 7, 6, 5]), (11, [4, 3, 2, 1, 10, 9, 8, 7, 6, 5]), (12, [0, 1, 2, 3, 4, 5, 6, 7, 8, 9, 10, 11]), (13, [12, 0, 1, 2, 3, 4, 5, 6, 7, 8, 9, 10, 11]), (14, [13, 12, 0, 1, 2, 3, 4, 5, 6, 7, 8, 9, 10, 11])]) []))
          (.seq (.ops [⟨some 14, .load (some 5) (.t 3), none, []⟩,
            ⟨some 15, .call 223 [(.t 14)], none, []⟩,
            ⟨some 16, .not (.t 15), none, []⟩,
            ⟨some 17, .move (.t 16), none, []⟩,
            ⟨some 18, .move (.t 0), (some (17, false)), []⟩,
            ⟨some 19, .nilck (.t 18), (some (17, false)), []⟩,
            ⟨some 20, .fldAddr 0 (.t 19), (some (17, false)), []⟩,
            ⟨some 21, .load none (.t 20), (some (17, false)), []⟩,
            ⟨some 22, .len .sl (.t 21), (some (17, false)), []⟩,
            ⟨some 23, .bin .eql (.t 22) (.c (.int .i64 0)), (some (17, false)), []⟩,
            ⟨some 24, .pick (.t 17) (.c (.bool true)) (.t 23), none, []⟩,
            ⟨some 4, .move (.t 24), none, []⟩] none [4])
          (.ret))))))))))))
(.seq (.ops [⟨some 4, .move (.c (.bool true)), none, []⟩] none [4])
(.ret)))))
def f294 : SFunc := ⟨b294, [.t 4]⟩

/-- watchbill/prog.Steps -/
def b295 : SCode := (
.seq (.ops [⟨some 2, .move (.c (.int .i64 0)), none, []⟩] none [0])
(.seq (.ops [⟨some 3, .alloc (.int .i64 0), none, []⟩,
  ⟨none, .store none (.t 3) (.c (.int .i64 0)), none, []⟩] none [0, 3])
(.seq (.ops [⟨some 4, .move (.t 0), none, []⟩,
  ⟨some 5, .mkfn 301 [(.t 3)], none, []⟩,
  ⟨some 6, .call 297 [(.t 4), (.t 5)], none, []⟩] none [3])
(.seq (.ops [⟨some 7, .load none (.t 3), none, []⟩,
  ⟨some 2, .move (.t 7), none, []⟩] none [2])
(.ret)))))
def f295 : SFunc := ⟨b295, [.t 2]⟩

/-- watchbill/prog.each -/
def b297 : SCode := (
.seq (.ops [⟨some 8, .buildSl 1 [(.int .i64 0)] [(0, 1, (.c (.int .i64 1)))], none, []⟩,
  ⟨some 4, .move (.t 8), none, []⟩] none [0, 1, 4])
(.seq (.ops [⟨some 9, .move (.t 0), none, []⟩,
  ⟨some 10, .len .sl (.t 9), none, []⟩,
  ⟨some 11, .move (.c (.int .i64 0)), none, []⟩] none [1, 4, 9, 10, 11])
(.block 0 (.loop [1, 4, 9, 10, 11] (.seq (.ops [⟨some 12, .bin .lss (.t 11) (.t 10), none, []⟩] none [1, 4, 9, 10, 11, 12])
    (.seq (.cond (.t 12)
      (.skip)
      (.exit 0))
    (.seq (.block 1 (.seq (.ops [⟨some 13, .idxAddr 5 (.t 9) (.t 11), none, []⟩,
        ⟨some 14, .load (some 5) (.t 13), none, []⟩,
        ⟨some 6, .alloc (.agg [(.int .i64 0), (.int .i64 0), (.int .i64 0), (.int .i64 0), .nils]), none, []⟩,
        ⟨none, .store (some 5) (.t 6) (.t 14), none, []⟩] none [1, 4, 6, 9, 10, 11])
      (.seq (.ops [⟨some 15, .move (.t 4), none, []⟩,
        ⟨some 16, .move (.t 4), none, []⟩,
        ⟨some 17, .len .sl (.t 16), none, []⟩,
        ⟨some 18, .bin .sub (.t 17) (.c (.int .i64 1)), none, []⟩,
        ⟨some 19, .idxAddr 1 (.t 15) (.t 18), none, []⟩,
        ⟨some 20, .load none (.t 19), none, []⟩,
        ⟨some 7, .move (.t 20), none, []⟩] none [1, 4, 6, 7, 9, 10, 11])
      (.seq (.ops [⟨some 21, .fldAddr 0 (.t 6), none, []⟩,
        ⟨some 22, .load none (.t 21), none, []⟩] none [1, 4, 6, 7, 9, 10, 11, 22])
      (.block 2 (.seq (.ops [⟨some 28, .bin .eql (.t 22) (.c (.int .i64 8)), none, []⟩,
          ⟨some 27, .move (.t 28), none, []⟩] none [1, 4, 6, 7, 9, 10, 11, 22, 27])
        (.cond (.t 27)
          (.ops [⟨some 29, .move (.t 4), none, []⟩,
            ⟨some 30, .move (.t 7), none, []⟩,
            ⟨some 31, .fldAddr 1 (.t 6), none, []⟩,
            ⟨some 32, .load none (.t 31), none, []⟩,
            ⟨some 33, .bin .mul (.t 30) (.t 32), none, []⟩,
            ⟨some 34, .buildSl 1 [(.int .i64 0)] [(0, 1, (.t 33))], none, []⟩,
            ⟨some 35, .append 1 (.t 29) (.t 34), none, []⟩,
            ⟨some 4, .move (.t 35), none, []⟩] none [1, 4, 9, 10, 11])
          (.seq (.ops [⟨some 37, .bin .eql (.t 22) (.c (.int .i64 9)), none, []⟩,
            ⟨some 36, .move (.t 37), none, []⟩] none [1, 4, 6, 7, 9, 10, 11, 36])
          (.cond (.t 36)
            (.ops [⟨some 38, .move (.t 4), none, []⟩,
              ⟨some 39, .move (.t 4), none, []⟩,
              ⟨some 40, .len .sl (.t 39), none, []⟩,
              ⟨some 41, .bin .sub (.t 40) (.c (.int .i64 1)), none, []⟩,
              ⟨some 42, .mx [(.t 41), (.c (.int .i64 1))], none, []⟩,
              ⟨some 43, .slSl 1 (.t 38) none (some (.t 42)), none, []⟩,
              ⟨some 4, .move (.t 43), none, []⟩] none [1, 4, 9, 10, 11])
            (.ops [⟨some 23, .move (.t 1), none, []⟩,
              ⟨some 24, .load (some 5) (.t 6), none, []⟩,
              ⟨some 25, .move (.t 7), none, []⟩,
              ⟨some 26, .callv (.t 23) [(.t 24), (.t 25)], none, []⟩] none [1, 4, 9, 10, 11]))))))))))
    (.ops [⟨some 44, .bin .add (.t 11) (.c (.int .i64 1)), none, []⟩,
      ⟨some 11, .move (.t 44), none, []⟩] none [1, 4, 9, 10, 11]))))))))
def f297 : SFunc := ⟨b297, []⟩

/-- watchbill/prog.Cost$1 -/
def b296 : SCode := (
.seq (.ops [⟨some 3, .box (.t 0), none, []⟩] none [1, 2, 3])
(.seq (.ops [⟨some 5, .fldAddr 0 (.t 3), none, []⟩,
  ⟨some 6, .load none (.t 5), none, []⟩,
  ⟨some 7, .bin .eql (.t 6) (.c (.int .i64 1)), none, []⟩] none [1, 2, 3, 7])
(.cond (.t 7)
  (.ops [⟨some 8, .load none (.t 2), none, []⟩,
    ⟨some 9, .fldAddr 1 (.t 3), none, []⟩,
    ⟨some 10, .load none (.t 9), none, []⟩,
    ⟨some 11, .move (.t 1), none, []⟩,
    ⟨some 12, .bin .mul (.t 10) (.t 11), none, []⟩,
    ⟨some 13, .bin .add (.t 8) (.t 12), none, []⟩,
    ⟨none, .store none (.t 2) (.t 13), none, []⟩] none [])
  (.skip))))
def f296 : SFunc := ⟨b296, []⟩

/-- slices.ContainsFunc[[]watchbill/op.Case,watchbill/op.Case] -/
def b235 : SCode := (
.seq (.ops [⟨some 4, .move (.c (.bool false)), none, []⟩] none [0, 1])
(.seq (.ops [⟨some 5, .move (.t 0), none, []⟩,
  ⟨some 6, .move (.t 1), none, []⟩,
  ⟨some 7, .call 238 [(.t 5), (.t 6)], none, []⟩,
  ⟨some 8, .bin .geq (.t 7) (.c (.int .i64 0)), none, []⟩,
  ⟨some 4, .move (.t 8), none, []⟩] none [4])
(.ret)))
def f235 : SFunc := ⟨b235, [.t 4]⟩

/-- slices.Clone[[]watchbill/set.Chan,watchbill/set.Chan] -/
def b335 : SCode := (
.seq (.ops [⟨some 2, .move (.c .nils), none, []⟩] none [0])
(.seq (.seq (.ops [⟨some 3, .move (.t 0), none, []⟩,
  ⟨some 4, .eq false .s (.t 3) (.c .nils), none, []⟩] none [0, 4])
(.cond (.t 4)
  (.seq (.ops [⟨some 2, .move (.c .nils), none, []⟩] none [2])
  (.ret))
  (.skip)))
(.seq (.ops [⟨some 5, .buildSl 0 [] [], none, []⟩,
  ⟨some 6, .move (.t 0), none, []⟩,
  ⟨some 7, .append 2 (.t 5) (.t 6), none, []⟩,
  ⟨some 2, .move (.t 7), none, []⟩] none [2])
(.ret))))
def f335 : SFunc := ⟨b335, [.t 2]⟩

/-- slices.Clone[[]watchbill/set.Task,watchbill/set.Task] -/
def b336 : SCode := (
.seq (.ops [⟨some 2, .move (.c .nils), none, []⟩] none [0])
(.seq (.seq (.ops [⟨some 3, .move (.t 0), none, []⟩,
  ⟨some 4, .eq false .s (.t 3) (.c .nils), none, []⟩] none [0, 4])
(.cond (.t 4)
  (.seq (.ops [⟨some 2, .move (.c .nils), none, []⟩] none [2])
  (.ret))
  (.skip)))
(.seq (.ops [⟨some 5, .buildSl 0 [] [], none, []⟩,
  ⟨some 6, .move (.t 0), none, []⟩,
  ⟨some 7, .append 5 (.t 5) (.t 6), none, []⟩,
  ⟨some 2, .move (.t 7), none, []⟩] none [2])
(.ret))))
def f336 : SFunc := ⟨b336, [.t 2]⟩

/-- slices.SortStableFunc[[]int,int] -/
def b338 : SCode := (
.ops [⟨some 4, .move (.t 0), none, []⟩,
  ⟨some 5, .move (.t 0), none, []⟩,
  ⟨some 6, .len .sl (.t 5), none, []⟩,
  ⟨some 7, .move (.t 1), none, []⟩,
  ⟨some 8, .call 357 [(.t 4), (.t 6), (.t 7)], none, []⟩] none [])
def f338 : SFunc := ⟨b338, []⟩

/-- watchbill/order.Prios$1 -/
def b337 : SCode := (
.seq (.ops [⟨some 5, .move (.c (.int .i64 0)), none, []⟩] none [0, 1, 2])
(.seq (.ops [⟨some 6, .fldAddr 2 (.t 2), none, []⟩,
  ⟨some 7, .load none (.t 6), none, []⟩,
  ⟨some 8, .move (.t 0), none, []⟩,
  ⟨some 9, .idxAddr 5 (.t 7) (.t 8), none, []⟩,
  ⟨some 10, .fldAddr 2 (.t 9), none, []⟩,
  ⟨some 11, .load none (.t 10), none, []⟩,
  ⟨some 12, .fldAddr 2 (.t 2), none, []⟩,
  ⟨some 13, .load none (.t 12), none, []⟩,
  ⟨some 14, .move (.t 1), none, []⟩,
  ⟨some 15, .idxAddr 5 (.t 13) (.t 14), none, []⟩,
  ⟨some 16, .fldAddr 2 (.t 15), none, []⟩,
  ⟨some 17, .load none (.t 16), none, []⟩,
  ⟨some 18, .call 358 [(.t 11), (.t 17)], none, []⟩,
  ⟨some 5, .move (.t 18), none, []⟩] (some [(0, []), (1, [0]), (2, []), (3, [1, 0, 2]), (4, [3, 1, 0, 2]), (5, [4, 3, 1, 0, 2]), (6, []), (7, [6]), (8, []), (9, [7, 6, 8]), (10, [9, 7, 6, 8]), (11, [10, 9, 7, 6, 8]), (12, [5, 4, 3, 1, 0, 2, 11, 10, 9, 7, 6, 8]), (13, [12, 5, 4, 3, 1, 0, 2, 11, 10, 9, 7, 6, 8])]) [5])
(.ret)))
def f337 : SFunc := ⟨b337, [.t 5]⟩

/-- cmp.Compare[int64] -/
def b358 : SCode := (
.seq (.ops [⟨some 4, .move (.c (.int .i64 0)), none, []⟩] none [0, 1])
(.seq (.ops [⟨some 7, .move (.t 0), none, []⟩,
  ⟨some 8, .call 359 [(.t 7)], none, []⟩,
  ⟨some 5, .move (.t 8), none, []⟩] none [0, 1, 5])
(.seq (.ops [⟨some 9, .move (.t 1), none, []⟩,
  ⟨some 10, .call 359 [(.t 9)], none, []⟩,
  ⟨some 6, .move (.t 10), none, []⟩] none [0, 1, 5, 6])
(.seq (.seq (.ops [⟨some 11, .move (.t 5), none, []⟩] none [0, 1, 6, 11])
(.cond (.t 11)
  (.seq (.seq (.ops [⟨some 12, .move (.t 6), none, []⟩] none [12])
  (.cond (.t 12)
    (.seq (.ops [⟨some 4, .move (.c (.int .i64 0)), none, []⟩] none [4])
    (.ret))
    (.skip)))
  (.seq (.ops [⟨some 4, .move (.c (.int .i64 (-1))), none, []⟩] none [4])
  (.ret)))
  (.skip)))
(.seq (.seq (.ops [⟨some 13, .move (.t 6), none, []⟩] none [0, 1, 13])
(.cond (.t 13)
  (.seq (.ops [⟨some 4, .move (.c (.int .i64 1)), none, []⟩] none [4])
  (.ret))
  (.skip)))
(.seq (.seq (.ops [⟨some 14, .move (.t 0), none, []⟩,
  ⟨some 15, .move (.t 1), none, []⟩,
  ⟨some 16, .bin .lss (.t 14) (.t 15), none, []⟩] none [0, 1, 16])
(.cond (.t 16)
  (.seq (.ops [⟨some 4, .move (.c (.int .i64 (-1))), none, []⟩] none [4])
  (.ret))
  (.skip)))
(.seq (.seq (.ops [⟨some 17, .move (.t 0), none, []⟩,
  ⟨some 18, .move (.t 1), none, []⟩,
  ⟨some 19, .bin .gtr (.t 17) (.t 18), none, []⟩] none [19])
(.cond (.t 19)
  (.seq (.ops [⟨some 4, .move (.c (.int .i64 1)), none, []⟩] none [4])
  (.ret))
  (.skip)))
(.seq (.ops [⟨some 4, .move (.c (.int .i64 0)), none, []⟩] none [4])
(.ret)))))))))
def f358 : SFunc := ⟨b358, [.t 4]⟩

end Go.Cl.S
