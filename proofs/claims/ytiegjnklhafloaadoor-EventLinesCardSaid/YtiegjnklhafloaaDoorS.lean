/-
  The functions' clean texts, printed by a program out of the loaded ones.
-/
import Derived.Test.YtiegjnklhafloaaDoorM1
namespace Go.Cl.S
open Go Go.Cl

/-- watchbill/watchbilllaw4.WordAny -/
def b88 : SCode := (
.seq (.ops [⟨some 2, .move (.c (.bool false)), none, []⟩] none [0])
(.seq (.seq (.ops [⟨some 15, .call 89 [], none, []⟩,
  ⟨some 16, .not (.t 15), none, []⟩] none [0, 16])
(.cond (.t 16)
  (.seq (.ops [⟨some 2, .move (.c (.bool false)), none, []⟩] none [2])
  (.ret))
  (.skip)))
(.seq (.seq (.ops [⟨some 17, .move (.t 0), none, []⟩,
  ⟨some 18, .len .str (.t 17), none, []⟩,
  ⟨some 19, .bin .gtr (.t 18) (.c (.int .i64 400)), none, []⟩] none [0, 19])
(.cond (.t 19)
  (.seq (.ops [⟨some 2, .move (.c (.bool true)), none, []⟩] none [2])
  (.ret))
  (.skip)))
(.seq (.ops [⟨some 21, .move (.t 0), none, []⟩,
  ⟨some 22, .call 90 [(.t 21)], none, []⟩,
  ⟨some 20, .move (.t 22), none, []⟩,
  ⟨some 23, .ext 0 (.t 20), none, []⟩,
  ⟨some 24, .ext 1 (.t 20), none, []⟩,
  ⟨some 3, .move (.t 23), none, []⟩,
  ⟨some 4, .move (.t 24), none, []⟩] none [0, 3, 4])
(.seq (.ops [⟨some 26, .move (.t 0), none, []⟩,
  ⟨some 27, .call 91 [(.t 26)], none, []⟩,
  ⟨some 25, .move (.t 27), none, []⟩,
  ⟨some 28, .ext 0 (.t 25), none, []⟩,
  ⟨some 29, .ext 1 (.t 25), none, []⟩,
  ⟨some 5, .move (.t 28), none, []⟩,
  ⟨some 6, .move (.t 29), none, []⟩] none [0, 3, 4, 5, 6])
(.seq (.ops [⟨some 31, .move (.t 0), none, []⟩,
  ⟨some 32, .call 92 [(.t 31)], none, []⟩,
  ⟨some 30, .move (.t 32), none, []⟩,
  ⟨some 33, .ext 0 (.t 30), none, []⟩,
  ⟨some 34, .ext 1 (.t 30), none, []⟩,
  ⟨some 7, .move (.t 33), none, []⟩,
  ⟨some 8, .move (.t 34), none, []⟩] none [0, 3, 4, 5, 6, 7, 8])
(.seq (.ops [⟨some 36, .move (.t 0), none, []⟩,
  ⟨some 37, .call 93 [(.t 36)], none, []⟩,
  ⟨some 35, .move (.t 37), none, []⟩,
  ⟨some 38, .ext 0 (.t 35), none, []⟩,
  ⟨some 39, .ext 1 (.t 35), none, []⟩,
  ⟨some 9, .move (.t 38), none, []⟩,
  ⟨some 10, .move (.t 39), none, []⟩] none [0, 3, 4, 5, 6, 7, 8, 9, 10])
(.seq (.ops [⟨some 41, .move (.t 0), none, []⟩,
  ⟨some 42, .call 94 [(.t 41)], none, []⟩,
  ⟨some 40, .move (.t 42), none, []⟩,
  ⟨some 43, .ext 0 (.t 40), none, []⟩,
  ⟨some 44, .ext 1 (.t 40), none, []⟩,
  ⟨some 11, .move (.t 43), none, []⟩,
  ⟨some 12, .move (.t 44), none, []⟩] none [0, 3, 4, 5, 6, 7, 8, 9, 10, 11, 12])
(.seq (.ops [⟨some 46, .move (.t 0), none, []⟩,
  ⟨some 47, .call 95 [(.t 46)], none, []⟩,
  ⟨some 45, .move (.t 47), none, []⟩,
  ⟨some 48, .ext 0 (.t 45), none, []⟩,
  ⟨some 49, .ext 1 (.t 45), none, []⟩,
  ⟨some 13, .move (.t 48), none, []⟩,
  ⟨some 14, .move (.t 49), none, []⟩] none [0, 3, 4, 5, 6, 7, 8, 9, 10, 11, 12, 13, 14])
(.seq (.seq (.ops [⟨some 50, .move (.t 4), none, []⟩,
  ⟨some 51, .move (.t 6), none, []⟩,
  ⟨some 52, .bin .neq (.t 50) (.t 51), none, []⟩,
  ⟨some 53, .move (.t 52), none, []⟩,
  ⟨some 54, .move (.t 3), (some (53, false)), []⟩,
  ⟨some 55, .move (.t 5), (some (53, false)), []⟩,
  ⟨some 56, .call 96 [(.t 54), (.t 55)], (some (53, false)), []⟩,
  ⟨some 57, .not (.t 56), (some (53, false)), []⟩,
  ⟨some 58, .pick (.t 53) (.c (.bool true)) (.t 57), none, []⟩,
  ⟨some 59, .move (.t 58), none, []⟩,
  ⟨some 60, .move (.t 8), (some (59, false)), []⟩,
  ⟨some 61, .move (.t 10), (some (59, false)), []⟩,
  ⟨some 62, .bin .neq (.t 60) (.t 61), (some (59, false)), []⟩,
  ⟨some 63, .pick (.t 59) (.c (.bool true)) (.t 62), none, []⟩,
  ⟨some 64, .move (.t 63), none, []⟩,
  ⟨some 65, .move (.t 7), (some (64, false)), []⟩,
  ⟨some 66, .move (.t 9), (some (64, false)), []⟩,
  ⟨some 67, .call 96 [(.t 65), (.t 66)], (some (64, false)), []⟩,
  ⟨some 68, .not (.t 67), (some (64, false)), []⟩,
  ⟨some 69, .pick (.t 64) (.c (.bool true)) (.t 68), none, []⟩,
  ⟨some 70, .move (.t 69), none, []⟩,
  ⟨some 71, .move (.t 12), (some (70, false)), []⟩,
  ⟨some 72, .move (.t 14), (some (70, false)), []⟩,
  ⟨some 73, .bin .neq (.t 71) (.t 72), (some (70, false)), []⟩,
  ⟨some 74, .pick (.t 70) (.c (.bool true)) (.t 73), none, []⟩,
  ⟨some 75, .move (.t 74), none, []⟩,
  ⟨some 76, .move (.t 11), (some (75, false)), []⟩,
  ⟨some 77, .move (.t 13), (some (75, false)), []⟩,
  ⟨some 78, .bin .neq (.t 76) (.t 77), (some (75, false)), []⟩,
  ⟨some 79, .pick (.t 75) (.c (.bool true)) (.t 78), none, []⟩,
  ⟨some 80, .move (.t 79), none, []⟩,
  ⟨some 81, .move (.t 0), (some (80, false)), []⟩,
  ⟨some 82, .call 97 [(.t 81)], (some (80, false)), []⟩,
  ⟨some 83, .move (.t 0), (some (80, false)), []⟩,
  ⟨some 84, .call 98 [(.t 83)], (some (80, false)), []⟩,
  ⟨some 85, .eq true .b (.t 82) (.t 84), (some (80, false)), []⟩,
  ⟨some 86, .pick (.t 80) (.c (.bool true)) (.t 85), none, []⟩] none [0, 11, 14, 86])
(.cond (.t 86)
  (.seq (.ops [⟨some 2, .move (.c (.bool false)), none, []⟩] none [2])
  (.ret))
  (.skip)))
(.seq (.ops [⟨some 87, .move (.t 14), none, []⟩,
  ⟨some 88, .bin .neq (.t 87) (.c (.int .i64 0)), none, []⟩,
  ⟨some 89, .move (.t 88), none, []⟩,
  ⟨some 90, .move (.t 11), (some (89, false)), []⟩,
  ⟨some 91, .call 99 [(.t 90)], (some (89, false)), []⟩,
  ⟨some 92, .move (.t 0), (some (89, false)), []⟩,
  ⟨some 93, .bin .eql (.t 91) (.t 92), (some (89, false)), []⟩,
  ⟨some 94, .pick (.t 89) (.c (.bool true)) (.t 93), none, []⟩,
  ⟨some 2, .move (.t 94), none, []⟩] none [2])
(.ret))))))))))))
def f88 : SFunc := ⟨b88, [.t 2]⟩

/-- watchbill/watchbilllaw4.WordNumbers -/
def b100 : SCode := (
.seq (.ops [⟨some 2, .move (.c (.bool false)), none, []⟩] none [0])
(.seq (.seq (.ops [⟨some 6, .call 89 [], none, []⟩,
  ⟨some 7, .not (.t 6), none, []⟩] none [0, 7])
(.cond (.t 7)
  (.seq (.ops [⟨some 2, .move (.c (.bool false)), none, []⟩] none [2])
  (.ret))
  (.skip)))
(.seq (.ops [⟨some 8, .move (.t 0), none, []⟩,
  ⟨some 9, .call 99 [(.t 8)], none, []⟩,
  ⟨some 3, .move (.t 9), none, []⟩] none [0, 3])
(.seq (.ops [⟨some 11, .move (.t 3), none, []⟩,
  ⟨some 12, .call 94 [(.t 11)], none, []⟩,
  ⟨some 10, .move (.t 12), none, []⟩,
  ⟨some 13, .ext 0 (.t 10), none, []⟩,
  ⟨some 14, .ext 1 (.t 10), none, []⟩,
  ⟨some 4, .move (.t 13), none, []⟩,
  ⟨some 5, .move (.t 14), none, []⟩] none [0, 3, 4, 5])
(.seq (.ops [⟨some 15, .move (.t 3), none, []⟩,
  ⟨some 16, .move (.t 0), none, []⟩,
  ⟨some 17, .call 101 [(.t 16)], none, []⟩,
  ⟨some 18, .bin .eql (.t 15) (.t 17), none, []⟩,
  ⟨some 19, .move (.t 18), none, []⟩,
  ⟨some 20, .move (.t 5), (some (19, true)), []⟩,
  ⟨some 21, .bin .eql (.t 20) (.c (.int .i64 0)), (some (19, true)), []⟩,
  ⟨some 22, .pick (.t 19) (.t 21) (.c (.bool false)), none, []⟩,
  ⟨some 23, .move (.t 22), none, []⟩,
  ⟨some 24, .move (.t 4), (some (23, true)), []⟩,
  ⟨some 25, .move (.t 0), (some (23, true)), []⟩,
  ⟨some 26, .bin .eql (.t 24) (.t 25), (some (23, true)), []⟩,
  ⟨some 27, .pick (.t 23) (.t 26) (.c (.bool false)), none, []⟩,
  ⟨some 28, .move (.t 27), none, []⟩,
  ⟨some 29, .move (.t 3), (some (28, true)), []⟩,
  ⟨some 30, .len .str (.t 29), (some (28, true)), []⟩,
  ⟨some 31, .bin .geq (.t 30) (.c (.int .i64 1)), (some (28, true)), []⟩,
  ⟨some 32, .pick (.t 28) (.t 31) (.c (.bool false)), none, []⟩,
  ⟨some 33, .move (.t 32), none, []⟩,
  ⟨some 34, .move (.t 3), (some (33, true)), []⟩,
  ⟨some 35, .len .str (.t 34), (some (33, true)), []⟩,
  ⟨some 36, .bin .leq (.t 35) (.c (.int .i64 20)), (some (33, true)), []⟩,
  ⟨some 37, .pick (.t 33) (.t 36) (.c (.bool false)), none, []⟩,
  ⟨some 2, .move (.t 37), none, []⟩] none [2])
(.ret))))))
def f100 : SFunc := ⟨b100, [.t 2]⟩

/-- watchbill/watchbilllaw4.WordJoins -/
def b102 : SCode := (
.seq (.ops [⟨some 2, .move (.c (.bool false)), none, []⟩] none [0])
(.seq (.seq (.ops [⟨some 12, .call 89 [], none, []⟩,
  ⟨some 13, .not (.t 12), none, []⟩] none [0, 13])
(.cond (.t 13)
  (.seq (.ops [⟨some 2, .move (.c (.bool false)), none, []⟩] none [2])
  (.ret))
  (.skip)))
(.seq (.seq (.ops [⟨some 14, .move (.t 0), none, []⟩,
  ⟨some 15, .len .sl (.t 14), none, []⟩,
  ⟨some 16, .bin .gtr (.t 15) (.c (.int .i64 30)), none, []⟩] none [0, 16])
(.cond (.t 16)
  (.seq (.ops [⟨some 2, .move (.c (.bool true)), none, []⟩] none [2])
  (.ret))
  (.skip)))
(.seq (.ops [⟨some 3, .move (.c (.str [])), none, []⟩,
  ⟨some 4, .move (.c (.str [])), none, []⟩] none [0, 3, 4])
(.seq (.ops [⟨some 5, .move (.c (.bool true)), none, []⟩] none [0, 3, 4, 5])
(.seq (.seq (.ops [⟨some 6, .move (.c (.int .i64 0)), none, []⟩] none [0, 3, 4, 5, 6])
(.block 0 (.loop [0, 3, 4, 5, 6] (.seq (.seq (.ops [⟨some 17, .move (.t 6), none, []⟩,
      ⟨some 18, .move (.t 0), none, []⟩,
      ⟨some 19, .len .sl (.t 18), none, []⟩,
      ⟨some 20, .bin .lss (.t 17) (.t 19), none, []⟩] none [0, 3, 4, 5, 6, 20])
    (.cond (.t 20)
      (.skip)
      (.exit 0)))
    (.seq (.block 1 (.seq (.seq (.ops [⟨some 23, .move (.t 0), none, []⟩,
        ⟨some 24, .move (.t 6), none, []⟩,
        ⟨some 25, .idxAddr 1 (.t 23) (.t 24), none, []⟩,
        ⟨some 26, .load none (.t 25), none, []⟩,
        ⟨some 27, .len .str (.t 26), none, []⟩,
        ⟨some 28, .bin .gtr (.t 27) (.c (.int .i64 60)), none, []⟩] none [0, 3, 4, 5, 6, 28])
      (.cond (.t 28)
        (.seq (.ops [⟨some 2, .move (.c (.bool true)), none, []⟩] none [2])
        (.ret))
        (.skip)))
      (.seq (.seq (.ops [⟨some 29, .move (.t 6), none, []⟩,
        ⟨some 30, .bin .gtr (.t 29) (.c (.int .i64 0)), none, []⟩] none [0, 3, 4, 5, 6, 30])
      (.cond (.t 30)
        (.ops [⟨some 31, .move (.t 3), none, []⟩,
          ⟨some 32, .bin .add (.t 31) (.c (.str [32])), none, []⟩,
          ⟨some 3, .move (.t 32), none, []⟩] none [0, 3, 4, 5, 6])
        (.skip)))
      (.seq (.ops [⟨some 33, .move (.t 3), none, []⟩,
        ⟨some 34, .move (.t 0), none, []⟩,
        ⟨some 35, .move (.t 6), none, []⟩,
        ⟨some 36, .idxAddr 1 (.t 34) (.t 35), none, []⟩,
        ⟨some 37, .load none (.t 36), none, []⟩,
        ⟨some 38, .bin .add (.t 33) (.t 37), none, []⟩,
        ⟨some 3, .move (.t 38), none, []⟩] none [0, 3, 4, 5, 6])
      (.seq (.ops [⟨some 39, .move (.t 4), none, []⟩,
        ⟨some 40, .move (.t 0), none, []⟩,
        ⟨some 41, .move (.t 6), none, []⟩,
        ⟨some 42, .idxAddr 1 (.t 40) (.t 41), none, []⟩,
        ⟨some 43, .load none (.t 42), none, []⟩,
        ⟨some 44, .bin .add (.t 39) (.t 43), none, []⟩,
        ⟨some 45, .bin .add (.t 44) (.c (.str [10])), none, []⟩,
        ⟨some 4, .move (.t 45), none, []⟩] none [0, 3, 4, 5, 6])
      (.seq (.ops [⟨some 46, .move (.t 5), none, []⟩,
        ⟨some 47, .move (.t 46), none, []⟩,
        ⟨some 48, .move (.t 0), (some (47, true)), []⟩,
        ⟨some 49, .move (.t 6), (some (47, true)), []⟩,
        ⟨some 50, .idxAddr 1 (.t 48) (.t 49), (some (47, true)), []⟩,
        ⟨some 51, .load none (.t 50), (some (47, true)), []⟩,
        ⟨some 52, .bin .neq (.t 51) (.c (.str [])), (some (47, true)), []⟩,
        ⟨some 53, .pick (.t 47) (.t 52) (.c (.bool false)), none, []⟩,
        ⟨some 5, .move (.t 53), none, []⟩] none [0, 3, 4, 5, 6])
      (.seq (.ops [⟨some 7, .move (.c (.int .i64 0)), none, []⟩] none [0, 3, 4, 5, 6, 7])
      (.block 2 (.loop [0, 3, 4, 5, 6, 7] (.seq (.seq (.ops [⟨some 54, .move (.t 7), none, []⟩,
            ⟨some 55, .move (.t 0), none, []⟩,
            ⟨some 56, .move (.t 6), none, []⟩,
            ⟨some 57, .idxAddr 1 (.t 55) (.t 56), none, []⟩,
            ⟨some 58, .load none (.t 57), none, []⟩,
            ⟨some 59, .len .str (.t 58), none, []⟩,
            ⟨some 60, .bin .lss (.t 54) (.t 59), none, []⟩] none [0, 3, 4, 5, 6, 7, 60])
          (.cond (.t 60)
            (.skip)
            (.exit 2)))
          (.seq (.block 3 (.ops [⟨some 63, .move (.t 5), none, []⟩,
              ⟨some 64, .move (.t 63), none, []⟩,
              ⟨some 65, .move (.t 0), (some (64, true)), []⟩,
              ⟨some 66, .move (.t 6), (some (64, true)), []⟩,
              ⟨some 67, .idxAddr 1 (.t 65) (.t 66), (some (64, true)), []⟩,
              ⟨some 68, .load none (.t 67), (some (64, true)), []⟩,
              ⟨some 69, .move (.t 7), (some (64, true)), []⟩,
              ⟨some 70, .idxStr (.t 68) (.t 69), (some (64, true)), []⟩,
              ⟨some 71, .bin .gtr (.t 70) (.c (.int .u8 32)), (some (64, true)), []⟩,
              ⟨some 72, .pick (.t 64) (.t 71) (.c (.bool false)), none, []⟩,
              ⟨some 73, .move (.t 72), none, []⟩,
              ⟨some 74, .move (.t 0), (some (73, true)), []⟩,
              ⟨some 75, .move (.t 6), (some (73, true)), []⟩,
              ⟨some 76, .idxAddr 1 (.t 74) (.t 75), (some (73, true)), []⟩,
              ⟨some 77, .load none (.t 76), (some (73, true)), []⟩,
              ⟨some 78, .move (.t 7), (some (73, true)), []⟩,
              ⟨some 79, .idxStr (.t 77) (.t 78), (some (73, true)), []⟩,
              ⟨some 80, .bin .lss (.t 79) (.c (.int .u8 127)), (some (73, true)), []⟩,
              ⟨some 81, .pick (.t 73) (.t 80) (.c (.bool false)), none, []⟩,
              ⟨some 5, .move (.t 81), none, []⟩] none [0, 3, 4, 5, 6, 7]))
          (.ops [⟨some 61, .move (.t 7), none, []⟩,
            ⟨some 62, .bin .add (.t 61) (.c (.int .i64 1)), none, []⟩,
            ⟨some 7, .move (.t 62), none, []⟩] none [0, 3, 4, 5, 6, 7]))))))))))))
    (.ops [⟨some 21, .move (.t 6), none, []⟩,
      ⟨some 22, .bin .add (.t 21) (.c (.int .i64 1)), none, []⟩,
      ⟨some 6, .move (.t 22), none, []⟩] none [0, 3, 4, 5, 6]))))))
(.seq (.seq (.ops [⟨some 82, .move (.t 5), none, []⟩,
  ⟨some 83, .not (.t 82), none, []⟩] none [0, 3, 4, 83])
(.cond (.t 83)
  (.seq (.ops [⟨some 2, .move (.c (.bool true)), none, []⟩] none [2])
  (.ret))
  (.skip)))
(.seq (.ops [⟨some 85, .move (.t 3), none, []⟩,
  ⟨some 86, .call 92 [(.t 85)], none, []⟩,
  ⟨some 84, .move (.t 86), none, []⟩,
  ⟨some 87, .ext 0 (.t 84), none, []⟩,
  ⟨some 88, .ext 1 (.t 84), none, []⟩,
  ⟨some 8, .move (.t 87), none, []⟩,
  ⟨some 9, .move (.t 88), none, []⟩] none [0, 4, 8, 9])
(.seq (.ops [⟨some 90, .move (.t 4), none, []⟩,
  ⟨some 91, .call 90 [(.t 90)], none, []⟩,
  ⟨some 89, .move (.t 91), none, []⟩,
  ⟨some 92, .ext 0 (.t 89), none, []⟩,
  ⟨some 93, .ext 1 (.t 89), none, []⟩,
  ⟨some 10, .move (.t 92), none, []⟩,
  ⟨some 11, .move (.t 93), none, []⟩] none [0, 8, 9, 10, 11])
(.seq (.ops [⟨some 94, .move (.t 9), none, []⟩,
  ⟨some 95, .move (.t 11), none, []⟩,
  ⟨some 96, .bin .add (.t 94) (.t 95), none, []⟩,
  ⟨some 97, .bin .eql (.t 96) (.c (.int .i64 0)), none, []⟩,
  ⟨some 98, .move (.t 97), none, []⟩,
  ⟨some 99, .move (.t 8), (some (98, true)), []⟩,
  ⟨some 100, .move (.t 0), (some (98, true)), []⟩,
  ⟨some 101, .call 96 [(.t 99), (.t 100)], (some (98, true)), []⟩,
  ⟨some 102, .pick (.t 98) (.t 101) (.c (.bool false)), none, []⟩,
  ⟨some 103, .move (.t 102), none, []⟩,
  ⟨some 104, .move (.t 10), (some (103, true)), []⟩,
  ⟨some 105, .move (.t 0), (some (103, true)), []⟩,
  ⟨some 106, .call 96 [(.t 104), (.t 105)], (some (103, true)), []⟩,
  ⟨some 107, .pick (.t 103) (.t 106) (.c (.bool false)), none, []⟩,
  ⟨some 2, .move (.t 107), none, []⟩] none [2])
(.ret)))))))))))
def f102 : SFunc := ⟨b102, [.t 2]⟩

/-- watchbill/watchbilllaw4.WordEnds -/
def b103 : SCode := (
.seq (.ops [⟨some 2, .move (.c (.bool false)), none, []⟩] none [0])
(.seq (.seq (.ops [⟨some 11, .call 89 [], none, []⟩,
  ⟨some 12, .not (.t 11), none, []⟩] none [0, 12])
(.cond (.t 12)
  (.seq (.ops [⟨some 2, .move (.c (.bool false)), none, []⟩] none [2])
  (.ret))
  (.skip)))
(.seq (.seq (.ops [⟨some 13, .move (.t 0), none, []⟩,
  ⟨some 14, .len .str (.t 13), none, []⟩,
  ⟨some 15, .bin .gtr (.t 14) (.c (.int .i64 300)), none, []⟩] none [0, 15])
(.cond (.t 15)
  (.seq (.ops [⟨some 2, .move (.c (.bool true)), none, []⟩] none [2])
  (.ret))
  (.skip)))
(.seq (.ops [⟨some 17, .move (.t 0), none, []⟩,
  ⟨some 18, .call 90 [(.t 17)], none, []⟩,
  ⟨some 16, .move (.t 18), none, []⟩,
  ⟨some 19, .ext 0 (.t 16), none, []⟩,
  ⟨some 20, .ext 1 (.t 16), none, []⟩,
  ⟨some 3, .move (.t 19), none, []⟩,
  ⟨some 4, .move (.t 20), none, []⟩] none [0, 3, 4])
(.seq (.seq (.ops [⟨some 21, .move (.t 4), none, []⟩,
  ⟨some 22, .bin .neq (.t 21) (.c (.int .i64 0)), none, []⟩] none [0, 3, 4, 22])
(.cond (.t 22)
  (.seq (.ops [⟨some 23, .move (.t 4), none, []⟩,
    ⟨some 24, .bin .eql (.t 23) (.c (.int .i64 2)), none, []⟩,
    ⟨some 25, .move (.t 24), none, []⟩,
    ⟨some 26, .move (.t 3), (some (25, true)), []⟩,
    ⟨some 27, .len .sl (.t 26), (some (25, true)), []⟩,
    ⟨some 28, .bin .eql (.t 27) (.c (.int .i64 0)), (some (25, true)), []⟩,
    ⟨some 29, .pick (.t 25) (.t 28) (.c (.bool false)), none, []⟩,
    ⟨some 30, .move (.t 29), none, []⟩,
    ⟨some 31, .move (.t 0), (some (30, true)), []⟩,
    ⟨some 32, .bin .neq (.t 31) (.c (.str [])), (some (30, true)), []⟩,
    ⟨some 33, .pick (.t 30) (.t 32) (.c (.bool false)), none, []⟩,
    ⟨some 34, .move (.t 33), none, []⟩,
    ⟨some 35, .move (.t 0), (some (34, true)), []⟩,
    ⟨some 36, .move (.t 0), (some (34, true)), []⟩,
    ⟨some 37, .len .str (.t 36), (some (34, true)), []⟩,
    ⟨some 38, .bin .sub (.t 37) (.c (.int .i64 1)), (some (34, true)), []⟩,
    ⟨some 39, .idxStr (.t 35) (.t 38), (some (34, true)), []⟩,
    ⟨some 40, .bin .neq (.t 39) (.c (.int .u8 10)), (some (34, true)), []⟩,
    ⟨some 41, .pick (.t 34) (.t 40) (.c (.bool false)), none, []⟩,
    ⟨some 2, .move (.t 41), none, []⟩] none [2])
  (.ret))
  (.skip)))
(.seq (.ops [⟨some 5, .move (.c (.str [])), none, []⟩] none [0, 3, 5])
(.seq (.seq (.ops [⟨some 6, .move (.c (.int .i64 0)), none, []⟩] none [0, 3, 5, 6])
(.block 0 (.loop [0, 3, 5, 6] (.seq (.seq (.ops [⟨some 42, .move (.t 6), none, []⟩,
      ⟨some 43, .move (.t 3), none, []⟩,
      ⟨some 44, .len .sl (.t 43), none, []⟩,
      ⟨some 45, .bin .lss (.t 42) (.t 44), none, []⟩] none [0, 3, 5, 6, 45])
    (.cond (.t 45)
      (.skip)
      (.exit 0)))
    (.seq (.block 1 (.seq (.ops [⟨some 48, .move (.t 5), none, []⟩,
        ⟨some 49, .move (.t 3), none, []⟩,
        ⟨some 50, .move (.t 6), none, []⟩,
        ⟨some 51, .idxAddr 1 (.t 49) (.t 50), none, []⟩,
        ⟨some 52, .load none (.t 51), none, []⟩,
        ⟨some 53, .bin .add (.t 48) (.t 52), none, []⟩,
        ⟨some 54, .bin .add (.t 53) (.c (.str [10])), none, []⟩,
        ⟨some 5, .move (.t 54), none, []⟩] none [0, 3, 5, 6])
      (.seq (.ops [⟨some 56, .move (.t 3), none, []⟩,
        ⟨some 57, .move (.t 6), none, []⟩,
        ⟨some 58, .idxAddr 1 (.t 56) (.t 57), none, []⟩,
        ⟨some 59, .load none (.t 58), none, []⟩,
        ⟨some 60, .call 92 [(.t 59)], none, []⟩,
        ⟨some 55, .move (.t 60), none, []⟩,
        ⟨some 61, .ext 0 (.t 55), none, []⟩,
        ⟨some 62, .ext 1 (.t 55), none, []⟩,
        ⟨some 7, .move (.t 61), none, []⟩,
        ⟨some 8, .move (.t 62), none, []⟩] none [0, 3, 5, 6, 7, 8])
      (.seq (.seq (.ops [⟨some 63, .move (.t 8), none, []⟩,
        ⟨some 64, .bin .neq (.t 63) (.c (.int .i64 0)), none, []⟩] none [0, 3, 5, 6, 7, 64])
      (.cond (.t 64)
        (.exit 1)
        (.skip)))
      (.seq (.ops [⟨some 9, .move (.c (.str [])), none, []⟩] none [0, 3, 5, 6, 7, 9])
      (.seq (.seq (.ops [⟨some 10, .move (.c (.int .i64 0)), none, []⟩] none [0, 3, 5, 6, 7, 9, 10])
      (.block 2 (.loop [0, 3, 5, 6, 7, 9, 10] (.seq (.seq (.ops [⟨some 65, .move (.t 10), none, []⟩,
            ⟨some 66, .move (.t 7), none, []⟩,
            ⟨some 67, .len .sl (.t 66), none, []⟩,
            ⟨some 68, .bin .lss (.t 65) (.t 67), none, []⟩] none [0, 3, 5, 6, 7, 9, 10, 68])
          (.cond (.t 68)
            (.skip)
            (.exit 2)))
          (.seq (.block 3 (.seq (.seq (.ops [⟨some 71, .move (.t 10), none, []⟩,
              ⟨some 72, .bin .gtr (.t 71) (.c (.int .i64 0)), none, []⟩] none [0, 3, 5, 6, 7, 9, 10, 72])
            (.cond (.t 72)
              (.ops [⟨some 73, .move (.t 9), none, []⟩,
                ⟨some 74, .bin .add (.t 73) (.c (.str [32])), none, []⟩,
                ⟨some 9, .move (.t 74), none, []⟩] none [0, 3, 5, 6, 7, 9, 10])
              (.skip)))
            (.ops [⟨some 75, .move (.t 9), none, []⟩,
              ⟨some 76, .move (.t 7), none, []⟩,
              ⟨some 77, .move (.t 10), none, []⟩,
              ⟨some 78, .idxAddr 1 (.t 76) (.t 77), none, []⟩,
              ⟨some 79, .load none (.t 78), none, []⟩,
              ⟨some 80, .bin .add (.t 75) (.t 79), none, []⟩,
              ⟨some 9, .move (.t 80), none, []⟩] none [0, 3, 5, 6, 7, 9, 10])))
          (.ops [⟨some 69, .move (.t 10), none, []⟩,
            ⟨some 70, .bin .add (.t 69) (.c (.int .i64 1)), none, []⟩,
            ⟨some 10, .move (.t 70), none, []⟩] none [0, 3, 5, 6, 7, 9, 10]))))))
      (.seq (.ops [⟨some 81, .move (.t 9), none, []⟩,
        ⟨some 82, .move (.t 3), none, []⟩,
        ⟨some 83, .move (.t 6), none, []⟩,
        ⟨some 84, .idxAddr 1 (.t 82) (.t 83), none, []⟩,
        ⟨some 85, .load none (.t 84), none, []⟩,
        ⟨some 86, .bin .neq (.t 81) (.t 85), none, []⟩] none [0, 3, 5, 6, 86])
      (.cond (.t 86)
        (.seq (.ops [⟨some 2, .move (.c (.bool false)), none, []⟩] none [2])
        (.ret))
        (.skip)))))))))
    (.ops [⟨some 46, .move (.t 6), none, []⟩,
      ⟨some 47, .bin .add (.t 46) (.c (.int .i64 1)), none, []⟩,
      ⟨some 6, .move (.t 47), none, []⟩] none [0, 3, 5, 6]))))))
(.seq (.ops [⟨some 87, .move (.t 5), none, []⟩,
  ⟨some 88, .move (.t 0), none, []⟩,
  ⟨some 89, .bin .eql (.t 87) (.t 88), none, []⟩,
  ⟨some 2, .move (.t 89), none, []⟩] none [2])
(.ret)))))))))
def f103 : SFunc := ⟨b103, [.t 2]⟩

/-- watchbill/watchbilllaw4.WordOrder -/
def b104 : SCode := (
.seq (.ops [⟨some 4, .move (.c (.bool false)), none, []⟩] none [0, 1])
(.seq (.seq (.ops [⟨some 8, .call 89 [], none, []⟩,
  ⟨some 9, .not (.t 8), none, []⟩] none [0, 1, 9])
(.cond (.t 9)
  (.seq (.ops [⟨some 4, .move (.c (.bool false)), none, []⟩] none [4])
  (.ret))
  (.skip)))
(.seq (.seq (.ops [⟨some 10, .move (.t 0), none, []⟩,
  ⟨some 11, .bin .lss (.t 10) (.c (.int .i64 0)), none, []⟩,
  ⟨some 12, .move (.t 11), none, []⟩,
  ⟨some 13, .move (.t 1), (some (12, false)), []⟩,
  ⟨some 14, .bin .lss (.t 13) (.c (.int .i64 0)), (some (12, false)), []⟩,
  ⟨some 15, .pick (.t 12) (.c (.bool true)) (.t 14), none, []⟩] none [0, 1, 15])
(.cond (.t 15)
  (.seq (.ops [⟨some 16, .move (.t 0), none, []⟩,
    ⟨some 17, .call 99 [(.t 16)], none, []⟩,
    ⟨some 5, .move (.t 17), none, []⟩] none [0, 5])
  (.seq (.ops [⟨some 18, .move (.t 5), none, []⟩,
    ⟨some 19, .len .str (.t 18), none, []⟩,
    ⟨some 20, .bin .gtr (.t 19) (.c (.int .i64 0)), none, []⟩,
    ⟨some 21, .move (.t 20), none, []⟩,
    ⟨some 22, .move (.t 0), (some (21, true)), []⟩,
    ⟨some 23, .bin .lss (.t 22) (.c (.int .i64 0)), (some (21, true)), []⟩,
    ⟨some 24, .move (.t 5), (some (21, true)), []⟩,
    ⟨some 25, .slStr (.t 24) none (some (.c (.int .i64 1))), (some (21, true)), []⟩,
    ⟨some 26, .bin .eql (.t 25) (.c (.str [45])), (some (21, true)), []⟩,
    ⟨some 27, .eq false .b (.t 23) (.t 26), (some (21, true)), []⟩,
    ⟨some 28, .pick (.t 21) (.t 27) (.c (.bool false)), none, []⟩,
    ⟨some 4, .move (.t 28), none, []⟩] none [4])
  (.ret)))
  (.skip)))
(.seq (.ops [⟨some 29, .move (.t 0), none, []⟩,
  ⟨some 30, .call 99 [(.t 29)], none, []⟩,
  ⟨some 31, .move (.t 1), none, []⟩,
  ⟨some 32, .call 99 [(.t 31)], none, []⟩,
  ⟨some 6, .move (.t 30), none, []⟩,
  ⟨some 7, .move (.t 32), none, []⟩] none [0, 1, 6, 7])
(.seq (.seq (.ops [⟨some 33, .move (.t 6), none, []⟩,
  ⟨some 34, .len .str (.t 33), none, []⟩,
  ⟨some 35, .move (.t 7), none, []⟩,
  ⟨some 36, .len .str (.t 35), none, []⟩,
  ⟨some 37, .bin .neq (.t 34) (.t 36), none, []⟩] none [0, 1, 6, 7, 37])
(.cond (.t 37)
  (.seq (.ops [⟨some 38, .move (.t 6), none, []⟩,
    ⟨some 39, .len .str (.t 38), none, []⟩,
    ⟨some 40, .move (.t 7), none, []⟩,
    ⟨some 41, .len .str (.t 40), none, []⟩,
    ⟨some 42, .bin .lss (.t 39) (.t 41), none, []⟩,
    ⟨some 43, .move (.t 0), none, []⟩,
    ⟨some 44, .move (.t 1), none, []⟩,
    ⟨some 45, .bin .lss (.t 43) (.t 44), none, []⟩,
    ⟨some 46, .eq false .b (.t 42) (.t 45), none, []⟩,
    ⟨some 4, .move (.t 46), none, []⟩] none [4])
  (.ret))
  (.skip)))
(.seq (.ops [⟨some 47, .move (.t 6), none, []⟩,
  ⟨some 48, .move (.t 7), none, []⟩,
  ⟨some 49, .bin .lss (.t 47) (.t 48), none, []⟩,
  ⟨some 50, .move (.t 0), none, []⟩,
  ⟨some 51, .move (.t 1), none, []⟩,
  ⟨some 52, .bin .lss (.t 50) (.t 51), none, []⟩,
  ⟨some 53, .eq false .b (.t 49) (.t 52), none, []⟩,
  ⟨some 54, .move (.t 53), none, []⟩,
  ⟨some 55, .move (.t 6), (some (54, true)), []⟩,
  ⟨some 56, .move (.t 7), (some (54, true)), []⟩,
  ⟨some 57, .bin .eql (.t 55) (.t 56), (some (54, true)), []⟩,
  ⟨some 58, .move (.t 0), (some (54, true)), []⟩,
  ⟨some 59, .move (.t 1), (some (54, true)), []⟩,
  ⟨some 60, .bin .eql (.t 58) (.t 59), (some (54, true)), []⟩,
  ⟨some 61, .eq false .b (.t 57) (.t 60), (some (54, true)), []⟩,
  ⟨some 62, .pick (.t 54) (.t 61) (.c (.bool false)), none, []⟩,
  ⟨some 4, .move (.t 62), none, []⟩] none [4])
(.ret)))))))
def f104 : SFunc := ⟨b104, [.t 4]⟩

/-- watchbill/watchbilllaw4.WordNames -/
def b105 : SCode := (
.seq (.ops [⟨some 6, .move (.c (.bool false)), none, []⟩] none [0, 1, 2])
(.seq (.seq (.ops [⟨some 10, .call 89 [], none, []⟩,
  ⟨some 11, .not (.t 10), none, []⟩] none [0, 1, 2, 11])
(.cond (.t 11)
  (.seq (.ops [⟨some 6, .move (.c (.bool false)), none, []⟩] none [6])
  (.ret))
  (.skip)))
(.seq (.ops [⟨some 12, .move (.t 0), none, []⟩,
  ⟨some 13, .bin .rem (.t 12) (.c (.int .u8 11)), none, []⟩,
  ⟨some 14, .conv .i64 (.t 13), none, []⟩,
  ⟨some 7, .move (.t 14), none, []⟩] none [1, 2, 7])
(.seq (.ops [⟨some 15, .move (.t 7), none, []⟩,
  ⟨some 16, .mksl [(.int .u8 0)] (.t 15) (.t 15), none, []⟩,
  ⟨some 8, .move (.t 16), none, []⟩] none [1, 2, 7, 8])
(.seq (.seq (.ops [⟨some 9, .move (.c (.int .i64 0)), none, []⟩] none [1, 2, 7, 8, 9])
(.block 0 (.loop [1, 2, 7, 8, 9] (.seq (.seq (.ops [⟨some 17, .move (.t 9), none, []⟩,
      ⟨some 18, .move (.t 7), none, []⟩,
      ⟨some 19, .bin .lss (.t 17) (.t 18), none, []⟩] none [1, 2, 7, 8, 9, 19])
    (.cond (.t 19)
      (.skip)
      (.exit 0)))
    (.seq (.block 1 (.ops [⟨some 22, .move (.t 8), none, []⟩,
        ⟨some 23, .move (.t 9), none, []⟩,
        ⟨some 24, .move (.t 9), none, []⟩,
        ⟨some 25, .bin .add (.c (.int .i64 97)) (.t 24), none, []⟩,
        ⟨some 26, .conv .u8 (.t 25), none, []⟩,
        ⟨some 27, .idxAddr 1 (.t 22) (.t 23), none, []⟩,
        ⟨none, .store none (.t 27) (.t 26), none, []⟩] none [1, 2, 7, 8, 9]))
    (.ops [⟨some 20, .move (.t 9), none, []⟩,
      ⟨some 21, .bin .add (.t 20) (.c (.int .i64 1)), none, []⟩,
      ⟨some 9, .move (.t 21), none, []⟩] none [1, 2, 7, 8, 9]))))))
(.seq (.seq (.ops [⟨some 28, .move (.t 8), none, []⟩,
  ⟨some 29, .toStr (.t 28), none, []⟩,
  ⟨some 30, .call 97 [(.t 29)], none, []⟩,
  ⟨some 31, .move (.t 7), none, []⟩,
  ⟨some 32, .bin .geq (.t 31) (.c (.int .i64 1)), none, []⟩,
  ⟨some 33, .move (.t 32), none, []⟩,
  ⟨some 34, .move (.t 7), (some (33, true)), []⟩,
  ⟨some 35, .bin .leq (.t 34) (.c (.int .i64 8)), (some (33, true)), []⟩,
  ⟨some 36, .pick (.t 33) (.t 35) (.c (.bool false)), none, []⟩,
  ⟨some 37, .eq true .b (.t 30) (.t 36), none, []⟩] none [1, 2, 7, 8, 37])
(.cond (.t 37)
  (.seq (.ops [⟨some 6, .move (.c (.bool false)), none, []⟩] none [6])
  (.ret))
  (.skip)))
(.seq (.seq (.ops [⟨some 38, .move (.t 7), none, []⟩,
  ⟨some 39, .bin .lss (.t 38) (.c (.int .i64 1)), none, []⟩,
  ⟨some 40, .move (.t 39), none, []⟩,
  ⟨some 41, .move (.t 7), (some (40, false)), []⟩,
  ⟨some 42, .bin .gtr (.t 41) (.c (.int .i64 8)), (some (40, false)), []⟩,
  ⟨some 43, .pick (.t 40) (.c (.bool true)) (.t 42), none, []⟩] none [1, 2, 7, 8, 43])
(.cond (.t 43)
  (.seq (.ops [⟨some 6, .move (.c (.bool true)), none, []⟩] none [6])
  (.ret))
  (.skip)))
(.seq (.ops [⟨some 44, .move (.t 8), none, []⟩,
  ⟨some 45, .move (.t 2), none, []⟩,
  ⟨some 46, .conv .i64 (.t 45), none, []⟩,
  ⟨some 47, .move (.t 7), none, []⟩,
  ⟨some 48, .bin .rem (.t 46) (.t 47), none, []⟩,
  ⟨some 49, .move (.t 1), none, []⟩,
  ⟨some 50, .idxAddr 1 (.t 44) (.t 48), none, []⟩,
  ⟨none, .store none (.t 50) (.t 49), none, []⟩] none [1, 8])
(.seq (.ops [⟨some 51, .move (.t 8), none, []⟩,
  ⟨some 52, .toStr (.t 51), none, []⟩,
  ⟨some 53, .call 97 [(.t 52)], none, []⟩,
  ⟨some 54, .move (.t 1), none, []⟩,
  ⟨some 55, .bin .geq (.t 54) (.c (.int .u8 97)), none, []⟩,
  ⟨some 56, .move (.t 55), none, []⟩,
  ⟨some 57, .move (.t 1), (some (56, true)), []⟩,
  ⟨some 58, .bin .leq (.t 57) (.c (.int .u8 122)), (some (56, true)), []⟩,
  ⟨some 59, .pick (.t 56) (.t 58) (.c (.bool false)), none, []⟩,
  ⟨some 60, .eq false .b (.t 53) (.t 59), none, []⟩,
  ⟨some 6, .move (.t 60), none, []⟩] none [6])
(.ret))))))))))
def f105 : SFunc := ⟨b105, [.t 6]⟩

/-- watchbill/watchbilllaw21.EventAny -/
def b106 : SCode := (
.seq (.ops [⟨some 1, .box (.t 0), none, []⟩,
  ⟨some 2, .move (.c (.bool false)), none, []⟩] none [1])
(.seq (.seq (.ops [⟨some 7, .call 107 [], none, []⟩,
  ⟨some 8, .not (.t 7), none, []⟩] none [1, 8])
(.cond (.t 8)
  (.seq (.ops [⟨some 2, .move (.c (.bool false)), none, []⟩] none [2])
  (.ret))
  (.skip)))
(.seq (.ops [⟨some 9, .load (some 7) (.t 1), none, []⟩,
  ⟨some 10, .call 108 [(.t 9)], none, []⟩,
  ⟨some 3, .alloc (.agg [(.int .i64 0), (.int .i64 0), (.int .i64 0), (.int .i64 0), (.int .i64 0), (.int .i64 0), (.int .i64 0)]), none, []⟩,
  ⟨none, .store (some 7) (.t 3) (.t 10), none, []⟩] none [1, 3])
(.seq (.seq (.ops [⟨some 11, .load (some 7) (.t 3), none, []⟩,
  ⟨some 13, .load (some 7) (.t 1), none, []⟩,
  ⟨some 12, .call 109 [(.t 11)], none, [1]⟩,
  ⟨some 14, .call 110 [(.t 13)], none, []⟩,
  ⟨some 15, .bin .neq (.t 12) (.t 14), none, []⟩] (some [(0, []), (2, []), (1, [0]), (3, [1, 2, 0]), (4, [2, 0, 3, 1])]) [1, 3, 15])
(.cond (.t 15)
  (.seq (.ops [⟨some 2, .move (.c (.bool false)), none, []⟩] none [2])
  (.ret))
  (.skip)))
(.seq (.seq (.ops [⟨some 16, .load (some 7) (.t 1), none, []⟩,
  ⟨some 17, .call 110 [(.t 16)], none, []⟩,
  ⟨some 18, .bin .neq (.t 17) (.c (.int .i64 0)), none, []⟩,
  ⟨some 19, .move (.t 18), none, []⟩,
  ⟨some 20, .fldAddr 2 (.t 1), (some (19, false)), []⟩,
  ⟨some 21, .load none (.t 20), (some (19, false)), []⟩,
  ⟨some 22, .bin .lss (.t 21) (.c (.int .i64 (-2147483648))), (some (19, false)), []⟩,
  ⟨some 23, .pick (.t 19) (.c (.bool true)) (.t 22), none, []⟩,
  ⟨some 24, .move (.t 23), none, []⟩,
  ⟨some 25, .fldAddr 2 (.t 1), (some (24, false)), []⟩,
  ⟨some 26, .load none (.t 25), (some (24, false)), []⟩,
  ⟨some 27, .bin .gtr (.t 26) (.c (.int .i64 2147483647)), (some (24, false)), []⟩,
  ⟨some 28, .pick (.t 24) (.c (.bool true)) (.t 27), none, []⟩,
  ⟨some 29, .move (.t 28), none, []⟩,
  ⟨some 30, .fldAddr 3 (.t 1), (some (29, false)), []⟩,
  ⟨some 31, .load none (.t 30), (some (29, false)), []⟩,
  ⟨some 32, .bin .gtr (.t 31) (.c (.int .i64 2147483647)), (some (29, false)), []⟩,
  ⟨some 33, .pick (.t 29) (.c (.bool true)) (.t 32), none, []⟩,
  ⟨some 34, .move (.t 33), none, []⟩,
  ⟨some 35, .fldAddr 5 (.t 1), (some (34, false)), []⟩,
  ⟨some 36, .load none (.t 35), (some (34, false)), []⟩,
  ⟨some 37, .bin .gtr (.t 36) (.c (.int .i64 2147483647)), (some (34, false)), []⟩,
  ⟨some 38, .pick (.t 34) (.c (.bool true)) (.t 37), none, []⟩] none [1, 3, 38])
(.cond (.t 38)
  (.seq (.ops [⟨some 2, .move (.c (.bool true)), none, []⟩] none [2])
  (.ret))
  (.skip)))
(.seq (.ops [⟨some 39, .load (some 7) (.t 3), none, []⟩,
  ⟨some 40, .call 111 [(.t 39)], none, []⟩,
  ⟨some 4, .move (.t 40), none, []⟩] none [1, 3, 4])
(.seq (.ops [⟨some 42, .move (.t 4), none, []⟩,
  ⟨some 43, .call 112 [(.t 42)], none, []⟩,
  ⟨some 41, .move (.t 43), none, []⟩,
  ⟨some 44, .ext 0 (.t 41), none, []⟩,
  ⟨some 45, .ext 1 (.t 41), none, []⟩,
  ⟨some 5, .alloc (.agg [(.int .i64 0), (.int .i64 0), (.int .i64 0), (.int .i64 0), (.int .i64 0), (.int .i64 0), (.int .i64 0)]), none, []⟩,
  ⟨none, .store (some 7) (.t 5) (.t 44), none, []⟩,
  ⟨some 6, .move (.t 45), none, []⟩] none [1, 3, 4, 5, 6])
(.seq (.ops [⟨some 46, .move (.t 4), none, []⟩,
  ⟨some 47, .load (some 7) (.t 1), none, []⟩,
  ⟨some 48, .call 113 [(.t 47)], none, []⟩,
  ⟨some 49, .bin .eql (.t 46) (.t 48), none, []⟩,
  ⟨some 50, .move (.t 49), none, []⟩,
  ⟨some 51, .move (.t 6), (some (50, true)), []⟩,
  ⟨some 52, .bin .eql (.t 51) (.c (.int .i64 0)), (some (50, true)), []⟩,
  ⟨some 53, .pick (.t 50) (.t 52) (.c (.bool false)), none, []⟩,
  ⟨some 54, .move (.t 53), none, []⟩,
  ⟨some 55, .load (some 7) (.t 5), (some (54, true)), []⟩,
  ⟨some 56, .load (some 7) (.t 3), (some (54, true)), []⟩,
  ⟨some 57, .eq false (.st [.i, .i, .i, .i, .i, .i, .i]) (.t 55) (.t 56), (some (54, true)), []⟩,
  ⟨some 58, .pick (.t 54) (.t 57) (.c (.bool false)), none, []⟩,
  ⟨some 59, .move (.t 58), none, []⟩,
  ⟨some 60, .load (some 7) (.t 3), (some (59, true)), []⟩,
  ⟨some 61, .load (some 7) (.t 3), (some (59, true)), []⟩,
  ⟨some 62, .buildSl 2 [(.int .i64 0), (.int .i64 0), (.int .i64 0), (.int .i64 0), (.int .i64 0), (.int .i64 0), (.int .i64 0), (.int .i64 0), (.int .i64 0), (.int .i64 0), (.int .i64 0), (.int .i64 0), (.int .i64 0), (.int .i64 0)] [(0, 7, (.t 60)), (7, 7, (.t 61))], (some (59, true)), []⟩,
  ⟨some 63, .call 114 [(.t 62)], (some (59, true)), []⟩,
  ⟨some 64, .move (.t 4), (some (59, true)), []⟩,
  ⟨some 65, .bin .add (.t 64) (.c (.str [10])), (some (59, true)), []⟩,
  ⟨some 66, .move (.t 4), (some (59, true)), []⟩,
  ⟨some 67, .bin .add (.t 65) (.t 66), (some (59, true)), []⟩,
  ⟨some 68, .bin .add (.t 67) (.c (.str [10])), (some (59, true)), []⟩,
  ⟨some 69, .bin .eql (.t 63) (.t 68), (some (59, true)), []⟩,
  ⟨some 70, .pick (.t 59) (.t 69) (.c (.bool false)), none, []⟩,
  ⟨some 2, .move (.t 70), none, []⟩] none [2])
(.ret)))))))))
def f106 : SFunc := ⟨b106, [.t 2]⟩

/-- watchbill/watchbilllaw21.EventReads -/
def b115 : SCode := (
.seq (.ops [⟨some 2, .move (.c (.bool false)), none, []⟩] none [0])
(.seq (.seq (.ops [⟨some 7, .call 107 [], none, []⟩,
  ⟨some 8, .not (.t 7), none, []⟩] none [0, 8])
(.cond (.t 8)
  (.seq (.ops [⟨some 2, .move (.c (.bool false)), none, []⟩] none [2])
  (.ret))
  (.skip)))
(.seq (.seq (.ops [⟨some 9, .move (.t 0), none, []⟩,
  ⟨some 10, .len .str (.t 9), none, []⟩,
  ⟨some 11, .bin .gtr (.t 10) (.c (.int .i64 300)), none, []⟩] none [0, 11])
(.cond (.t 11)
  (.seq (.ops [⟨some 2, .move (.c (.bool true)), none, []⟩] none [2])
  (.ret))
  (.skip)))
(.seq (.ops [⟨some 13, .move (.t 0), none, []⟩,
  ⟨some 14, .call 112 [(.t 13)], none, []⟩,
  ⟨some 12, .move (.t 14), none, []⟩,
  ⟨some 15, .ext 0 (.t 12), none, []⟩,
  ⟨some 16, .ext 1 (.t 12), none, []⟩,
  ⟨some 3, .alloc (.agg [(.int .i64 0), (.int .i64 0), (.int .i64 0), (.int .i64 0), (.int .i64 0), (.int .i64 0), (.int .i64 0)]), none, []⟩,
  ⟨none, .store (some 7) (.t 3) (.t 15), none, []⟩,
  ⟨some 4, .move (.t 16), none, []⟩] none [0, 3, 4])
(.seq (.ops [⟨some 18, .move (.t 0), none, []⟩,
  ⟨some 19, .call 116 [(.t 18)], none, []⟩,
  ⟨some 17, .move (.t 19), none, []⟩,
  ⟨some 20, .ext 0 (.t 17), none, []⟩,
  ⟨some 21, .ext 1 (.t 17), none, []⟩,
  ⟨some 5, .alloc (.agg [(.int .i64 0), (.int .i64 0), (.int .i64 0), (.int .i64 0), (.int .i64 0), (.int .i64 0), (.int .i64 0)]), none, []⟩,
  ⟨none, .store (some 7) (.t 5) (.t 20), none, []⟩,
  ⟨some 6, .move (.t 21), none, []⟩] none [0, 3, 4, 5, 6])
(.seq (.seq (.ops [⟨some 22, .move (.t 4), none, []⟩,
  ⟨some 23, .move (.t 6), none, []⟩,
  ⟨some 24, .bin .neq (.t 22) (.t 23), none, []⟩,
  ⟨some 25, .move (.t 24), none, []⟩,
  ⟨some 26, .load (some 7) (.t 3), (some (25, false)), []⟩,
  ⟨some 28, .load (some 7) (.t 5), (some (25, false)), []⟩,
  ⟨some 27, .call 117 [(.t 26)], (some (25, false)), [5]⟩,
  ⟨some 29, .eq true (.st [.i, .i, .i, .i, .i, .i, .i]) (.t 27) (.t 28), (some (25, false)), []⟩,
  ⟨some 30, .pick (.t 25) (.c (.bool true)) (.t 29), none, []⟩] (some [(0, []), (1, []), (2, [0, 1]), (3, [2, 0, 1]), (4, [3, 2, 0, 1]), (6, [3, 2, 0, 1]), (5, [4, 3, 2, 0, 1]), (7, [6, 4, 3, 2, 0, 1, 5]), (8, [3, 2, 0, 1, 7, 6, 4, 5])]) [0, 3, 6, 30])
(.cond (.t 30)
  (.seq (.ops [⟨some 2, .move (.c (.bool false)), none, []⟩] none [2])
  (.ret))
  (.skip)))
(.seq (.ops [⟨some 31, .move (.t 6), none, []⟩,
  ⟨some 32, .bin .neq (.t 31) (.c (.int .i64 0)), none, []⟩,
  ⟨some 33, .move (.t 32), none, []⟩,
  ⟨some 34, .load (some 7) (.t 3), (some (33, false)), []⟩,
  ⟨some 35, .call 111 [(.t 34)], (some (33, false)), []⟩,
  ⟨some 36, .move (.t 0), (some (33, false)), []⟩,
  ⟨some 37, .bin .eql (.t 35) (.t 36), (some (33, false)), []⟩,
  ⟨some 38, .move (.t 37), (some (33, false)), []⟩,
  ⟨some 39, .load (some 7) (.t 3), (some (38, true)), []⟩,
  ⟨some 40, .call 109 [(.t 39)], (some (38, true)), []⟩,
  ⟨some 41, .bin .eql (.t 40) (.c (.int .i64 0)), (some (38, true)), []⟩,
  ⟨some 42, .pick (.t 38) (.t 41) (.c (.bool false)), (some (33, false)), []⟩,
  ⟨some 43, .pick (.t 33) (.c (.bool true)) (.t 42), none, []⟩,
  ⟨some 2, .move (.t 43), none, []⟩] none [2])
(.ret))))))))
def f115 : SFunc := ⟨b115, [.t 2]⟩

/-- watchbill/watchbilllaw21.EventFields -/
def b118 : SCode := (
.seq (.ops [⟨some 4, .move (.c (.bool false)), none, []⟩] none [0, 1])
(.seq (.seq (.ops [⟨some 8, .call 107 [], none, []⟩,
  ⟨some 9, .not (.t 8), none, []⟩] none [0, 1, 9])
(.cond (.t 9)
  (.seq (.ops [⟨some 4, .move (.c (.bool false)), none, []⟩] none [4])
  (.ret))
  (.skip)))
(.seq (.ops [⟨some 10, .move (.t 0), none, []⟩,
  ⟨some 11, .bin .rem (.t 10) (.c (.int .u8 8)), none, []⟩,
  ⟨some 12, .conv .i64 (.t 11), none, []⟩,
  ⟨some 13, .bin .add (.c (.int .i64 1)) (.t 12), none, []⟩,
  ⟨some 5, .move (.t 13), none, []⟩] none [1, 5])
(.seq (.ops [⟨some 14, .move (.t 5), none, []⟩,
  ⟨some 15, .build [(.int .i64 0), (.int .i64 0), (.int .i64 0), (.int .i64 0), (.int .i64 0), (.int .i64 0), (.int .i64 0)] [(0, 1, (.c (.int .i64 5))), (1, 1, (.t 14))], none, []⟩,
  ⟨some 6, .alloc (.agg [(.int .i64 0), (.int .i64 0), (.int .i64 0), (.int .i64 0), (.int .i64 0), (.int .i64 0), (.int .i64 0)]), none, []⟩,
  ⟨none, .store (some 7) (.t 6) (.t 15), none, []⟩] none [1, 5, 6])
(.seq (.seq (.ops [⟨some 16, .move (.t 5), none, []⟩,
  ⟨some 17, .bin .eql (.t 16) (.c (.int .i64 2)), none, []⟩] none [1, 5, 6, 17])
(.cond (.t 17)
  (.ops [⟨some 18, .fldAddr 4 (.t 6), none, []⟩,
    ⟨none, .store none (.t 18) (.c (.int .i64 10)), none, []⟩] none [1, 5, 6])
  (.skip)))
(.seq (.seq (.ops [⟨some 19, .load (some 7) (.t 6), none, []⟩,
  ⟨some 20, .call 109 [(.t 19)], none, []⟩,
  ⟨some 21, .bin .neq (.t 20) (.c (.int .i64 0)), none, []⟩] none [1, 5, 6, 21])
(.cond (.t 21)
  (.seq (.ops [⟨some 4, .move (.c (.bool false)), none, []⟩] none [4])
  (.ret))
  (.skip)))
(.seq (.ops [⟨some 7, .move (.c (.bool true)), none, []⟩] none [1, 5, 6, 7])
(.seq (.seq (.ops [⟨some 22, .move (.t 1), none, []⟩,
  ⟨some 23, .bin .rem (.t 22) (.c (.int .u8 5)), none, []⟩] none [5, 6, 7, 23])
(.block 0 (.seq (.ops [⟨some 25, .bin .eql (.t 23) (.c (.int .u8 0)), none, []⟩,
    ⟨some 24, .move (.t 25), none, []⟩] none [5, 6, 7, 23, 24])
  (.cond (.t 24)
    (.seq (.ops [⟨some 26, .fldAddr 2 (.t 6), none, []⟩,
      ⟨none, .store none (.t 26) (.c (.int .i64 3)), none, []⟩] none [5, 6])
    (.ops [⟨some 27, .move (.t 5), none, []⟩,
      ⟨some 28, .bin .neq (.t 27) (.c (.int .i64 8)), none, []⟩,
      ⟨some 7, .move (.t 28), none, []⟩] none [6, 7]))
    (.seq (.ops [⟨some 30, .bin .eql (.t 23) (.c (.int .u8 1)), none, []⟩,
      ⟨some 29, .move (.t 30), none, []⟩] none [5, 6, 7, 23, 29])
    (.cond (.t 29)
      (.seq (.ops [⟨some 31, .fldAddr 3 (.t 6), none, []⟩,
        ⟨none, .store none (.t 31) (.c (.int .i64 3)), none, []⟩] none [5, 6])
      (.ops [⟨some 32, .move (.t 5), none, []⟩,
        ⟨some 33, .bin .eql (.t 32) (.c (.int .i64 4)), none, []⟩,
        ⟨some 34, .move (.t 33), none, []⟩,
        ⟨some 35, .move (.t 5), (some (34, false)), []⟩,
        ⟨some 36, .bin .eql (.t 35) (.c (.int .i64 5)), (some (34, false)), []⟩,
        ⟨some 37, .pick (.t 34) (.c (.bool true)) (.t 36), none, []⟩,
        ⟨some 7, .move (.t 37), none, []⟩] none [6, 7]))
      (.seq (.ops [⟨some 39, .bin .eql (.t 23) (.c (.int .u8 2)), none, []⟩,
        ⟨some 38, .move (.t 39), none, []⟩] none [5, 6, 7, 23, 38])
      (.cond (.t 38)
        (.seq (.ops [⟨some 40, .fldAddr 4 (.t 6), none, []⟩,
          ⟨none, .store none (.t 40) (.c (.int .i64 9)), none, []⟩] none [5, 6])
        (.ops [⟨some 41, .move (.t 5), none, []⟩,
          ⟨some 42, .bin .eql (.t 41) (.c (.int .i64 2)), none, []⟩,
          ⟨some 43, .move (.t 42), none, []⟩,
          ⟨some 44, .move (.t 5), (some (43, false)), []⟩,
          ⟨some 45, .bin .eql (.t 44) (.c (.int .i64 4)), (some (43, false)), []⟩,
          ⟨some 46, .pick (.t 43) (.c (.bool true)) (.t 45), none, []⟩,
          ⟨some 7, .move (.t 46), none, []⟩] none [6, 7]))
        (.seq (.ops [⟨some 48, .bin .eql (.t 23) (.c (.int .u8 3)), none, []⟩,
          ⟨some 47, .move (.t 48), none, []⟩] none [5, 6, 7, 23, 47])
        (.cond (.t 47)
          (.seq (.ops [⟨some 49, .fldAddr 5 (.t 6), none, []⟩,
            ⟨none, .store none (.t 49) (.c (.int .i64 1)), none, []⟩] none [5, 6])
          (.ops [⟨some 50, .move (.t 5), none, []⟩,
            ⟨some 51, .bin .eql (.t 50) (.c (.int .i64 4)), none, []⟩,
            ⟨some 7, .move (.t 51), none, []⟩] none [6, 7]))
          (.seq (.ops [⟨some 53, .bin .eql (.t 23) (.c (.int .u8 4)), none, []⟩,
            ⟨some 52, .move (.t 53), none, []⟩] none [5, 6, 7, 52])
          (.cond (.t 52)
            (.seq (.ops [⟨some 54, .fldAddr 6 (.t 6), none, []⟩,
              ⟨none, .store none (.t 54) (.c (.int .i64 1)), none, []⟩] none [5, 6])
            (.ops [⟨some 55, .move (.t 5), none, []⟩,
              ⟨some 56, .bin .eql (.t 55) (.c (.int .i64 4)), none, []⟩,
              ⟨some 7, .move (.t 56), none, []⟩] none [6, 7]))
            (.skip)))))))))))))
(.seq (.ops [⟨some 57, .load (some 7) (.t 6), none, []⟩,
  ⟨some 58, .call 109 [(.t 57)], none, []⟩,
  ⟨some 59, .bin .eql (.t 58) (.c (.int .i64 0)), none, []⟩,
  ⟨some 60, .move (.t 7), none, []⟩,
  ⟨some 61, .eq false .b (.t 59) (.t 60), none, []⟩,
  ⟨some 62, .move (.t 61), none, []⟩,
  ⟨some 63, .move (.t 7), (some (62, true)), []⟩,
  ⟨some 64, .move (.t 63), (some (62, true)), []⟩,
  ⟨some 65, .load (some 7) (.t 6), (some (64, false)), []⟩,
  ⟨some 66, .call 109 [(.t 65)], (some (64, false)), []⟩,
  ⟨some 67, .bin .eql (.t 66) (.c (.int .i64 1)), (some (64, false)), []⟩,
  ⟨some 68, .pick (.t 64) (.c (.bool true)) (.t 67), (some (62, true)), []⟩,
  ⟨some 69, .pick (.t 62) (.t 68) (.c (.bool false)), none, []⟩,
  ⟨some 4, .move (.t 69), none, []⟩] none [4])
(.ret))))))))))
def f118 : SFunc := ⟨b118, [.t 4]⟩

/-- watchbill/watchbilllaw21.EventApart -/
def b119 : SCode := (
.seq (.ops [⟨some 2, .box (.t 0), none, []⟩,
  ⟨some 3, .box (.t 1), none, []⟩,
  ⟨some 4, .move (.c (.bool false)), none, []⟩] none [2, 3])
(.seq (.seq (.ops [⟨some 5, .call 107 [], none, []⟩,
  ⟨some 6, .not (.t 5), none, []⟩] none [2, 3, 6])
(.cond (.t 6)
  (.seq (.ops [⟨some 4, .move (.c (.bool false)), none, []⟩] none [4])
  (.ret))
  (.skip)))
(.seq (.seq (.ops [⟨some 7, .load (some 7) (.t 2), none, []⟩,
  ⟨some 8, .call 110 [(.t 7)], none, []⟩,
  ⟨some 9, .bin .neq (.t 8) (.c (.int .i64 0)), none, []⟩,
  ⟨some 10, .move (.t 9), none, []⟩,
  ⟨some 11, .load (some 7) (.t 3), (some (10, false)), []⟩,
  ⟨some 12, .call 110 [(.t 11)], (some (10, false)), []⟩,
  ⟨some 13, .bin .neq (.t 12) (.c (.int .i64 0)), (some (10, false)), []⟩,
  ⟨some 14, .pick (.t 10) (.c (.bool true)) (.t 13), none, []⟩] none [2, 3, 14])
(.cond (.t 14)
  (.seq (.ops [⟨some 4, .move (.c (.bool true)), none, []⟩] none [4])
  (.ret))
  (.skip)))
(.seq (.ops [⟨some 15, .load (some 7) (.t 2), none, []⟩,
  ⟨some 18, .load (some 7) (.t 3), none, []⟩,
  ⟨some 22, .load (some 7) (.t 2), none, []⟩,
  ⟨some 23, .load (some 7) (.t 3), none, []⟩,
  ⟨some 24, .eq false (.st [.i, .i, .i, .i, .i, .i, .i]) (.t 22) (.t 23), none, []⟩,
  ⟨some 16, .call 108 [(.t 15)], none, [1, 2, 3]⟩,
  ⟨some 17, .call 111 [(.t 16)], none, [1, 2, 3]⟩,
  ⟨some 19, .call 108 [(.t 18)], none, [2, 3]⟩,
  ⟨some 20, .call 111 [(.t 19)], none, [2, 3]⟩,
  ⟨some 21, .bin .eql (.t 17) (.t 20), none, []⟩,
  ⟨some 25, .eq false .b (.t 21) (.t 24), none, []⟩,
  ⟨some 4, .move (.t 25), none, []⟩] (some [(0, []), (3, []), (7, []), (8, []), (9, [2, 3]), (1, [0]), (2, [5, 0]), (4, [1, 6, 5, 0]), (5, [7, 1, 6, 5, 0]), (6, [6, 5, 0, 8, 7, 1]), (10, [9, 6, 5, 0, 8, 7, 1, 4, 2, 3]), (11, [10, 9, 6, 5, 0, 8, 7, 1, 4, 2, 3])]) [4])
(.ret)))))
def f119 : SFunc := ⟨b119, [.t 4]⟩

/-- watchbill/watchbilllaw21.EventLines -/
def b120 : SCode := (
.seq (.ops [⟨some 2, .move (.c (.bool false)), none, []⟩] none [0])
(.seq (.seq (.ops [⟨some 11, .call 107 [], none, []⟩,
  ⟨some 12, .not (.t 11), none, []⟩] none [0, 12])
(.cond (.t 12)
  (.seq (.ops [⟨some 2, .move (.c (.bool false)), none, []⟩] none [2])
  (.ret))
  (.skip)))
(.seq (.seq (.ops [⟨some 13, .move (.t 0), none, []⟩,
  ⟨some 14, .len .sl (.t 13), none, []⟩,
  ⟨some 15, .bin .gtr (.t 14) (.c (.int .i64 60)), none, []⟩] none [0, 15])
(.cond (.t 15)
  (.seq (.ops [⟨some 2, .move (.c (.bool true)), none, []⟩] none [2])
  (.ret))
  (.skip)))
(.seq (.ops [⟨some 3, .move (.c .nils), none, []⟩] none [0, 3])
(.seq (.seq (.ops [⟨some 4, .move (.c (.int .i64 0)), none, []⟩] none [0, 3, 4])
(.block 0 (.loop [0, 3, 4] (.seq (.seq (.ops [⟨some 16, .move (.t 4), none, []⟩,
      ⟨some 17, .move (.t 0), none, []⟩,
      ⟨some 18, .len .sl (.t 17), none, []⟩,
      ⟨some 19, .bin .lss (.t 16) (.t 18), none, []⟩] none [0, 3, 4, 19])
    (.cond (.t 19)
      (.skip)
      (.exit 0)))
    (.seq (.block 1 (.seq (.ops [⟨some 22, .move (.t 4), none, []⟩,
        ⟨some 23, .move (.t 0), none, []⟩,
        ⟨some 24, .move (.t 4), none, []⟩,
        ⟨some 25, .idxAddr 1 (.t 23) (.t 24), none, []⟩,
        ⟨some 26, .load none (.t 25), none, []⟩,
        ⟨some 27, .bin .rem (.t 26) (.c (.int .u8 8)), none, []⟩,
        ⟨some 28, .conv .i64 (.t 27), none, []⟩,
        ⟨some 29, .bin .add (.c (.int .i64 1)) (.t 28), none, []⟩,
        ⟨some 30, .move (.t 0), none, []⟩,
        ⟨some 31, .move (.t 4), none, []⟩,
        ⟨some 32, .idxAddr 1 (.t 30) (.t 31), none, []⟩,
        ⟨some 33, .load none (.t 32), none, []⟩,
        ⟨some 34, .bin .quo (.t 33) (.c (.int .u8 8)), none, []⟩,
        ⟨some 35, .conv .i64 (.t 34), none, []⟩,
        ⟨some 36, .build [(.int .i64 0), (.int .i64 0), (.int .i64 0), (.int .i64 0), (.int .i64 0), (.int .i64 0), (.int .i64 0)] [(0, 1, (.t 22)), (1, 1, (.t 29)), (2, 1, (.t 35))], none, []⟩,
        ⟨some 5, .alloc (.agg [(.int .i64 0), (.int .i64 0), (.int .i64 0), (.int .i64 0), (.int .i64 0), (.int .i64 0), (.int .i64 0)]), none, []⟩,
        ⟨none, .store (some 7) (.t 5) (.t 36), none, []⟩] (some [(0, []), (1, []), (2, []), (3, [1, 2]), (4, [3, 1, 2]), (5, [4, 3, 1, 2]), (6, [5, 4, 3, 1, 2]), (7, [6, 5, 4, 3, 1, 2]), (8, []), (9, []), (10, [8, 9]), (11, [10, 8, 9]), (12, [11, 10, 8, 9]), (13, [12, 11, 10, 8, 9]), (14, [0, 7, 6, 5, 4, 3, 1, 2, 13, 12, 11, 10, 8, 9]), (15, []), (16, [15, 14, 0, 7, 6, 5, 4, 3, 1, 2, 13, 12, 11, 10, 8, 9])]) [0, 3, 4, 5])
      (.seq (.seq (.ops [⟨some 37, .fldAddr 1 (.t 5), none, []⟩,
        ⟨some 38, .load none (.t 37), none, []⟩] none [0, 3, 4, 5, 38])
      (.block 2 (.seq (.ops [⟨some 40, .bin .eql (.t 38) (.c (.int .i64 2)), none, []⟩,
          ⟨some 39, .move (.t 40), none, []⟩] none [0, 3, 4, 5, 38, 39])
        (.cond (.t 39)
          (.ops [⟨some 41, .fldAddr 4 (.t 5), none, []⟩,
            ⟨none, .store none (.t 41) (.c (.int .i64 12)), none, []⟩] none [0, 3, 4, 5])
          (.seq (.ops [⟨some 43, .bin .eql (.t 38) (.c (.int .i64 4)), none, []⟩,
            ⟨some 42, .move (.t 43), none, []⟩] none [0, 3, 4, 5, 38, 42])
          (.cond (.t 42)
            (.ops [⟨some 44, .move (.t 4), none, []⟩,
              ⟨some 45, .move (.t 0), none, []⟩,
              ⟨some 46, .move (.t 4), none, []⟩,
              ⟨some 47, .idxAddr 1 (.t 45) (.t 46), none, []⟩,
              ⟨some 48, .load none (.t 47), none, []⟩,
              ⟨some 49, .bin .rem (.t 48) (.c (.int .u8 3)), none, []⟩,
              ⟨some 50, .conv .i64 (.t 49), none, []⟩,
              ⟨some 51, .bin .sub (.t 50) (.c (.int .i64 1)), none, []⟩,
              ⟨some 52, .move (.t 0), none, []⟩,
              ⟨some 53, .move (.t 4), none, []⟩,
              ⟨some 54, .idxAddr 1 (.t 52) (.t 53), none, []⟩,
              ⟨some 55, .load none (.t 54), none, []⟩,
              ⟨some 56, .conv .i64 (.t 55), none, []⟩,
              ⟨some 57, .bin .sub (.c (.int .i64 0)) (.t 56), none, []⟩,
              ⟨some 58, .fldAddr 3 (.t 5), none, []⟩,
              ⟨none, .store none (.t 58) (.t 44), none, [4, 11]⟩,
              ⟨some 59, .fldAddr 5 (.t 5), none, []⟩,
              ⟨none, .store none (.t 59) (.t 51), none, [11]⟩,
              ⟨some 60, .fldAddr 6 (.t 5), none, []⟩,
              ⟨none, .store none (.t 60) (.t 57), none, []⟩] (some [(0, []), (1, []), (2, []), (3, [1, 2]), (4, [3, 1, 2]), (5, [4, 3, 1, 2]), (6, [5, 4, 3, 1, 2]), (7, [6, 5, 4, 3, 1, 2]), (8, []), (9, []), (10, [8, 9]), (11, [10, 8, 9]), (12, [11, 10, 8, 9]), (13, [12, 11, 10, 8, 9]), (14, [0]), (15, [14, 0]), (16, [0, 1, 2, 3, 4, 5, 6, 7, 14, 15]), (17, [16, 0, 1, 2, 3, 4, 5, 6, 7, 14, 15]), (18, [0, 1, 2, 3, 4, 5, 6, 7, 8, 9, 10, 11, 12, 13, 14, 15, 16, 17]), (19, [18, 0, 1, 2, 3, 4, 5, 6, 7, 8, 9, 10, 11, 12, 13, 14, 15, 16, 17])]) [0, 3, 4, 5])
            (.seq (.ops [⟨some 62, .bin .eql (.t 38) (.c (.int .i64 5)), none, []⟩,
              ⟨some 61, .move (.t 62), none, []⟩] none [0, 3, 4, 5, 38, 61])
            (.cond (.t 61)
              (.ops [⟨some 63, .move (.t 4), none, []⟩,
                ⟨some 64, .fldAddr 3 (.t 5), none, []⟩,
                ⟨none, .store none (.t 64) (.t 63), none, []⟩] none [0, 3, 4, 5])
              (.seq (.ops [⟨some 66, .bin .eql (.t 38) (.c (.int .i64 8)), none, []⟩,
                ⟨some 65, .move (.t 66), none, []⟩] none [0, 3, 4, 5, 65])
              (.cond (.t 65)
                (.ops [⟨some 67, .fldAddr 2 (.t 5), none, []⟩,
                  ⟨none, .store none (.t 67) (.c (.int .i64 0)), none, []⟩] none [0, 3, 4, 5])
                (.skip)))))))))))
      (.ops [⟨some 68, .move (.t 3), none, []⟩,
        ⟨some 69, .load (some 7) (.t 5), none, []⟩,
        ⟨some 70, .buildSl 1 [(.int .i64 0), (.int .i64 0), (.int .i64 0), (.int .i64 0), (.int .i64 0), (.int .i64 0), (.int .i64 0)] [(0, 7, (.t 69))], none, []⟩,
        ⟨some 71, .append 7 (.t 68) (.t 70), none, []⟩,
        ⟨some 3, .move (.t 71), none, []⟩] none [0, 3, 4]))))
    (.ops [⟨some 20, .move (.t 4), none, []⟩,
      ⟨some 21, .bin .add (.t 20) (.c (.int .i64 1)), none, []⟩,
      ⟨some 4, .move (.t 21), none, []⟩] none [0, 3, 4]))))))
(.seq (.ops [⟨some 73, .move (.t 3), none, []⟩,
  ⟨some 74, .call 114 [(.t 73)], none, []⟩,
  ⟨some 75, .call 90 [(.t 74)], none, []⟩,
  ⟨some 72, .move (.t 75), none, []⟩,
  ⟨some 76, .ext 0 (.t 72), none, []⟩,
  ⟨some 77, .ext 1 (.t 72), none, []⟩,
  ⟨some 6, .move (.t 76), none, []⟩,
  ⟨some 7, .move (.t 77), none, []⟩] none [3, 6, 7])
(.seq (.seq (.ops [⟨some 78, .move (.t 7), none, []⟩,
  ⟨some 79, .bin .neq (.t 78) (.c (.int .i64 0)), none, []⟩,
  ⟨some 80, .move (.t 79), none, []⟩,
  ⟨some 81, .move (.t 6), (some (80, false)), []⟩,
  ⟨some 82, .len .sl (.t 81), (some (80, false)), []⟩,
  ⟨some 83, .move (.t 3), (some (80, false)), []⟩,
  ⟨some 84, .len .sl (.t 83), (some (80, false)), []⟩,
  ⟨some 85, .bin .neq (.t 82) (.t 84), (some (80, false)), []⟩,
  ⟨some 86, .pick (.t 80) (.c (.bool true)) (.t 85), none, []⟩] none [3, 6, 86])
(.cond (.t 86)
  (.seq (.ops [⟨some 2, .move (.c (.bool false)), none, []⟩] none [2])
  (.ret))
  (.skip)))
(.seq (.seq (.ops [⟨some 8, .move (.c (.int .i64 0)), none, []⟩] none [3, 6, 8])
(.block 3 (.loop [3, 6, 8] (.seq (.seq (.ops [⟨some 87, .move (.t 8), none, []⟩,
      ⟨some 88, .move (.t 3), none, []⟩,
      ⟨some 89, .len .sl (.t 88), none, []⟩,
      ⟨some 90, .bin .lss (.t 87) (.t 89), none, []⟩] none [3, 6, 8, 90])
    (.cond (.t 90)
      (.skip)
      (.exit 3)))
    (.seq (.block 4 (.seq (.ops [⟨some 94, .move (.t 6), none, []⟩,
        ⟨some 95, .move (.t 8), none, []⟩,
        ⟨some 96, .idxAddr 1 (.t 94) (.t 95), none, []⟩,
        ⟨some 97, .load none (.t 96), none, []⟩,
        ⟨some 98, .call 112 [(.t 97)], none, []⟩,
        ⟨some 93, .move (.t 98), none, []⟩,
        ⟨some 99, .ext 0 (.t 93), none, []⟩,
        ⟨some 100, .ext 1 (.t 93), none, []⟩,
        ⟨some 9, .alloc (.agg [(.int .i64 0), (.int .i64 0), (.int .i64 0), (.int .i64 0), (.int .i64 0), (.int .i64 0), (.int .i64 0)]), none, []⟩,
        ⟨none, .store (some 7) (.t 9) (.t 99), none, []⟩,
        ⟨some 10, .move (.t 100), none, []⟩] none [3, 6, 8, 9, 10])
      (.seq (.ops [⟨some 101, .move (.t 10), none, []⟩,
        ⟨some 102, .bin .neq (.t 101) (.c (.int .i64 0)), none, []⟩,
        ⟨some 103, .move (.t 102), none, []⟩,
        ⟨some 104, .load (some 7) (.t 9), (some (103, false)), []⟩,
        ⟨some 105, .move (.t 3), (some (103, false)), []⟩,
        ⟨some 106, .move (.t 8), (some (103, false)), []⟩,
        ⟨some 107, .idxAddr 7 (.t 105) (.t 106), (some (103, false)), []⟩,
        ⟨some 108, .load (some 7) (.t 107), (some (103, false)), []⟩,
        ⟨some 109, .eq true (.st [.i, .i, .i, .i, .i, .i, .i]) (.t 104) (.t 108), (some (103, false)), []⟩,
        ⟨some 110, .pick (.t 103) (.c (.bool true)) (.t 109), none, []⟩,
        ⟨some 111, .move (.t 110), none, []⟩,
        ⟨some 112, .move (.t 6), (some (111, false)), []⟩,
        ⟨some 113, .move (.t 8), (some (111, false)), []⟩,
        ⟨some 114, .idxAddr 1 (.t 112) (.t 113), (some (111, false)), []⟩,
        ⟨some 115, .load none (.t 114), (some (111, false)), []⟩,
        ⟨some 116, .move (.t 3), (some (111, false)), []⟩,
        ⟨some 117, .move (.t 8), (some (111, false)), []⟩,
        ⟨some 118, .idxAddr 7 (.t 116) (.t 117), (some (111, false)), []⟩,
        ⟨some 119, .load (some 7) (.t 118), (some (111, false)), []⟩,
        ⟨some 120, .call 111 [(.t 119)], (some (111, false)), [14]⟩,
        ⟨some 121, .bin .neq (.t 115) (.t 120), (some (111, false)), []⟩,
        ⟨some 122, .pick (.t 111) (.c (.bool true)) (.t 121), none, []⟩] (some [(0, []), (1, [0]), (2, [1, 0]), (3, [2, 1, 0]), (4, [2, 1, 0]), (5, [2, 1, 0]), (6, [4, 2, 1, 0, 5]), (7, [6, 4, 2, 1, 0, 5]), (8, [3, 2, 1, 0, 7, 6, 4, 5]), (9, [2, 1, 0, 8, 3, 7, 6, 4, 5]), (10, [9, 2, 1, 0, 8, 3, 7, 6, 4, 5]), (11, [10, 9, 2, 1, 0, 8, 3, 7, 6, 4, 5]), (12, [10, 9, 2, 1, 0, 8, 3, 7, 6, 4, 5]), (13, [11, 10, 9, 2, 1, 0, 8, 3, 7, 6, 4, 5, 12]), (14, [13, 11, 10, 9, 2, 1, 0, 8, 3, 7, 6, 4, 5, 12]), (15, [10, 9, 2, 1, 0, 8, 3, 7, 6, 4, 5]), (16, [10, 9, 2, 1, 0, 8, 3, 7, 6, 4, 5]), (17, [15, 10, 9, 2, 1, 0, 8, 3, 7, 6, 4, 5, 16]), (18, [17, 15, 10, 9, 2, 1, 0, 8, 3, 7, 6, 4, 5, 16]), (19, [18, 17, 15, 10, 9, 2, 1, 0, 8, 3, 7, 6, 4, 5, 16]), (20, [14, 13, 11, 10, 9, 2, 1, 0, 8, 3, 7, 6, 4, 5, 12, 19, 18, 17, 15, 16]), (21, [10, 9, 2, 1, 0, 8, 3, 7, 6, 4, 5, 20, 14, 13, 11, 12, 19, 18, 17, 15, 16])]) [3, 6, 8, 122])
      (.cond (.t 122)
        (.seq (.ops [⟨some 2, .move (.c (.bool false)), none, []⟩] none [2])
        (.ret))
        (.skip)))))
    (.ops [⟨some 91, .move (.t 8), none, []⟩,
      ⟨some 92, .bin .add (.t 91) (.c (.int .i64 1)), none, []⟩,
      ⟨some 8, .move (.t 92), none, []⟩] none [3, 6, 8]))))))
(.seq (.ops [⟨some 2, .move (.c (.bool true)), none, []⟩] none [2])
(.ret))))))))))
def f120 : SFunc := ⟨b120, [.t 2]⟩

/-- watchbill/watchbilllaw4.known -/
def b89 : SCode := (
.seq (.ops [⟨some 0, .move (.c (.bool false)), none, []⟩] none [])
(.seq (.ops [⟨some 18, .call 90 [(.c (.str [97, 32, 98, 10, 10, 99, 10]))], none, []⟩,
  ⟨some 17, .move (.t 18), none, []⟩,
  ⟨some 19, .ext 0 (.t 17), none, []⟩,
  ⟨some 20, .ext 1 (.t 17), none, []⟩,
  ⟨some 1, .move (.t 19), none, []⟩,
  ⟨some 2, .move (.t 20), none, []⟩] none [1, 2])
(.seq (.ops [⟨some 22, .call 90 [(.c (.str [97]))], none, []⟩,
  ⟨some 21, .move (.t 22), none, []⟩,
  ⟨some 23, .ext 0 (.t 21), none, []⟩,
  ⟨some 24, .ext 1 (.t 21), none, []⟩,
  ⟨some 3, .move (.t 23), none, []⟩,
  ⟨some 4, .move (.t 24), none, []⟩] none [1, 2, 4])
(.seq (.ops [⟨some 26, .call 92 [(.c (.str [114, 117, 110, 32, 51]))], none, []⟩,
  ⟨some 25, .move (.t 26), none, []⟩,
  ⟨some 27, .ext 0 (.t 25), none, []⟩,
  ⟨some 28, .ext 1 (.t 25), none, []⟩,
  ⟨some 5, .move (.t 27), none, []⟩,
  ⟨some 6, .move (.t 28), none, []⟩] none [1, 2, 4, 5, 6])
(.seq (.ops [⟨some 30, .call 92 [(.c (.str [114, 117, 110, 32, 32, 51]))], none, []⟩,
  ⟨some 29, .move (.t 30), none, []⟩,
  ⟨some 31, .ext 0 (.t 29), none, []⟩,
  ⟨some 32, .ext 1 (.t 29), none, []⟩,
  ⟨some 7, .move (.t 31), none, []⟩,
  ⟨some 8, .move (.t 32), none, []⟩] none [1, 2, 4, 5, 6, 8])
(.seq (.ops [⟨some 34, .call 92 [(.c (.str [114, 117, 110, 9, 51]))], none, []⟩,
  ⟨some 33, .move (.t 34), none, []⟩,
  ⟨some 35, .ext 0 (.t 33), none, []⟩,
  ⟨some 36, .ext 1 (.t 33), none, []⟩,
  ⟨some 9, .move (.t 35), none, []⟩,
  ⟨some 10, .move (.t 36), none, []⟩] none [1, 2, 4, 5, 6, 8, 10])
(.seq (.ops [⟨some 38, .call 94 [(.c (.str [45, 57, 50, 50, 51, 51, 55, 50, 48, 51, 54, 56, 53, 52, 55, 55, 53, 56, 48, 56]))], none, []⟩,
  ⟨some 37, .move (.t 38), none, []⟩,
  ⟨some 39, .ext 0 (.t 37), none, []⟩,
  ⟨some 40, .ext 1 (.t 37), none, []⟩,
  ⟨some 11, .move (.t 39), none, []⟩,
  ⟨some 12, .move (.t 40), none, []⟩] none [1, 2, 4, 5, 6, 8, 10, 11, 12])
(.seq (.ops [⟨some 42, .call 94 [(.c (.str [57, 50, 50, 51, 51, 55, 50, 48, 51, 54, 56, 53, 52, 55, 55, 53, 56, 48, 56]))], none, []⟩,
  ⟨some 41, .move (.t 42), none, []⟩,
  ⟨some 43, .ext 0 (.t 41), none, []⟩,
  ⟨some 44, .ext 1 (.t 41), none, []⟩,
  ⟨some 13, .move (.t 43), none, []⟩,
  ⟨some 14, .move (.t 44), none, []⟩] none [1, 2, 4, 5, 6, 8, 10, 11, 12, 14])
(.seq (.ops [⟨some 46, .call 94 [(.c (.str [45, 48]))], none, []⟩,
  ⟨some 45, .move (.t 46), none, []⟩,
  ⟨some 47, .ext 0 (.t 45), none, []⟩,
  ⟨some 48, .ext 1 (.t 45), none, []⟩,
  ⟨some 15, .move (.t 47), none, []⟩,
  ⟨some 16, .move (.t 48), none, []⟩] none [1, 2, 4, 5, 6, 8, 10, 11, 12, 14, 16])
(.seq (.ops [⟨some 49, .move (.t 2), none, []⟩,
  ⟨some 50, .move (.t 6), none, []⟩,
  ⟨some 51, .bin .add (.t 49) (.t 50), none, []⟩,
  ⟨some 52, .move (.t 12), none, []⟩,
  ⟨some 53, .bin .add (.t 51) (.t 52), none, []⟩,
  ⟨some 54, .bin .eql (.t 53) (.c (.int .i64 0)), none, []⟩,
  ⟨some 55, .move (.t 54), none, []⟩,
  ⟨some 56, .move (.t 1), (some (55, true)), []⟩,
  ⟨some 57, .buildSl 3 [(.str []), (.str []), (.str [])] [(0, 1, (.c (.str [97, 32, 98]))), (1, 1, (.c (.str []))), (2, 1, (.c (.str [99])))], (some (55, true)), []⟩,
  ⟨some 58, .call 96 [(.t 56), (.t 57)], (some (55, true)), []⟩,
  ⟨some 59, .pick (.t 55) (.t 58) (.c (.bool false)), none, []⟩,
  ⟨some 60, .move (.t 59), none, []⟩,
  ⟨some 61, .move (.t 4), (some (60, true)), []⟩,
  ⟨some 62, .bin .eql (.t 61) (.c (.int .i64 2)), (some (60, true)), []⟩,
  ⟨some 63, .pick (.t 60) (.t 62) (.c (.bool false)), none, []⟩,
  ⟨some 64, .move (.t 63), none, []⟩,
  ⟨some 65, .move (.t 5), (some (64, true)), []⟩,
  ⟨some 66, .buildSl 2 [(.str []), (.str [])] [(0, 1, (.c (.str [114, 117, 110]))), (1, 1, (.c (.str [51])))], (some (64, true)), []⟩,
  ⟨some 67, .call 96 [(.t 65), (.t 66)], (some (64, true)), []⟩,
  ⟨some 68, .pick (.t 64) (.t 67) (.c (.bool false)), none, []⟩,
  ⟨some 69, .move (.t 68), none, []⟩,
  ⟨some 70, .move (.t 8), (some (69, true)), []⟩,
  ⟨some 71, .bin .eql (.t 70) (.c (.int .i64 2)), (some (69, true)), []⟩,
  ⟨some 72, .pick (.t 69) (.t 71) (.c (.bool false)), none, []⟩,
  ⟨some 73, .move (.t 72), none, []⟩,
  ⟨some 74, .move (.t 10), (some (73, true)), []⟩,
  ⟨some 75, .bin .eql (.t 74) (.c (.int .i64 2)), (some (73, true)), []⟩,
  ⟨some 76, .pick (.t 73) (.t 75) (.c (.bool false)), none, []⟩,
  ⟨some 77, .move (.t 76), none, []⟩,
  ⟨some 78, .move (.t 11), (some (77, true)), []⟩,
  ⟨some 79, .bin .eql (.t 78) (.c (.int .i64 (-9223372036854775808))), (some (77, true)), []⟩,
  ⟨some 80, .pick (.t 77) (.t 79) (.c (.bool false)), none, []⟩,
  ⟨some 81, .move (.t 80), none, []⟩,
  ⟨some 82, .move (.t 14), (some (81, true)), []⟩,
  ⟨some 83, .bin .eql (.t 82) (.c (.int .i64 14)), (some (81, true)), []⟩,
  ⟨some 84, .pick (.t 81) (.t 83) (.c (.bool false)), none, []⟩,
  ⟨some 85, .move (.t 84), none, []⟩,
  ⟨some 86, .move (.t 16), (some (85, true)), []⟩,
  ⟨some 87, .bin .eql (.t 86) (.c (.int .i64 2)), (some (85, true)), []⟩,
  ⟨some 88, .pick (.t 85) (.t 87) (.c (.bool false)), none, []⟩,
  ⟨some 89, .move (.t 88), none, []⟩,
  ⟨some 90, .move (.t 11), (some (89, true)), []⟩,
  ⟨some 91, .call 99 [(.t 90)], (some (89, true)), []⟩,
  ⟨some 92, .bin .eql (.t 91) (.c (.str [45, 57, 50, 50, 51, 51, 55, 50, 48, 51, 54, 56, 53, 52, 55, 55, 53, 56, 48, 56])), (some (89, true)), []⟩,
  ⟨some 93, .pick (.t 89) (.t 92) (.c (.bool false)), none, []⟩,
  ⟨some 94, .move (.t 93), none, []⟩,
  ⟨some 95, .call 99 [(.c (.int .i64 0))], (some (94, true)), []⟩,
  ⟨some 96, .bin .eql (.t 95) (.c (.str [48])), (some (94, true)), []⟩,
  ⟨some 97, .pick (.t 94) (.t 96) (.c (.bool false)), none, []⟩,
  ⟨some 98, .move (.t 97), none, []⟩,
  ⟨some 99, .call 97 [(.c (.str [97, 98, 99]))], (some (98, true)), []⟩,
  ⟨some 100, .pick (.t 98) (.t 99) (.c (.bool false)), none, []⟩,
  ⟨some 101, .move (.t 100), none, []⟩,
  ⟨some 102, .call 97 [(.c (.str [65, 98, 99]))], (some (101, true)), []⟩,
  ⟨some 103, .not (.t 102), (some (101, true)), []⟩,
  ⟨some 104, .pick (.t 101) (.t 103) (.c (.bool false)), none, []⟩,
  ⟨some 105, .move (.t 104), none, []⟩,
  ⟨some 106, .call 97 [(.c (.str [97, 98, 99, 100, 101, 102, 103, 104, 105]))], (some (105, true)), []⟩,
  ⟨some 107, .not (.t 106), (some (105, true)), []⟩,
  ⟨some 108, .pick (.t 105) (.t 107) (.c (.bool false)), none, []⟩,
  ⟨some 109, .move (.t 108), none, []⟩,
  ⟨some 110, .call 97 [(.c (.str []))], (some (109, true)), []⟩,
  ⟨some 111, .not (.t 110), (some (109, true)), []⟩,
  ⟨some 112, .pick (.t 109) (.t 111) (.c (.bool false)), none, []⟩,
  ⟨some 0, .move (.t 112), none, []⟩] none [0])
(.ret)))))))))))
def f89 : SFunc := ⟨b89, [.t 0]⟩

/-- watchbill/word.Lines -/
def b90 : SCode := (
.seq (.ops [⟨some 2, .move (.c .nils), none, []⟩,
  ⟨some 3, .move (.c (.int .i64 0)), none, []⟩] none [0])
(.seq (.seq (.ops [⟨some 6, .move (.t 0), none, []⟩,
  ⟨some 7, .bin .eql (.t 6) (.c (.str [])), none, []⟩] none [0, 7])
(.cond (.t 7)
  (.seq (.ops [⟨some 2, .move (.c .nils), none, []⟩,
    ⟨some 3, .move (.c (.int .i64 0)), none, []⟩] none [2, 3])
  (.ret))
  (.skip)))
(.seq (.ops [⟨some 9, .move (.t 0), none, []⟩,
  ⟨some 10, .call 121 [(.t 9), (.c (.str [10]))], none, []⟩,
  ⟨some 8, .move (.t 10), none, []⟩,
  ⟨some 11, .ext 0 (.t 8), none, []⟩,
  ⟨some 12, .ext 1 (.t 8), none, []⟩,
  ⟨some 4, .move (.t 11), none, []⟩,
  ⟨some 5, .move (.t 12), none, []⟩] none [4, 5])
(.seq (.seq (.ops [⟨some 13, .move (.t 5), none, []⟩,
  ⟨some 14, .not (.t 13), none, []⟩] none [4, 14])
(.cond (.t 14)
  (.seq (.ops [⟨some 2, .move (.c .nils), none, []⟩,
    ⟨some 3, .move (.c (.int .i64 2)), none, []⟩] none [2, 3])
  (.ret))
  (.skip)))
(.seq (.ops [⟨some 15, .move (.t 4), none, []⟩,
  ⟨some 16, .call 122 [(.t 15), (.c (.str [10]))], none, []⟩,
  ⟨some 2, .move (.t 16), none, []⟩,
  ⟨some 3, .move (.c (.int .i64 0)), none, []⟩] none [2, 3])
(.ret))))))
def f90 : SFunc := ⟨b90, [.t 2, .t 3]⟩

/-- watchbill/watchbillref8.Lines -/
def b91 : SCode := (
.seq (.ops [⟨some 2, .move (.c .nils), none, []⟩,
  ⟨some 3, .move (.c (.int .i64 0)), none, []⟩] none [0])
(.seq (.seq (.ops [⟨some 7, .move (.t 0), none, []⟩,
  ⟨some 8, .bin .neq (.t 7) (.c (.str [])), none, []⟩,
  ⟨some 9, .move (.t 8), none, []⟩,
  ⟨some 10, .move (.t 0), (some (9, true)), []⟩,
  ⟨some 11, .move (.t 0), (some (9, true)), []⟩,
  ⟨some 12, .len .str (.t 11), (some (9, true)), []⟩,
  ⟨some 13, .bin .sub (.t 12) (.c (.int .i64 1)), (some (9, true)), []⟩,
  ⟨some 14, .idxStr (.t 10) (.t 13), (some (9, true)), []⟩,
  ⟨some 15, .bin .neq (.t 14) (.c (.int .u8 10)), (some (9, true)), []⟩,
  ⟨some 16, .pick (.t 9) (.t 15) (.c (.bool false)), none, []⟩] none [0, 16])
(.cond (.t 16)
  (.seq (.ops [⟨some 2, .move (.c .nils), none, []⟩,
    ⟨some 3, .move (.c (.int .i64 2)), none, []⟩] none [2, 3])
  (.ret))
  (.skip)))
(.seq (.ops [⟨some 4, .move (.c .nils), none, []⟩] none [0, 4])
(.seq (.ops [⟨some 5, .move (.c (.int .i64 0)), none, []⟩] none [0, 4, 5])
(.seq (.seq (.ops [⟨some 6, .move (.c (.int .i64 0)), none, []⟩] none [0, 4, 5, 6])
(.block 0 (.loop [0, 4, 5, 6] (.seq (.seq (.ops [⟨some 17, .move (.t 6), none, []⟩,
      ⟨some 18, .move (.t 0), none, []⟩,
      ⟨some 19, .len .str (.t 18), none, []⟩,
      ⟨some 20, .bin .lss (.t 17) (.t 19), none, []⟩] none [0, 4, 5, 6, 20])
    (.cond (.t 20)
      (.skip)
      (.exit 0)))
    (.seq (.block 1 (.seq (.ops [⟨some 23, .move (.t 0), none, []⟩,
        ⟨some 24, .move (.t 6), none, []⟩,
        ⟨some 25, .idxStr (.t 23) (.t 24), none, []⟩,
        ⟨some 26, .bin .eql (.t 25) (.c (.int .u8 10)), none, []⟩] none [0, 4, 5, 6, 26])
      (.cond (.t 26)
        (.seq (.ops [⟨some 27, .move (.t 4), none, []⟩,
          ⟨some 28, .move (.t 0), none, []⟩,
          ⟨some 29, .move (.t 5), none, []⟩,
          ⟨some 30, .move (.t 6), none, []⟩,
          ⟨some 31, .slStr (.t 28) (some (.t 29)) (some (.t 30)), none, []⟩,
          ⟨some 32, .buildSl 1 [(.str [])] [(0, 1, (.t 31))], none, []⟩,
          ⟨some 33, .append 1 (.t 27) (.t 32), none, []⟩,
          ⟨some 4, .move (.t 33), none, []⟩] none [0, 4, 6])
        (.ops [⟨some 34, .move (.t 6), none, []⟩,
          ⟨some 35, .bin .add (.t 34) (.c (.int .i64 1)), none, []⟩,
          ⟨some 5, .move (.t 35), none, []⟩] none [0, 4, 5, 6]))
        (.skip))))
    (.ops [⟨some 21, .move (.t 6), none, []⟩,
      ⟨some 22, .bin .add (.t 21) (.c (.int .i64 1)), none, []⟩,
      ⟨some 6, .move (.t 22), none, []⟩] none [0, 4, 5, 6]))))))
(.seq (.ops [⟨some 36, .move (.t 4), none, []⟩,
  ⟨some 2, .move (.t 36), none, []⟩,
  ⟨some 3, .move (.c (.int .i64 0)), none, []⟩] none [2, 3])
(.ret)))))))
def f91 : SFunc := ⟨b91, [.t 2, .t 3]⟩

/-- watchbill/word.Split -/
def b92 : SCode := (
.seq (.ops [⟨some 2, .move (.c .nils), none, []⟩,
  ⟨some 3, .move (.c (.int .i64 0)), none, []⟩] none [0])
(.seq (.seq (.ops [⟨some 8, .move (.t 0), none, []⟩,
  ⟨some 9, .bin .eql (.t 8) (.c (.str [])), none, []⟩] none [0, 9])
(.cond (.t 9)
  (.seq (.ops [⟨some 2, .move (.c .nils), none, []⟩,
    ⟨some 3, .move (.c (.int .i64 0)), none, []⟩] none [2, 3])
  (.ret))
  (.skip)))
(.seq (.ops [⟨some 10, .move (.t 0), none, []⟩,
  ⟨some 11, .call 122 [(.t 10), (.c (.str [32]))], none, []⟩,
  ⟨some 4, .move (.t 11), none, []⟩] none [4])
(.seq (.skip)
(.seq (.seq (.ops [⟨some 12, .move (.t 4), none, []⟩,
  ⟨some 13, .len .sl (.t 12), none, []⟩,
  ⟨some 14, .move (.c (.int .i64 0)), none, []⟩] none [4, 12, 13, 14])
(.block 0 (.loop [4, 12, 13, 14] (.seq (.ops [⟨some 15, .bin .lss (.t 14) (.t 13), none, []⟩] none [4, 12, 13, 14, 15])
    (.seq (.cond (.t 15)
      (.skip)
      (.exit 0))
    (.seq (.block 1 (.seq (.ops [⟨some 16, .idxAddr 1 (.t 12) (.t 14), none, []⟩,
        ⟨some 17, .load none (.t 16), none, []⟩,
        ⟨some 6, .move (.t 17), none, []⟩] none [4, 6, 12, 13, 14])
      (.seq (.seq (.ops [⟨some 18, .move (.t 6), none, []⟩,
        ⟨some 19, .len .str (.t 18), none, []⟩,
        ⟨some 20, .move (.c (.int .i64 0)), none, []⟩] none [4, 6, 12, 13, 14, 19, 20])
      (.block 2 (.loop [4, 6, 12, 13, 14, 19, 20] (.seq (.ops [⟨some 21, .bin .lss (.t 20) (.t 19), none, []⟩] none [4, 6, 12, 13, 14, 19, 20, 21])
          (.seq (.cond (.t 21)
            (.skip)
            (.exit 2))
          (.seq (.block 3 (.seq (.ops [⟨some 22, .move (.t 20), none, []⟩,
              ⟨some 7, .move (.t 22), none, []⟩] none [4, 6, 7, 12, 13, 14, 19, 20])
            (.seq (.ops [⟨some 23, .move (.t 6), none, []⟩,
              ⟨some 24, .move (.t 7), none, []⟩,
              ⟨some 25, .idxStr (.t 23) (.t 24), none, []⟩,
              ⟨some 26, .bin .lss (.t 25) (.c (.int .u8 33)), none, []⟩,
              ⟨some 27, .move (.t 26), none, []⟩,
              ⟨some 28, .move (.t 6), (some (27, false)), []⟩,
              ⟨some 29, .move (.t 7), (some (27, false)), []⟩,
              ⟨some 30, .idxStr (.t 28) (.t 29), (some (27, false)), []⟩,
              ⟨some 31, .bin .gtr (.t 30) (.c (.int .u8 126)), (some (27, false)), []⟩,
              ⟨some 32, .pick (.t 27) (.c (.bool true)) (.t 31), none, []⟩] none [4, 6, 12, 13, 14, 19, 20, 32])
            (.cond (.t 32)
              (.seq (.ops [⟨some 2, .move (.c .nils), none, []⟩,
                ⟨some 3, .move (.c (.int .i64 2)), none, []⟩] none [2, 3])
              (.ret))
              (.skip)))))
          (.ops [⟨some 33, .bin .add (.t 20) (.c (.int .i64 1)), none, []⟩,
            ⟨some 20, .move (.t 33), none, []⟩] none [4, 6, 12, 13, 14, 19, 20])))))))
      (.seq (.seq (.ops [⟨some 34, .move (.t 6), none, []⟩,
        ⟨some 35, .bin .neq (.t 34) (.c (.str [])), none, []⟩] none [4, 12, 13, 14, 35])
      (.cond (.t 35)
        (.exit 1)
        (.skip)))
      (.seq (.ops [⟨some 2, .move (.c .nils), none, []⟩,
        ⟨some 3, .move (.c (.int .i64 2)), none, []⟩] none [2, 3])
      (.ret))))))
    (.ops [⟨some 36, .bin .add (.t 14) (.c (.int .i64 1)), none, []⟩,
      ⟨some 14, .move (.t 36), none, []⟩] none [4, 12, 13, 14])))))))
(.seq (.ops [⟨some 37, .move (.t 4), none, []⟩,
  ⟨some 2, .move (.t 37), none, []⟩,
  ⟨some 3, .move (.c (.int .i64 0)), none, []⟩] none [2, 3])
(.ret)))))))
def f92 : SFunc := ⟨b92, [.t 2, .t 3]⟩

/-- watchbill/watchbillref8.Split -/
def b93 : SCode := (
.seq (.ops [⟨some 2, .move (.c .nils), none, []⟩,
  ⟨some 3, .move (.c (.int .i64 0)), none, []⟩] none [0])
(.seq (.seq (.ops [⟨some 7, .move (.t 0), none, []⟩,
  ⟨some 8, .bin .eql (.t 7) (.c (.str [])), none, []⟩] none [0, 8])
(.cond (.t 8)
  (.seq (.ops [⟨some 2, .move (.c .nils), none, []⟩,
    ⟨some 3, .move (.c (.int .i64 0)), none, []⟩] none [2, 3])
  (.ret))
  (.skip)))
(.seq (.ops [⟨some 4, .move (.c .nils), none, []⟩] none [0, 4])
(.seq (.ops [⟨some 5, .move (.c (.str [])), none, []⟩] none [0, 4, 5])
(.seq (.seq (.ops [⟨some 6, .move (.c (.int .i64 0)), none, []⟩] none [0, 4, 5, 6])
(.block 0 (.loop [0, 4, 5, 6] (.seq (.seq (.ops [⟨some 9, .move (.t 6), none, []⟩,
      ⟨some 10, .move (.t 0), none, []⟩,
      ⟨some 11, .len .str (.t 10), none, []⟩,
      ⟨some 12, .bin .leq (.t 9) (.t 11), none, []⟩] none [0, 4, 5, 6, 12])
    (.cond (.t 12)
      (.skip)
      (.exit 0)))
    (.seq (.block 1 (.seq (.seq (.ops [⟨some 15, .move (.t 6), none, []⟩,
        ⟨some 16, .move (.t 0), none, []⟩,
        ⟨some 17, .len .str (.t 16), none, []⟩,
        ⟨some 18, .bin .eql (.t 15) (.t 17), none, []⟩,
        ⟨some 19, .move (.t 18), none, []⟩,
        ⟨some 20, .move (.t 0), (some (19, false)), []⟩,
        ⟨some 21, .move (.t 6), (some (19, false)), []⟩,
        ⟨some 22, .idxStr (.t 20) (.t 21), (some (19, false)), []⟩,
        ⟨some 23, .bin .eql (.t 22) (.c (.int .u8 32)), (some (19, false)), []⟩,
        ⟨some 24, .pick (.t 19) (.c (.bool true)) (.t 23), none, []⟩] none [0, 4, 5, 6, 24])
      (.cond (.t 24)
        (.seq (.seq (.ops [⟨some 25, .move (.t 5), none, []⟩,
          ⟨some 26, .bin .eql (.t 25) (.c (.str [])), none, []⟩] none [0, 4, 5, 6, 26])
        (.cond (.t 26)
          (.seq (.ops [⟨some 2, .move (.c .nils), none, []⟩,
            ⟨some 3, .move (.c (.int .i64 2)), none, []⟩] none [2, 3])
          (.ret))
          (.skip)))
        (.seq (.ops [⟨some 27, .move (.t 4), none, []⟩,
          ⟨some 28, .move (.t 5), none, []⟩,
          ⟨some 29, .buildSl 1 [(.str [])] [(0, 1, (.t 28))], none, []⟩,
          ⟨some 30, .append 1 (.t 27) (.t 29), none, []⟩,
          ⟨some 4, .move (.t 30), none, []⟩] none [0, 4, 6])
        (.seq (.ops [⟨some 5, .move (.c (.str [])), none, []⟩] none [0, 4, 5, 6])
        (.exit 1))))
        (.skip)))
      (.seq (.seq (.ops [⟨some 31, .move (.t 0), none, []⟩,
        ⟨some 32, .move (.t 6), none, []⟩,
        ⟨some 33, .idxStr (.t 31) (.t 32), none, []⟩,
        ⟨some 34, .bin .lss (.t 33) (.c (.int .u8 33)), none, []⟩,
        ⟨some 35, .move (.t 34), none, []⟩,
        ⟨some 36, .move (.t 0), (some (35, false)), []⟩,
        ⟨some 37, .move (.t 6), (some (35, false)), []⟩,
        ⟨some 38, .idxStr (.t 36) (.t 37), (some (35, false)), []⟩,
        ⟨some 39, .bin .gtr (.t 38) (.c (.int .u8 126)), (some (35, false)), []⟩,
        ⟨some 40, .pick (.t 35) (.c (.bool true)) (.t 39), none, []⟩] none [0, 4, 5, 6, 40])
      (.cond (.t 40)
        (.seq (.ops [⟨some 2, .move (.c .nils), none, []⟩,
          ⟨some 3, .move (.c (.int .i64 2)), none, []⟩] none [2, 3])
        (.ret))
        (.skip)))
      (.ops [⟨some 41, .move (.t 5), none, []⟩,
        ⟨some 42, .move (.t 0), none, []⟩,
        ⟨some 43, .move (.t 6), none, []⟩,
        ⟨some 44, .move (.t 6), none, []⟩,
        ⟨some 45, .bin .add (.t 44) (.c (.int .i64 1)), none, []⟩,
        ⟨some 46, .slStr (.t 42) (some (.t 43)) (some (.t 45)), none, []⟩,
        ⟨some 47, .bin .add (.t 41) (.t 46), none, []⟩,
        ⟨some 5, .move (.t 47), none, []⟩] none [0, 4, 5, 6]))))
    (.ops [⟨some 13, .move (.t 6), none, []⟩,
      ⟨some 14, .bin .add (.t 13) (.c (.int .i64 1)), none, []⟩,
      ⟨some 6, .move (.t 14), none, []⟩] none [0, 4, 5, 6]))))))
(.seq (.ops [⟨some 48, .move (.t 4), none, []⟩,
  ⟨some 2, .move (.t 48), none, []⟩,
  ⟨some 3, .move (.c (.int .i64 0)), none, []⟩] none [2, 3])
(.ret)))))))
def f93 : SFunc := ⟨b93, [.t 2, .t 3]⟩

/-- watchbill/word.Number -/
def b94 : SCode := (
.seq (.ops [⟨some 2, .move (.c (.int .i64 0)), none, []⟩,
  ⟨some 3, .move (.c (.int .i64 0)), none, []⟩] none [0])
(.seq (.ops [⟨some 7, .move (.t 0), none, []⟩,
  ⟨some 8, .call 123 [(.t 7), (.c (.str [45]))], none, []⟩,
  ⟨some 4, .move (.t 8), none, []⟩] none [0, 4])
(.seq (.seq (.ops [⟨some 9, .move (.t 4), none, []⟩,
  ⟨some 10, .bin .eql (.t 9) (.c (.str [])), none, []⟩,
  ⟨some 11, .move (.t 10), none, []⟩,
  ⟨some 12, .move (.t 4), (some (11, false)), []⟩,
  ⟨some 13, .call 124 [(.t 12), (.c (.str [48, 49, 50, 51, 52, 53, 54, 55, 56, 57]))], (some (11, false)), []⟩,
  ⟨some 14, .bin .neq (.t 13) (.c (.str [])), (some (11, false)), []⟩,
  ⟨some 15, .pick (.t 11) (.c (.bool true)) (.t 14), none, []⟩,
  ⟨some 16, .move (.t 15), none, []⟩,
  ⟨some 17, .move (.t 4), (some (16, false)), []⟩,
  ⟨some 18, .len .str (.t 17), (some (16, false)), []⟩,
  ⟨some 19, .bin .gtr (.t 18) (.c (.int .i64 1)), (some (16, false)), []⟩,
  ⟨some 20, .move (.t 19), (some (16, false)), []⟩,
  ⟨some 21, .move (.t 4), (some (20, true)), []⟩,
  ⟨some 22, .idxStr (.t 21) (.c (.int .i64 0)), (some (20, true)), []⟩,
  ⟨some 23, .bin .eql (.t 22) (.c (.int .u8 48)), (some (20, true)), []⟩,
  ⟨some 24, .pick (.t 20) (.t 23) (.c (.bool false)), (some (16, false)), []⟩,
  ⟨some 25, .pick (.t 16) (.c (.bool true)) (.t 24), none, []⟩,
  ⟨some 26, .move (.t 25), none, []⟩,
  ⟨some 27, .move (.t 0), (some (26, false)), []⟩,
  ⟨some 28, .bin .eql (.t 27) (.c (.str [45, 48])), (some (26, false)), []⟩,
  ⟨some 29, .pick (.t 26) (.c (.bool true)) (.t 28), none, []⟩] none [0, 29])
(.cond (.t 29)
  (.seq (.ops [⟨some 2, .move (.c (.int .i64 0)), none, []⟩,
    ⟨some 3, .move (.c (.int .i64 2)), none, []⟩] none [2, 3])
  (.ret))
  (.skip)))
(.seq (.ops [⟨some 31, .move (.t 0), none, []⟩,
  ⟨some 32, .call 125 [(.t 31), (.c (.int .i64 10)), (.c (.int .i64 64))], none, []⟩,
  ⟨some 30, .move (.t 32), none, []⟩,
  ⟨some 33, .ext 0 (.t 30), none, []⟩,
  ⟨some 34, .ext 1 (.t 30), none, []⟩,
  ⟨some 5, .move (.t 33), none, []⟩,
  ⟨some 6, .move (.t 34), none, []⟩] none [5, 6])
(.seq (.seq (.ops [⟨some 35, .move (.t 6), none, []⟩,
  ⟨some 36, .eq true .i (.t 35) (.c .nili), none, []⟩] none [5, 36])
(.cond (.t 36)
  (.seq (.ops [⟨some 2, .move (.c (.int .i64 0)), none, []⟩,
    ⟨some 3, .move (.c (.int .i64 14)), none, []⟩] none [2, 3])
  (.ret))
  (.skip)))
(.seq (.ops [⟨some 37, .move (.t 5), none, []⟩,
  ⟨some 2, .move (.t 37), none, []⟩,
  ⟨some 3, .move (.c (.int .i64 0)), none, []⟩] none [2, 3])
(.ret)))))))
def f94 : SFunc := ⟨b94, [.t 2, .t 3]⟩

/-- watchbill/watchbillref8.Number -/
def b95 : SCode := (
.seq (.ops [⟨some 2, .move (.c (.int .i64 0)), none, []⟩,
  ⟨some 3, .move (.c (.int .i64 0)), none, []⟩] none [0])
(.seq (.ops [⟨some 10, .move (.t 0), none, []⟩,
  ⟨some 4, .move (.t 10), none, []⟩] none [0, 4])
(.seq (.ops [⟨some 11, .move (.t 0), none, []⟩,
  ⟨some 12, .len .str (.t 11), none, []⟩,
  ⟨some 13, .bin .gtr (.t 12) (.c (.int .i64 0)), none, []⟩,
  ⟨some 14, .move (.t 13), none, []⟩,
  ⟨some 15, .move (.t 0), (some (14, true)), []⟩,
  ⟨some 16, .idxStr (.t 15) (.c (.int .i64 0)), (some (14, true)), []⟩,
  ⟨some 17, .bin .eql (.t 16) (.c (.int .u8 45)), (some (14, true)), []⟩,
  ⟨some 18, .pick (.t 14) (.t 17) (.c (.bool false)), none, []⟩,
  ⟨some 5, .move (.t 18), none, []⟩] none [0, 4, 5])
(.seq (.seq (.ops [⟨some 19, .move (.t 5), none, []⟩] none [0, 4, 5, 19])
(.cond (.t 19)
  (.ops [⟨some 20, .move (.t 0), none, []⟩,
    ⟨some 21, .slStr (.t 20) (some (.c (.int .i64 1))) none, none, []⟩,
    ⟨some 4, .move (.t 21), none, []⟩] none [4, 5])
  (.skip)))
(.seq (.seq (.ops [⟨some 22, .move (.t 4), none, []⟩,
  ⟨some 23, .bin .eql (.t 22) (.c (.str [])), none, []⟩,
  ⟨some 24, .move (.t 23), none, []⟩,
  ⟨some 25, .move (.t 4), (some (24, false)), []⟩,
  ⟨some 26, .idxStr (.t 25) (.c (.int .i64 0)), (some (24, false)), []⟩,
  ⟨some 27, .bin .eql (.t 26) (.c (.int .u8 48)), (some (24, false)), []⟩,
  ⟨some 28, .move (.t 27), (some (24, false)), []⟩,
  ⟨some 29, .move (.t 4), (some (28, true)), []⟩,
  ⟨some 30, .len .str (.t 29), (some (28, true)), []⟩,
  ⟨some 31, .bin .gtr (.t 30) (.c (.int .i64 1)), (some (28, true)), []⟩,
  ⟨some 32, .move (.t 31), (some (28, true)), []⟩,
  ⟨some 33, .move (.t 5), (some (32, false)), []⟩,
  ⟨some 34, .pick (.t 32) (.c (.bool true)) (.t 33), (some (28, true)), []⟩,
  ⟨some 35, .pick (.t 28) (.t 34) (.c (.bool false)), (some (24, false)), []⟩,
  ⟨some 36, .pick (.t 24) (.c (.bool true)) (.t 35), none, []⟩] none [4, 5, 36])
(.cond (.t 36)
  (.seq (.ops [⟨some 2, .move (.c (.int .i64 0)), none, []⟩,
    ⟨some 3, .move (.c (.int .i64 2)), none, []⟩] none [2, 3])
  (.ret))
  (.skip)))
(.seq (.seq (.ops [⟨some 6, .move (.c (.int .i64 0)), none, []⟩] none [4, 5, 6])
(.block 0 (.loop [4, 5, 6] (.seq (.seq (.ops [⟨some 37, .move (.t 6), none, []⟩,
      ⟨some 38, .move (.t 4), none, []⟩,
      ⟨some 39, .len .str (.t 38), none, []⟩,
      ⟨some 40, .bin .lss (.t 37) (.t 39), none, []⟩] none [4, 5, 6, 40])
    (.cond (.t 40)
      (.skip)
      (.exit 0)))
    (.seq (.block 1 (.seq (.ops [⟨some 43, .move (.t 4), none, []⟩,
        ⟨some 44, .move (.t 6), none, []⟩,
        ⟨some 45, .idxStr (.t 43) (.t 44), none, []⟩,
        ⟨some 46, .bin .lss (.t 45) (.c (.int .u8 48)), none, []⟩,
        ⟨some 47, .move (.t 46), none, []⟩,
        ⟨some 48, .move (.t 4), (some (47, false)), []⟩,
        ⟨some 49, .move (.t 6), (some (47, false)), []⟩,
        ⟨some 50, .idxStr (.t 48) (.t 49), (some (47, false)), []⟩,
        ⟨some 51, .bin .gtr (.t 50) (.c (.int .u8 57)), (some (47, false)), []⟩,
        ⟨some 52, .pick (.t 47) (.c (.bool true)) (.t 51), none, []⟩] none [4, 5, 6, 52])
      (.cond (.t 52)
        (.seq (.ops [⟨some 2, .move (.c (.int .i64 0)), none, []⟩,
          ⟨some 3, .move (.c (.int .i64 2)), none, []⟩] none [2, 3])
        (.ret))
        (.skip))))
    (.ops [⟨some 41, .move (.t 6), none, []⟩,
      ⟨some 42, .bin .add (.t 41) (.c (.int .i64 1)), none, []⟩,
      ⟨some 6, .move (.t 42), none, []⟩] none [4, 5, 6]))))))
(.seq (.ops [⟨some 7, .move (.c (.int .i64 0)), none, []⟩] none [4, 5, 7])
(.seq (.seq (.ops [⟨some 8, .move (.c (.int .i64 0)), none, []⟩] none [4, 5, 7, 8])
(.block 2 (.loop [4, 5, 7, 8] (.seq (.seq (.ops [⟨some 53, .move (.t 8), none, []⟩,
      ⟨some 54, .move (.t 4), none, []⟩,
      ⟨some 55, .len .str (.t 54), none, []⟩,
      ⟨some 56, .bin .lss (.t 53) (.t 55), none, []⟩] none [4, 5, 7, 8, 56])
    (.cond (.t 56)
      (.skip)
      (.exit 2)))
    (.seq (.block 3 (.seq (.ops [⟨some 59, .move (.t 4), none, []⟩,
        ⟨some 60, .move (.t 8), none, []⟩,
        ⟨some 61, .idxStr (.t 59) (.t 60), none, []⟩,
        ⟨some 62, .bin .sub (.t 61) (.c (.int .u8 48)), none, []⟩,
        ⟨some 63, .conv .i64 (.t 62), none, []⟩,
        ⟨some 9, .move (.t 63), none, []⟩] none [4, 5, 7, 8, 9])
      (.seq (.seq (.ops [⟨some 64, .move (.t 7), none, []⟩,
        ⟨some 65, .move (.t 9), none, []⟩,
        ⟨some 66, .bin .add (.c (.int .i64 (-9223372036854775808))) (.t 65), none, []⟩,
        ⟨some 67, .bin .quo (.t 66) (.c (.int .i64 10)), none, []⟩,
        ⟨some 68, .bin .lss (.t 64) (.t 67), none, []⟩] none [4, 5, 7, 8, 9, 68])
      (.cond (.t 68)
        (.seq (.ops [⟨some 2, .move (.c (.int .i64 0)), none, []⟩,
          ⟨some 3, .move (.c (.int .i64 14)), none, []⟩] none [2, 3])
        (.ret))
        (.skip)))
      (.ops [⟨some 69, .move (.t 7), none, []⟩,
        ⟨some 70, .bin .mul (.c (.int .i64 10)) (.t 69), none, []⟩,
        ⟨some 71, .move (.t 9), none, []⟩,
        ⟨some 72, .bin .sub (.t 70) (.t 71), none, []⟩,
        ⟨some 7, .move (.t 72), none, []⟩] none [4, 5, 7, 8]))))
    (.ops [⟨some 57, .move (.t 8), none, []⟩,
      ⟨some 58, .bin .add (.t 57) (.c (.int .i64 1)), none, []⟩,
      ⟨some 8, .move (.t 58), none, []⟩] none [4, 5, 7, 8]))))))
(.seq (.seq (.ops [⟨some 73, .move (.t 5), none, []⟩] none [7, 73])
(.cond (.t 73)
  (.seq (.ops [⟨some 74, .move (.t 7), none, []⟩,
    ⟨some 2, .move (.t 74), none, []⟩,
    ⟨some 3, .move (.c (.int .i64 0)), none, []⟩] none [2, 3])
  (.ret))
  (.skip)))
(.seq (.seq (.ops [⟨some 75, .move (.t 7), none, []⟩,
  ⟨some 76, .bin .eql (.t 75) (.c (.int .i64 (-9223372036854775808))), none, []⟩] none [7, 76])
(.cond (.t 76)
  (.seq (.ops [⟨some 2, .move (.c (.int .i64 0)), none, []⟩,
    ⟨some 3, .move (.c (.int .i64 14)), none, []⟩] none [2, 3])
  (.ret))
  (.skip)))
(.seq (.ops [⟨some 77, .move (.t 7), none, []⟩,
  ⟨some 78, .bin .sub (.c (.int .i64 0)) (.t 77), none, []⟩,
  ⟨some 2, .move (.t 78), none, []⟩,
  ⟨some 3, .move (.c (.int .i64 0)), none, []⟩] none [2, 3])
(.ret))))))))))))
def f95 : SFunc := ⟨b95, [.t 2, .t 3]⟩

/-- watchbill/watchbilllaw4.Words -/
def b96 : SCode := (
.seq (.ops [⟨some 4, .move (.c (.bool false)), none, []⟩] none [0, 1])
(.seq (.seq (.ops [⟨some 6, .move (.t 0), none, []⟩,
  ⟨some 7, .len .sl (.t 6), none, []⟩,
  ⟨some 8, .move (.t 1), none, []⟩,
  ⟨some 9, .len .sl (.t 8), none, []⟩,
  ⟨some 10, .bin .neq (.t 7) (.t 9), none, []⟩] none [0, 1, 10])
(.cond (.t 10)
  (.seq (.ops [⟨some 4, .move (.c (.bool false)), none, []⟩] none [4])
  (.ret))
  (.skip)))
(.seq (.seq (.ops [⟨some 5, .move (.c (.int .i64 0)), none, []⟩] none [0, 1, 5])
(.block 0 (.loop [0, 1, 5] (.seq (.seq (.ops [⟨some 11, .move (.t 5), none, []⟩,
      ⟨some 12, .move (.t 0), none, []⟩,
      ⟨some 13, .len .sl (.t 12), none, []⟩,
      ⟨some 14, .bin .lss (.t 11) (.t 13), none, []⟩] none [0, 1, 5, 14])
    (.cond (.t 14)
      (.skip)
      (.exit 0)))
    (.seq (.block 1 (.seq (.ops [⟨some 17, .move (.t 0), none, []⟩,
        ⟨some 18, .move (.t 5), none, []⟩,
        ⟨some 19, .idxAddr 1 (.t 17) (.t 18), none, []⟩,
        ⟨some 20, .load none (.t 19), none, []⟩,
        ⟨some 21, .move (.t 1), none, []⟩,
        ⟨some 22, .move (.t 5), none, []⟩,
        ⟨some 23, .idxAddr 1 (.t 21) (.t 22), none, []⟩,
        ⟨some 24, .load none (.t 23), none, []⟩,
        ⟨some 25, .bin .neq (.t 20) (.t 24), none, []⟩] (some [(0, []), (1, []), (2, [0, 1]), (3, [2, 0, 1]), (4, []), (5, []), (6, [4, 5]), (7, [6, 4, 5]), (8, [3, 2, 0, 1, 7, 6, 4, 5])]) [0, 1, 5, 25])
      (.cond (.t 25)
        (.seq (.ops [⟨some 4, .move (.c (.bool false)), none, []⟩] none [4])
        (.ret))
        (.skip))))
    (.ops [⟨some 15, .move (.t 5), none, []⟩,
      ⟨some 16, .bin .add (.t 15) (.c (.int .i64 1)), none, []⟩,
      ⟨some 5, .move (.t 16), none, []⟩] none [0, 1, 5]))))))
(.seq (.ops [⟨some 4, .move (.c (.bool true)), none, []⟩] none [4])
(.ret)))))
def f96 : SFunc := ⟨b96, [.t 4]⟩

/-- watchbill/word.Name -/
def b97 : SCode := (
.seq (.ops [⟨some 2, .move (.c (.bool false)), none, []⟩] none [0])
(.seq (.ops [⟨some 3, .move (.t 0), none, []⟩,
  ⟨some 4, .len .str (.t 3), none, []⟩,
  ⟨some 5, .bin .geq (.t 4) (.c (.int .i64 1)), none, []⟩,
  ⟨some 6, .move (.t 5), none, []⟩,
  ⟨some 7, .move (.t 0), (some (6, true)), []⟩,
  ⟨some 8, .len .str (.t 7), (some (6, true)), []⟩,
  ⟨some 9, .bin .leq (.t 8) (.c (.int .i64 8)), (some (6, true)), []⟩,
  ⟨some 10, .pick (.t 6) (.t 9) (.c (.bool false)), none, []⟩,
  ⟨some 11, .move (.t 10), none, []⟩,
  ⟨some 12, .move (.t 0), (some (11, true)), []⟩,
  ⟨some 13, .call 124 [(.t 12), (.c (.str [97, 98, 99, 100, 101, 102, 103, 104, 105, 106, 107, 108, 109, 110, 111, 112, 113, 114, 115, 116, 117, 118, 119, 120, 121, 122]))], (some (11, true)), []⟩,
  ⟨some 14, .bin .eql (.t 13) (.c (.str [])), (some (11, true)), []⟩,
  ⟨some 15, .pick (.t 11) (.t 14) (.c (.bool false)), none, []⟩,
  ⟨some 2, .move (.t 15), none, []⟩] none [2])
(.ret)))
def f97 : SFunc := ⟨b97, [.t 2]⟩

/-- watchbill/watchbillref8.Name -/
def b98 : SCode := (
.seq (.ops [⟨some 2, .move (.c (.bool false)), none, []⟩] none [0])
(.seq (.seq (.ops [⟨some 4, .move (.t 0), none, []⟩,
  ⟨some 5, .len .str (.t 4), none, []⟩,
  ⟨some 6, .bin .lss (.t 5) (.c (.int .i64 1)), none, []⟩,
  ⟨some 7, .move (.t 6), none, []⟩,
  ⟨some 8, .move (.t 0), (some (7, false)), []⟩,
  ⟨some 9, .len .str (.t 8), (some (7, false)), []⟩,
  ⟨some 10, .bin .gtr (.t 9) (.c (.int .i64 8)), (some (7, false)), []⟩,
  ⟨some 11, .pick (.t 7) (.c (.bool true)) (.t 10), none, []⟩] none [0, 11])
(.cond (.t 11)
  (.seq (.ops [⟨some 2, .move (.c (.bool false)), none, []⟩] none [2])
  (.ret))
  (.skip)))
(.seq (.seq (.ops [⟨some 3, .move (.c (.int .i64 0)), none, []⟩] none [0, 3])
(.block 0 (.loop [0, 3] (.seq (.seq (.ops [⟨some 12, .move (.t 3), none, []⟩,
      ⟨some 13, .move (.t 0), none, []⟩,
      ⟨some 14, .len .str (.t 13), none, []⟩,
      ⟨some 15, .bin .lss (.t 12) (.t 14), none, []⟩] none [0, 3, 15])
    (.cond (.t 15)
      (.skip)
      (.exit 0)))
    (.seq (.block 1 (.seq (.ops [⟨some 18, .move (.t 0), none, []⟩,
        ⟨some 19, .move (.t 3), none, []⟩,
        ⟨some 20, .idxStr (.t 18) (.t 19), none, []⟩,
        ⟨some 21, .bin .lss (.t 20) (.c (.int .u8 97)), none, []⟩,
        ⟨some 22, .move (.t 21), none, []⟩,
        ⟨some 23, .move (.t 0), (some (22, false)), []⟩,
        ⟨some 24, .move (.t 3), (some (22, false)), []⟩,
        ⟨some 25, .idxStr (.t 23) (.t 24), (some (22, false)), []⟩,
        ⟨some 26, .bin .gtr (.t 25) (.c (.int .u8 122)), (some (22, false)), []⟩,
        ⟨some 27, .pick (.t 22) (.c (.bool true)) (.t 26), none, []⟩] none [0, 3, 27])
      (.cond (.t 27)
        (.seq (.ops [⟨some 2, .move (.c (.bool false)), none, []⟩] none [2])
        (.ret))
        (.skip))))
    (.ops [⟨some 16, .move (.t 3), none, []⟩,
      ⟨some 17, .bin .add (.t 16) (.c (.int .i64 1)), none, []⟩,
      ⟨some 3, .move (.t 17), none, []⟩] none [0, 3]))))))
(.seq (.ops [⟨some 2, .move (.c (.bool true)), none, []⟩] none [2])
(.ret)))))
def f98 : SFunc := ⟨b98, [.t 2]⟩

/-- watchbill/word.Text -/
def b99 : SCode := (
.seq (.ops [⟨some 2, .move (.c (.str [])), none, []⟩] none [0])
(.seq (.ops [⟨some 3, .move (.t 0), none, []⟩,
  ⟨some 4, .call 126 [(.t 3), (.c (.int .i64 10))], none, []⟩,
  ⟨some 2, .move (.t 4), none, []⟩] none [2])
(.ret)))
def f99 : SFunc := ⟨b99, [.t 2]⟩

/-- watchbill/watchbillref8.Word -/
def b101 : SCode := (
.seq (.ops [⟨some 2, .move (.c (.str [])), none, []⟩] none [0])
(.seq (.seq (.ops [⟨some 4, .move (.t 0), none, []⟩,
  ⟨some 5, .bin .lss (.t 4) (.c (.int .i64 0)), none, []⟩] none [0, 5])
(.cond (.t 5)
  (.seq (.seq (.ops [⟨some 6, .move (.t 0), none, []⟩,
    ⟨some 7, .bin .gtr (.t 6) (.c (.int .i64 (-10))), none, []⟩] none [0, 7])
  (.cond (.t 7)
    (.seq (.ops [⟨some 8, .move (.t 0), none, []⟩,
      ⟨some 9, .bin .sub (.c (.int .i64 0)) (.t 8), none, []⟩,
      ⟨some 10, .call 101 [(.t 9)], none, []⟩,
      ⟨some 11, .bin .add (.c (.str [45])) (.t 10), none, []⟩,
      ⟨some 2, .move (.t 11), none, []⟩] none [2])
    (.ret))
    (.skip)))
  (.seq (.ops [⟨some 12, .move (.t 0), none, []⟩,
    ⟨some 13, .bin .quo (.t 12) (.c (.int .i64 10)), none, []⟩,
    ⟨some 14, .call 101 [(.t 13)], none, []⟩,
    ⟨some 15, .move (.t 0), none, []⟩,
    ⟨some 16, .bin .rem (.t 15) (.c (.int .i64 10)), none, []⟩,
    ⟨some 17, .bin .sub (.c (.int .i64 0)) (.t 16), none, []⟩,
    ⟨some 18, .call 101 [(.t 17)], none, []⟩,
    ⟨some 19, .bin .add (.t 14) (.t 18), none, []⟩,
    ⟨some 2, .move (.t 19), none, []⟩] none [2])
  (.ret)))
  (.skip)))
(.seq (.ops [⟨some 20, .move (.t 0), none, []⟩,
  ⟨some 21, .bin .rem (.t 20) (.c (.int .i64 10)), none, []⟩,
  ⟨some 22, .bin .add (.c (.int .i64 48)) (.t 21), none, []⟩,
  ⟨some 23, .conv .u8 (.t 22), none, []⟩,
  ⟨some 24, .buildSl 1 [(.int .u8 0)] [(0, 1, (.t 23))], none, []⟩,
  ⟨some 25, .toStr (.t 24), none, []⟩,
  ⟨some 3, .move (.t 25), none, []⟩] none [0, 3])
(.seq (.block 0 (.loop [0, 3] (.seq (.seq (.ops [⟨some 26, .move (.t 0), none, []⟩,
      ⟨some 27, .bin .geq (.t 26) (.c (.int .i64 10)), none, []⟩] none [0, 3, 27])
    (.cond (.t 27)
      (.skip)
      (.exit 0)))
    (.block 1 (.seq (.ops [⟨some 28, .move (.t 0), none, []⟩,
        ⟨some 29, .bin .quo (.t 28) (.c (.int .i64 10)), none, []⟩,
        ⟨some 0, .move (.t 29), none, []⟩] none [0, 3])
      (.ops [⟨some 30, .move (.t 0), none, []⟩,
        ⟨some 31, .bin .rem (.t 30) (.c (.int .i64 10)), none, []⟩,
        ⟨some 32, .bin .add (.c (.int .i64 48)) (.t 31), none, []⟩,
        ⟨some 33, .conv .u8 (.t 32), none, []⟩,
        ⟨some 34, .buildSl 1 [(.int .u8 0)] [(0, 1, (.t 33))], none, []⟩,
        ⟨some 35, .toStr (.t 34), none, []⟩,
        ⟨some 36, .move (.t 3), none, []⟩,
        ⟨some 37, .bin .add (.t 35) (.t 36), none, []⟩,
        ⟨some 3, .move (.t 37), none, []⟩] none [0, 3]))))))
(.seq (.ops [⟨some 38, .move (.t 3), none, []⟩,
  ⟨some 2, .move (.t 38), none, []⟩] none [2])
(.ret))))))
def f101 : SFunc := ⟨b101, [.t 2]⟩

/-- watchbill/watchbilllaw21.known -/
def b107 : SCode := (
.seq (.ops [⟨some 0, .move (.c (.bool false)), none, []⟩] none [])
(.seq (.ops [⟨some 16, .call 112 [(.c (.str [53, 32, 114, 101, 115, 117, 108, 116, 32, 49, 32, 51, 32, 48, 32, 45, 49, 32, 45, 57]))], none, []⟩,
  ⟨some 15, .move (.t 16), none, []⟩,
  ⟨some 17, .ext 0 (.t 15), none, []⟩,
  ⟨some 18, .ext 1 (.t 15), none, []⟩,
  ⟨some 1, .alloc (.agg [(.int .i64 0), (.int .i64 0), (.int .i64 0), (.int .i64 0), (.int .i64 0), (.int .i64 0), (.int .i64 0)]), none, []⟩,
  ⟨none, .store (some 7) (.t 1) (.t 17), none, []⟩,
  ⟨some 2, .move (.t 18), none, []⟩] none [1, 2])
(.seq (.ops [⟨some 20, .call 112 [(.c (.str [53, 32, 105, 100, 108, 101, 32, 49]))], none, []⟩,
  ⟨some 19, .move (.t 20), none, []⟩,
  ⟨some 21, .ext 0 (.t 19), none, []⟩,
  ⟨some 22, .ext 1 (.t 19), none, []⟩,
  ⟨some 3, .alloc (.agg [(.int .i64 0), (.int .i64 0), (.int .i64 0), (.int .i64 0), (.int .i64 0), (.int .i64 0), (.int .i64 0)]), none, []⟩,
  ⟨none, .store (some 7) (.t 3) (.t 21), none, []⟩,
  ⟨some 4, .move (.t 22), none, []⟩] none [1, 2, 4])
(.seq (.ops [⟨some 24, .call 112 [(.c (.str [53, 32, 114, 101, 102, 117, 115, 101, 32, 49, 32, 48]))], none, []⟩,
  ⟨some 23, .move (.t 24), none, []⟩,
  ⟨some 25, .ext 0 (.t 23), none, []⟩,
  ⟨some 26, .ext 1 (.t 23), none, []⟩,
  ⟨some 5, .alloc (.agg [(.int .i64 0), (.int .i64 0), (.int .i64 0), (.int .i64 0), (.int .i64 0), (.int .i64 0), (.int .i64 0)]), none, []⟩,
  ⟨none, .store (some 7) (.t 5) (.t 25), none, []⟩,
  ⟨some 6, .move (.t 26), none, []⟩] none [1, 2, 4, 6])
(.seq (.ops [⟨some 28, .call 112 [(.c (.str [53, 32, 114, 101, 115, 117, 108, 116, 32, 49, 32, 51, 32, 48, 32, 45, 49, 32, 57, 57, 57, 57, 57, 57, 57, 57, 57, 57, 57, 57, 57, 57, 57, 57, 57, 57, 57, 57]))], none, []⟩,
  ⟨some 27, .move (.t 28), none, []⟩,
  ⟨some 29, .ext 0 (.t 27), none, []⟩,
  ⟨some 30, .ext 1 (.t 27), none, []⟩,
  ⟨some 7, .alloc (.agg [(.int .i64 0), (.int .i64 0), (.int .i64 0), (.int .i64 0), (.int .i64 0), (.int .i64 0), (.int .i64 0)]), none, []⟩,
  ⟨none, .store (some 7) (.t 7) (.t 29), none, []⟩,
  ⟨some 8, .move (.t 30), none, []⟩] none [1, 2, 4, 6, 8])
(.seq (.ops [⟨some 32, .call 112 [(.c (.str [53, 32, 114, 117, 110, 115, 32, 57, 57, 57, 57, 57, 57, 57, 57, 57, 57, 57]))], none, []⟩,
  ⟨some 31, .move (.t 32), none, []⟩,
  ⟨some 33, .ext 0 (.t 31), none, []⟩,
  ⟨some 34, .ext 1 (.t 31), none, []⟩,
  ⟨some 9, .alloc (.agg [(.int .i64 0), (.int .i64 0), (.int .i64 0), (.int .i64 0), (.int .i64 0), (.int .i64 0), (.int .i64 0)]), none, []⟩,
  ⟨none, .store (some 7) (.t 9) (.t 33), none, []⟩,
  ⟨some 10, .move (.t 34), none, []⟩] none [1, 2, 4, 6, 8, 10])
(.seq (.ops [⟨some 36, .call 112 [(.c (.str [53, 32, 106, 117, 109, 112, 115, 32, 49]))], none, []⟩,
  ⟨some 35, .move (.t 36), none, []⟩,
  ⟨some 37, .ext 0 (.t 35), none, []⟩,
  ⟨some 38, .ext 1 (.t 35), none, []⟩,
  ⟨some 11, .alloc (.agg [(.int .i64 0), (.int .i64 0), (.int .i64 0), (.int .i64 0), (.int .i64 0), (.int .i64 0), (.int .i64 0)]), none, []⟩,
  ⟨none, .store (some 7) (.t 11) (.t 37), none, []⟩,
  ⟨some 12, .move (.t 38), none, []⟩] none [1, 2, 4, 6, 8, 10, 12])
(.seq (.ops [⟨some 40, .call 112 [(.c (.str [45, 49, 32, 105, 100, 108, 101]))], none, []⟩,
  ⟨some 39, .move (.t 40), none, []⟩,
  ⟨some 41, .ext 0 (.t 39), none, []⟩,
  ⟨some 42, .ext 1 (.t 39), none, []⟩,
  ⟨some 13, .alloc (.agg [(.int .i64 0), (.int .i64 0), (.int .i64 0), (.int .i64 0), (.int .i64 0), (.int .i64 0), (.int .i64 0)]), none, []⟩,
  ⟨none, .store (some 7) (.t 13) (.t 41), none, []⟩,
  ⟨some 14, .move (.t 42), none, []⟩] none [1, 2, 4, 6, 8, 10, 12, 14])
(.seq (.ops [⟨some 43, .move (.t 2), none, []⟩,
  ⟨some 44, .bin .eql (.t 43) (.c (.int .i64 0)), none, []⟩,
  ⟨some 45, .move (.t 44), none, []⟩,
  ⟨some 46, .load (some 7) (.t 1), (some (45, true)), []⟩,
  ⟨some 47, .build [(.int .i64 0), (.int .i64 0), (.int .i64 0), (.int .i64 0), (.int .i64 0), (.int .i64 0), (.int .i64 0)] [(0, 1, (.c (.int .i64 5))), (1, 1, (.c (.int .i64 4))), (2, 1, (.c (.int .i64 1))), (3, 1, (.c (.int .i64 3))), (5, 1, (.c (.int .i64 (-1)))), (6, 1, (.c (.int .i64 (-9))))], (some (45, true)), []⟩,
  ⟨some 48, .eq false (.st [.i, .i, .i, .i, .i, .i, .i]) (.t 46) (.t 47), (some (45, true)), []⟩,
  ⟨some 49, .pick (.t 45) (.t 48) (.c (.bool false)), none, []⟩,
  ⟨some 50, .move (.t 49), none, []⟩,
  ⟨some 51, .load (some 7) (.t 1), (some (50, true)), []⟩,
  ⟨some 52, .call 111 [(.t 51)], (some (50, true)), []⟩,
  ⟨some 53, .bin .eql (.t 52) (.c (.str [53, 32, 114, 101, 115, 117, 108, 116, 32, 49, 32, 51, 32, 48, 32, 45, 49, 32, 45, 57])), (some (50, true)), []⟩,
  ⟨some 54, .pick (.t 50) (.t 53) (.c (.bool false)), none, []⟩,
  ⟨some 55, .move (.t 54), none, []⟩,
  ⟨some 56, .move (.t 4), (some (55, true)), []⟩,
  ⟨some 57, .bin .eql (.t 56) (.c (.int .i64 2)), (some (55, true)), []⟩,
  ⟨some 58, .pick (.t 55) (.t 57) (.c (.bool false)), none, []⟩,
  ⟨some 59, .move (.t 58), none, []⟩,
  ⟨some 60, .move (.t 6), (some (59, true)), []⟩,
  ⟨some 61, .bin .eql (.t 60) (.c (.int .i64 1)), (some (59, true)), []⟩,
  ⟨some 62, .pick (.t 59) (.t 61) (.c (.bool false)), none, []⟩,
  ⟨some 63, .move (.t 62), none, []⟩,
  ⟨some 64, .move (.t 8), (some (63, true)), []⟩,
  ⟨some 65, .bin .eql (.t 64) (.c (.int .i64 14)), (some (63, true)), []⟩,
  ⟨some 66, .pick (.t 63) (.t 65) (.c (.bool false)), none, []⟩,
  ⟨some 67, .move (.t 66), none, []⟩,
  ⟨some 68, .move (.t 10), (some (67, true)), []⟩,
  ⟨some 69, .bin .eql (.t 68) (.c (.int .i64 14)), (some (67, true)), []⟩,
  ⟨some 70, .pick (.t 67) (.t 69) (.c (.bool false)), none, []⟩,
  ⟨some 71, .move (.t 70), none, []⟩,
  ⟨some 72, .move (.t 12), (some (71, true)), []⟩,
  ⟨some 73, .bin .eql (.t 72) (.c (.int .i64 2)), (some (71, true)), []⟩,
  ⟨some 74, .pick (.t 71) (.t 73) (.c (.bool false)), none, []⟩,
  ⟨some 75, .move (.t 74), none, []⟩,
  ⟨some 76, .move (.t 14), (some (75, true)), []⟩,
  ⟨some 77, .bin .eql (.t 76) (.c (.int .i64 1)), (some (75, true)), []⟩,
  ⟨some 78, .pick (.t 75) (.t 77) (.c (.bool false)), none, []⟩,
  ⟨some 79, .move (.t 78), none, []⟩,
  ⟨some 80, .build [(.int .i64 0), (.int .i64 0), (.int .i64 0), (.int .i64 0), (.int .i64 0), (.int .i64 0), (.int .i64 0)] [(1, 1, (.c (.int .i64 8)))], (some (79, true)), []⟩,
  ⟨some 81, .build [(.int .i64 0), (.int .i64 0), (.int .i64 0), (.int .i64 0), (.int .i64 0), (.int .i64 0), (.int .i64 0)] [(0, 1, (.c (.int .i64 1))), (1, 1, (.c (.int .i64 6))), (2, 1, (.c (.int .i64 4)))], (some (79, true)), []⟩,
  ⟨some 82, .buildSl 2 [(.int .i64 0), (.int .i64 0), (.int .i64 0), (.int .i64 0), (.int .i64 0), (.int .i64 0), (.int .i64 0), (.int .i64 0), (.int .i64 0), (.int .i64 0), (.int .i64 0), (.int .i64 0), (.int .i64 0), (.int .i64 0)] [(0, 7, (.t 80)), (7, 7, (.t 81))], (some (79, true)), []⟩,
  ⟨some 83, .call 114 [(.t 82)], (some (79, true)), []⟩,
  ⟨some 84, .bin .eql (.t 83) (.c (.str [48, 32, 105, 100, 108, 101, 10, 49, 32, 100, 111, 110, 101, 32, 52, 10])), (some (79, true)), []⟩,
  ⟨some 85, .pick (.t 79) (.t 84) (.c (.bool false)), none, []⟩,
  ⟨some 86, .move (.t 85), none, []⟩,
  ⟨some 87, .build [(.int .i64 0), (.int .i64 0), (.int .i64 0), (.int .i64 0), (.int .i64 0), (.int .i64 0), (.int .i64 0)] [], (some (86, true)), []⟩,
  ⟨some 88, .call 109 [(.t 87)], (some (86, true)), []⟩,
  ⟨some 89, .bin .eql (.t 88) (.c (.int .i64 3)), (some (86, true)), []⟩,
  ⟨some 90, .pick (.t 86) (.t 89) (.c (.bool false)), none, []⟩,
  ⟨some 0, .move (.t 90), none, []⟩] none [0])
(.ret))))))))))
def f107 : SFunc := ⟨b107, [.t 0]⟩

/-- watchbill/watchbilllaw21.To -/
def b108 : SCode := (
.seq (.ops [⟨some 1, .box (.t 0), none, []⟩,
  ⟨some 2, .alloc (.agg [(.int .i64 0), (.int .i64 0), (.int .i64 0), (.int .i64 0), (.int .i64 0), (.int .i64 0), (.int .i64 0)]), none, []⟩] none [1, 2])
(.seq (.ops [⟨some 3, .fldAddr 0 (.t 1), none, []⟩,
  ⟨some 4, .load none (.t 3), none, []⟩,
  ⟨some 5, .fldAddr 1 (.t 1), none, []⟩,
  ⟨some 6, .load none (.t 5), none, []⟩,
  ⟨some 7, .fldAddr 2 (.t 1), none, []⟩,
  ⟨some 8, .load none (.t 7), none, []⟩,
  ⟨some 9, .fldAddr 3 (.t 1), none, []⟩,
  ⟨some 10, .load none (.t 9), none, []⟩,
  ⟨some 11, .fldAddr 4 (.t 1), none, []⟩,
  ⟨some 12, .load none (.t 11), none, []⟩,
  ⟨some 13, .fldAddr 5 (.t 1), none, []⟩,
  ⟨some 14, .load none (.t 13), none, []⟩,
  ⟨some 15, .fldAddr 6 (.t 1), none, []⟩,
  ⟨some 16, .load none (.t 15), none, []⟩,
  ⟨some 17, .build [(.int .i64 0), (.int .i64 0), (.int .i64 0), (.int .i64 0), (.int .i64 0), (.int .i64 0), (.int .i64 0)] [(0, 1, (.t 4)), (1, 1, (.t 6)), (2, 1, (.t 8)), (3, 1, (.t 10)), (4, 1, (.t 12)), (5, 1, (.t 14)), (6, 1, (.t 16))], none, []⟩,
  ⟨none, .store (some 7) (.t 2) (.t 17), none, []⟩] none [2])
(.ret)))
def f108 : SFunc := ⟨b108, [.cell (some 7) 2]⟩

/-- watchbill/event.Check -/
def b109 : SCode := (
.seq (.ops [⟨some 1, .box (.t 0), none, []⟩,
  ⟨some 2, .move (.c (.int .i64 0)), none, []⟩] none [1])
(.seq (.seq (.ops [⟨some 4, .fldAddr 1 (.t 1), none, []⟩,
  ⟨some 5, .load none (.t 4), none, []⟩,
  ⟨some 6, .bin .lss (.t 5) (.c (.int .i64 1)), none, []⟩,
  ⟨some 7, .move (.t 6), none, []⟩,
  ⟨some 8, .fldAddr 1 (.t 1), (some (7, false)), []⟩,
  ⟨some 9, .load none (.t 8), (some (7, false)), []⟩,
  ⟨some 10, .bin .gtr (.t 9) (.c (.int .i64 8)), (some (7, false)), []⟩,
  ⟨some 11, .pick (.t 7) (.c (.bool true)) (.t 10), none, []⟩] none [1, 11])
(.cond (.t 11)
  (.seq (.ops [⟨some 2, .move (.c (.int .i64 3)), none, []⟩] none [2])
  (.ret))
  (.skip)))
(.seq (.ops [⟨some 13, .fldAddr 1 (.t 1), none, []⟩,
  ⟨some 14, .load none (.t 13), none, []⟩,
  ⟨some 3, .alloc (.agg [(.str []), (.bool false), (.bool false), (.bool false), (.bool false)]), none, []⟩,
  ⟨some 12, .call 127 [], none, [1]⟩,
  ⟨some 15, .idxAddr 5 (.t 12) (.t 14), none, []⟩,
  ⟨some 16, .load (some 5) (.t 15), none, []⟩,
  ⟨none, .store (some 5) (.t 3) (.t 16), none, []⟩] (some [(1, []), (2, [0]), (5, []), (0, []), (3, [3, 1, 0]), (4, [4, 3, 1, 0]), (6, [2, 5, 4, 3, 1, 0])]) [1, 3])
(.seq (.block 0 (.seq (.ops [⟨some 18, .fldAddr 0 (.t 1), none, []⟩,
    ⟨some 19, .load none (.t 18), none, []⟩,
    ⟨some 20, .bin .lss (.t 19) (.c (.int .i64 0)), none, []⟩,
    ⟨some 21, .move (.t 20), none, []⟩,
    ⟨some 22, .fldAddr 0 (.t 1), (some (21, false)), []⟩,
    ⟨some 23, .load none (.t 22), (some (21, false)), []⟩,
    ⟨some 24, .bin .gtr (.t 23) (.c (.int .i64 1099511627776)), (some (21, false)), []⟩,
    ⟨some 25, .pick (.t 21) (.c (.bool true)) (.t 24), none, []⟩,
    ⟨some 26, .move (.t 25), none, []⟩,
    ⟨some 27, .fldAddr 1 (.t 3), (some (26, false)), []⟩,
    ⟨some 28, .load none (.t 27), (some (26, false)), []⟩,
    ⟨some 29, .not (.t 28), (some (26, false)), []⟩,
    ⟨some 30, .move (.t 29), (some (26, false)), []⟩,
    ⟨some 31, .fldAddr 2 (.t 1), (some (30, true)), []⟩,
    ⟨some 32, .load none (.t 31), (some (30, true)), []⟩,
    ⟨some 33, .bin .neq (.t 32) (.c (.int .i64 0)), (some (30, true)), []⟩,
    ⟨some 34, .pick (.t 30) (.t 33) (.c (.bool false)), (some (26, false)), []⟩,
    ⟨some 35, .pick (.t 26) (.c (.bool true)) (.t 34), none, []⟩,
    ⟨some 17, .move (.t 35), none, []⟩] none [1, 3, 17])
  (.cond (.t 17)
    (.skip)
    (.seq (.ops [⟨some 37, .fldAddr 2 (.t 3), none, []⟩,
      ⟨some 38, .load none (.t 37), none, []⟩,
      ⟨some 39, .not (.t 38), none, []⟩,
      ⟨some 40, .move (.t 39), none, []⟩,
      ⟨some 41, .fldAddr 3 (.t 1), (some (40, true)), []⟩,
      ⟨some 42, .load none (.t 41), (some (40, true)), []⟩,
      ⟨some 43, .bin .neq (.t 42) (.c (.int .i64 0)), (some (40, true)), []⟩,
      ⟨some 44, .pick (.t 40) (.t 43) (.c (.bool false)), none, []⟩,
      ⟨some 45, .move (.t 44), none, []⟩,
      ⟨some 46, .fldAddr 3 (.t 1), (some (45, false)), []⟩,
      ⟨some 47, .load none (.t 46), (some (45, false)), []⟩,
      ⟨some 48, .bin .lss (.t 47) (.c (.int .i64 0)), (some (45, false)), []⟩,
      ⟨some 49, .pick (.t 45) (.c (.bool true)) (.t 48), none, []⟩,
      ⟨some 36, .move (.t 49), none, []⟩] none [1, 3, 36])
    (.cond (.t 36)
      (.skip)
      (.seq (.ops [⟨some 51, .fldAddr 3 (.t 3), none, []⟩,
        ⟨some 52, .load none (.t 51), none, []⟩,
        ⟨some 53, .not (.t 52), none, []⟩,
        ⟨some 54, .move (.t 53), none, []⟩,
        ⟨some 55, .fldAddr 4 (.t 1), (some (54, true)), []⟩,
        ⟨some 56, .load none (.t 55), (some (54, true)), []⟩,
        ⟨some 57, .bin .neq (.t 56) (.c (.int .i64 0)), (some (54, true)), []⟩,
        ⟨some 58, .pick (.t 54) (.t 57) (.c (.bool false)), none, []⟩,
        ⟨some 59, .move (.t 58), none, []⟩,
        ⟨some 60, .fldAddr 4 (.t 1), (some (59, false)), []⟩,
        ⟨some 61, .load none (.t 60), (some (59, false)), []⟩,
        ⟨some 62, .bin .lss (.t 61) (.c (.int .i64 0)), (some (59, false)), []⟩,
        ⟨some 63, .pick (.t 59) (.c (.bool true)) (.t 62), none, []⟩,
        ⟨some 64, .move (.t 63), none, []⟩,
        ⟨some 65, .fldAddr 4 (.t 1), (some (64, false)), []⟩,
        ⟨some 66, .load none (.t 65), (some (64, false)), []⟩,
        ⟨some 67, .bin .gtr (.t 66) (.c (.int .i64 18)), (some (64, false)), []⟩,
        ⟨some 68, .pick (.t 64) (.c (.bool true)) (.t 67), none, []⟩,
        ⟨some 69, .move (.t 68), none, []⟩,
        ⟨some 70, .fldAddr 1 (.t 1), (some (69, false)), []⟩,
        ⟨some 71, .load none (.t 70), (some (69, false)), []⟩,
        ⟨some 72, .bin .eql (.t 71) (.c (.int .i64 2)), (some (69, false)), []⟩,
        ⟨some 73, .move (.t 72), (some (69, false)), []⟩,
        ⟨some 74, .fldAddr 4 (.t 1), (some (73, true)), []⟩,
        ⟨some 75, .load none (.t 74), (some (73, true)), []⟩,
        ⟨some 76, .bin .eql (.t 75) (.c (.int .i64 0)), (some (73, true)), []⟩,
        ⟨some 77, .pick (.t 73) (.t 76) (.c (.bool false)), (some (69, false)), []⟩,
        ⟨some 78, .pick (.t 69) (.c (.bool true)) (.t 77), none, []⟩,
        ⟨some 50, .move (.t 78), none, []⟩] none [1, 3, 50])
      (.cond (.t 50)
        (.skip)
        (.seq (.ops [⟨some 80, .fldAddr 4 (.t 3), none, []⟩,
          ⟨some 81, .load none (.t 80), none, []⟩,
          ⟨some 82, .not (.t 81), none, []⟩,
          ⟨some 83, .move (.t 82), none, []⟩,
          ⟨some 84, .fldAddr 5 (.t 1), (some (83, true)), []⟩,
          ⟨some 85, .load none (.t 84), (some (83, true)), []⟩,
          ⟨some 86, .bin .neq (.t 85) (.c (.int .i64 0)), (some (83, true)), []⟩,
          ⟨some 87, .move (.t 86), (some (83, true)), []⟩,
          ⟨some 88, .fldAddr 6 (.t 1), (some (87, false)), []⟩,
          ⟨some 89, .load none (.t 88), (some (87, false)), []⟩,
          ⟨some 90, .bin .neq (.t 89) (.c (.int .i64 0)), (some (87, false)), []⟩,
          ⟨some 91, .pick (.t 87) (.c (.bool true)) (.t 90), (some (83, true)), []⟩,
          ⟨some 92, .pick (.t 83) (.t 91) (.c (.bool false)), none, []⟩,
          ⟨some 93, .move (.t 92), none, []⟩,
          ⟨some 94, .fldAddr 5 (.t 1), (some (93, false)), []⟩,
          ⟨some 95, .load none (.t 94), (some (93, false)), []⟩,
          ⟨some 96, .bin .lss (.t 95) (.c (.int .i64 (-1))), (some (93, false)), []⟩,
          ⟨some 97, .pick (.t 93) (.c (.bool true)) (.t 96), none, []⟩,
          ⟨some 79, .move (.t 97), none, []⟩] none [79])
        (.cond (.t 79)
          (.skip)
          (.seq (.ops [⟨some 2, .move (.c (.int .i64 0)), none, []⟩] none [2])
          (.ret)))))))))))
(.seq (.ops [⟨some 2, .move (.c (.int .i64 1)), none, []⟩] none [2])
(.ret))))))
def f109 : SFunc := ⟨b109, [.t 2]⟩

/-- watchbill/watchbillref21.CheckEvent -/
def b110 : SCode := (
.seq (.ops [⟨some 1, .box (.t 0), none, []⟩,
  ⟨some 2, .move (.c (.int .i64 0)), none, []⟩] none [1])
(.seq (.seq (.ops [⟨some 3, .fldAddr 1 (.t 1), none, []⟩,
  ⟨some 4, .load none (.t 3), none, []⟩,
  ⟨some 5, .bin .lss (.t 4) (.c (.int .i64 1)), none, []⟩,
  ⟨some 6, .move (.t 5), none, []⟩,
  ⟨some 7, .fldAddr 1 (.t 1), (some (6, false)), []⟩,
  ⟨some 8, .load none (.t 7), (some (6, false)), []⟩,
  ⟨some 9, .bin .gtr (.t 8) (.c (.int .i64 8)), (some (6, false)), []⟩,
  ⟨some 10, .pick (.t 6) (.c (.bool true)) (.t 9), none, []⟩] none [1, 10])
(.cond (.t 10)
  (.seq (.ops [⟨some 2, .move (.c (.int .i64 3)), none, []⟩] none [2])
  (.ret))
  (.skip)))
(.seq (.seq (.ops [⟨some 11, .fldAddr 0 (.t 1), none, []⟩,
  ⟨some 12, .load none (.t 11), none, []⟩,
  ⟨some 13, .bin .lss (.t 12) (.c (.int .i64 0)), none, []⟩,
  ⟨some 14, .move (.t 13), none, []⟩,
  ⟨some 15, .fldAddr 0 (.t 1), (some (14, false)), []⟩,
  ⟨some 16, .load none (.t 15), (some (14, false)), []⟩,
  ⟨some 17, .bin .gtr (.t 16) (.c (.int .i64 1099511627776)), (some (14, false)), []⟩,
  ⟨some 18, .pick (.t 14) (.c (.bool true)) (.t 17), none, []⟩,
  ⟨some 19, .move (.t 18), none, []⟩,
  ⟨some 20, .fldAddr 1 (.t 1), (some (19, false)), []⟩,
  ⟨some 21, .load none (.t 20), (some (19, false)), []⟩,
  ⟨some 22, .bin .eql (.t 21) (.c (.int .i64 8)), (some (19, false)), []⟩,
  ⟨some 23, .move (.t 22), (some (19, false)), []⟩,
  ⟨some 24, .fldAddr 2 (.t 1), (some (23, true)), []⟩,
  ⟨some 25, .load none (.t 24), (some (23, true)), []⟩,
  ⟨some 26, .bin .neq (.t 25) (.c (.int .i64 0)), (some (23, true)), []⟩,
  ⟨some 27, .pick (.t 23) (.t 26) (.c (.bool false)), (some (19, false)), []⟩,
  ⟨some 28, .pick (.t 19) (.c (.bool true)) (.t 27), none, []⟩,
  ⟨some 29, .move (.t 28), none, []⟩,
  ⟨some 30, .fldAddr 1 (.t 1), (some (29, false)), []⟩,
  ⟨some 31, .load none (.t 30), (some (29, false)), []⟩,
  ⟨some 32, .bin .neq (.t 31) (.c (.int .i64 4)), (some (29, false)), []⟩,
  ⟨some 33, .move (.t 32), (some (29, false)), []⟩,
  ⟨some 34, .fldAddr 1 (.t 1), (some (33, true)), []⟩,
  ⟨some 35, .load none (.t 34), (some (33, true)), []⟩,
  ⟨some 36, .bin .neq (.t 35) (.c (.int .i64 5)), (some (33, true)), []⟩,
  ⟨some 37, .pick (.t 33) (.t 36) (.c (.bool false)), (some (29, false)), []⟩,
  ⟨some 38, .move (.t 37), (some (29, false)), []⟩,
  ⟨some 39, .fldAddr 3 (.t 1), (some (38, true)), []⟩,
  ⟨some 40, .load none (.t 39), (some (38, true)), []⟩,
  ⟨some 41, .bin .neq (.t 40) (.c (.int .i64 0)), (some (38, true)), []⟩,
  ⟨some 42, .pick (.t 38) (.t 41) (.c (.bool false)), (some (29, false)), []⟩,
  ⟨some 43, .pick (.t 29) (.c (.bool true)) (.t 42), none, []⟩,
  ⟨some 44, .move (.t 43), none, []⟩,
  ⟨some 45, .fldAddr 1 (.t 1), (some (44, false)), []⟩,
  ⟨some 46, .load none (.t 45), (some (44, false)), []⟩,
  ⟨some 47, .bin .neq (.t 46) (.c (.int .i64 2)), (some (44, false)), []⟩,
  ⟨some 48, .move (.t 47), (some (44, false)), []⟩,
  ⟨some 49, .fldAddr 1 (.t 1), (some (48, true)), []⟩,
  ⟨some 50, .load none (.t 49), (some (48, true)), []⟩,
  ⟨some 51, .bin .neq (.t 50) (.c (.int .i64 4)), (some (48, true)), []⟩,
  ⟨some 52, .pick (.t 48) (.t 51) (.c (.bool false)), (some (44, false)), []⟩,
  ⟨some 53, .move (.t 52), (some (44, false)), []⟩,
  ⟨some 54, .fldAddr 4 (.t 1), (some (53, true)), []⟩,
  ⟨some 55, .load none (.t 54), (some (53, true)), []⟩,
  ⟨some 56, .bin .neq (.t 55) (.c (.int .i64 0)), (some (53, true)), []⟩,
  ⟨some 57, .pick (.t 53) (.t 56) (.c (.bool false)), (some (44, false)), []⟩,
  ⟨some 58, .pick (.t 44) (.c (.bool true)) (.t 57), none, []⟩,
  ⟨some 59, .move (.t 58), none, []⟩,
  ⟨some 60, .fldAddr 1 (.t 1), (some (59, false)), []⟩,
  ⟨some 61, .load none (.t 60), (some (59, false)), []⟩,
  ⟨some 62, .bin .neq (.t 61) (.c (.int .i64 4)), (some (59, false)), []⟩,
  ⟨some 63, .move (.t 62), (some (59, false)), []⟩,
  ⟨some 64, .fldAddr 5 (.t 1), (some (63, true)), []⟩,
  ⟨some 65, .load none (.t 64), (some (63, true)), []⟩,
  ⟨some 66, .bin .neq (.t 65) (.c (.int .i64 0)), (some (63, true)), []⟩,
  ⟨some 67, .move (.t 66), (some (63, true)), []⟩,
  ⟨some 68, .fldAddr 6 (.t 1), (some (67, false)), []⟩,
  ⟨some 69, .load none (.t 68), (some (67, false)), []⟩,
  ⟨some 70, .bin .neq (.t 69) (.c (.int .i64 0)), (some (67, false)), []⟩,
  ⟨some 71, .pick (.t 67) (.c (.bool true)) (.t 70), (some (63, true)), []⟩,
  ⟨some 72, .pick (.t 63) (.t 71) (.c (.bool false)), (some (59, false)), []⟩,
  ⟨some 73, .pick (.t 59) (.c (.bool true)) (.t 72), none, []⟩] none [1, 73])
(.cond (.t 73)
  (.seq (.ops [⟨some 2, .move (.c (.int .i64 1)), none, []⟩] none [2])
  (.ret))
  (.skip)))
(.seq (.seq (.ops [⟨some 74, .fldAddr 3 (.t 1), none, []⟩,
  ⟨some 75, .load none (.t 74), none, []⟩,
  ⟨some 76, .bin .lss (.t 75) (.c (.int .i64 0)), none, []⟩,
  ⟨some 77, .move (.t 76), none, []⟩,
  ⟨some 78, .fldAddr 5 (.t 1), (some (77, false)), []⟩,
  ⟨some 79, .load none (.t 78), (some (77, false)), []⟩,
  ⟨some 80, .bin .lss (.t 79) (.c (.int .i64 (-1))), (some (77, false)), []⟩,
  ⟨some 81, .pick (.t 77) (.c (.bool true)) (.t 80), none, []⟩,
  ⟨some 82, .move (.t 81), none, []⟩,
  ⟨some 83, .fldAddr 1 (.t 1), (some (82, false)), []⟩,
  ⟨some 84, .load none (.t 83), (some (82, false)), []⟩,
  ⟨some 85, .bin .eql (.t 84) (.c (.int .i64 2)), (some (82, false)), []⟩,
  ⟨some 86, .move (.t 85), (some (82, false)), []⟩,
  ⟨some 87, .fldAddr 4 (.t 1), (some (86, true)), []⟩,
  ⟨some 88, .load none (.t 87), (some (86, true)), []⟩,
  ⟨some 89, .bin .eql (.t 88) (.c (.int .i64 0)), (some (86, true)), []⟩,
  ⟨some 90, .pick (.t 86) (.t 89) (.c (.bool false)), (some (82, false)), []⟩,
  ⟨some 91, .pick (.t 82) (.c (.bool true)) (.t 90), none, []⟩,
  ⟨some 92, .move (.t 91), none, []⟩,
  ⟨some 93, .fldAddr 4 (.t 1), (some (92, false)), []⟩,
  ⟨some 94, .load none (.t 93), (some (92, false)), []⟩,
  ⟨some 95, .bin .lss (.t 94) (.c (.int .i64 0)), (some (92, false)), []⟩,
  ⟨some 96, .pick (.t 92) (.c (.bool true)) (.t 95), none, []⟩,
  ⟨some 97, .move (.t 96), none, []⟩,
  ⟨some 98, .fldAddr 4 (.t 1), (some (97, false)), []⟩,
  ⟨some 99, .load none (.t 98), (some (97, false)), []⟩,
  ⟨some 100, .bin .gtr (.t 99) (.c (.int .i64 18)), (some (97, false)), []⟩,
  ⟨some 101, .pick (.t 97) (.c (.bool true)) (.t 100), none, []⟩] none [101])
(.cond (.t 101)
  (.seq (.ops [⟨some 2, .move (.c (.int .i64 1)), none, []⟩] none [2])
  (.ret))
  (.skip)))
(.seq (.ops [⟨some 2, .move (.c (.int .i64 0)), none, []⟩] none [2])
(.ret))))))
def f110 : SFunc := ⟨b110, [.t 2]⟩

/-- watchbill/event.Text -/
def b111 : SCode := (
.seq (.ops [⟨some 1, .box (.t 0), none, []⟩,
  ⟨some 2, .move (.c (.str [])), none, []⟩] none [1])
(.seq (.seq (.ops [⟨some 5, .fldAddr 1 (.t 1), none, []⟩,
  ⟨some 6, .load none (.t 5), none, []⟩,
  ⟨some 7, .bin .lss (.t 6) (.c (.int .i64 1)), none, []⟩,
  ⟨some 8, .move (.t 7), none, []⟩,
  ⟨some 9, .fldAddr 1 (.t 1), (some (8, false)), []⟩,
  ⟨some 10, .load none (.t 9), (some (8, false)), []⟩,
  ⟨some 11, .bin .gtr (.t 10) (.c (.int .i64 8)), (some (8, false)), []⟩,
  ⟨some 12, .pick (.t 8) (.c (.bool true)) (.t 11), none, []⟩] none [1, 12])
(.cond (.t 12)
  (.seq (.ops [⟨some 2, .move (.c (.str [])), none, []⟩] none [2])
  (.ret))
  (.skip)))
(.seq (.ops [⟨some 14, .fldAddr 1 (.t 1), none, []⟩,
  ⟨some 15, .load none (.t 14), none, []⟩,
  ⟨some 3, .alloc (.agg [(.str []), (.bool false), (.bool false), (.bool false), (.bool false)]), none, []⟩,
  ⟨some 13, .call 127 [], none, [1]⟩,
  ⟨some 16, .idxAddr 5 (.t 13) (.t 15), none, []⟩,
  ⟨some 17, .load (some 5) (.t 16), none, []⟩,
  ⟨none, .store (some 5) (.t 3) (.t 17), none, []⟩] (some [(1, []), (2, [0]), (5, []), (0, []), (3, [3, 1, 0]), (4, [4, 3, 1, 0]), (6, [2, 5, 4, 3, 1, 0])]) [1, 3])
(.seq (.ops [⟨some 18, .fldAddr 0 (.t 1), none, []⟩,
  ⟨some 19, .load none (.t 18), none, []⟩,
  ⟨some 21, .fldAddr 0 (.t 3), none, []⟩,
  ⟨some 22, .load none (.t 21), none, []⟩,
  ⟨some 20, .call 99 [(.t 19)], none, [3]⟩,
  ⟨some 23, .buildSl 2 [(.str []), (.str [])] [(0, 1, (.t 20)), (1, 1, (.t 22))], none, []⟩,
  ⟨some 4, .move (.t 23), none, []⟩] (some [(0, []), (1, [0]), (3, []), (4, [2]), (2, [1, 0]), (5, [4, 1, 0, 3, 2]), (6, [5, 4, 1, 0, 3, 2])]) [1, 3, 4])
(.seq (.seq (.ops [⟨some 24, .fldAddr 1 (.t 3), none, []⟩,
  ⟨some 25, .load none (.t 24), none, []⟩] none [1, 3, 4, 25])
(.cond (.t 25)
  (.ops [⟨some 26, .move (.t 4), none, []⟩,
    ⟨some 27, .fldAddr 2 (.t 1), none, []⟩,
    ⟨some 28, .load none (.t 27), none, []⟩,
    ⟨some 29, .call 99 [(.t 28)], none, []⟩,
    ⟨some 30, .buildSl 1 [(.str [])] [(0, 1, (.t 29))], none, []⟩,
    ⟨some 31, .append 1 (.t 26) (.t 30), none, []⟩,
    ⟨some 4, .move (.t 31), none, []⟩] none [1, 3, 4])
  (.skip)))
(.seq (.seq (.ops [⟨some 32, .fldAddr 2 (.t 3), none, []⟩,
  ⟨some 33, .load none (.t 32), none, []⟩] none [1, 3, 4, 33])
(.cond (.t 33)
  (.ops [⟨some 34, .move (.t 4), none, []⟩,
    ⟨some 35, .fldAddr 3 (.t 1), none, []⟩,
    ⟨some 36, .load none (.t 35), none, []⟩,
    ⟨some 37, .call 99 [(.t 36)], none, []⟩,
    ⟨some 38, .buildSl 1 [(.str [])] [(0, 1, (.t 37))], none, []⟩,
    ⟨some 39, .append 1 (.t 34) (.t 38), none, []⟩,
    ⟨some 4, .move (.t 39), none, []⟩] none [1, 3, 4])
  (.skip)))
(.seq (.seq (.ops [⟨some 40, .fldAddr 3 (.t 3), none, []⟩,
  ⟨some 41, .load none (.t 40), none, []⟩] none [1, 3, 4, 41])
(.cond (.t 41)
  (.ops [⟨some 42, .move (.t 4), none, []⟩,
    ⟨some 43, .fldAddr 4 (.t 1), none, []⟩,
    ⟨some 44, .load none (.t 43), none, []⟩,
    ⟨some 45, .call 99 [(.t 44)], none, []⟩,
    ⟨some 46, .buildSl 1 [(.str [])] [(0, 1, (.t 45))], none, []⟩,
    ⟨some 47, .append 1 (.t 42) (.t 46), none, []⟩,
    ⟨some 4, .move (.t 47), none, []⟩] none [1, 3, 4])
  (.skip)))
(.seq (.seq (.ops [⟨some 48, .fldAddr 4 (.t 3), none, []⟩,
  ⟨some 49, .load none (.t 48), none, []⟩] none [1, 4, 49])
(.cond (.t 49)
  (.ops [⟨some 50, .move (.t 4), none, []⟩,
    ⟨some 51, .fldAddr 5 (.t 1), none, []⟩,
    ⟨some 52, .load none (.t 51), none, []⟩,
    ⟨some 54, .fldAddr 6 (.t 1), none, []⟩,
    ⟨some 55, .load none (.t 54), none, []⟩,
    ⟨some 53, .call 99 [(.t 52)], none, [4]⟩,
    ⟨some 56, .call 99 [(.t 55)], none, []⟩,
    ⟨some 57, .buildSl 2 [(.str []), (.str [])] [(0, 1, (.t 53)), (1, 1, (.t 56))], none, []⟩,
    ⟨some 58, .append 1 (.t 50) (.t 57), none, []⟩,
    ⟨some 4, .move (.t 58), none, []⟩] (some [(0, []), (1, []), (2, [1]), (4, []), (5, [3]), (3, [2, 1]), (6, [4, 3, 5, 2, 1]), (7, [5, 2, 1, 6, 4, 3]), (8, [0, 7, 5, 2, 1, 6, 4, 3]), (9, [8, 0, 7, 5, 2, 1, 6, 4, 3])]) [4])
  (.skip)))
(.seq (.ops [⟨some 59, .move (.t 4), none, []⟩,
  ⟨some 60, .call 128 [(.t 59), (.c (.str [32]))], none, []⟩,
  ⟨some 2, .move (.t 60), none, []⟩] none [2])
(.ret))))))))))
def f111 : SFunc := ⟨b111, [.t 2]⟩

/-- watchbill/event.Parse -/
def b112 : SCode := (
.seq (.ops [⟨some 2, .alloc (.agg [(.int .i64 0), (.int .i64 0), (.int .i64 0), (.int .i64 0), (.int .i64 0), (.int .i64 0), (.int .i64 0)]), none, []⟩,
  ⟨some 3, .move (.c (.int .i64 0)), none, []⟩] none [0, 2])
(.seq (.ops [⟨some 11, .move (.t 0), none, []⟩,
  ⟨some 12, .call 92 [(.t 11)], none, []⟩,
  ⟨some 10, .move (.t 12), none, []⟩,
  ⟨some 13, .ext 0 (.t 10), none, []⟩,
  ⟨some 14, .ext 1 (.t 10), none, []⟩,
  ⟨some 4, .alloc .nils, none, []⟩,
  ⟨none, .store none (.t 4) (.t 13), none, []⟩,
  ⟨some 5, .move (.t 14), none, []⟩] none [2, 4, 5])
(.seq (.seq (.ops [⟨some 15, .move (.t 5), none, []⟩,
  ⟨some 16, .bin .neq (.t 15) (.c (.int .i64 0)), none, []⟩] none [2, 4, 5, 16])
(.cond (.t 16)
  (.seq (.ops [⟨some 17, .build [(.int .i64 0), (.int .i64 0), (.int .i64 0), (.int .i64 0), (.int .i64 0), (.int .i64 0), (.int .i64 0)] [], none, []⟩,
    ⟨some 18, .move (.t 5), none, []⟩,
    ⟨none, .store (some 7) (.t 2) (.t 17), none, []⟩,
    ⟨some 3, .move (.t 18), none, []⟩] none [2, 3])
  (.ret))
  (.skip)))
(.seq (.seq (.ops [⟨some 19, .load none (.t 4), none, []⟩,
  ⟨some 20, .len .sl (.t 19), none, []⟩,
  ⟨some 21, .bin .lss (.t 20) (.c (.int .i64 2)), none, []⟩] none [2, 4, 21])
(.cond (.t 21)
  (.seq (.ops [⟨some 22, .build [(.int .i64 0), (.int .i64 0), (.int .i64 0), (.int .i64 0), (.int .i64 0), (.int .i64 0), (.int .i64 0)] [], none, []⟩,
    ⟨none, .store (some 7) (.t 2) (.t 22), none, []⟩,
    ⟨some 3, .move (.c (.int .i64 2)), none, []⟩] none [2, 3])
  (.ret))
  (.skip)))
(.seq (.ops [⟨some 23, .call 127 [], none, []⟩,
  ⟨some 24, .mkfn 129 [(.t 4)], none, []⟩,
  ⟨some 25, .call 130 [(.t 23), (.t 24)], none, []⟩,
  ⟨some 6, .move (.t 25), none, []⟩] none [2, 4, 6])
(.seq (.seq (.ops [⟨some 26, .move (.t 6), none, []⟩,
  ⟨some 27, .bin .lss (.t 26) (.c (.int .i64 1)), none, []⟩,
  ⟨some 28, .move (.t 27), none, []⟩,
  ⟨some 29, .load none (.t 4), (some (28, false)), []⟩,
  ⟨some 30, .len .sl (.t 29), (some (28, false)), []⟩,
  ⟨some 32, .move (.t 6), (some (28, false)), []⟩,
  ⟨some 31, .call 127 [], (some (28, false)), [3, 4]⟩,
  ⟨some 33, .idxAddr 5 (.t 31) (.t 32), (some (28, false)), []⟩,
  ⟨some 34, .load (some 5) (.t 33), (some (28, false)), []⟩,
  ⟨some 35, .call 131 [(.t 34)], (some (28, false)), [3, 4]⟩,
  ⟨some 36, .bin .neq (.t 30) (.t 35), (some (28, false)), []⟩,
  ⟨some 37, .pick (.t 28) (.c (.bool true)) (.t 36), none, []⟩] (some [(0, []), (1, [0]), (2, [1, 0]), (3, [2, 1, 0]), (4, [3, 2, 1, 0]), (6, [2, 1, 0]), (5, [2, 1, 0]), (7, [6, 2, 1, 0, 5]), (8, [7, 6, 2, 1, 0, 5]), (9, [8, 7, 6, 2, 1, 0, 5]), (10, [4, 3, 2, 1, 0, 9, 8, 7, 6, 5]), (11, [2, 1, 0, 10, 4, 3, 9, 8, 7, 6, 5])]) [2, 4, 6, 37])
(.cond (.t 37)
  (.seq (.ops [⟨some 38, .build [(.int .i64 0), (.int .i64 0), (.int .i64 0), (.int .i64 0), (.int .i64 0), (.int .i64 0), (.int .i64 0)] [], none, []⟩,
    ⟨none, .store (some 7) (.t 2) (.t 38), none, []⟩,
    ⟨some 3, .move (.c (.int .i64 2)), none, []⟩] none [2, 3])
  (.ret))
  (.skip)))
(.seq (.ops [⟨some 39, .call 127 [], none, []⟩,
  ⟨some 40, .move (.t 6), none, []⟩,
  ⟨some 41, .idxAddr 5 (.t 39) (.t 40), none, []⟩,
  ⟨some 42, .load (some 5) (.t 41), none, []⟩,
  ⟨some 7, .alloc (.agg [(.str []), (.bool false), (.bool false), (.bool false), (.bool false)]), none, []⟩,
  ⟨none, .store (some 5) (.t 7) (.t 42), none, []⟩] none [2, 4, 6, 7])
(.seq (.ops [⟨some 43, .load none (.t 4), none, []⟩,
  ⟨some 44, .slSl 1 (.t 43) none (some (.c (.int .i64 1))), none, []⟩,
  ⟨some 45, .load none (.t 4), none, []⟩,
  ⟨some 46, .slSl 1 (.t 45) (some (.c (.int .i64 2))) none, none, []⟩,
  ⟨some 47, .buildSl 2 [.nils, .nils] [(0, 1, (.t 44)), (1, 1, (.t 46))], none, []⟩,
  ⟨some 48, .call 132 [(.t 47)], none, []⟩,
  ⟨some 49, .build [.nils, (.int .i64 0)] [(0, 1, (.t 48))], none, []⟩,
  ⟨some 50, .box (.t 49), none, []⟩,
  ⟨some 8, .move (.t 50), none, []⟩] (some [(0, []), (1, [0]), (2, []), (3, [2]), (4, [1, 0, 3, 2]), (5, [4, 1, 0, 3, 2]), (6, [5, 4, 1, 0, 3, 2]), (7, [6, 5, 4, 1, 0, 3, 2]), (8, [7, 6, 5, 4, 1, 0, 3, 2])]) [2, 6, 7, 8])
(.seq (.ops [⟨some 51, .move (.t 8), none, []⟩,
  ⟨some 52, .call 133 [(.t 51)], none, []⟩,
  ⟨some 53, .move (.t 6), none, []⟩,
  ⟨some 54, .build [(.int .i64 0), (.int .i64 0), (.int .i64 0), (.int .i64 0), (.int .i64 0), (.int .i64 0), (.int .i64 0)] [(0, 1, (.t 52)), (1, 1, (.t 53))], none, []⟩,
  ⟨some 9, .alloc (.agg [(.int .i64 0), (.int .i64 0), (.int .i64 0), (.int .i64 0), (.int .i64 0), (.int .i64 0), (.int .i64 0)]), none, []⟩,
  ⟨none, .store (some 7) (.t 9) (.t 54), none, []⟩] none [2, 7, 8, 9])
(.seq (.seq (.ops [⟨some 55, .fldAddr 1 (.t 7), none, []⟩,
  ⟨some 56, .load none (.t 55), none, []⟩] none [2, 7, 8, 9, 56])
(.cond (.t 56)
  (.ops [⟨some 57, .move (.t 8), none, []⟩,
    ⟨some 58, .call 134 [(.t 57)], none, []⟩,
    ⟨some 59, .fldAddr 2 (.t 9), none, []⟩,
    ⟨none, .store none (.t 59) (.t 58), none, []⟩] none [2, 7, 8, 9])
  (.skip)))
(.seq (.seq (.ops [⟨some 60, .fldAddr 2 (.t 7), none, []⟩,
  ⟨some 61, .load none (.t 60), none, []⟩] none [2, 7, 8, 9, 61])
(.cond (.t 61)
  (.ops [⟨some 62, .move (.t 8), none, []⟩,
    ⟨some 63, .call 134 [(.t 62)], none, []⟩,
    ⟨some 64, .fldAddr 3 (.t 9), none, []⟩,
    ⟨none, .store none (.t 64) (.t 63), none, []⟩] none [2, 7, 8, 9])
  (.skip)))
(.seq (.seq (.ops [⟨some 65, .fldAddr 3 (.t 7), none, []⟩,
  ⟨some 66, .load none (.t 65), none, []⟩] none [2, 7, 8, 9, 66])
(.cond (.t 66)
  (.ops [⟨some 67, .move (.t 8), none, []⟩,
    ⟨some 68, .call 134 [(.t 67)], none, []⟩,
    ⟨some 69, .fldAddr 4 (.t 9), none, []⟩,
    ⟨none, .store none (.t 69) (.t 68), none, []⟩] none [2, 7, 8, 9])
  (.skip)))
(.seq (.seq (.ops [⟨some 70, .fldAddr 4 (.t 7), none, []⟩,
  ⟨some 71, .load none (.t 70), none, []⟩] none [2, 8, 9, 71])
(.cond (.t 71)
  (.ops [⟨some 72, .move (.t 8), none, []⟩,
    ⟨some 73, .call 134 [(.t 72)], none, []⟩,
    ⟨some 74, .move (.t 8), none, []⟩,
    ⟨some 75, .call 133 [(.t 74)], none, []⟩,
    ⟨some 76, .fldAddr 5 (.t 9), none, []⟩,
    ⟨none, .store none (.t 76) (.t 73), none, []⟩,
    ⟨some 77, .fldAddr 6 (.t 9), none, []⟩,
    ⟨none, .store none (.t 77) (.t 75), none, []⟩] none [2, 8, 9])
  (.skip)))
(.seq (.seq (.ops [⟨some 78, .move (.t 8), none, []⟩,
  ⟨some 79, .nilck (.t 78), none, []⟩,
  ⟨some 80, .fldAddr 1 (.t 79), none, []⟩,
  ⟨some 81, .load none (.t 80), none, []⟩,
  ⟨some 82, .bin .eql (.t 81) (.c (.int .i64 0)), none, []⟩] none [2, 8, 9, 82])
(.cond (.t 82)
  (.ops [⟨some 83, .move (.t 8), none, []⟩,
    ⟨some 84, .load (some 7) (.t 9), none, []⟩,
    ⟨some 85, .call 109 [(.t 84)], none, []⟩,
    ⟨some 86, .nilck (.t 83), none, []⟩,
    ⟨some 87, .fldAddr 1 (.t 86), none, []⟩,
    ⟨none, .store none (.t 87) (.t 85), none, []⟩] none [2, 8, 9])
  (.skip)))
(.seq (.seq (.ops [⟨some 88, .move (.t 8), none, []⟩,
  ⟨some 89, .nilck (.t 88), none, []⟩,
  ⟨some 90, .fldAddr 1 (.t 89), none, []⟩,
  ⟨some 91, .load none (.t 90), none, []⟩,
  ⟨some 92, .bin .neq (.t 91) (.c (.int .i64 0)), none, []⟩] none [2, 8, 9, 92])
(.cond (.t 92)
  (.seq (.ops [⟨some 93, .build [(.int .i64 0), (.int .i64 0), (.int .i64 0), (.int .i64 0), (.int .i64 0), (.int .i64 0), (.int .i64 0)] [], none, []⟩,
    ⟨some 94, .move (.t 8), none, []⟩,
    ⟨some 95, .nilck (.t 94), none, []⟩,
    ⟨some 96, .fldAddr 1 (.t 95), none, []⟩,
    ⟨some 97, .load none (.t 96), none, []⟩,
    ⟨none, .store (some 7) (.t 2) (.t 93), none, [4]⟩,
    ⟨some 3, .move (.t 97), none, []⟩] (some [(0, []), (1, []), (2, [1]), (3, [2, 1]), (4, [3, 2, 1]), (5, [0]), (6, [4, 3, 2, 1, 5, 0])]) [2, 3])
  (.ret))
  (.skip)))
(.seq (.ops [⟨some 98, .load (some 7) (.t 9), none, []⟩,
  ⟨none, .store (some 7) (.t 2) (.t 98), none, []⟩,
  ⟨some 3, .move (.c (.int .i64 0)), none, []⟩] none [2, 3])
(.ret)))))))))))))))))
def f112 : SFunc := ⟨b112, [.cell (some 7) 2, .t 3]⟩

/-- watchbill/watchbillref21.EventText -/
def b113 : SCode := (
.seq (.ops [⟨some 1, .box (.t 0), none, []⟩,
  ⟨some 2, .move (.c (.str [])), none, []⟩] none [1])
(.seq (.ops [⟨some 4, .fldAddr 0 (.t 1), none, []⟩,
  ⟨some 5, .load none (.t 4), none, []⟩,
  ⟨some 9, .fldAddr 1 (.t 1), none, []⟩,
  ⟨some 10, .load none (.t 9), none, []⟩,
  ⟨some 6, .call 101 [(.t 5)], none, [3]⟩,
  ⟨some 7, .bin .add (.t 6) (.c (.str [32])), none, []⟩,
  ⟨some 8, .call 135 [], none, [3]⟩,
  ⟨some 11, .idxAddr 1 (.t 8) (.t 10), none, []⟩,
  ⟨some 12, .load none (.t 11), none, []⟩,
  ⟨some 13, .bin .add (.t 7) (.t 12), none, []⟩,
  ⟨some 3, .move (.t 13), none, []⟩] (some [(0, []), (1, [0]), (5, []), (6, [2]), (2, [1, 0]), (3, [4, 1, 0]), (4, [4, 1, 0]), (7, [6, 4, 1, 0, 3, 2]), (8, [7, 6, 4, 1, 0, 3, 2]), (9, [5, 4, 1, 0, 8, 7, 6, 3, 2]), (10, [9, 5, 4, 1, 0, 8, 7, 6, 3, 2])]) [1, 3])
(.seq (.seq (.ops [⟨some 14, .fldAddr 1 (.t 1), none, []⟩,
  ⟨some 15, .load none (.t 14), none, []⟩,
  ⟨some 16, .bin .eql (.t 15) (.c (.int .i64 8)), none, []⟩] none [1, 3, 16])
(.cond (.t 16)
  (.seq (.ops [⟨some 17, .move (.t 3), none, []⟩,
    ⟨some 2, .move (.t 17), none, []⟩] none [2])
  (.ret))
  (.skip)))
(.seq (.ops [⟨some 18, .move (.t 3), none, []⟩,
  ⟨some 19, .bin .add (.t 18) (.c (.str [32])), none, []⟩,
  ⟨some 20, .fldAddr 2 (.t 1), none, []⟩,
  ⟨some 21, .load none (.t 20), none, []⟩,
  ⟨some 22, .call 101 [(.t 21)], none, []⟩,
  ⟨some 23, .bin .add (.t 19) (.t 22), none, []⟩,
  ⟨some 3, .move (.t 23), none, []⟩] none [1, 3])
(.seq (.seq (.ops [⟨some 24, .fldAddr 1 (.t 1), none, []⟩,
  ⟨some 25, .load none (.t 24), none, []⟩] none [1, 3, 25])
(.block 0 (.seq (.ops [⟨some 27, .bin .eql (.t 25) (.c (.int .i64 2)), none, []⟩,
    ⟨some 26, .move (.t 27), none, []⟩] none [1, 3, 25, 26])
  (.cond (.t 26)
    (.ops [⟨some 28, .move (.t 3), none, []⟩,
      ⟨some 29, .bin .add (.t 28) (.c (.str [32])), none, []⟩,
      ⟨some 30, .fldAddr 4 (.t 1), none, []⟩,
      ⟨some 31, .load none (.t 30), none, []⟩,
      ⟨some 32, .call 101 [(.t 31)], none, []⟩,
      ⟨some 33, .bin .add (.t 29) (.t 32), none, []⟩,
      ⟨some 3, .move (.t 33), none, []⟩] none [3])
    (.seq (.ops [⟨some 35, .bin .eql (.t 25) (.c (.int .i64 4)), none, []⟩,
      ⟨some 34, .move (.t 35), none, []⟩] none [1, 3, 25, 34])
    (.cond (.t 34)
      (.ops [⟨some 36, .move (.t 3), none, []⟩,
        ⟨some 37, .bin .add (.t 36) (.c (.str [32])), none, []⟩,
        ⟨some 38, .fldAddr 3 (.t 1), none, []⟩,
        ⟨some 39, .load none (.t 38), none, []⟩,
        ⟨some 43, .fldAddr 4 (.t 1), none, []⟩,
        ⟨some 44, .load none (.t 43), none, []⟩,
        ⟨some 48, .fldAddr 5 (.t 1), none, []⟩,
        ⟨some 49, .load none (.t 48), none, []⟩,
        ⟨some 53, .fldAddr 6 (.t 1), none, []⟩,
        ⟨some 54, .load none (.t 53), none, []⟩,
        ⟨some 40, .call 101 [(.t 39)], none, [5, 7, 9]⟩,
        ⟨some 41, .bin .add (.t 37) (.t 40), none, []⟩,
        ⟨some 42, .bin .add (.t 41) (.c (.str [32])), none, []⟩,
        ⟨some 45, .call 101 [(.t 44)], none, [7, 9]⟩,
        ⟨some 46, .bin .add (.t 42) (.t 45), none, []⟩,
        ⟨some 47, .bin .add (.t 46) (.c (.str [32])), none, []⟩,
        ⟨some 50, .call 101 [(.t 49)], none, [9]⟩,
        ⟨some 51, .bin .add (.t 47) (.t 50), none, []⟩,
        ⟨some 52, .bin .add (.t 51) (.c (.str [32])), none, []⟩,
        ⟨some 55, .call 101 [(.t 54)], none, []⟩,
        ⟨some 56, .bin .add (.t 52) (.t 55), none, []⟩,
        ⟨some 3, .move (.t 56), none, []⟩] (some [(0, []), (1, [0]), (2, []), (3, [2]), (7, []), (8, [4]), (12, []), (13, [6]), (17, []), (18, [8]), (4, [3, 2]), (5, [1, 0, 10, 3, 2]), (6, [11, 1, 0, 10, 3, 2]), (9, [5, 4, 10, 3, 2]), (10, [12, 11, 1, 0, 10, 3, 2, 13, 5, 4]), (11, [14, 12, 11, 1, 0, 10, 3, 2, 13, 5, 4]), (14, [7, 6, 13, 5, 4, 10, 3, 2]), (15, [15, 14, 12, 11, 1, 0, 10, 3, 2, 13, 5, 4, 16, 7, 6]), (16, [17, 15, 14, 12, 11, 1, 0, 10, 3, 2, 13, 5, 4, 16, 7, 6]), (19, [9, 8, 16, 7, 6, 13, 5, 4, 10, 3, 2]), (20, [18, 17, 15, 14, 12, 11, 1, 0, 10, 3, 2, 13, 5, 4, 16, 7, 6, 19, 9, 8]), (21, [20, 18, 17, 15, 14, 12, 11, 1, 0, 10, 3, 2, 13, 5, 4, 16, 7, 6, 19, 9, 8])]) [3])
      (.seq (.ops [⟨some 58, .bin .eql (.t 25) (.c (.int .i64 5)), none, []⟩,
        ⟨some 57, .move (.t 58), none, []⟩] none [1, 3, 57])
      (.cond (.t 57)
        (.ops [⟨some 59, .move (.t 3), none, []⟩,
          ⟨some 60, .bin .add (.t 59) (.c (.str [32])), none, []⟩,
          ⟨some 61, .fldAddr 3 (.t 1), none, []⟩,
          ⟨some 62, .load none (.t 61), none, []⟩,
          ⟨some 63, .call 101 [(.t 62)], none, []⟩,
          ⟨some 64, .bin .add (.t 60) (.t 63), none, []⟩,
          ⟨some 3, .move (.t 64), none, []⟩] none [3])
        (.skip)))))))))
(.seq (.ops [⟨some 65, .move (.t 3), none, []⟩,
  ⟨some 2, .move (.t 65), none, []⟩] none [2])
(.ret)))))))
def f113 : SFunc := ⟨b113, [.t 2]⟩

/-- watchbill/event.Lines -/
def b114 : SCode := (
.seq (.ops [⟨some 2, .move (.c (.str [])), none, []⟩] none [0])
(.seq (.ops [⟨some 3, .allocB 5, none, []⟩] none [0, 3])
(.seq (.skip)
(.seq (.seq (.ops [⟨some 6, .move (.t 0), none, []⟩,
  ⟨some 7, .len .sl (.t 6), none, []⟩,
  ⟨some 8, .move (.c (.int .i64 0)), none, []⟩] none [3, 6, 7, 8])
(.block 0 (.loop [3, 6, 7, 8] (.seq (.ops [⟨some 9, .bin .lss (.t 8) (.t 7), none, []⟩] none [3, 6, 7, 8, 9])
    (.seq (.cond (.t 9)
      (.skip)
      (.exit 0))
    (.seq (.block 1 (.seq (.ops [⟨some 10, .idxAddr 7 (.t 6) (.t 8), none, []⟩,
        ⟨some 11, .load (some 7) (.t 10), none, []⟩,
        ⟨some 5, .alloc (.agg [(.int .i64 0), (.int .i64 0), (.int .i64 0), (.int .i64 0), (.int .i64 0), (.int .i64 0), (.int .i64 0)]), none, []⟩,
        ⟨none, .store (some 7) (.t 5) (.t 11), none, []⟩] none [3, 5, 6, 7, 8])
      (.seq (.ops [⟨some 12, .load (some 7) (.t 5), none, []⟩,
        ⟨some 13, .call 111 [(.t 12)], none, []⟩,
        ⟨some 14, .bin .add (.t 13) (.c (.str [10])), none, []⟩,
        ⟨some 15, .call 136 [(.t 3), (.t 14)], none, []⟩] none [3, 6, 7, 8])
      (.exit 1))))
    (.ops [⟨some 16, .bin .add (.t 8) (.c (.int .i64 1)), none, []⟩,
      ⟨some 8, .move (.t 16), none, []⟩] none [3, 6, 7, 8])))))))
(.seq (.ops [⟨some 17, .call 137 [(.t 3)], none, []⟩,
  ⟨some 2, .move (.t 17), none, []⟩] none [2])
(.ret))))))
def f114 : SFunc := ⟨b114, [.t 2]⟩

/-- watchbill/watchbillref21.ParseEvent -/
def b116 : SCode := (
.seq (.ops [⟨some 2, .alloc (.agg [(.int .i64 0), (.int .i64 0), (.int .i64 0), (.int .i64 0), (.int .i64 0), (.int .i64 0), (.int .i64 0)]), none, []⟩,
  ⟨some 3, .move (.c (.int .i64 0)), none, []⟩] none [0, 2])
(.seq (.ops [⟨some 13, .move (.t 0), none, []⟩,
  ⟨some 14, .call 93 [(.t 13)], none, []⟩,
  ⟨some 12, .move (.t 14), none, []⟩,
  ⟨some 15, .ext 0 (.t 12), none, []⟩,
  ⟨some 16, .ext 1 (.t 12), none, []⟩,
  ⟨some 4, .move (.t 15), none, []⟩,
  ⟨some 5, .move (.t 16), none, []⟩] none [2, 4, 5])
(.seq (.seq (.ops [⟨some 17, .move (.t 5), none, []⟩,
  ⟨some 18, .bin .neq (.t 17) (.c (.int .i64 0)), none, []⟩] none [2, 4, 5, 18])
(.cond (.t 18)
  (.seq (.ops [⟨some 19, .build [(.int .i64 0), (.int .i64 0), (.int .i64 0), (.int .i64 0), (.int .i64 0), (.int .i64 0), (.int .i64 0)] [], none, []⟩,
    ⟨some 20, .move (.t 5), none, []⟩,
    ⟨none, .store (some 7) (.t 2) (.t 19), none, []⟩,
    ⟨some 3, .move (.t 20), none, []⟩] none [2, 3])
  (.ret))
  (.skip)))
(.seq (.seq (.ops [⟨some 21, .move (.t 4), none, []⟩,
  ⟨some 22, .len .sl (.t 21), none, []⟩,
  ⟨some 23, .bin .lss (.t 22) (.c (.int .i64 2)), none, []⟩] none [2, 4, 23])
(.cond (.t 23)
  (.seq (.ops [⟨some 24, .build [(.int .i64 0), (.int .i64 0), (.int .i64 0), (.int .i64 0), (.int .i64 0), (.int .i64 0), (.int .i64 0)] [], none, []⟩,
    ⟨none, .store (some 7) (.t 2) (.t 24), none, []⟩,
    ⟨some 3, .move (.c (.int .i64 2)), none, []⟩] none [2, 3])
  (.ret))
  (.skip)))
(.seq (.ops [⟨some 25, .build [(.int .i64 0), (.int .i64 0), (.int .i64 0), (.int .i64 0), (.int .i64 0), (.int .i64 0), (.int .i64 0)] [], none, []⟩,
  ⟨some 6, .alloc (.agg [(.int .i64 0), (.int .i64 0), (.int .i64 0), (.int .i64 0), (.int .i64 0), (.int .i64 0), (.int .i64 0)]), none, []⟩,
  ⟨none, .store (some 7) (.t 6) (.t 25), none, []⟩] none [2, 4, 6])
(.seq (.ops [⟨some 26, .call 135 [], none, []⟩,
  ⟨some 7, .move (.t 26), none, []⟩] none [2, 4, 6, 7])
(.seq (.seq (.ops [⟨some 8, .move (.c (.int .i64 1)), none, []⟩] none [2, 4, 6, 7, 8])
(.block 0 (.loop [2, 4, 6, 7, 8] (.seq (.seq (.ops [⟨some 27, .move (.t 8), none, []⟩,
      ⟨some 28, .move (.t 7), none, []⟩,
      ⟨some 29, .len .sl (.t 28), none, []⟩,
      ⟨some 30, .bin .lss (.t 27) (.t 29), none, []⟩] none [2, 4, 6, 7, 8, 30])
    (.cond (.t 30)
      (.skip)
      (.exit 0)))
    (.seq (.block 1 (.seq (.ops [⟨some 33, .move (.t 7), none, []⟩,
        ⟨some 34, .move (.t 8), none, []⟩,
        ⟨some 35, .idxAddr 1 (.t 33) (.t 34), none, []⟩,
        ⟨some 36, .load none (.t 35), none, []⟩,
        ⟨some 37, .move (.t 4), none, []⟩,
        ⟨some 38, .idxAddr 1 (.t 37) (.c (.int .i64 1)), none, []⟩,
        ⟨some 39, .load none (.t 38), none, []⟩,
        ⟨some 40, .bin .eql (.t 36) (.t 39), none, []⟩] (some [(0, []), (1, []), (2, [0, 1]), (3, [2, 0, 1]), (4, []), (5, [4]), (6, [5, 4]), (7, [3, 2, 0, 1, 6, 5, 4])]) [2, 4, 6, 7, 8, 40])
      (.cond (.t 40)
        (.ops [⟨some 41, .move (.t 8), none, []⟩,
          ⟨some 42, .fldAddr 1 (.t 6), none, []⟩,
          ⟨none, .store none (.t 42) (.t 41), none, []⟩] none [2, 4, 6, 7, 8])
        (.skip))))
    (.ops [⟨some 31, .move (.t 8), none, []⟩,
      ⟨some 32, .bin .add (.t 31) (.c (.int .i64 1)), none, []⟩,
      ⟨some 8, .move (.t 32), none, []⟩] none [2, 4, 6, 7, 8]))))))
(.seq (.ops [⟨some 9, .move (.c (.int .i64 3)), none, []⟩] none [2, 4, 6, 9])
(.seq (.seq (.ops [⟨some 43, .fldAddr 1 (.t 6), none, []⟩,
  ⟨some 44, .load none (.t 43), none, []⟩] none [2, 4, 6, 9, 44])
(.block 2 (.seq (.ops [⟨some 46, .bin .eql (.t 44) (.c (.int .i64 0)), none, []⟩,
    ⟨some 45, .move (.t 46), none, []⟩] none [2, 4, 6, 9, 44, 45])
  (.cond (.t 45)
    (.seq (.ops [⟨some 47, .build [(.int .i64 0), (.int .i64 0), (.int .i64 0), (.int .i64 0), (.int .i64 0), (.int .i64 0), (.int .i64 0)] [], none, []⟩,
      ⟨none, .store (some 7) (.t 2) (.t 47), none, []⟩,
      ⟨some 3, .move (.c (.int .i64 2)), none, []⟩] none [2, 3])
    (.ret))
    (.seq (.ops [⟨some 49, .bin .eql (.t 44) (.c (.int .i64 8)), none, []⟩,
      ⟨some 48, .move (.t 49), none, []⟩] none [2, 4, 6, 9, 44, 48])
    (.cond (.t 48)
      (.ops [⟨some 9, .move (.c (.int .i64 2)), none, []⟩] none [2, 4, 6, 9])
      (.seq (.seq (.ops [⟨some 51, .bin .eql (.t 44) (.c (.int .i64 2)), none, []⟩,
        ⟨some 50, .move (.t 51), none, []⟩] none [2, 4, 6, 9, 44, 50])
      (.cond (.t 50)
        (.skip)
        (.ops [⟨some 52, .bin .eql (.t 44) (.c (.int .i64 5)), none, []⟩,
          ⟨some 50, .move (.t 52), none, []⟩] none [2, 4, 6, 9, 44, 50])))
      (.cond (.t 50)
        (.ops [⟨some 9, .move (.c (.int .i64 4)), none, []⟩] none [2, 4, 6, 9])
        (.seq (.ops [⟨some 54, .bin .eql (.t 44) (.c (.int .i64 4)), none, []⟩,
          ⟨some 53, .move (.t 54), none, []⟩] none [2, 4, 6, 9, 53])
        (.cond (.t 53)
          (.ops [⟨some 9, .move (.c (.int .i64 7)), none, []⟩] none [2, 4, 6, 9])
          (.skip)))))))))))
(.seq (.seq (.ops [⟨some 55, .move (.t 4), none, []⟩,
  ⟨some 56, .len .sl (.t 55), none, []⟩,
  ⟨some 57, .move (.t 9), none, []⟩,
  ⟨some 58, .bin .neq (.t 56) (.t 57), none, []⟩] none [2, 4, 6, 9, 58])
(.cond (.t 58)
  (.seq (.ops [⟨some 59, .build [(.int .i64 0), (.int .i64 0), (.int .i64 0), (.int .i64 0), (.int .i64 0), (.int .i64 0), (.int .i64 0)] [], none, []⟩,
    ⟨none, .store (some 7) (.t 2) (.t 59), none, []⟩,
    ⟨some 3, .move (.c (.int .i64 2)), none, []⟩] none [2, 3])
  (.ret))
  (.skip)))
(.seq (.ops [⟨some 61, .move (.t 4), none, []⟩,
  ⟨some 62, .idxAddr 1 (.t 61) (.c (.int .i64 0)), none, []⟩,
  ⟨some 63, .load none (.t 62), none, []⟩,
  ⟨some 64, .call 95 [(.t 63)], none, []⟩,
  ⟨some 60, .move (.t 64), none, []⟩,
  ⟨some 65, .ext 0 (.t 60), none, []⟩,
  ⟨some 66, .ext 1 (.t 60), none, []⟩,
  ⟨some 67, .fldAddr 0 (.t 6), none, []⟩,
  ⟨none, .store none (.t 67) (.t 65), none, []⟩,
  ⟨some 5, .move (.t 66), none, []⟩] none [2, 4, 5, 6, 9])
(.seq (.seq (.ops [⟨some 68, .move (.t 5), none, []⟩,
  ⟨some 69, .bin .neq (.t 68) (.c (.int .i64 0)), none, []⟩] none [2, 4, 5, 6, 9, 69])
(.cond (.t 69)
  (.seq (.ops [⟨some 70, .build [(.int .i64 0), (.int .i64 0), (.int .i64 0), (.int .i64 0), (.int .i64 0), (.int .i64 0), (.int .i64 0)] [], none, []⟩,
    ⟨some 71, .move (.t 5), none, []⟩,
    ⟨none, .store (some 7) (.t 2) (.t 70), none, []⟩,
    ⟨some 3, .move (.t 71), none, []⟩] none [2, 3])
  (.ret))
  (.skip)))
(.seq (.ops [⟨some 72, .buildSl 4 [(.int .i64 0), (.int .i64 0), (.int .i64 0), (.int .i64 0)] [(0, 1, (.c (.int .i64 0))), (1, 1, (.c (.int .i64 0))), (2, 1, (.c (.int .i64 0))), (3, 1, (.c (.int .i64 0)))], none, []⟩,
  ⟨some 10, .move (.t 72), none, []⟩] none [2, 4, 6, 9, 10])
(.seq (.seq (.ops [⟨some 11, .move (.c (.int .i64 2)), none, []⟩] none [2, 4, 6, 9, 10, 11])
(.block 3 (.loop [2, 4, 6, 9, 10, 11] (.seq (.seq (.ops [⟨some 73, .move (.t 11), none, []⟩,
      ⟨some 74, .move (.t 9), none, []⟩,
      ⟨some 75, .bin .lss (.t 73) (.t 74), none, []⟩,
      ⟨some 76, .move (.t 75), none, []⟩,
      ⟨some 77, .move (.t 11), (some (76, true)), []⟩,
      ⟨some 78, .bin .lss (.t 77) (.c (.int .i64 6)), (some (76, true)), []⟩,
      ⟨some 79, .pick (.t 76) (.t 78) (.c (.bool false)), none, []⟩] none [2, 4, 6, 9, 10, 11, 79])
    (.cond (.t 79)
      (.skip)
      (.exit 3)))
    (.seq (.block 4 (.seq (.ops [⟨some 83, .move (.t 10), none, []⟩,
        ⟨some 84, .move (.t 11), none, []⟩,
        ⟨some 85, .bin .sub (.t 84) (.c (.int .i64 2)), none, []⟩,
        ⟨some 86, .move (.t 4), none, []⟩,
        ⟨some 87, .move (.t 11), none, []⟩,
        ⟨some 88, .idxAddr 1 (.t 86) (.t 87), none, []⟩,
        ⟨some 89, .load none (.t 88), none, []⟩,
        ⟨some 90, .call 138 [(.t 89)], none, []⟩,
        ⟨some 82, .move (.t 90), none, []⟩,
        ⟨some 91, .ext 0 (.t 82), none, []⟩,
        ⟨some 92, .ext 1 (.t 82), none, []⟩,
        ⟨some 93, .idxAddr 1 (.t 83) (.t 85), none, []⟩,
        ⟨none, .store none (.t 93) (.t 91), none, []⟩,
        ⟨some 5, .move (.t 92), none, []⟩] none [2, 4, 5, 6, 9, 10, 11])
      (.seq (.ops [⟨some 94, .move (.t 5), none, []⟩,
        ⟨some 95, .bin .neq (.t 94) (.c (.int .i64 0)), none, []⟩] none [2, 4, 5, 6, 9, 10, 11, 95])
      (.cond (.t 95)
        (.seq (.ops [⟨some 96, .build [(.int .i64 0), (.int .i64 0), (.int .i64 0), (.int .i64 0), (.int .i64 0), (.int .i64 0), (.int .i64 0)] [], none, []⟩,
          ⟨some 97, .move (.t 5), none, []⟩,
          ⟨none, .store (some 7) (.t 2) (.t 96), none, []⟩,
          ⟨some 3, .move (.t 97), none, []⟩] none [2, 3])
        (.ret))
        (.skip)))))
    (.ops [⟨some 80, .move (.t 11), none, []⟩,
      ⟨some 81, .bin .add (.t 80) (.c (.int .i64 1)), none, []⟩,
      ⟨some 11, .move (.t 81), none, []⟩] none [2, 4, 6, 9, 10, 11]))))))
(.seq (.ops [⟨some 98, .move (.t 10), none, []⟩,
  ⟨some 99, .idxAddr 1 (.t 98) (.c (.int .i64 0)), none, []⟩,
  ⟨some 100, .load none (.t 99), none, []⟩,
  ⟨some 101, .fldAddr 2 (.t 6), none, []⟩,
  ⟨none, .store none (.t 101) (.t 100), none, []⟩] none [2, 4, 6, 10])
(.seq (.seq (.ops [⟨some 102, .fldAddr 1 (.t 6), none, []⟩,
  ⟨some 103, .load none (.t 102), none, []⟩] none [2, 4, 6, 10, 103])
(.block 5 (.seq (.ops [⟨some 105, .bin .eql (.t 103) (.c (.int .i64 2)), none, []⟩,
    ⟨some 104, .move (.t 105), none, []⟩] none [2, 4, 6, 10, 103, 104])
  (.cond (.t 104)
    (.ops [⟨some 106, .move (.t 10), none, []⟩,
      ⟨some 107, .idxAddr 1 (.t 106) (.c (.int .i64 1)), none, []⟩,
      ⟨some 108, .load none (.t 107), none, []⟩,
      ⟨some 109, .fldAddr 4 (.t 6), none, []⟩,
      ⟨none, .store none (.t 109) (.t 108), none, []⟩] none [2, 6])
    (.seq (.ops [⟨some 111, .bin .eql (.t 103) (.c (.int .i64 5)), none, []⟩,
      ⟨some 110, .move (.t 111), none, []⟩] none [2, 4, 6, 10, 103, 110])
    (.cond (.t 110)
      (.ops [⟨some 112, .move (.t 10), none, []⟩,
        ⟨some 113, .idxAddr 1 (.t 112) (.c (.int .i64 1)), none, []⟩,
        ⟨some 114, .load none (.t 113), none, []⟩,
        ⟨some 115, .fldAddr 3 (.t 6), none, []⟩,
        ⟨none, .store none (.t 115) (.t 114), none, []⟩] none [2, 6])
      (.seq (.ops [⟨some 117, .bin .eql (.t 103) (.c (.int .i64 4)), none, []⟩,
        ⟨some 116, .move (.t 117), none, []⟩] none [2, 4, 6, 10, 116])
      (.cond (.t 116)
        (.seq (.ops [⟨some 118, .move (.t 10), none, []⟩,
          ⟨some 119, .idxAddr 1 (.t 118) (.c (.int .i64 1)), none, []⟩,
          ⟨some 120, .load none (.t 119), none, []⟩,
          ⟨some 121, .fldAddr 3 (.t 6), none, []⟩,
          ⟨none, .store none (.t 121) (.t 120), none, []⟩] none [2, 4, 6, 10])
        (.seq (.ops [⟨some 122, .move (.t 10), none, []⟩,
          ⟨some 123, .idxAddr 1 (.t 122) (.c (.int .i64 2)), none, []⟩,
          ⟨some 124, .load none (.t 123), none, []⟩,
          ⟨some 125, .fldAddr 4 (.t 6), none, []⟩,
          ⟨none, .store none (.t 125) (.t 124), none, []⟩] none [2, 4, 6, 10])
        (.seq (.ops [⟨some 126, .move (.t 10), none, []⟩,
          ⟨some 127, .idxAddr 1 (.t 126) (.c (.int .i64 3)), none, []⟩,
          ⟨some 128, .load none (.t 127), none, []⟩,
          ⟨some 129, .fldAddr 5 (.t 6), none, []⟩,
          ⟨none, .store none (.t 129) (.t 128), none, []⟩] none [2, 4, 6])
        (.seq (.ops [⟨some 131, .move (.t 4), none, []⟩,
          ⟨some 132, .idxAddr 1 (.t 131) (.c (.int .i64 6)), none, []⟩,
          ⟨some 133, .load none (.t 132), none, []⟩,
          ⟨some 134, .call 95 [(.t 133)], none, []⟩,
          ⟨some 130, .move (.t 134), none, []⟩,
          ⟨some 135, .ext 0 (.t 130), none, []⟩,
          ⟨some 136, .ext 1 (.t 130), none, []⟩,
          ⟨some 137, .fldAddr 6 (.t 6), none, []⟩,
          ⟨none, .store none (.t 137) (.t 135), none, []⟩,
          ⟨some 5, .move (.t 136), none, []⟩] none [2, 5, 6])
        (.seq (.ops [⟨some 138, .move (.t 5), none, []⟩,
          ⟨some 139, .bin .neq (.t 138) (.c (.int .i64 0)), none, []⟩] none [2, 5, 6, 139])
        (.cond (.t 139)
          (.seq (.ops [⟨some 140, .build [(.int .i64 0), (.int .i64 0), (.int .i64 0), (.int .i64 0), (.int .i64 0), (.int .i64 0), (.int .i64 0)] [], none, []⟩,
            ⟨some 141, .move (.t 5), none, []⟩,
            ⟨none, .store (some 7) (.t 2) (.t 140), none, []⟩,
            ⟨some 3, .move (.t 141), none, []⟩] none [2, 3])
          (.ret))
          (.skip)))))))
        (.skip)))))))))
(.seq (.ops [⟨some 142, .load (some 7) (.t 6), none, []⟩,
  ⟨some 143, .call 110 [(.t 142)], none, []⟩,
  ⟨some 5, .move (.t 143), none, []⟩] none [2, 5, 6])
(.seq (.seq (.ops [⟨some 144, .move (.t 5), none, []⟩,
  ⟨some 145, .bin .neq (.t 144) (.c (.int .i64 0)), none, []⟩] none [2, 5, 6, 145])
(.cond (.t 145)
  (.seq (.ops [⟨some 146, .build [(.int .i64 0), (.int .i64 0), (.int .i64 0), (.int .i64 0), (.int .i64 0), (.int .i64 0), (.int .i64 0)] [], none, []⟩,
    ⟨some 147, .move (.t 5), none, []⟩,
    ⟨none, .store (some 7) (.t 2) (.t 146), none, []⟩,
    ⟨some 3, .move (.t 147), none, []⟩] none [2, 3])
  (.ret))
  (.skip)))
(.seq (.ops [⟨some 148, .load (some 7) (.t 6), none, []⟩,
  ⟨none, .store (some 7) (.t 2) (.t 148), none, []⟩,
  ⟨some 3, .move (.c (.int .i64 0)), none, []⟩] none [2, 3])
(.ret))))))))))))))))))))
def f116 : SFunc := ⟨b116, [.cell (some 7) 2, .t 3]⟩

/-- watchbill/watchbilllaw21.Of -/
def b117 : SCode := (
.seq (.ops [⟨some 1, .box (.t 0), none, []⟩,
  ⟨some 2, .alloc (.agg [(.int .i64 0), (.int .i64 0), (.int .i64 0), (.int .i64 0), (.int .i64 0), (.int .i64 0), (.int .i64 0)]), none, []⟩] none [1, 2])
(.seq (.ops [⟨some 3, .fldAddr 0 (.t 1), none, []⟩,
  ⟨some 4, .load none (.t 3), none, []⟩,
  ⟨some 5, .fldAddr 1 (.t 1), none, []⟩,
  ⟨some 6, .load none (.t 5), none, []⟩,
  ⟨some 7, .fldAddr 2 (.t 1), none, []⟩,
  ⟨some 8, .load none (.t 7), none, []⟩,
  ⟨some 9, .fldAddr 3 (.t 1), none, []⟩,
  ⟨some 10, .load none (.t 9), none, []⟩,
  ⟨some 11, .fldAddr 4 (.t 1), none, []⟩,
  ⟨some 12, .load none (.t 11), none, []⟩,
  ⟨some 13, .fldAddr 5 (.t 1), none, []⟩,
  ⟨some 14, .load none (.t 13), none, []⟩,
  ⟨some 15, .fldAddr 6 (.t 1), none, []⟩,
  ⟨some 16, .load none (.t 15), none, []⟩,
  ⟨some 17, .build [(.int .i64 0), (.int .i64 0), (.int .i64 0), (.int .i64 0), (.int .i64 0), (.int .i64 0), (.int .i64 0)] [(0, 1, (.t 4)), (1, 1, (.t 6)), (2, 1, (.t 8)), (3, 1, (.t 10)), (4, 1, (.t 12)), (5, 1, (.t 14)), (6, 1, (.t 16))], none, []⟩,
  ⟨none, .store (some 7) (.t 2) (.t 17), none, []⟩] none [2])
(.ret)))
def f117 : SFunc := ⟨b117, [.cell (some 7) 2]⟩

/-- watchbill/event.shapes -/
def b127 : SCode := (
.seq (.ops [⟨some 0, .move (.c .nils), none, []⟩] none [])
(.seq (.ops [⟨some 1, .build [(.str []), (.bool false), (.bool false), (.bool false), (.bool false)] [], none, []⟩,
  ⟨some 2, .build [(.str []), (.bool false), (.bool false), (.bool false), (.bool false)] [(0, 1, (.c (.str [114, 101, 108, 101, 97, 115, 101]))), (1, 1, (.c (.bool true))), (2, 1, (.c (.bool false))), (3, 1, (.c (.bool false))), (4, 1, (.c (.bool false)))], none, []⟩,
  ⟨some 3, .build [(.str []), (.bool false), (.bool false), (.bool false), (.bool false)] [(0, 1, (.c (.str [114, 101, 102, 117, 115, 101]))), (1, 1, (.c (.bool true))), (2, 1, (.c (.bool false))), (3, 1, (.c (.bool true))), (4, 1, (.c (.bool false)))], none, []⟩,
  ⟨some 4, .build [(.str []), (.bool false), (.bool false), (.bool false), (.bool false)] [(0, 1, (.c (.str [114, 117, 110, 115]))), (1, 1, (.c (.bool true))), (2, 1, (.c (.bool false))), (3, 1, (.c (.bool false))), (4, 1, (.c (.bool false)))], none, []⟩,
  ⟨some 5, .build [(.str []), (.bool false), (.bool false), (.bool false), (.bool false)] [(0, 1, (.c (.str [114, 101, 115, 117, 108, 116]))), (1, 1, (.c (.bool true))), (2, 1, (.c (.bool true))), (3, 1, (.c (.bool true))), (4, 1, (.c (.bool true)))], none, []⟩,
  ⟨some 6, .build [(.str []), (.bool false), (.bool false), (.bool false), (.bool false)] [(0, 1, (.c (.str [119, 97, 105, 116, 115]))), (1, 1, (.c (.bool true))), (2, 1, (.c (.bool true))), (3, 1, (.c (.bool false))), (4, 1, (.c (.bool false)))], none, []⟩,
  ⟨some 7, .build [(.str []), (.bool false), (.bool false), (.bool false), (.bool false)] [(0, 1, (.c (.str [100, 111, 110, 101]))), (1, 1, (.c (.bool true))), (2, 1, (.c (.bool false))), (3, 1, (.c (.bool false))), (4, 1, (.c (.bool false)))], none, []⟩,
  ⟨some 8, .build [(.str []), (.bool false), (.bool false), (.bool false), (.bool false)] [(0, 1, (.c (.str [97, 98, 111, 114, 116]))), (1, 1, (.c (.bool true))), (2, 1, (.c (.bool false))), (3, 1, (.c (.bool false))), (4, 1, (.c (.bool false)))], none, []⟩,
  ⟨some 9, .build [(.str []), (.bool false), (.bool false), (.bool false), (.bool false)] [(0, 1, (.c (.str [105, 100, 108, 101]))), (1, 1, (.c (.bool false))), (2, 1, (.c (.bool false))), (3, 1, (.c (.bool false))), (4, 1, (.c (.bool false)))], none, []⟩,
  ⟨some 10, .buildSl 9 [(.str []), (.bool false), (.bool false), (.bool false), (.bool false), (.str []), (.bool false), (.bool false), (.bool false), (.bool false), (.str []), (.bool false), (.bool false), (.bool false), (.bool false), (.str []), (.bool false), (.bool false), (.bool false), (.bool false), (.str []), (.bool false), (.bool false), (.bool false), (.bool false), (.str []), (.bool false), (.bool false), (.bool false), (.bool false), (.str []), (.bool false), (.bool false), (.bool false), (.bool false), (.str []), (.bool false), (.bool false), (.bool false), (.bool false), (.str []), (.bool false), (.bool false), (.bool false), (.bool false)] [(0, 5, (.t 1)), (5, 5, (.t 2)), (10, 5, (.t 3)), (15, 5, (.t 4)), (20, 5, (.t 5)), (25, 5, (.t 6)), (30, 5, (.t 7)), (35, 5, (.t 8)), (40, 5, (.t 9))], none, []⟩,
  ⟨some 0, .move (.t 10), none, []⟩] none [0])
(.ret)))
def f127 : SFunc := ⟨b127, [.t 0]⟩

/-- slices.IndexFunc[[]watchbill/event.shape,watchbill/event.shape] -/
def b130 : SCode := (
.seq (.ops [⟨some 4, .move (.c (.int .i64 0)), none, []⟩] none [0, 1])
(.seq (.seq (.ops [⟨some 6, .move (.t 0), none, []⟩,
  ⟨some 7, .len .sl (.t 6), none, []⟩,
  ⟨some 8, .move (.c (.int .i64 0)), none, []⟩] none [0, 1, 7, 8])
(.block 0 (.loop [0, 1, 7, 8] (.seq (.ops [⟨some 9, .bin .lss (.t 8) (.t 7), none, []⟩] none [0, 1, 7, 8, 9])
    (.seq (.cond (.t 9)
      (.skip)
      (.exit 0))
    (.seq (.block 1 (.seq (.ops [⟨some 10, .move (.t 8), none, []⟩,
        ⟨some 5, .move (.t 10), none, []⟩] none [0, 1, 5, 7, 8])
      (.seq (.ops [⟨some 11, .move (.t 1), none, []⟩,
        ⟨some 12, .move (.t 0), none, []⟩,
        ⟨some 13, .move (.t 5), none, []⟩,
        ⟨some 14, .idxAddr 5 (.t 12) (.t 13), none, []⟩,
        ⟨some 15, .load (some 5) (.t 14), none, []⟩,
        ⟨some 16, .callv (.t 11) [(.t 15)], none, []⟩] none [0, 1, 5, 7, 8, 16])
      (.cond (.t 16)
        (.seq (.ops [⟨some 17, .move (.t 5), none, []⟩,
          ⟨some 4, .move (.t 17), none, []⟩] none [4])
        (.ret))
        (.skip)))))
    (.ops [⟨some 18, .bin .add (.t 8) (.c (.int .i64 1)), none, []⟩,
      ⟨some 8, .move (.t 18), none, []⟩] none [0, 1, 7, 8])))))))
(.seq (.ops [⟨some 4, .move (.c (.int .i64 (-1))), none, []⟩] none [4])
(.ret))))
def f130 : SFunc := ⟨b130, [.t 4]⟩

/-- watchbill/event.Parse$1 -/
def b129 : SCode := (
.seq (.ops [⟨some 2, .box (.t 0), none, []⟩,
  ⟨some 3, .move (.c (.bool false)), none, []⟩] none [1, 2])
(.seq (.ops [⟨some 4, .fldAddr 0 (.t 2), none, []⟩,
  ⟨some 5, .load none (.t 4), none, []⟩,
  ⟨some 6, .load none (.t 1), none, []⟩,
  ⟨some 7, .idxAddr 1 (.t 6) (.c (.int .i64 1)), none, []⟩,
  ⟨some 8, .load none (.t 7), none, []⟩,
  ⟨some 9, .bin .eql (.t 5) (.t 8), none, []⟩,
  ⟨some 3, .move (.t 9), none, []⟩] (some [(0, []), (1, [0]), (2, []), (3, [2]), (4, [3, 2]), (5, [1, 0, 4, 3, 2]), (6, [5, 1, 0, 4, 3, 2])]) [3])
(.ret)))
def f129 : SFunc := ⟨b129, [.t 3]⟩

/-- (watchbill/event.shape).fields -/
def b131 : SCode := (
.seq (.ops [⟨some 1, .box (.t 0), none, []⟩,
  ⟨some 2, .move (.c (.int .i64 0)), none, []⟩] none [1])
(.seq (.ops [⟨some 3, .move (.c (.int .i64 2)), none, []⟩] none [1, 3])
(.seq (.seq (.ops [⟨some 6, .fldAddr 1 (.t 1), none, []⟩,
  ⟨some 7, .load none (.t 6), none, []⟩,
  ⟨some 8, .fldAddr 2 (.t 1), none, []⟩,
  ⟨some 9, .load none (.t 8), none, []⟩,
  ⟨some 10, .fldAddr 3 (.t 1), none, []⟩,
  ⟨some 11, .load none (.t 10), none, []⟩,
  ⟨some 12, .fldAddr 4 (.t 1), none, []⟩,
  ⟨some 13, .load none (.t 12), none, []⟩,
  ⟨some 14, .fldAddr 4 (.t 1), none, []⟩,
  ⟨some 15, .load none (.t 14), none, []⟩,
  ⟨some 16, .buildSl 5 [(.bool false), (.bool false), (.bool false), (.bool false), (.bool false)] [(0, 1, (.t 7)), (1, 1, (.t 9)), (2, 1, (.t 11)), (3, 1, (.t 13)), (4, 1, (.t 15))], none, []⟩,
  ⟨some 17, .len .sl (.t 16), none, []⟩,
  ⟨some 18, .move (.c (.int .i64 0)), none, []⟩] none [3, 16, 17, 18])
(.block 0 (.loop [3, 16, 17, 18] (.seq (.ops [⟨some 19, .bin .lss (.t 18) (.t 17), none, []⟩] none [3, 16, 17, 18, 19])
    (.seq (.cond (.t 19)
      (.skip)
      (.exit 0))
    (.seq (.block 1 (.seq (.ops [⟨some 20, .idxAddr 1 (.t 16) (.t 18), none, []⟩,
        ⟨some 21, .load none (.t 20), none, []⟩,
        ⟨some 5, .move (.t 21), none, []⟩] none [3, 5, 16, 17, 18])
      (.seq (.ops [⟨some 22, .move (.t 5), none, []⟩] none [3, 16, 17, 18, 22])
      (.cond (.t 22)
        (.ops [⟨some 23, .move (.t 3), none, []⟩,
          ⟨some 24, .bin .add (.t 23) (.c (.int .i64 1)), none, []⟩,
          ⟨some 3, .move (.t 24), none, []⟩] none [3, 16, 17, 18])
        (.skip)))))
    (.ops [⟨some 25, .bin .add (.t 18) (.c (.int .i64 1)), none, []⟩,
      ⟨some 18, .move (.t 25), none, []⟩] none [3, 16, 17, 18])))))))
(.seq (.ops [⟨some 26, .move (.t 3), none, []⟩,
  ⟨some 2, .move (.t 26), none, []⟩] none [2])
(.ret)))))
def f131 : SFunc := ⟨b131, [.t 2]⟩

/-- slices.Concat[[]string,string] -/
def b132 : SCode := (
.seq (.ops [⟨some 2, .move (.c .nils), none, []⟩] none [0])
(.seq (.ops [⟨some 3, .move (.c (.int .i64 0)), none, []⟩] none [0, 3])
(.seq (.seq (.ops [⟨some 9, .move (.t 0), none, []⟩,
  ⟨some 10, .len .sl (.t 9), none, []⟩,
  ⟨some 11, .move (.c (.int .i64 0)), none, []⟩] none [0, 3, 9, 10, 11])
(.block 0 (.loop [0, 3, 9, 10, 11] (.seq (.ops [⟨some 12, .bin .lss (.t 11) (.t 10), none, []⟩] none [0, 3, 9, 10, 11, 12])
    (.seq (.cond (.t 12)
      (.skip)
      (.exit 0))
    (.seq (.block 1 (.seq (.ops [⟨some 13, .idxAddr 1 (.t 9) (.t 11), none, []⟩,
        ⟨some 14, .load none (.t 13), none, []⟩,
        ⟨some 5, .move (.t 14), none, []⟩] none [0, 3, 5, 9, 10, 11])
      (.seq (.ops [⟨some 15, .move (.t 3), none, []⟩,
        ⟨some 16, .move (.t 5), none, []⟩,
        ⟨some 17, .len .sl (.t 16), none, []⟩,
        ⟨some 18, .bin .add (.t 15) (.t 17), none, []⟩,
        ⟨some 3, .move (.t 18), none, []⟩] none [0, 3, 9, 10, 11])
      (.seq (.ops [⟨some 19, .move (.t 3), none, []⟩,
        ⟨some 20, .bin .lss (.t 19) (.c (.int .i64 0)), none, []⟩] none [0, 3, 9, 10, 11, 20])
      (.cond (.t 20)
        (.ops [⟨some 21, .mkifc 6 (.c (.str [108, 101, 110, 32, 111, 117, 116, 32, 111, 102, 32, 114, 97, 110, 103, 101])), none, []⟩,
          ⟨none, .stuck, none, []⟩] none [0, 3, 9, 10, 11])
        (.skip))))))
    (.ops [⟨some 22, .bin .add (.t 11) (.c (.int .i64 1)), none, []⟩,
      ⟨some 11, .move (.t 22), none, []⟩] none [0, 3, 9, 10, 11])))))))
(.seq (.ops [⟨some 23, .move (.t 3), none, []⟩,
  ⟨some 24, .call 168 [(.c .nils), (.t 23)], none, []⟩,
  ⟨some 6, .move (.t 24), none, []⟩] none [0, 6])
(.seq (.seq (.ops [⟨some 25, .move (.t 0), none, []⟩,
  ⟨some 26, .len .sl (.t 25), none, []⟩,
  ⟨some 27, .move (.c (.int .i64 0)), none, []⟩] none [6, 25, 26, 27])
(.block 2 (.loop [6, 25, 26, 27] (.seq (.ops [⟨some 28, .bin .lss (.t 27) (.t 26), none, []⟩] none [6, 25, 26, 27, 28])
    (.seq (.cond (.t 28)
      (.skip)
      (.exit 2))
    (.seq (.block 3 (.seq (.ops [⟨some 29, .idxAddr 1 (.t 25) (.t 27), none, []⟩,
        ⟨some 30, .load none (.t 29), none, []⟩,
        ⟨some 8, .move (.t 30), none, []⟩] none [6, 8, 25, 26, 27])
      (.ops [⟨some 31, .move (.t 6), none, []⟩,
        ⟨some 32, .move (.t 8), none, []⟩,
        ⟨some 33, .append 1 (.t 31) (.t 32), none, []⟩,
        ⟨some 6, .move (.t 33), none, []⟩] none [6, 25, 26, 27])))
    (.ops [⟨some 34, .bin .add (.t 27) (.c (.int .i64 1)), none, []⟩,
      ⟨some 27, .move (.t 34), none, []⟩] none [6, 25, 26, 27])))))))
(.seq (.ops [⟨some 35, .move (.t 6), none, []⟩,
  ⟨some 2, .move (.t 35), none, []⟩] none [2])
(.ret)))))))
def f132 : SFunc := ⟨b132, [.t 2]⟩

/-- (*watchbill/event.reader).number -/
def b133 : SCode := (
.seq (.ops [⟨some 2, .move (.c (.int .i64 0)), none, []⟩] none [0])
(.seq (.ops [⟨some 6, .move (.t 0), none, []⟩,
  ⟨some 7, .nilck (.t 6), none, []⟩,
  ⟨some 8, .fldAddr 0 (.t 7), none, []⟩,
  ⟨some 9, .load none (.t 8), none, []⟩,
  ⟨some 10, .idxAddr 1 (.t 9) (.c (.int .i64 0)), none, []⟩,
  ⟨some 11, .load none (.t 10), none, []⟩,
  ⟨some 3, .move (.t 11), none, []⟩] none [0, 3])
(.seq (.ops [⟨some 12, .move (.t 0), none, []⟩,
  ⟨some 13, .move (.t 0), none, []⟩,
  ⟨some 14, .nilck (.t 13), none, []⟩,
  ⟨some 15, .fldAddr 0 (.t 14), none, []⟩,
  ⟨some 16, .load none (.t 15), none, []⟩,
  ⟨some 17, .slSl 1 (.t 16) (some (.c (.int .i64 1))) none, none, []⟩,
  ⟨some 18, .nilck (.t 12), none, []⟩,
  ⟨some 19, .fldAddr 0 (.t 18), none, []⟩,
  ⟨none, .store none (.t 19) (.t 17), none, []⟩] none [0, 3])
(.seq (.seq (.ops [⟨some 20, .move (.t 0), none, []⟩,
  ⟨some 21, .nilck (.t 20), none, []⟩,
  ⟨some 22, .fldAddr 1 (.t 21), none, []⟩,
  ⟨some 23, .load none (.t 22), none, []⟩,
  ⟨some 24, .bin .neq (.t 23) (.c (.int .i64 0)), none, []⟩] none [0, 3, 24])
(.cond (.t 24)
  (.seq (.ops [⟨some 2, .move (.c (.int .i64 0)), none, []⟩] none [2])
  (.ret))
  (.skip)))
(.seq (.ops [⟨some 26, .move (.t 3), none, []⟩,
  ⟨some 27, .call 94 [(.t 26)], none, []⟩,
  ⟨some 25, .move (.t 27), none, []⟩,
  ⟨some 28, .ext 0 (.t 25), none, []⟩,
  ⟨some 29, .ext 1 (.t 25), none, []⟩,
  ⟨some 4, .move (.t 28), none, []⟩,
  ⟨some 5, .move (.t 29), none, []⟩] none [0, 4, 5])
(.seq (.ops [⟨some 30, .move (.t 0), none, []⟩,
  ⟨some 31, .move (.t 5), none, []⟩,
  ⟨some 32, .nilck (.t 30), none, []⟩,
  ⟨some 33, .fldAddr 1 (.t 32), none, []⟩,
  ⟨none, .store none (.t 33) (.t 31), none, []⟩] none [4])
(.seq (.ops [⟨some 34, .move (.t 4), none, []⟩,
  ⟨some 2, .move (.t 34), none, []⟩] none [2])
(.ret))))))))
def f133 : SFunc := ⟨b133, [.t 2]⟩

/-- (*watchbill/event.reader).small -/
def b134 : SCode := (
.seq (.ops [⟨some 2, .move (.c (.int .i64 0)), none, []⟩] none [0])
(.seq (.ops [⟨some 4, .move (.t 0), none, []⟩,
  ⟨some 5, .call 133 [(.t 4)], none, []⟩,
  ⟨some 3, .move (.t 5), none, []⟩] none [0, 3])
(.seq (.seq (.ops [⟨some 6, .move (.t 0), none, []⟩,
  ⟨some 7, .nilck (.t 6), none, []⟩,
  ⟨some 8, .fldAddr 1 (.t 7), none, []⟩,
  ⟨some 9, .load none (.t 8), none, []⟩,
  ⟨some 10, .bin .eql (.t 9) (.c (.int .i64 0)), none, []⟩,
  ⟨some 11, .move (.t 10), none, []⟩,
  ⟨some 12, .move (.t 3), (some (11, true)), []⟩,
  ⟨some 13, .bin .lss (.t 12) (.c (.int .i64 (-2147483648))), (some (11, true)), []⟩,
  ⟨some 14, .move (.t 13), (some (11, true)), []⟩,
  ⟨some 15, .move (.t 3), (some (14, false)), []⟩,
  ⟨some 16, .bin .gtr (.t 15) (.c (.int .i64 2147483647)), (some (14, false)), []⟩,
  ⟨some 17, .pick (.t 14) (.c (.bool true)) (.t 16), (some (11, true)), []⟩,
  ⟨some 18, .pick (.t 11) (.t 17) (.c (.bool false)), none, []⟩] none [0, 3, 18])
(.cond (.t 18)
  (.ops [⟨some 19, .move (.t 0), none, []⟩,
    ⟨some 20, .nilck (.t 19), none, []⟩,
    ⟨some 21, .fldAddr 1 (.t 20), none, []⟩,
    ⟨none, .store none (.t 21) (.c (.int .i64 14)), none, []⟩] none [3])
  (.skip)))
(.seq (.ops [⟨some 22, .move (.t 3), none, []⟩,
  ⟨some 2, .move (.t 22), none, []⟩] none [2])
(.ret)))))
def f134 : SFunc := ⟨b134, [.t 2]⟩

/-- watchbill/watchbillref21.names -/
def b135 : SCode := (
.seq (.ops [⟨some 0, .move (.c .nils), none, []⟩] none [])
(.seq (.ops [⟨some 1, .buildSl 9 [(.str []), (.str []), (.str []), (.str []), (.str []), (.str []), (.str []), (.str []), (.str [])] [(0, 1, (.c (.str []))), (1, 1, (.c (.str [114, 101, 108, 101, 97, 115, 101]))), (2, 1, (.c (.str [114, 101, 102, 117, 115, 101]))), (3, 1, (.c (.str [114, 117, 110, 115]))), (4, 1, (.c (.str [114, 101, 115, 117, 108, 116]))), (5, 1, (.c (.str [119, 97, 105, 116, 115]))), (6, 1, (.c (.str [100, 111, 110, 101]))), (7, 1, (.c (.str [97, 98, 111, 114, 116]))), (8, 1, (.c (.str [105, 100, 108, 101])))], none, []⟩,
  ⟨some 0, .move (.t 1), none, []⟩] none [0])
(.ret)))
def f135 : SFunc := ⟨b135, [.t 0]⟩

/-- watchbill/watchbillref8.Small -/
def b138 : SCode := (
.seq (.ops [⟨some 2, .move (.c (.int .i64 0)), none, []⟩,
  ⟨some 3, .move (.c (.int .i64 0)), none, []⟩] none [0])
(.seq (.ops [⟨some 7, .move (.t 0), none, []⟩,
  ⟨some 8, .call 95 [(.t 7)], none, []⟩,
  ⟨some 6, .move (.t 8), none, []⟩,
  ⟨some 9, .ext 0 (.t 6), none, []⟩,
  ⟨some 10, .ext 1 (.t 6), none, []⟩,
  ⟨some 4, .move (.t 9), none, []⟩,
  ⟨some 5, .move (.t 10), none, []⟩] none [4, 5])
(.seq (.seq (.ops [⟨some 11, .move (.t 5), none, []⟩,
  ⟨some 12, .bin .neq (.t 11) (.c (.int .i64 0)), none, []⟩] none [4, 5, 12])
(.cond (.t 12)
  (.seq (.ops [⟨some 13, .move (.t 5), none, []⟩,
    ⟨some 2, .move (.c (.int .i64 0)), none, []⟩,
    ⟨some 3, .move (.t 13), none, []⟩] none [2, 3])
  (.ret))
  (.skip)))
(.seq (.seq (.ops [⟨some 14, .move (.t 4), none, []⟩,
  ⟨some 15, .bin .lss (.t 14) (.c (.int .i64 (-2147483648))), none, []⟩,
  ⟨some 16, .move (.t 15), none, []⟩,
  ⟨some 17, .move (.t 4), (some (16, false)), []⟩,
  ⟨some 18, .bin .gtr (.t 17) (.c (.int .i64 2147483647)), (some (16, false)), []⟩,
  ⟨some 19, .pick (.t 16) (.c (.bool true)) (.t 18), none, []⟩] none [4, 19])
(.cond (.t 19)
  (.seq (.ops [⟨some 2, .move (.c (.int .i64 0)), none, []⟩,
    ⟨some 3, .move (.c (.int .i64 14)), none, []⟩] none [2, 3])
  (.ret))
  (.skip)))
(.seq (.ops [⟨some 20, .move (.t 4), none, []⟩,
  ⟨some 2, .move (.t 20), none, []⟩,
  ⟨some 3, .move (.c (.int .i64 0)), none, []⟩] none [2, 3])
(.ret))))))
def f138 : SFunc := ⟨b138, [.t 2, .t 3]⟩

/-- slices.Grow[[]string,string] -/
def b168 : SCode := (
.seq (.ops [⟨some 4, .move (.c .nils), none, []⟩] none [0, 1])
(.seq (.seq (.ops [⟨some 5, .move (.t 1), none, []⟩,
  ⟨some 6, .bin .lss (.t 5) (.c (.int .i64 0)), none, []⟩] none [0, 1, 6])
(.cond (.t 6)
  (.ops [⟨some 7, .mkifc 6 (.c (.str [99, 97, 110, 110, 111, 116, 32, 98, 101, 32, 110, 101, 103, 97, 116, 105, 118, 101])), none, []⟩,
    ⟨none, .stuck, none, []⟩] none [0, 1])
  (.skip)))
(.seq (.seq (.ops [⟨some 8, .move (.t 1), none, []⟩,
  ⟨some 9, .move (.t 0), none, []⟩,
  ⟨some 10, .capn (.t 9), none, []⟩,
  ⟨some 11, .move (.t 0), none, []⟩,
  ⟨some 12, .len .sl (.t 11), none, []⟩,
  ⟨some 13, .bin .sub (.t 10) (.t 12), none, []⟩,
  ⟨some 14, .bin .sub (.t 8) (.t 13), none, []⟩,
  ⟨some 1, .move (.t 14), none, []⟩] none [0, 1])
(.seq (.ops [⟨some 15, .move (.t 1), none, []⟩,
  ⟨some 16, .bin .gtr (.t 15) (.c (.int .i64 0)), none, []⟩] none [0, 1, 16])
(.cond (.t 16)
  (.ops [⟨some 17, .move (.t 0), none, []⟩,
    ⟨some 18, .move (.t 0), none, []⟩,
    ⟨some 19, .capn (.t 18), none, []⟩,
    ⟨some 20, .slSl 1 (.t 17) none (some (.t 19)), none, []⟩,
    ⟨some 21, .move (.t 1), none, []⟩,
    ⟨some 22, .appZ [(.str [])] (.t 20) (.t 21), none, []⟩,
    ⟨some 23, .move (.t 0), none, []⟩,
    ⟨some 24, .len .sl (.t 23), none, []⟩,
    ⟨some 25, .slSl 1 (.t 22) none (some (.t 24)), none, []⟩,
    ⟨some 0, .move (.t 25), none, []⟩] none [0])
  (.skip))))
(.seq (.ops [⟨some 26, .move (.t 0), none, []⟩,
  ⟨some 4, .move (.t 26), none, []⟩] none [4])
(.ret)))))
def f168 : SFunc := ⟨b168, [.t 4]⟩

def lk {α : Type} : List (Nat × α) → Nat → Option α
  | [], _ => none
  | (k, v) :: r, i => match Nat.beq i k with | true => some v | false => lk r i

def pgl : List (Nat × SFunc) := [
  (88, f88),
  (100, f100),
  (102, f102),
  (103, f103),
  (104, f104),
  (105, f105),
  (106, f106),
  (115, f115),
  (118, f118),
  (119, f119),
  (120, f120),
  (89, f89),
  (90, f90),
  (91, f91),
  (92, f92),
  (93, f93),
  (94, f94),
  (95, f95),
  (96, f96),
  (97, f97),
  (98, f98),
  (99, f99),
  (101, f101),
  (107, f107),
  (108, f108),
  (109, f109),
  (110, f110),
  (111, f111),
  (112, f112),
  (113, f113),
  (114, f114),
  (116, f116),
  (117, f117),
  (127, f127),
  (130, f130),
  (129, f129),
  (131, f131),
  (132, f132),
  (133, f133),
  (134, f134),
  (135, f135),
  (138, f138),
  (168, f168)]

def pg : Prog := lk pgl

theorem pg88 : pg 88 = some f88 := rfl
theorem pg100 : pg 100 = some f100 := rfl
theorem pg102 : pg 102 = some f102 := rfl
theorem pg103 : pg 103 = some f103 := rfl
theorem pg104 : pg 104 = some f104 := rfl
theorem pg105 : pg 105 = some f105 := rfl
theorem pg106 : pg 106 = some f106 := rfl
theorem pg115 : pg 115 = some f115 := rfl
theorem pg118 : pg 118 = some f118 := rfl
theorem pg119 : pg 119 = some f119 := rfl
theorem pg120 : pg 120 = some f120 := rfl
theorem pg89 : pg 89 = some f89 := rfl
theorem pg90 : pg 90 = some f90 := rfl
theorem pg91 : pg 91 = some f91 := rfl
theorem pg92 : pg 92 = some f92 := rfl
theorem pg93 : pg 93 = some f93 := rfl
theorem pg94 : pg 94 = some f94 := rfl
theorem pg95 : pg 95 = some f95 := rfl
theorem pg96 : pg 96 = some f96 := rfl
theorem pg97 : pg 97 = some f97 := rfl
theorem pg98 : pg 98 = some f98 := rfl
theorem pg99 : pg 99 = some f99 := rfl
theorem pg101 : pg 101 = some f101 := rfl
theorem pg107 : pg 107 = some f107 := rfl
theorem pg108 : pg 108 = some f108 := rfl
theorem pg109 : pg 109 = some f109 := rfl
theorem pg110 : pg 110 = some f110 := rfl
theorem pg111 : pg 111 = some f111 := rfl
theorem pg112 : pg 112 = some f112 := rfl
theorem pg113 : pg 113 = some f113 := rfl
theorem pg114 : pg 114 = some f114 := rfl
theorem pg116 : pg 116 = some f116 := rfl
theorem pg117 : pg 117 = some f117 := rfl
theorem pg127 : pg 127 = some f127 := rfl
theorem pg130 : pg 130 = some f130 := rfl
theorem pg129 : pg 129 = some f129 := rfl
theorem pg131 : pg 131 = some f131 := rfl
theorem pg132 : pg 132 = some f132 := rfl
theorem pg133 : pg 133 = some f133 := rfl
theorem pg134 : pg 134 = some f134 := rfl
theorem pg135 : pg 135 = some f135 := rfl
theorem pg138 : pg 138 = some f138 := rfl
theorem pg168 : pg 168 = some f168 := rfl

end Go.Cl.S
