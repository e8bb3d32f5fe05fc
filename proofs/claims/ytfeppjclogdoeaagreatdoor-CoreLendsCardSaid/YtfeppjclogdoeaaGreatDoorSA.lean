/-
  The functions' clean texts, printed by a program out of the loaded ones.
-/
import Derived.Test.YtfeppjclogdoeaaGreatDoorM1
namespace Go.Cl.S
open Go Go.Cl

/-- watchbill/watchbilllaw22.CoreLends -/
def b302 : SCode := (
.seq (.ops [⟨some 6, .move (.c (.bool false)), none, []⟩] none [0, 1, 2])
(.seq (.seq (.ops [⟨some 20, .call 303 [], none, []⟩,
  ⟨some 21, .not (.t 20), none, []⟩] none [0, 1, 2, 21])
(.cond (.t 21)
  (.seq (.ops [⟨some 6, .move (.c (.bool false)), none, []⟩] none [6])
  (.ret))
  (.skip)))
(.seq (.ops [⟨some 22, .move (.t 0), none, []⟩,
  ⟨some 23, .bin .rem (.t 22) (.c (.int .u8 6)), none, []⟩,
  ⟨some 24, .conv .i64 (.t 23), none, []⟩,
  ⟨some 25, .bin .add (.c (.int .i64 2)) (.t 24), none, []⟩,
  ⟨some 7, .move (.t 25), none, []⟩] none [1, 2, 7])
(.seq (.ops [⟨some 26, .move (.t 7), none, []⟩,
  ⟨some 27, .build [(.int .i64 0), (.int .i64 0), (.int .i64 0), (.int .i64 0), .nils] [(0, 1, (.c (.int .i64 4))), (3, 1, (.c (.int .i64 (-1))))], none, []⟩,
  ⟨some 28, .build [(.int .i64 0), (.int .i64 0), (.int .i64 0), (.int .i64 0), .nils] [(0, 1, (.c (.int .i64 1))), (1, 1, (.c (.int .i64 1)))], none, []⟩,
  ⟨some 29, .buildSl 2 [(.int .i64 0), (.int .i64 0), (.int .i64 0), (.int .i64 0), .nils, (.int .i64 0), (.int .i64 0), (.int .i64 0), (.int .i64 0), .nils] [(0, 5, (.t 27)), (5, 5, (.t 28))], none, []⟩,
  ⟨some 30, .call 304 [(.t 26), (.t 29)], none, []⟩,
  ⟨some 8, .alloc (.agg [(.int .i64 0), .nils, .nils]), none, []⟩,
  ⟨none, .store (some 3) (.t 8) (.t 30), none, []⟩] none [1, 2, 7, 8])
(.seq (.ops [⟨some 31, .move (.t 1), none, []⟩,
  ⟨some 32, .conv .i64 (.t 31), none, []⟩,
  ⟨some 33, .move (.t 7), none, []⟩,
  ⟨some 34, .bin .rem (.t 32) (.t 33), none, []⟩,
  ⟨some 35, .move (.t 2), none, []⟩,
  ⟨some 36, .conv .i64 (.t 35), none, []⟩,
  ⟨some 37, .move (.t 7), none, []⟩,
  ⟨some 38, .bin .rem (.t 36) (.t 37), none, []⟩,
  ⟨some 9, .move (.t 34), none, []⟩,
  ⟨some 10, .move (.t 38), none, []⟩] (some [(0, []), (1, [0]), (2, []), (3, [1, 0, 2]), (4, []), (5, [4]), (6, []), (7, [5, 4, 6]), (8, [3, 1, 0, 2]), (9, [7, 5, 4, 6, 8, 3, 1, 0, 2])]) [7, 8, 9, 10])
(.seq (.seq (.ops [⟨some 39, .move (.t 9), none, []⟩,
  ⟨some 40, .move (.t 10), none, []⟩,
  ⟨some 41, .bin .eql (.t 39) (.t 40), none, []⟩] none [7, 8, 9, 10, 41])
(.cond (.t 41)
  (.seq (.ops [⟨some 6, .move (.c (.bool true)), none, []⟩] none [6])
  (.ret))
  (.skip)))
(.seq (.ops [⟨some 42, .fldAddr 1 (.t 8), none, []⟩,
  ⟨some 43, .load none (.t 42), none, []⟩,
  ⟨some 44, .move (.t 9), none, []⟩,
  ⟨some 45, .idxAddr 2 (.t 43) (.c (.int .i64 0)), none, []⟩,
  ⟨some 46, .fldAddr 1 (.t 45), none, []⟩,
  ⟨none, .store none (.t 46) (.t 44), none, []⟩] none [7, 8, 9, 10])
(.seq (.ops [⟨some 47, .fldAddr 2 (.t 8), none, []⟩,
  ⟨some 48, .load none (.t 47), none, []⟩,
  ⟨some 49, .move (.t 9), none, []⟩,
  ⟨some 50, .build [(.int .i64 0), (.int .i64 0), (.int .i64 0), (.int .i64 0), .nils] [(0, 1, (.c (.int .i64 1))), (1, 1, (.c (.int .i64 1)))], none, []⟩,
  ⟨some 51, .build [(.int .i64 0), (.int .i64 0), (.int .i64 0), (.int .i64 0), .nils] [(0, 1, (.c (.int .i64 5))), (3, 1, (.c (.int .i64 (-1))))], none, []⟩,
  ⟨some 52, .buildSl 2 [(.int .i64 0), (.int .i64 0), (.int .i64 0), (.int .i64 0), .nils, (.int .i64 0), (.int .i64 0), (.int .i64 0), (.int .i64 0), .nils] [(0, 5, (.t 50)), (5, 5, (.t 51))], none, []⟩,
  ⟨some 53, .idxAddr 5 (.t 48) (.t 49), none, []⟩,
  ⟨some 54, .fldAddr 4 (.t 53), none, []⟩,
  ⟨none, .store none (.t 54) (.t 52), none, []⟩] none [7, 8, 9, 10])
(.seq (.ops [⟨some 56, .load (some 3) (.t 8), none, []⟩,
  ⟨some 57, .call 305 [(.t 56)], none, []⟩,
  ⟨some 55, .move (.t 57), none, []⟩,
  ⟨some 58, .ext 0 (.t 55), none, []⟩,
  ⟨some 59, .ext 1 (.t 55), none, []⟩,
  ⟨some 11, .move (.t 58), none, []⟩,
  ⟨some 12, .move (.t 59), none, []⟩] none [7, 9, 10, 11, 12])
(.seq (.seq (.ops [⟨some 60, .move (.t 12), none, []⟩,
  ⟨some 61, .bin .neq (.t 60) (.c (.int .i64 0)), none, []⟩,
  ⟨some 62, .move (.t 61), none, []⟩,
  ⟨some 63, .move (.t 11), (some (62, false)), []⟩,
  ⟨some 64, .eq false .p (.t 63) (.c .nilp), (some (62, false)), []⟩,
  ⟨some 65, .pick (.t 62) (.c (.bool true)) (.t 64), none, []⟩] none [7, 9, 10, 11, 65])
(.cond (.t 65)
  (.seq (.ops [⟨some 6, .move (.c (.bool false)), none, []⟩] none [6])
  (.ret))
  (.skip)))
(.seq (.ops [⟨some 66, .move (.t 11), none, []⟩,
  ⟨some 67, .move (.t 10), none, []⟩,
  ⟨some 68, .call 306 [(.t 66), (.t 67)], none, []⟩] none [7, 9, 10, 11])
(.seq (.ops [⟨some 69, .move (.t 11), none, []⟩,
  ⟨some 70, .move (.t 9), none, []⟩,
  ⟨some 71, .call 306 [(.t 69), (.t 70)], none, []⟩] none [7, 9, 10, 11])
(.seq (.ops [⟨some 73, .move (.t 11), none, []⟩,
  ⟨some 74, .move (.t 10), none, []⟩,
  ⟨some 75, .call 307 [(.t 73), (.t 74), (.c (.bool false))], none, []⟩,
  ⟨some 72, .move (.t 75), none, []⟩,
  ⟨some 76, .ext 0 (.t 72), none, []⟩,
  ⟨some 77, .ext 1 (.t 72), none, []⟩,
  ⟨some 13, .move (.t 76), none, []⟩,
  ⟨some 14, .move (.t 77), none, []⟩] none [7, 9, 10, 11, 13, 14])
(.seq (.seq (.ops [⟨some 78, .move (.t 14), none, []⟩,
  ⟨some 79, .not (.t 78), none, []⟩,
  ⟨some 80, .move (.t 79), none, []⟩,
  ⟨some 81, .move (.t 13), (some (80, false)), []⟩,
  ⟨some 82, .len .sl (.t 81), (some (80, false)), []⟩,
  ⟨some 83, .bin .neq (.t 82) (.c (.int .i64 1)), (some (80, false)), []⟩,
  ⟨some 84, .pick (.t 80) (.c (.bool true)) (.t 83), none, []⟩,
  ⟨some 85, .move (.t 84), none, []⟩,
  ⟨some 86, .move (.t 13), (some (85, false)), []⟩,
  ⟨some 87, .idxAddr 7 (.t 86) (.c (.int .i64 0)), (some (85, false)), []⟩,
  ⟨some 88, .fldAddr 1 (.t 87), (some (85, false)), []⟩,
  ⟨some 89, .load none (.t 88), (some (85, false)), []⟩,
  ⟨some 90, .bin .neq (.t 89) (.c (.int .i64 5)), (some (85, false)), []⟩,
  ⟨some 91, .pick (.t 85) (.c (.bool true)) (.t 90), none, []⟩] none [7, 9, 10, 11, 91])
(.cond (.t 91)
  (.seq (.ops [⟨some 6, .move (.c (.bool false)), none, []⟩] none [6])
  (.ret))
  (.skip)))
(.seq (.ops [⟨some 92, .move (.t 11), none, []⟩,
  ⟨some 93, .call 308 [(.t 92)], none, []⟩,
  ⟨some 15, .move (.t 93), none, []⟩] none [7, 9, 10, 11, 15])
(.seq (.seq (.ops [⟨some 94, .move (.t 15), none, []⟩,
  ⟨some 95, .len .sl (.t 94), none, []⟩,
  ⟨some 96, .move (.t 7), none, []⟩,
  ⟨some 97, .bin .neq (.t 95) (.t 96), none, []⟩,
  ⟨some 98, .move (.t 97), none, []⟩,
  ⟨some 99, .move (.t 15), (some (98, false)), []⟩,
  ⟨some 100, .move (.t 10), (some (98, false)), []⟩,
  ⟨some 101, .idxAddr 1 (.t 99) (.t 100), (some (98, false)), []⟩,
  ⟨some 102, .load none (.t 101), (some (98, false)), []⟩,
  ⟨some 103, .move (.t 7), (some (98, false)), []⟩,
  ⟨some 104, .move (.t 10), (some (98, false)), []⟩,
  ⟨some 105, .bin .sub (.t 103) (.t 104), (some (98, false)), []⟩,
  ⟨some 106, .bin .neq (.t 102) (.t 105), (some (98, false)), []⟩,
  ⟨some 107, .pick (.t 98) (.c (.bool true)) (.t 106), none, []⟩,
  ⟨some 108, .move (.t 107), none, []⟩,
  ⟨some 109, .move (.t 15), (some (108, false)), []⟩,
  ⟨some 110, .move (.t 9), (some (108, false)), []⟩,
  ⟨some 111, .idxAddr 1 (.t 109) (.t 110), (some (108, false)), []⟩,
  ⟨some 112, .load none (.t 111), (some (108, false)), []⟩,
  ⟨some 113, .move (.t 7), (some (108, false)), []⟩,
  ⟨some 114, .move (.t 9), (some (108, false)), []⟩,
  ⟨some 115, .bin .sub (.t 113) (.t 114), (some (108, false)), []⟩,
  ⟨some 116, .move (.t 7), (some (108, false)), []⟩,
  ⟨some 117, .move (.t 10), (some (108, false)), []⟩,
  ⟨some 118, .bin .sub (.t 116) (.t 117), (some (108, false)), []⟩,
  ⟨some 119, .mx [(.t 115), (.t 118)], (some (108, false)), []⟩,
  ⟨some 120, .bin .neq (.t 112) (.t 119), (some (108, false)), []⟩,
  ⟨some 121, .pick (.t 108) (.c (.bool true)) (.t 120), none, []⟩] none [7, 9, 10, 11, 121])
(.cond (.t 121)
  (.seq (.ops [⟨some 6, .move (.c (.bool false)), none, []⟩] none [6])
  (.ret))
  (.skip)))
(.seq (.ops [⟨some 123, .move (.t 11), none, []⟩,
  ⟨some 124, .call 309 [(.t 123)], none, []⟩,
  ⟨some 122, .move (.t 124), none, []⟩,
  ⟨some 125, .ext 0 (.t 122), none, []⟩,
  ⟨some 126, .ext 1 (.t 122), none, []⟩,
  ⟨some 16, .move (.t 125), none, []⟩,
  ⟨some 17, .move (.t 126), none, []⟩] none [7, 9, 10, 11, 16, 17])
(.seq (.seq (.ops [⟨some 127, .move (.t 17), none, []⟩,
  ⟨some 128, .not (.t 127), none, []⟩,
  ⟨some 129, .move (.t 128), none, []⟩,
  ⟨some 130, .move (.t 16), (some (129, false)), []⟩,
  ⟨some 131, .move (.t 9), (some (129, false)), []⟩,
  ⟨some 132, .bin .neq (.t 130) (.t 131), (some (129, false)), []⟩,
  ⟨some 133, .pick (.t 129) (.c (.bool true)) (.t 132), none, []⟩] none [7, 9, 10, 11, 133])
(.cond (.t 133)
  (.seq (.ops [⟨some 6, .move (.c (.bool false)), none, []⟩] none [6])
  (.ret))
  (.skip)))
(.seq (.ops [⟨some 134, .move (.t 11), none, []⟩,
  ⟨some 135, .move (.t 9), none, []⟩,
  ⟨some 136, .call 307 [(.t 134), (.t 135), (.c (.bool false))], none, []⟩] none [7, 9, 10, 11])
(.seq (.ops [⟨some 137, .move (.t 11), none, []⟩,
  ⟨some 138, .move (.t 9), none, []⟩,
  ⟨some 139, .call 310 [(.t 137), (.t 138)], none, []⟩] none [7, 9, 10, 11])
(.seq (.ops [⟨some 141, .move (.t 11), none, []⟩,
  ⟨some 142, .move (.t 9), none, []⟩,
  ⟨some 143, .call 307 [(.t 141), (.t 142), (.c (.bool true))], none, []⟩,
  ⟨some 140, .move (.t 143), none, []⟩,
  ⟨some 144, .ext 0 (.t 140), none, []⟩,
  ⟨some 145, .ext 1 (.t 140), none, []⟩,
  ⟨some 18, .move (.t 144), none, []⟩,
  ⟨some 19, .move (.t 145), none, []⟩] none [7, 9, 10, 11, 18, 19])
(.seq (.ops [⟨some 146, .move (.t 11), none, []⟩,
  ⟨some 147, .call 308 [(.t 146)], none, []⟩,
  ⟨some 15, .move (.t 147), none, []⟩] none [7, 9, 10, 15, 18, 19])
(.seq (.ops [⟨some 148, .move (.t 19), none, []⟩,
  ⟨some 149, .move (.t 148), none, []⟩,
  ⟨some 150, .move (.t 18), (some (149, true)), []⟩,
  ⟨some 151, .len .sl (.t 150), (some (149, true)), []⟩,
  ⟨some 152, .bin .eql (.t 151) (.c (.int .i64 2)), (some (149, true)), []⟩,
  ⟨some 153, .pick (.t 149) (.t 152) (.c (.bool false)), none, []⟩,
  ⟨some 154, .move (.t 153), none, []⟩,
  ⟨some 155, .move (.t 18), (some (154, true)), []⟩,
  ⟨some 156, .idxAddr 7 (.t 155) (.c (.int .i64 0)), (some (154, true)), []⟩,
  ⟨some 157, .fldAddr 2 (.t 156), (some (154, true)), []⟩,
  ⟨some 158, .load none (.t 157), (some (154, true)), []⟩,
  ⟨some 159, .move (.t 9), (some (154, true)), []⟩,
  ⟨some 160, .bin .eql (.t 158) (.t 159), (some (154, true)), []⟩,
  ⟨some 161, .pick (.t 154) (.t 160) (.c (.bool false)), none, []⟩,
  ⟨some 162, .move (.t 161), none, []⟩,
  ⟨some 163, .move (.t 18), (some (162, true)), []⟩,
  ⟨some 164, .idxAddr 7 (.t 163) (.c (.int .i64 1)), (some (162, true)), []⟩,
  ⟨some 165, .fldAddr 2 (.t 164), (some (162, true)), []⟩,
  ⟨some 166, .load none (.t 165), (some (162, true)), []⟩,
  ⟨some 167, .move (.t 10), (some (162, true)), []⟩,
  ⟨some 168, .bin .eql (.t 166) (.t 167), (some (162, true)), []⟩,
  ⟨some 169, .pick (.t 162) (.t 168) (.c (.bool false)), none, []⟩,
  ⟨some 170, .move (.t 169), none, []⟩,
  ⟨some 171, .move (.t 18), (some (170, true)), []⟩,
  ⟨some 172, .idxAddr 7 (.t 171) (.c (.int .i64 0)), (some (170, true)), []⟩,
  ⟨some 173, .fldAddr 4 (.t 172), (some (170, true)), []⟩,
  ⟨some 174, .load none (.t 173), (some (170, true)), []⟩,
  ⟨some 175, .move (.t 18), (some (170, true)), []⟩,
  ⟨some 176, .idxAddr 7 (.t 175) (.c (.int .i64 1)), (some (170, true)), []⟩,
  ⟨some 177, .fldAddr 4 (.t 176), (some (170, true)), []⟩,
  ⟨some 178, .load none (.t 177), (some (170, true)), []⟩,
  ⟨some 179, .bin .add (.t 174) (.t 178), (some (170, true)), []⟩,
  ⟨some 180, .bin .eql (.t 179) (.c (.int .i64 0)), (some (170, true)), []⟩,
  ⟨some 181, .pick (.t 170) (.t 180) (.c (.bool false)), none, []⟩,
  ⟨some 182, .move (.t 181), none, []⟩,
  ⟨some 183, .move (.t 15), (some (182, true)), []⟩,
  ⟨some 184, .len .sl (.t 183), (some (182, true)), []⟩,
  ⟨some 185, .move (.t 7), (some (182, true)), []⟩,
  ⟨some 186, .bin .eql (.t 184) (.t 185), (some (182, true)), []⟩,
  ⟨some 187, .pick (.t 182) (.t 186) (.c (.bool false)), none, []⟩,
  ⟨some 188, .move (.t 187), none, []⟩,
  ⟨some 189, .move (.t 15), (some (188, true)), []⟩,
  ⟨some 190, .move (.t 9), (some (188, true)), []⟩,
  ⟨some 191, .idxAddr 1 (.t 189) (.t 190), (some (188, true)), []⟩,
  ⟨some 192, .load none (.t 191), (some (188, true)), []⟩,
  ⟨some 193, .move (.t 7), (some (188, true)), []⟩,
  ⟨some 194, .move (.t 9), (some (188, true)), []⟩,
  ⟨some 195, .bin .sub (.t 193) (.t 194), (some (188, true)), []⟩,
  ⟨some 196, .bin .eql (.t 192) (.t 195), (some (188, true)), []⟩,
  ⟨some 197, .pick (.t 188) (.t 196) (.c (.bool false)), none, []⟩,
  ⟨some 198, .move (.t 197), none, []⟩,
  ⟨some 199, .move (.t 15), (some (198, true)), []⟩,
  ⟨some 200, .move (.t 10), (some (198, true)), []⟩,
  ⟨some 201, .idxAddr 1 (.t 199) (.t 200), (some (198, true)), []⟩,
  ⟨some 202, .load none (.t 201), (some (198, true)), []⟩,
  ⟨some 203, .move (.t 7), (some (198, true)), []⟩,
  ⟨some 204, .move (.t 10), (some (198, true)), []⟩,
  ⟨some 205, .bin .sub (.t 203) (.t 204), (some (198, true)), []⟩,
  ⟨some 206, .bin .eql (.t 202) (.t 205), (some (198, true)), []⟩,
  ⟨some 207, .pick (.t 198) (.t 206) (.c (.bool false)), none, []⟩,
  ⟨some 6, .move (.t 207), none, []⟩] (some [(0, []), (1, [0]), (2, [1, 0]), (3, [2, 1, 0]), (4, [3, 2, 1, 0]), (5, [1, 0, 4, 3, 2]), (6, [5, 1, 0, 4, 3, 2]), (7, [6, 5, 1, 0, 4, 3, 2]), (8, [7, 6, 5, 1, 0, 4, 3, 2]), (9, [8, 7, 6, 5, 1, 0, 4, 3, 2]), (10, [9, 8, 7, 6, 5, 1, 0, 4, 3, 2]), (11, [6, 5, 1, 0, 4, 3, 2]), (12, [10, 9, 8, 7, 6, 5, 1, 0, 4, 3, 2, 11]), (13, [6, 5, 1, 0, 4, 3, 2, 12, 10, 9, 8, 7, 11]), (14, [13, 6, 5, 1, 0, 4, 3, 2, 12, 10, 9, 8, 7, 11]), (15, [14, 13, 6, 5, 1, 0, 4, 3, 2, 12, 10, 9, 8, 7, 11]), (16, [15, 14, 13, 6, 5, 1, 0, 4, 3, 2, 12, 10, 9, 8, 7, 11]), (17, [16, 15, 14, 13, 6, 5, 1, 0, 4, 3, 2, 12, 10, 9, 8, 7, 11]), (18, [17, 16, 15, 14, 13, 6, 5, 1, 0, 4, 3, 2, 12, 10, 9, 8, 7, 11]), (19, [14, 13, 6, 5, 1, 0, 4, 3, 2, 12, 10, 9, 8, 7, 11]), (20, [18, 17, 16, 15, 14, 13, 6, 5, 1, 0, 4, 3, 2, 12, 10, 9, 8, 7, 11, 19]), (21, [14, 13, 6, 5, 1, 0, 4, 3, 2, 12, 10, 9, 8, 7, 11, 20, 18, 17, 16, 15, 19]), (22, [21, 14, 13, 6, 5, 1, 0, 4, 3, 2, 12, 10, 9, 8, 7, 11, 20, 18, 17, 16, 15, 19]), (23, [22, 21, 14, 13, 6, 5, 1, 0, 4, 3, 2, 12, 10, 9, 8, 7, 11, 20, 18, 17, 16, 15, 19]), (24, [23, 22, 21, 14, 13, 6, 5, 1, 0, 4, 3, 2, 12, 10, 9, 8, 7, 11, 20, 18, 17, 16, 15, 19]), (25, [24, 23, 22, 21, 14, 13, 6, 5, 1, 0, 4, 3, 2, 12, 10, 9, 8, 7, 11, 20, 18, 17, 16, 15, 19]), (26, [25, 24, 23, 22, 21, 14, 13, 6, 5, 1, 0, 4, 3, 2, 12, 10, 9, 8, 7, 11, 20, 18, 17, 16, 15, 19]), (27, [22, 21, 14, 13, 6, 5, 1, 0, 4, 3, 2, 12, 10, 9, 8, 7, 11, 20, 18, 17, 16, 15, 19]), (28, [27, 22, 21, 14, 13, 6, 5, 1, 0, 4, 3, 2, 12, 10, 9, 8, 7, 11, 20, 18, 17, 16, 15, 19]), (29, [28, 27, 22, 21, 14, 13, 6, 5, 1, 0, 4, 3, 2, 12, 10, 9, 8, 7, 11, 20, 18, 17, 16, 15, 19]), (30, [29, 28, 27, 22, 21, 14, 13, 6, 5, 1, 0, 4, 3, 2, 12, 10, 9, 8, 7, 11, 20, 18, 17, 16, 15, 19]), (31, [26, 25, 24, 23, 22, 21, 14, 13, 6, 5, 1, 0, 4, 3, 2, 12, 10, 9, 8, 7, 11, 20, 18, 17, 16, 15, 19, 30, 29, 28, 27]), (32, [31, 26, 25, 24, 23, 22, 21, 14, 13, 6, 5, 1, 0, 4, 3, 2, 12, 10, 9, 8, 7, 11, 20, 18, 17, 16, 15, 19, 30, 29, 28, 27]), (33, [22, 21, 14, 13, 6, 5, 1, 0, 4, 3, 2, 12, 10, 9, 8, 7, 11, 20, 18, 17, 16, 15, 19, 32, 31, 26, 25, 24, 23, 30, 29, 28, 27]), (34, [33, 22, 21, 14, 13, 6, 5, 1, 0, 4, 3, 2, 12, 10, 9, 8, 7, 11, 20, 18, 17, 16, 15, 19, 32, 31, 26, 25, 24, 23, 30, 29, 28, 27]), (35, [34, 33, 22, 21, 14, 13, 6, 5, 1, 0, 4, 3, 2, 12, 10, 9, 8, 7, 11, 20, 18, 17, 16, 15, 19, 32, 31, 26, 25, 24, 23, 30, 29, 28, 27]), (36, [35, 34, 33, 22, 21, 14, 13, 6, 5, 1, 0, 4, 3, 2, 12, 10, 9, 8, 7, 11, 20, 18, 17, 16, 15, 19, 32, 31, 26, 25, 24, 23, 30, 29, 28, 27]), (37, [34, 33, 22, 21, 14, 13, 6, 5, 1, 0, 4, 3, 2, 12, 10, 9, 8, 7, 11, 20, 18, 17, 16, 15, 19, 32, 31, 26, 25, 24, 23, 30, 29, 28, 27]), (38, [36, 35, 34, 33, 22, 21, 14, 13, 6, 5, 1, 0, 4, 3, 2, 12, 10, 9, 8, 7, 11, 20, 18, 17, 16, 15, 19, 32, 31, 26, 25, 24, 23, 30, 29, 28, 27, 37]), (39, [34, 33, 22, 21, 14, 13, 6, 5, 1, 0, 4, 3, 2, 12, 10, 9, 8, 7, 11, 20, 18, 17, 16, 15, 19, 32, 31, 26, 25, 24, 23, 30, 29, 28, 27, 38, 36, 35, 37]), (40, [39, 34, 33, 22, 21, 14, 13, 6, 5, 1, 0, 4, 3, 2, 12, 10, 9, 8, 7, 11, 20, 18, 17, 16, 15, 19, 32, 31, 26, 25, 24, 23, 30, 29, 28, 27, 38, 36, 35, 37]), (41, [40, 39, 34, 33, 22, 21, 14, 13, 6, 5, 1, 0, 4, 3, 2, 12, 10, 9, 8, 7, 11, 20, 18, 17, 16, 15, 19, 32, 31, 26, 25, 24, 23, 30, 29, 28, 27, 38, 36, 35, 37]), (42, [40, 39, 34, 33, 22, 21, 14, 13, 6, 5, 1, 0, 4, 3, 2, 12, 10, 9, 8, 7, 11, 20, 18, 17, 16, 15, 19, 32, 31, 26, 25, 24, 23, 30, 29, 28, 27, 38, 36, 35, 37]), (43, [41, 40, 39, 34, 33, 22, 21, 14, 13, 6, 5, 1, 0, 4, 3, 2, 12, 10, 9, 8, 7, 11, 20, 18, 17, 16, 15, 19, 32, 31, 26, 25, 24, 23, 30, 29, 28, 27, 38, 36, 35, 37, 42]), (44, [43, 41, 40, 39, 34, 33, 22, 21, 14, 13, 6, 5, 1, 0, 4, 3, 2, 12, 10, 9, 8, 7, 11, 20, 18, 17, 16, 15, 19, 32, 31, 26, 25, 24, 23, 30, 29, 28, 27, 38, 36, 35, 37, 42]), (45, [40, 39, 34, 33, 22, 21, 14, 13, 6, 5, 1, 0, 4, 3, 2, 12, 10, 9, 8, 7, 11, 20, 18, 17, 16, 15, 19, 32, 31, 26, 25, 24, 23, 30, 29, 28, 27, 38, 36, 35, 37]), (46, [40, 39, 34, 33, 22, 21, 14, 13, 6, 5, 1, 0, 4, 3, 2, 12, 10, 9, 8, 7, 11, 20, 18, 17, 16, 15, 19, 32, 31, 26, 25, 24, 23, 30, 29, 28, 27, 38, 36, 35, 37]), (47, [45, 40, 39, 34, 33, 22, 21, 14, 13, 6, 5, 1, 0, 4, 3, 2, 12, 10, 9, 8, 7, 11, 20, 18, 17, 16, 15, 19, 32, 31, 26, 25, 24, 23, 30, 29, 28, 27, 38, 36, 35, 37, 46]), (48, [44, 43, 41, 40, 39, 34, 33, 22, 21, 14, 13, 6, 5, 1, 0, 4, 3, 2, 12, 10, 9, 8, 7, 11, 20, 18, 17, 16, 15, 19, 32, 31, 26, 25, 24, 23, 30, 29, 28, 27, 38, 36, 35, 37, 42, 47, 45, 46]), (49, [40, 39, 34, 33, 22, 21, 14, 13, 6, 5, 1, 0, 4, 3, 2, 12, 10, 9, 8, 7, 11, 20, 18, 17, 16, 15, 19, 32, 31, 26, 25, 24, 23, 30, 29, 28, 27, 38, 36, 35, 37, 48, 44, 43, 41, 42, 47, 45, 46]), (50, [49, 40, 39, 34, 33, 22, 21, 14, 13, 6, 5, 1, 0, 4, 3, 2, 12, 10, 9, 8, 7, 11, 20, 18, 17, 16, 15, 19, 32, 31, 26, 25, 24, 23, 30, 29, 28, 27, 38, 36, 35, 37, 48, 44, 43, 41, 42, 47, 45, 46]), (51, [50, 49, 40, 39, 34, 33, 22, 21, 14, 13, 6, 5, 1, 0, 4, 3, 2, 12, 10, 9, 8, 7, 11, 20, 18, 17, 16, 15, 19, 32, 31, 26, 25, 24, 23, 30, 29, 28, 27, 38, 36, 35, 37, 48, 44, 43, 41, 42, 47, 45, 46]), (52, [50, 49, 40, 39, 34, 33, 22, 21, 14, 13, 6, 5, 1, 0, 4, 3, 2, 12, 10, 9, 8, 7, 11, 20, 18, 17, 16, 15, 19, 32, 31, 26, 25, 24, 23, 30, 29, 28, 27, 38, 36, 35, 37, 48, 44, 43, 41, 42, 47, 45, 46]), (53, [51, 50, 49, 40, 39, 34, 33, 22, 21, 14, 13, 6, 5, 1, 0, 4, 3, 2, 12, 10, 9, 8, 7, 11, 20, 18, 17, 16, 15, 19, 32, 31, 26, 25, 24, 23, 30, 29, 28, 27, 38, 36, 35, 37, 48, 44, 43, 41, 42, 47, 45, 46, 52]), (54, [53, 51, 50, 49, 40, 39, 34, 33, 22, 21, 14, 13, 6, 5, 1, 0, 4, 3, 2, 12, 10, 9, 8, 7, 11, 20, 18, 17, 16, 15, 19, 32, 31, 26, 25, 24, 23, 30, 29, 28, 27, 38, 36, 35, 37, 48, 44, 43, 41, 42, 47, 45, 46, 52]), (55, [50, 49, 40, 39, 34, 33, 22, 21, 14, 13, 6, 5, 1, 0, 4, 3, 2, 12, 10, 9, 8, 7, 11, 20, 18, 17, 16, 15, 19, 32, 31, 26, 25, 24, 23, 30, 29, 28, 27, 38, 36, 35, 37, 48, 44, 43, 41, 42, 47, 45, 46]), (56, [50, 49, 40, 39, 34, 33, 22, 21, 14, 13, 6, 5, 1, 0, 4, 3, 2, 12, 10, 9, 8, 7, 11, 20, 18, 17, 16, 15, 19, 32, 31, 26, 25, 24, 23, 30, 29, 28, 27, 38, 36, 35, 37, 48, 44, 43, 41, 42, 47, 45, 46]), (57, [55, 50, 49, 40, 39, 34, 33, 22, 21, 14, 13, 6, 5, 1, 0, 4, 3, 2, 12, 10, 9, 8, 7, 11, 20, 18, 17, 16, 15, 19, 32, 31, 26, 25, 24, 23, 30, 29, 28, 27, 38, 36, 35, 37, 48, 44, 43, 41, 42, 47, 45, 46, 56]), (58, [54, 53, 51, 50, 49, 40, 39, 34, 33, 22, 21, 14, 13, 6, 5, 1, 0, 4, 3, 2, 12, 10, 9, 8, 7, 11, 20, 18, 17, 16, 15, 19, 32, 31, 26, 25, 24, 23, 30, 29, 28, 27, 38, 36, 35, 37, 48, 44, 43, 41, 42, 47, 45, 46, 52, 57, 55, 56]), (59, [50, 49, 40, 39, 34, 33, 22, 21, 14, 13, 6, 5, 1, 0, 4, 3, 2, 12, 10, 9, 8, 7, 11, 20, 18, 17, 16, 15, 19, 32, 31, 26, 25, 24, 23, 30, 29, 28, 27, 38, 36, 35, 37, 48, 44, 43, 41, 42, 47, 45, 46, 58, 54, 53, 51, 52, 57, 55, 56]), (60, [59, 50, 49, 40, 39, 34, 33, 22, 21, 14, 13, 6, 5, 1, 0, 4, 3, 2, 12, 10, 9, 8, 7, 11, 20, 18, 17, 16, 15, 19, 32, 31, 26, 25, 24, 23, 30, 29, 28, 27, 38, 36, 35, 37, 48, 44, 43, 41, 42, 47, 45, 46, 58, 54, 53, 51, 52, 57, 55, 56])]) [6])
(.ret))))))))))))))))))))))))
def f302 : SFunc := ⟨b302, [.t 6]⟩

/-- watchbill/watchbilllaw22.CoreCloses -/
def b311 : SCode := (
.seq (.ops [⟨some 2, .move (.c (.bool false)), none, []⟩] none [0])
(.seq (.seq (.ops [⟨some 15, .call 303 [], none, []⟩,
  ⟨some 16, .not (.t 15), none, []⟩] none [0, 16])
(.cond (.t 16)
  (.seq (.ops [⟨some 2, .move (.c (.bool false)), none, []⟩] none [2])
  (.ret))
  (.skip)))
(.seq (.ops [⟨some 17, .move (.t 0), none, []⟩,
  ⟨some 18, .bin .rem (.t 17) (.c (.int .u8 7)), none, []⟩,
  ⟨some 19, .conv .i64 (.t 18), none, []⟩,
  ⟨some 20, .bin .add (.c (.int .i64 2)) (.t 19), none, []⟩,
  ⟨some 3, .move (.t 20), none, []⟩] none [3])
(.seq (.ops [⟨some 21, .move (.t 3), none, []⟩,
  ⟨some 22, .build [(.int .i64 0), (.int .i64 0), (.int .i64 0), (.int .i64 0), .nils] [(0, 1, (.c (.int .i64 5))), (3, 1, (.c (.int .i64 (-1))))], none, []⟩,
  ⟨some 23, .build [(.int .i64 0), (.int .i64 0), (.int .i64 0), (.int .i64 0), .nils] [(0, 1, (.c (.int .i64 5))), (3, 1, (.c (.int .i64 (-1))))], none, []⟩,
  ⟨some 24, .build [(.int .i64 0), (.int .i64 0), (.int .i64 0), (.int .i64 0), .nils] [(0, 1, (.c (.int .i64 1))), (1, 1, (.c (.int .i64 1)))], none, []⟩,
  ⟨some 25, .buildSl 3 [(.int .i64 0), (.int .i64 0), (.int .i64 0), (.int .i64 0), .nils, (.int .i64 0), (.int .i64 0), (.int .i64 0), (.int .i64 0), .nils, (.int .i64 0), (.int .i64 0), (.int .i64 0), (.int .i64 0), .nils] [(0, 5, (.t 22)), (5, 5, (.t 23)), (10, 5, (.t 24))], none, []⟩,
  ⟨some 26, .call 304 [(.t 21), (.t 25)], none, []⟩,
  ⟨some 4, .alloc (.agg [(.int .i64 0), .nils, .nils]), none, []⟩,
  ⟨none, .store (some 3) (.t 4) (.t 26), none, []⟩] none [3, 4])
(.seq (.ops [⟨some 27, .fldAddr 2 (.t 4), none, []⟩,
  ⟨some 28, .load none (.t 27), none, []⟩,
  ⟨some 29, .move (.t 3), none, []⟩,
  ⟨some 30, .bin .sub (.t 29) (.c (.int .i64 1)), none, []⟩,
  ⟨some 31, .build [(.int .i64 0), (.int .i64 0), (.int .i64 0), (.int .i64 0), .nils] [(0, 1, (.c (.int .i64 6)))], none, []⟩,
  ⟨some 32, .build [(.int .i64 0), (.int .i64 0), (.int .i64 0), (.int .i64 0), .nils] [(0, 1, (.c (.int .i64 6)))], none, []⟩,
  ⟨some 33, .build [(.int .i64 0), (.int .i64 0), (.int .i64 0), (.int .i64 0), .nils] [(0, 1, (.c (.int .i64 1))), (1, 1, (.c (.int .i64 1)))], none, []⟩,
  ⟨some 34, .buildSl 3 [(.int .i64 0), (.int .i64 0), (.int .i64 0), (.int .i64 0), .nils, (.int .i64 0), (.int .i64 0), (.int .i64 0), (.int .i64 0), .nils, (.int .i64 0), (.int .i64 0), (.int .i64 0), (.int .i64 0), .nils] [(0, 5, (.t 31)), (5, 5, (.t 32)), (10, 5, (.t 33))], none, []⟩,
  ⟨some 35, .idxAddr 5 (.t 28) (.t 30), none, []⟩,
  ⟨some 36, .fldAddr 4 (.t 35), none, []⟩,
  ⟨none, .store none (.t 36) (.t 34), none, []⟩] none [3, 4])
(.seq (.ops [⟨some 38, .load (some 3) (.t 4), none, []⟩,
  ⟨some 39, .call 305 [(.t 38)], none, []⟩,
  ⟨some 37, .move (.t 39), none, []⟩,
  ⟨some 40, .ext 0 (.t 37), none, []⟩,
  ⟨some 41, .ext 1 (.t 37), none, []⟩,
  ⟨some 5, .move (.t 40), none, []⟩,
  ⟨some 6, .move (.t 41), none, []⟩] none [3, 5, 6])
(.seq (.seq (.ops [⟨some 42, .move (.t 6), none, []⟩,
  ⟨some 43, .bin .neq (.t 42) (.c (.int .i64 0)), none, []⟩,
  ⟨some 44, .move (.t 43), none, []⟩,
  ⟨some 45, .move (.t 5), (some (44, false)), []⟩,
  ⟨some 46, .eq false .p (.t 45) (.c .nilp), (some (44, false)), []⟩,
  ⟨some 47, .pick (.t 44) (.c (.bool true)) (.t 46), none, []⟩] none [3, 5, 47])
(.cond (.t 47)
  (.seq (.ops [⟨some 2, .move (.c (.bool false)), none, []⟩] none [2])
  (.ret))
  (.skip)))
(.seq (.seq (.ops [⟨some 48, .move (.t 3), none, []⟩,
  ⟨some 49, .bin .sub (.t 48) (.c (.int .i64 1)), none, []⟩,
  ⟨some 7, .move (.t 49), none, []⟩] none [3, 5, 7])
(.block 0 (.loop [3, 5, 7] (.seq (.seq (.ops [⟨some 50, .move (.t 7), none, []⟩,
      ⟨some 51, .bin .geq (.t 50) (.c (.int .i64 0)), none, []⟩] none [3, 5, 7, 51])
    (.cond (.t 51)
      (.skip)
      (.exit 0)))
    (.seq (.block 1 (.seq (.ops [⟨some 54, .move (.t 5), none, []⟩,
        ⟨some 55, .move (.t 7), none, []⟩,
        ⟨some 56, .call 306 [(.t 54), (.t 55)], none, []⟩] none [3, 5, 7])
      (.seq (.ops [⟨some 57, .move (.t 7), none, []⟩,
        ⟨some 58, .move (.t 3), none, []⟩,
        ⟨some 59, .bin .sub (.t 58) (.c (.int .i64 1)), none, []⟩,
        ⟨some 60, .bin .lss (.t 57) (.t 59), none, []⟩] none [3, 5, 7, 60])
      (.cond (.t 60)
        (.ops [⟨some 61, .move (.t 5), none, []⟩,
          ⟨some 62, .move (.t 7), none, []⟩,
          ⟨some 63, .call 307 [(.t 61), (.t 62), (.c (.bool false))], none, []⟩] none [3, 5, 7])
        (.skip)))))
    (.ops [⟨some 52, .move (.t 7), none, []⟩,
      ⟨some 53, .bin .sub (.t 52) (.c (.int .i64 1)), none, []⟩,
      ⟨some 7, .move (.t 53), none, []⟩] none [3, 5, 7]))))))
(.seq (.ops [⟨some 65, .move (.t 5), none, []⟩,
  ⟨some 66, .move (.t 3), none, []⟩,
  ⟨some 67, .bin .sub (.t 66) (.c (.int .i64 1)), none, []⟩,
  ⟨some 68, .call 307 [(.t 65), (.t 67), (.c (.bool false))], none, []⟩,
  ⟨some 64, .move (.t 68), none, []⟩,
  ⟨some 69, .ext 0 (.t 64), none, []⟩,
  ⟨some 70, .ext 1 (.t 64), none, []⟩,
  ⟨some 8, .move (.t 69), none, []⟩,
  ⟨some 9, .move (.t 70), none, []⟩] none [3, 5, 8, 9])
(.seq (.seq (.ops [⟨some 71, .move (.t 9), none, []⟩,
  ⟨some 72, .not (.t 71), none, []⟩,
  ⟨some 73, .move (.t 72), none, []⟩,
  ⟨some 74, .move (.t 8), (some (73, false)), []⟩,
  ⟨some 75, .len .sl (.t 74), (some (73, false)), []⟩,
  ⟨some 76, .move (.t 3), (some (73, false)), []⟩,
  ⟨some 77, .bin .neq (.t 75) (.t 76), (some (73, false)), []⟩,
  ⟨some 78, .pick (.t 73) (.c (.bool true)) (.t 77), none, []⟩,
  ⟨some 79, .move (.t 78), none, []⟩,
  ⟨some 80, .move (.t 8), (some (79, false)), []⟩,
  ⟨some 81, .idxAddr 7 (.t 80) (.c (.int .i64 0)), (some (79, false)), []⟩,
  ⟨some 82, .fldAddr 2 (.t 81), (some (79, false)), []⟩,
  ⟨some 83, .load none (.t 82), (some (79, false)), []⟩,
  ⟨some 84, .move (.t 3), (some (79, false)), []⟩,
  ⟨some 85, .bin .sub (.t 84) (.c (.int .i64 1)), (some (79, false)), []⟩,
  ⟨some 86, .bin .neq (.t 83) (.t 85), (some (79, false)), []⟩,
  ⟨some 87, .pick (.t 79) (.c (.bool true)) (.t 86), none, []⟩,
  ⟨some 88, .move (.t 87), none, []⟩,
  ⟨some 89, .move (.t 8), (some (88, false)), []⟩,
  ⟨some 90, .idxAddr 7 (.t 89) (.c (.int .i64 0)), (some (88, false)), []⟩,
  ⟨some 91, .fldAddr 4 (.t 90), (some (88, false)), []⟩,
  ⟨some 92, .load none (.t 91), (some (88, false)), []⟩,
  ⟨some 93, .bin .neq (.t 92) (.c (.int .i64 0)), (some (88, false)), []⟩,
  ⟨some 94, .pick (.t 88) (.c (.bool true)) (.t 93), none, []⟩] none [3, 5, 8, 94])
(.cond (.t 94)
  (.seq (.ops [⟨some 2, .move (.c (.bool false)), none, []⟩] none [2])
  (.ret))
  (.skip)))
(.seq (.seq (.ops [⟨some 10, .move (.c (.int .i64 1)), none, []⟩] none [3, 5, 8, 10])
(.block 2 (.loop [3, 5, 8, 10] (.seq (.seq (.ops [⟨some 95, .move (.t 10), none, []⟩,
      ⟨some 96, .move (.t 3), none, []⟩,
      ⟨some 97, .bin .lss (.t 95) (.t 96), none, []⟩] none [3, 5, 8, 10, 97])
    (.cond (.t 97)
      (.skip)
      (.exit 2)))
    (.seq (.block 3 (.seq (.ops [⟨some 100, .move (.t 8), none, []⟩,
        ⟨some 101, .move (.t 10), none, []⟩,
        ⟨some 102, .idxAddr 7 (.t 100) (.t 101), none, []⟩,
        ⟨some 103, .fldAddr 2 (.t 102), none, []⟩,
        ⟨some 104, .load none (.t 103), none, []⟩,
        ⟨some 105, .move (.t 10), none, []⟩,
        ⟨some 106, .bin .sub (.t 105) (.c (.int .i64 1)), none, []⟩,
        ⟨some 107, .bin .neq (.t 104) (.t 106), none, []⟩,
        ⟨some 108, .move (.t 107), none, []⟩,
        ⟨some 109, .move (.t 8), (some (108, false)), []⟩,
        ⟨some 110, .move (.t 10), (some (108, false)), []⟩,
        ⟨some 111, .idxAddr 7 (.t 109) (.t 110), (some (108, false)), []⟩,
        ⟨some 112, .fldAddr 1 (.t 111), (some (108, false)), []⟩,
        ⟨some 113, .load none (.t 112), (some (108, false)), []⟩,
        ⟨some 114, .bin .neq (.t 113) (.c (.int .i64 4)), (some (108, false)), []⟩,
        ⟨some 115, .pick (.t 108) (.c (.bool true)) (.t 114), none, []⟩,
        ⟨some 116, .move (.t 115), none, []⟩,
        ⟨some 117, .move (.t 8), (some (116, false)), []⟩,
        ⟨some 118, .move (.t 10), (some (116, false)), []⟩,
        ⟨some 119, .idxAddr 7 (.t 117) (.t 118), (some (116, false)), []⟩,
        ⟨some 120, .fldAddr 4 (.t 119), (some (116, false)), []⟩,
        ⟨some 121, .load none (.t 120), (some (116, false)), []⟩,
        ⟨some 122, .bin .neq (.t 121) (.c (.int .i64 9)), (some (116, false)), []⟩,
        ⟨some 123, .pick (.t 116) (.c (.bool true)) (.t 122), none, []⟩,
        ⟨some 124, .move (.t 123), none, []⟩,
        ⟨some 125, .move (.t 5), (some (124, false)), []⟩,
        ⟨some 126, .move (.t 10), (some (124, false)), []⟩,
        ⟨some 127, .bin .sub (.t 126) (.c (.int .i64 1)), (some (124, false)), []⟩,
        ⟨some 128, .call 312 [(.t 125), (.t 127)], (some (124, false)), []⟩,
        ⟨some 129, .fld 8 none (.t 128), (some (124, false)), []⟩,
        ⟨some 130, .pick (.t 124) (.c (.bool true)) (.t 129), none, []⟩] none [3, 5, 8, 10, 130])
      (.cond (.t 130)
        (.seq (.ops [⟨some 2, .move (.c (.bool false)), none, []⟩] none [2])
        (.ret))
        (.skip))))
    (.ops [⟨some 98, .move (.t 10), none, []⟩,
      ⟨some 99, .bin .add (.t 98) (.c (.int .i64 1)), none, []⟩,
      ⟨some 10, .move (.t 99), none, []⟩] none [3, 5, 8, 10]))))))
(.seq (.ops [⟨some 132, .move (.t 5), none, []⟩,
  ⟨some 133, .call 307 [(.t 132), (.c (.int .i64 0)), (.c (.bool false))], none, []⟩,
  ⟨some 131, .move (.t 133), none, []⟩,
  ⟨some 134, .ext 0 (.t 131), none, []⟩,
  ⟨some 135, .ext 1 (.t 131), none, []⟩,
  ⟨some 11, .move (.t 134), none, []⟩,
  ⟨some 12, .move (.t 135), none, []⟩] none [3, 5, 11])
(.seq (.ops [⟨some 137, .move (.t 5), none, []⟩,
  ⟨some 138, .move (.t 3), none, []⟩,
  ⟨some 139, .bin .sub (.t 138) (.c (.int .i64 1)), none, []⟩,
  ⟨some 140, .call 307 [(.t 137), (.t 139), (.c (.bool false))], none, []⟩,
  ⟨some 136, .move (.t 140), none, []⟩,
  ⟨some 141, .ext 0 (.t 136), none, []⟩,
  ⟨some 142, .ext 1 (.t 136), none, []⟩,
  ⟨some 13, .move (.t 141), none, []⟩,
  ⟨some 14, .move (.t 142), none, []⟩] none [11, 13])
(.seq (.ops [⟨some 143, .move (.t 11), none, []⟩,
  ⟨some 144, .len .sl (.t 143), none, []⟩,
  ⟨some 145, .bin .eql (.t 144) (.c (.int .i64 1)), none, []⟩,
  ⟨some 146, .move (.t 145), none, []⟩,
  ⟨some 147, .move (.t 11), (some (146, true)), []⟩,
  ⟨some 148, .idxAddr 7 (.t 147) (.c (.int .i64 0)), (some (146, true)), []⟩,
  ⟨some 149, .fldAddr 4 (.t 148), (some (146, true)), []⟩,
  ⟨some 150, .load none (.t 149), (some (146, true)), []⟩,
  ⟨some 151, .bin .eql (.t 150) (.c (.int .i64 9)), (some (146, true)), []⟩,
  ⟨some 152, .pick (.t 146) (.t 151) (.c (.bool false)), none, []⟩,
  ⟨some 153, .move (.t 152), none, []⟩,
  ⟨some 154, .move (.t 11), (some (153, true)), []⟩,
  ⟨some 155, .idxAddr 7 (.t 154) (.c (.int .i64 0)), (some (153, true)), []⟩,
  ⟨some 156, .fldAddr 3 (.t 155), (some (153, true)), []⟩,
  ⟨some 157, .load none (.t 156), (some (153, true)), []⟩,
  ⟨some 158, .bin .eql (.t 157) (.c (.int .i64 1)), (some (153, true)), []⟩,
  ⟨some 159, .pick (.t 153) (.t 158) (.c (.bool false)), none, []⟩,
  ⟨some 160, .move (.t 159), none, []⟩,
  ⟨some 161, .move (.t 13), (some (160, true)), []⟩,
  ⟨some 162, .len .sl (.t 161), (some (160, true)), []⟩,
  ⟨some 163, .bin .eql (.t 162) (.c (.int .i64 1)), (some (160, true)), []⟩,
  ⟨some 164, .pick (.t 160) (.t 163) (.c (.bool false)), none, []⟩,
  ⟨some 165, .move (.t 164), none, []⟩,
  ⟨some 166, .move (.t 13), (some (165, true)), []⟩,
  ⟨some 167, .idxAddr 7 (.t 166) (.c (.int .i64 0)), (some (165, true)), []⟩,
  ⟨some 168, .fldAddr 4 (.t 167), (some (165, true)), []⟩,
  ⟨some 169, .load none (.t 168), (some (165, true)), []⟩,
  ⟨some 170, .bin .eql (.t 169) (.c (.int .i64 9)), (some (165, true)), []⟩,
  ⟨some 171, .pick (.t 165) (.t 170) (.c (.bool false)), none, []⟩,
  ⟨some 2, .move (.t 171), none, []⟩] none [2])
(.ret)))))))))))))))
def f311 : SFunc := ⟨b311, [.t 2]⟩

/-- watchbill/watchbilllaw22.CoreLocks -/
def b313 : SCode := (
.seq (.ops [⟨some 4, .move (.c (.bool false)), none, []⟩] none [0, 1])
(.seq (.seq (.ops [⟨some 19, .call 303 [], none, []⟩,
  ⟨some 20, .not (.t 19), none, []⟩] none [0, 1, 20])
(.cond (.t 20)
  (.seq (.ops [⟨some 4, .move (.c (.bool false)), none, []⟩] none [4])
  (.ret))
  (.skip)))
(.seq (.ops [⟨some 21, .move (.t 0), none, []⟩,
  ⟨some 22, .bin .rem (.t 21) (.c (.int .u8 6)), none, []⟩,
  ⟨some 23, .conv .i64 (.t 22), none, []⟩,
  ⟨some 24, .bin .add (.c (.int .i64 2)) (.t 23), none, []⟩,
  ⟨some 5, .move (.t 24), none, []⟩] none [1, 5])
(.seq (.ops [⟨some 26, .move (.t 5), none, []⟩,
  ⟨some 27, .build [(.int .i64 0), (.int .i64 0), (.int .i64 0), (.int .i64 0), .nils] [(0, 1, (.c (.int .i64 2)))], none, []⟩,
  ⟨some 28, .build [(.int .i64 0), (.int .i64 0), (.int .i64 0), (.int .i64 0), .nils] [(0, 1, (.c (.int .i64 1))), (1, 1, (.c (.int .i64 1)))], none, []⟩,
  ⟨some 29, .build [(.int .i64 0), (.int .i64 0), (.int .i64 0), (.int .i64 0), .nils] [(0, 1, (.c (.int .i64 3)))], none, []⟩,
  ⟨some 30, .buildSl 3 [(.int .i64 0), (.int .i64 0), (.int .i64 0), (.int .i64 0), .nils, (.int .i64 0), (.int .i64 0), (.int .i64 0), (.int .i64 0), .nils, (.int .i64 0), (.int .i64 0), (.int .i64 0), (.int .i64 0), .nils] [(0, 5, (.t 27)), (5, 5, (.t 28)), (10, 5, (.t 29))], none, []⟩,
  ⟨some 31, .call 304 [(.t 26), (.t 30)], none, []⟩,
  ⟨some 32, .call 305 [(.t 31)], none, []⟩,
  ⟨some 25, .move (.t 32), none, []⟩,
  ⟨some 33, .ext 0 (.t 25), none, []⟩,
  ⟨some 34, .ext 1 (.t 25), none, []⟩,
  ⟨some 6, .move (.t 33), none, []⟩,
  ⟨some 7, .move (.t 34), none, []⟩] none [1, 5, 6, 7])
(.seq (.seq (.ops [⟨some 35, .move (.t 7), none, []⟩,
  ⟨some 36, .bin .neq (.t 35) (.c (.int .i64 0)), none, []⟩,
  ⟨some 37, .move (.t 36), none, []⟩,
  ⟨some 38, .move (.t 6), (some (37, false)), []⟩,
  ⟨some 39, .eq false .p (.t 38) (.c .nilp), (some (37, false)), []⟩,
  ⟨some 40, .pick (.t 37) (.c (.bool true)) (.t 39), none, []⟩] none [1, 5, 6, 40])
(.cond (.t 40)
  (.seq (.ops [⟨some 4, .move (.c (.bool false)), none, []⟩] none [4])
  (.ret))
  (.skip)))
(.seq (.ops [⟨some 41, .move (.t 1), none, []⟩,
  ⟨some 42, .conv .i64 (.t 41), none, []⟩,
  ⟨some 43, .move (.t 5), none, []⟩,
  ⟨some 44, .bin .rem (.t 42) (.t 43), none, []⟩,
  ⟨some 8, .move (.t 44), none, []⟩] none [5, 6, 8])
(.seq (.ops [⟨some 45, .move (.t 6), none, []⟩,
  ⟨some 46, .move (.t 8), none, []⟩,
  ⟨some 47, .call 306 [(.t 45), (.t 46)], none, []⟩] none [5, 6, 8])
(.seq (.ops [⟨some 48, .move (.t 6), none, []⟩,
  ⟨some 49, .move (.t 8), none, []⟩,
  ⟨some 50, .call 307 [(.t 48), (.t 49), (.c (.bool false))], none, []⟩] none [5, 6, 8])
(.seq (.seq (.ops [⟨some 51, .move (.t 5), none, []⟩,
  ⟨some 52, .bin .sub (.t 51) (.c (.int .i64 1)), none, []⟩,
  ⟨some 9, .move (.t 52), none, []⟩] none [5, 6, 8, 9])
(.block 0 (.loop [5, 6, 8, 9] (.seq (.seq (.ops [⟨some 53, .move (.t 9), none, []⟩,
      ⟨some 54, .bin .geq (.t 53) (.c (.int .i64 0)), none, []⟩] none [5, 6, 8, 9, 54])
    (.cond (.t 54)
      (.skip)
      (.exit 0)))
    (.seq (.block 1 (.seq (.seq (.ops [⟨some 57, .move (.t 9), none, []⟩,
        ⟨some 58, .move (.t 8), none, []⟩,
        ⟨some 59, .bin .eql (.t 57) (.t 58), none, []⟩] none [5, 6, 8, 9, 59])
      (.cond (.t 59)
        (.exit 1)
        (.skip)))
      (.seq (.ops [⟨some 60, .move (.t 6), none, []⟩,
        ⟨some 61, .move (.t 9), none, []⟩,
        ⟨some 62, .call 306 [(.t 60), (.t 61)], none, []⟩] none [5, 6, 8, 9])
      (.seq (.ops [⟨some 64, .move (.t 6), none, []⟩,
        ⟨some 65, .move (.t 9), none, []⟩,
        ⟨some 66, .call 307 [(.t 64), (.t 65), (.c (.bool false))], none, []⟩,
        ⟨some 63, .move (.t 66), none, []⟩,
        ⟨some 67, .ext 0 (.t 63), none, []⟩,
        ⟨some 68, .ext 1 (.t 63), none, []⟩,
        ⟨some 10, .move (.t 67), none, []⟩,
        ⟨some 11, .move (.t 68), none, []⟩] none [5, 6, 8, 9, 10, 11])
      (.seq (.ops [⟨some 69, .move (.t 11), none, []⟩,
        ⟨some 70, .not (.t 69), none, []⟩,
        ⟨some 71, .move (.t 70), none, []⟩,
        ⟨some 72, .move (.t 10), (some (71, false)), []⟩,
        ⟨some 73, .len .sl (.t 72), (some (71, false)), []⟩,
        ⟨some 74, .bin .neq (.t 73) (.c (.int .i64 1)), (some (71, false)), []⟩,
        ⟨some 75, .pick (.t 71) (.c (.bool true)) (.t 74), none, []⟩,
        ⟨some 76, .move (.t 75), none, []⟩,
        ⟨some 77, .move (.t 10), (some (76, false)), []⟩,
        ⟨some 78, .idxAddr 7 (.t 77) (.c (.int .i64 0)), (some (76, false)), []⟩,
        ⟨some 79, .fldAddr 1 (.t 78), (some (76, false)), []⟩,
        ⟨some 80, .load none (.t 79), (some (76, false)), []⟩,
        ⟨some 81, .bin .neq (.t 80) (.c (.int .i64 5)), (some (76, false)), []⟩,
        ⟨some 82, .pick (.t 76) (.c (.bool true)) (.t 81), none, []⟩,
        ⟨some 83, .move (.t 82), none, []⟩,
        ⟨some 84, .move (.t 6), (some (83, false)), []⟩,
        ⟨some 85, .move (.t 9), (some (83, false)), []⟩,
        ⟨some 86, .call 312 [(.t 84), (.t 85)], (some (83, false)), []⟩,
        ⟨some 87, .fld 8 none (.t 86), (some (83, false)), []⟩,
        ⟨some 88, .not (.t 87), (some (83, false)), []⟩,
        ⟨some 89, .pick (.t 83) (.c (.bool true)) (.t 88), none, []⟩] none [5, 6, 8, 9, 89])
      (.cond (.t 89)
        (.seq (.ops [⟨some 4, .move (.c (.bool false)), none, []⟩] none [4])
        (.ret))
        (.skip)))))))
    (.ops [⟨some 55, .move (.t 9), none, []⟩,
      ⟨some 56, .bin .sub (.t 55) (.c (.int .i64 1)), none, []⟩,
      ⟨some 9, .move (.t 56), none, []⟩] none [5, 6, 8, 9]))))))
(.seq (.ops [⟨some 12, .move (.c .nils), none, []⟩] none [5, 6, 8, 12])
(.seq (.seq (.ops [⟨some 13, .move (.c (.int .i64 0)), none, []⟩] none [5, 6, 8, 12, 13])
(.block 2 (.loop [5, 6, 8, 12, 13] (.seq (.seq (.ops [⟨some 90, .move (.t 13), none, []⟩,
      ⟨some 91, .move (.t 5), none, []⟩,
      ⟨some 92, .bin .lss (.t 90) (.t 91), none, []⟩] none [5, 6, 8, 12, 13, 92])
    (.cond (.t 92)
      (.skip)
      (.exit 2)))
    (.seq (.block 3 (.seq (.ops [⟨some 95, .move (.t 13), none, []⟩,
        ⟨some 96, .move (.t 8), none, []⟩,
        ⟨some 97, .bin .neq (.t 95) (.t 96), none, []⟩] none [5, 6, 8, 12, 13, 97])
      (.cond (.t 97)
        (.ops [⟨some 98, .move (.t 12), none, []⟩,
          ⟨some 99, .move (.t 13), none, []⟩,
          ⟨some 100, .buildSl 1 [(.int .i64 0)] [(0, 1, (.t 99))], none, []⟩,
          ⟨some 101, .append 1 (.t 98) (.t 100), none, []⟩,
          ⟨some 12, .move (.t 101), none, []⟩] none [5, 6, 8, 12, 13])
        (.skip))))
    (.ops [⟨some 93, .move (.t 13), none, []⟩,
      ⟨some 94, .bin .add (.t 93) (.c (.int .i64 1)), none, []⟩,
      ⟨some 13, .move (.t 94), none, []⟩] none [5, 6, 8, 12, 13]))))))
(.seq (.ops [⟨some 102, .move (.t 8), none, []⟩,
  ⟨some 14, .move (.t 102), none, []⟩] none [5, 6, 12, 14])
(.seq (.seq (.ops [⟨some 15, .move (.c (.int .i64 0)), none, []⟩] none [5, 6, 12, 14, 15])
(.block 4 (.loop [5, 6, 12, 14, 15] (.seq (.seq (.ops [⟨some 103, .move (.t 15), none, []⟩,
      ⟨some 104, .move (.t 12), none, []⟩,
      ⟨some 105, .len .sl (.t 104), none, []⟩,
      ⟨some 106, .bin .lss (.t 103) (.t 105), none, []⟩] none [5, 6, 12, 14, 15, 106])
    (.cond (.t 106)
      (.skip)
      (.exit 4)))
    (.seq (.block 5 (.seq (.ops [⟨some 109, .move (.t 6), none, []⟩,
        ⟨some 110, .call 308 [(.t 109)], none, []⟩,
        ⟨some 16, .move (.t 110), none, []⟩] none [5, 6, 12, 14, 15, 16])
      (.seq (.seq (.ops [⟨some 111, .move (.t 16), none, []⟩,
        ⟨some 112, .len .sl (.t 111), none, []⟩,
        ⟨some 113, .move (.t 5), none, []⟩,
        ⟨some 114, .bin .neq (.t 112) (.t 113), none, []⟩,
        ⟨some 115, .move (.t 114), none, []⟩,
        ⟨some 116, .move (.t 16), (some (115, false)), []⟩,
        ⟨some 117, .move (.t 14), (some (115, false)), []⟩,
        ⟨some 118, .idxAddr 1 (.t 116) (.t 117), (some (115, false)), []⟩,
        ⟨some 119, .load none (.t 118), (some (115, false)), []⟩,
        ⟨some 120, .move (.t 5), (some (115, false)), []⟩,
        ⟨some 121, .bin .neq (.t 119) (.t 120), (some (115, false)), []⟩,
        ⟨some 122, .pick (.t 115) (.c (.bool true)) (.t 121), none, []⟩,
        ⟨some 123, .move (.t 122), none, []⟩,
        ⟨some 124, .move (.t 6), (some (123, false)), []⟩,
        ⟨some 125, .move (.t 14), (some (123, false)), []⟩,
        ⟨some 126, .call 312 [(.t 124), (.t 125)], (some (123, false)), []⟩,
        ⟨some 127, .fld 9 none (.t 126), (some (123, false)), []⟩,
        ⟨some 128, .buildSl 1 [(.int .i64 0)] [(0, 1, (.c (.int .i64 0)))], (some (123, false)), []⟩,
        ⟨some 129, .call 20 [(.t 127), (.t 128)], (some (123, false)), []⟩,
        ⟨some 130, .not (.t 129), (some (123, false)), []⟩,
        ⟨some 131, .pick (.t 123) (.c (.bool true)) (.t 130), none, []⟩] none [5, 6, 12, 14, 15, 131])
      (.cond (.t 131)
        (.seq (.ops [⟨some 4, .move (.c (.bool false)), none, []⟩] none [4])
        (.ret))
        (.skip)))
      (.seq (.ops [⟨some 132, .move (.t 6), none, []⟩,
        ⟨some 133, .move (.t 14), none, []⟩,
        ⟨some 134, .call 307 [(.t 132), (.t 133), (.c (.bool false))], none, []⟩] none [5, 6, 12, 14, 15])
      (.seq (.ops [⟨some 135, .move (.t 6), none, []⟩,
        ⟨some 136, .move (.t 14), none, []⟩,
        ⟨some 137, .call 310 [(.t 135), (.t 136)], none, []⟩] none [5, 6, 12, 14, 15])
      (.seq (.ops [⟨some 139, .move (.t 6), none, []⟩,
        ⟨some 140, .move (.t 14), none, []⟩,
        ⟨some 141, .call 307 [(.t 139), (.t 140), (.c (.bool true))], none, []⟩,
        ⟨some 138, .move (.t 141), none, []⟩,
        ⟨some 142, .ext 0 (.t 138), none, []⟩,
        ⟨some 143, .ext 1 (.t 138), none, []⟩,
        ⟨some 17, .move (.t 142), none, []⟩,
        ⟨some 18, .move (.t 143), none, []⟩] none [5, 6, 12, 14, 15, 17, 18])
      (.seq (.seq (.ops [⟨some 144, .move (.t 18), none, []⟩,
        ⟨some 145, .not (.t 144), none, []⟩,
        ⟨some 146, .move (.t 145), none, []⟩,
        ⟨some 147, .move (.t 17), (some (146, false)), []⟩,
        ⟨some 148, .len .sl (.t 147), (some (146, false)), []⟩,
        ⟨some 149, .bin .neq (.t 148) (.c (.int .i64 2)), (some (146, false)), []⟩,
        ⟨some 150, .pick (.t 146) (.c (.bool true)) (.t 149), none, []⟩,
        ⟨some 151, .move (.t 150), none, []⟩,
        ⟨some 152, .move (.t 17), (some (151, false)), []⟩,
        ⟨some 153, .idxAddr 7 (.t 152) (.c (.int .i64 0)), (some (151, false)), []⟩,
        ⟨some 154, .fldAddr 2 (.t 153), (some (151, false)), []⟩,
        ⟨some 155, .load none (.t 154), (some (151, false)), []⟩,
        ⟨some 156, .move (.t 14), (some (151, false)), []⟩,
        ⟨some 157, .bin .neq (.t 155) (.t 156), (some (151, false)), []⟩,
        ⟨some 158, .pick (.t 151) (.c (.bool true)) (.t 157), none, []⟩,
        ⟨some 159, .move (.t 158), none, []⟩,
        ⟨some 160, .move (.t 17), (some (159, false)), []⟩,
        ⟨some 161, .idxAddr 7 (.t 160) (.c (.int .i64 1)), (some (159, false)), []⟩,
        ⟨some 162, .fldAddr 2 (.t 161), (some (159, false)), []⟩,
        ⟨some 163, .load none (.t 162), (some (159, false)), []⟩,
        ⟨some 164, .move (.t 12), (some (159, false)), []⟩,
        ⟨some 165, .move (.t 15), (some (159, false)), []⟩,
        ⟨some 166, .idxAddr 1 (.t 164) (.t 165), (some (159, false)), []⟩,
        ⟨some 167, .load none (.t 166), (some (159, false)), []⟩,
        ⟨some 168, .bin .neq (.t 163) (.t 167), (some (159, false)), []⟩,
        ⟨some 169, .pick (.t 159) (.c (.bool true)) (.t 168), none, []⟩,
        ⟨some 170, .move (.t 169), none, []⟩,
        ⟨some 171, .move (.t 17), (some (170, false)), []⟩,
        ⟨some 172, .idxAddr 7 (.t 171) (.c (.int .i64 1)), (some (170, false)), []⟩,
        ⟨some 173, .fldAddr 1 (.t 172), (some (170, false)), []⟩,
        ⟨some 174, .load none (.t 173), (some (170, false)), []⟩,
        ⟨some 175, .bin .neq (.t 174) (.c (.int .i64 4)), (some (170, false)), []⟩,
        ⟨some 176, .pick (.t 170) (.c (.bool true)) (.t 175), none, []⟩,
        ⟨some 177, .move (.t 176), none, []⟩,
        ⟨some 178, .move (.t 17), (some (177, false)), []⟩,
        ⟨some 179, .idxAddr 7 (.t 178) (.c (.int .i64 1)), (some (177, false)), []⟩,
        ⟨some 180, .fldAddr 4 (.t 179), (some (177, false)), []⟩,
        ⟨some 181, .load none (.t 180), (some (177, false)), []⟩,
        ⟨some 182, .bin .neq (.t 181) (.c (.int .i64 0)), (some (177, false)), []⟩,
        ⟨some 183, .pick (.t 177) (.c (.bool true)) (.t 182), none, []⟩,
        ⟨some 184, .move (.t 183), none, []⟩,
        ⟨some 185, .move (.t 17), (some (184, false)), []⟩,
        ⟨some 186, .idxAddr 7 (.t 185) (.c (.int .i64 1)), (some (184, false)), []⟩,
        ⟨some 187, .fldAddr 0 (.t 186), (some (184, false)), []⟩,
        ⟨some 188, .load none (.t 187), (some (184, false)), []⟩,
        ⟨some 189, .bin .neq (.t 188) (.c (.int .i64 1)), (some (184, false)), []⟩,
        ⟨some 190, .pick (.t 184) (.c (.bool true)) (.t 189), none, []⟩] (some [(0, []), (1, [0]), (2, [1, 0]), (3, [2, 1, 0]), (4, [3, 2, 1, 0]), (5, [4, 3, 2, 1, 0]), (6, [2, 1, 0, 5, 4, 3]), (7, [6, 2, 1, 0, 5, 4, 3]), (8, [7, 6, 2, 1, 0, 5, 4, 3]), (9, [8, 7, 6, 2, 1, 0, 5, 4, 3]), (10, [9, 8, 7, 6, 2, 1, 0, 5, 4, 3]), (11, [10, 9, 8, 7, 6, 2, 1, 0, 5, 4, 3]), (12, [7, 6, 2, 1, 0, 5, 4, 3]), (13, [11, 10, 9, 8, 7, 6, 2, 1, 0, 5, 4, 3, 12]), (14, [7, 6, 2, 1, 0, 5, 4, 3, 13, 11, 10, 9, 8, 12]), (15, [14, 7, 6, 2, 1, 0, 5, 4, 3, 13, 11, 10, 9, 8, 12]), (16, [15, 14, 7, 6, 2, 1, 0, 5, 4, 3, 13, 11, 10, 9, 8, 12]), (17, [16, 15, 14, 7, 6, 2, 1, 0, 5, 4, 3, 13, 11, 10, 9, 8, 12]), (18, [17, 16, 15, 14, 7, 6, 2, 1, 0, 5, 4, 3, 13, 11, 10, 9, 8, 12]), (19, [18, 17, 16, 15, 14, 7, 6, 2, 1, 0, 5, 4, 3, 13, 11, 10, 9, 8, 12]), (20, [15, 14, 7, 6, 2, 1, 0, 5, 4, 3, 13, 11, 10, 9, 8, 12]), (21, [15, 14, 7, 6, 2, 1, 0, 5, 4, 3, 13, 11, 10, 9, 8, 12]), (22, [20, 15, 14, 7, 6, 2, 1, 0, 5, 4, 3, 13, 11, 10, 9, 8, 12, 21]), (23, [22, 20, 15, 14, 7, 6, 2, 1, 0, 5, 4, 3, 13, 11, 10, 9, 8, 12, 21]), (24, [19, 18, 17, 16, 15, 14, 7, 6, 2, 1, 0, 5, 4, 3, 13, 11, 10, 9, 8, 12, 23, 22, 20, 21]), (25, [15, 14, 7, 6, 2, 1, 0, 5, 4, 3, 13, 11, 10, 9, 8, 12, 24, 19, 18, 17, 16, 23, 22, 20, 21]), (26, [25, 15, 14, 7, 6, 2, 1, 0, 5, 4, 3, 13, 11, 10, 9, 8, 12, 24, 19, 18, 17, 16, 23, 22, 20, 21]), (27, [26, 25, 15, 14, 7, 6, 2, 1, 0, 5, 4, 3, 13, 11, 10, 9, 8, 12, 24, 19, 18, 17, 16, 23, 22, 20, 21]), (28, [27, 26, 25, 15, 14, 7, 6, 2, 1, 0, 5, 4, 3, 13, 11, 10, 9, 8, 12, 24, 19, 18, 17, 16, 23, 22, 20, 21]), (29, [28, 27, 26, 25, 15, 14, 7, 6, 2, 1, 0, 5, 4, 3, 13, 11, 10, 9, 8, 12, 24, 19, 18, 17, 16, 23, 22, 20, 21]), (30, [29, 28, 27, 26, 25, 15, 14, 7, 6, 2, 1, 0, 5, 4, 3, 13, 11, 10, 9, 8, 12, 24, 19, 18, 17, 16, 23, 22, 20, 21]), (31, [30, 29, 28, 27, 26, 25, 15, 14, 7, 6, 2, 1, 0, 5, 4, 3, 13, 11, 10, 9, 8, 12, 24, 19, 18, 17, 16, 23, 22, 20, 21]), (32, [26, 25, 15, 14, 7, 6, 2, 1, 0, 5, 4, 3, 13, 11, 10, 9, 8, 12, 24, 19, 18, 17, 16, 23, 22, 20, 21, 31, 30, 29, 28, 27]), (33, [32, 26, 25, 15, 14, 7, 6, 2, 1, 0, 5, 4, 3, 13, 11, 10, 9, 8, 12, 24, 19, 18, 17, 16, 23, 22, 20, 21, 31, 30, 29, 28, 27]), (34, [33, 32, 26, 25, 15, 14, 7, 6, 2, 1, 0, 5, 4, 3, 13, 11, 10, 9, 8, 12, 24, 19, 18, 17, 16, 23, 22, 20, 21, 31, 30, 29, 28, 27]), (35, [34, 33, 32, 26, 25, 15, 14, 7, 6, 2, 1, 0, 5, 4, 3, 13, 11, 10, 9, 8, 12, 24, 19, 18, 17, 16, 23, 22, 20, 21, 31, 30, 29, 28, 27]), (36, [35, 34, 33, 32, 26, 25, 15, 14, 7, 6, 2, 1, 0, 5, 4, 3, 13, 11, 10, 9, 8, 12, 24, 19, 18, 17, 16, 23, 22, 20, 21, 31, 30, 29, 28, 27]), (37, [36, 35, 34, 33, 32, 26, 25, 15, 14, 7, 6, 2, 1, 0, 5, 4, 3, 13, 11, 10, 9, 8, 12, 24, 19, 18, 17, 16, 23, 22, 20, 21, 31, 30, 29, 28, 27]), (38, [37, 36, 35, 34, 33, 32, 26, 25, 15, 14, 7, 6, 2, 1, 0, 5, 4, 3, 13, 11, 10, 9, 8, 12, 24, 19, 18, 17, 16, 23, 22, 20, 21, 31, 30, 29, 28, 27]), (39, [33, 32, 26, 25, 15, 14, 7, 6, 2, 1, 0, 5, 4, 3, 13, 11, 10, 9, 8, 12, 24, 19, 18, 17, 16, 23, 22, 20, 21, 31, 30, 29, 28, 27, 38, 37, 36, 35, 34]), (40, [39, 33, 32, 26, 25, 15, 14, 7, 6, 2, 1, 0, 5, 4, 3, 13, 11, 10, 9, 8, 12, 24, 19, 18, 17, 16, 23, 22, 20, 21, 31, 30, 29, 28, 27, 38, 37, 36, 35, 34]), (41, [40, 39, 33, 32, 26, 25, 15, 14, 7, 6, 2, 1, 0, 5, 4, 3, 13, 11, 10, 9, 8, 12, 24, 19, 18, 17, 16, 23, 22, 20, 21, 31, 30, 29, 28, 27, 38, 37, 36, 35, 34]), (42, [41, 40, 39, 33, 32, 26, 25, 15, 14, 7, 6, 2, 1, 0, 5, 4, 3, 13, 11, 10, 9, 8, 12, 24, 19, 18, 17, 16, 23, 22, 20, 21, 31, 30, 29, 28, 27, 38, 37, 36, 35, 34]), (43, [42, 41, 40, 39, 33, 32, 26, 25, 15, 14, 7, 6, 2, 1, 0, 5, 4, 3, 13, 11, 10, 9, 8, 12, 24, 19, 18, 17, 16, 23, 22, 20, 21, 31, 30, 29, 28, 27, 38, 37, 36, 35, 34]), (44, [43, 42, 41, 40, 39, 33, 32, 26, 25, 15, 14, 7, 6, 2, 1, 0, 5, 4, 3, 13, 11, 10, 9, 8, 12, 24, 19, 18, 17, 16, 23, 22, 20, 21, 31, 30, 29, 28, 27, 38, 37, 36, 35, 34]), (45, [44, 43, 42, 41, 40, 39, 33, 32, 26, 25, 15, 14, 7, 6, 2, 1, 0, 5, 4, 3, 13, 11, 10, 9, 8, 12, 24, 19, 18, 17, 16, 23, 22, 20, 21, 31, 30, 29, 28, 27, 38, 37, 36, 35, 34]), (46, [40, 39, 33, 32, 26, 25, 15, 14, 7, 6, 2, 1, 0, 5, 4, 3, 13, 11, 10, 9, 8, 12, 24, 19, 18, 17, 16, 23, 22, 20, 21, 31, 30, 29, 28, 27, 38, 37, 36, 35, 34, 45, 44, 43, 42, 41])]) [5, 6, 12, 15, 190])
      (.cond (.t 190)
        (.seq (.ops [⟨some 4, .move (.c (.bool false)), none, []⟩] none [4])
        (.ret))
        (.skip)))
      (.ops [⟨some 191, .move (.t 12), none, []⟩,
        ⟨some 192, .move (.t 15), none, []⟩,
        ⟨some 193, .idxAddr 1 (.t 191) (.t 192), none, []⟩,
        ⟨some 194, .load none (.t 193), none, []⟩,
        ⟨some 14, .move (.t 194), none, []⟩] none [5, 6, 12, 14, 15]))))))))
    (.ops [⟨some 107, .move (.t 15), none, []⟩,
      ⟨some 108, .bin .add (.t 107) (.c (.int .i64 1)), none, []⟩,
      ⟨some 15, .move (.t 108), none, []⟩] none [5, 6, 12, 14, 15]))))))
(.seq (.ops [⟨some 195, .move (.t 6), none, []⟩,
  ⟨some 196, .call 314 [(.t 195), (.c (.int .i64 0))], none, []⟩,
  ⟨some 197, .eq true .p (.t 196) (.c .nilp), none, []⟩,
  ⟨some 198, .move (.t 197), none, []⟩,
  ⟨some 199, .move (.t 6), (some (198, true)), []⟩,
  ⟨some 200, .call 314 [(.t 199), (.c (.int .i64 0))], (some (198, true)), []⟩,
  ⟨some 201, .call 315 [(.t 200)], (some (198, true)), []⟩,
  ⟨some 202, .move (.t 14), (some (198, true)), []⟩,
  ⟨some 203, .bin .eql (.t 201) (.t 202), (some (198, true)), []⟩,
  ⟨some 204, .pick (.t 198) (.t 203) (.c (.bool false)), none, []⟩,
  ⟨some 4, .move (.t 204), none, []⟩] none [4])
(.ret)))))))))))))))
def f313 : SFunc := ⟨b313, [.t 4]⟩

/-- watchbill/watchbilllaw22.known -/
def b303 : SCode := (
.seq (.ops [⟨some 0, .move (.c (.bool false)), none, []⟩] none [])
(.seq (.ops [⟨some 17, .call 52 [], none, []⟩,
  ⟨some 18, .call 305 [(.t 17)], none, []⟩,
  ⟨some 16, .move (.t 18), none, []⟩,
  ⟨some 19, .ext 0 (.t 16), none, []⟩,
  ⟨some 20, .ext 1 (.t 16), none, []⟩,
  ⟨some 1, .move (.t 19), none, []⟩,
  ⟨some 2, .move (.t 20), none, []⟩] none [1, 2])
(.seq (.seq (.ops [⟨some 21, .move (.t 2), none, []⟩,
  ⟨some 22, .bin .neq (.t 21) (.c (.int .i64 0)), none, []⟩,
  ⟨some 23, .move (.t 22), none, []⟩,
  ⟨some 24, .move (.t 1), (some (23, false)), []⟩,
  ⟨some 25, .eq false .p (.t 24) (.c .nilp), (some (23, false)), []⟩,
  ⟨some 26, .pick (.t 23) (.c (.bool true)) (.t 25), none, []⟩] none [1, 26])
(.cond (.t 26)
  (.seq (.ops [⟨some 0, .move (.c (.bool false)), none, []⟩] none [0])
  (.ret))
  (.skip)))
(.seq (.ops [⟨some 27, .move (.t 1), none, []⟩,
  ⟨some 28, .call 306 [(.t 27), (.c (.int .i64 1))], none, []⟩,
  ⟨some 3, .alloc (.agg [(.int .i64 0), (.int .i64 0), (.int .i64 0), (.int .i64 0), (.int .i64 0), (.int .i64 0), (.int .i64 0)]), none, []⟩,
  ⟨none, .store (some 7) (.t 3) (.t 28), none, []⟩] none [1, 3])
(.seq (.ops [⟨some 30, .move (.t 1), none, []⟩,
  ⟨some 31, .call 307 [(.t 30), (.c (.int .i64 1)), (.c (.bool false))], none, []⟩,
  ⟨some 29, .move (.t 31), none, []⟩,
  ⟨some 32, .ext 0 (.t 29), none, []⟩,
  ⟨some 33, .ext 1 (.t 29), none, []⟩,
  ⟨some 4, .move (.t 32), none, []⟩,
  ⟨some 5, .move (.t 33), none, []⟩] none [1, 3, 4, 5])
(.seq (.ops [⟨some 35, .move (.t 1), none, []⟩,
  ⟨some 36, .call 307 [(.t 35), (.c (.int .i64 1)), (.c (.bool false))], none, []⟩,
  ⟨some 34, .move (.t 36), none, []⟩,
  ⟨some 37, .ext 0 (.t 34), none, []⟩,
  ⟨some 38, .ext 1 (.t 34), none, []⟩,
  ⟨some 6, .move (.t 37), none, []⟩,
  ⟨some 7, .move (.t 38), none, []⟩] none [1, 3, 4, 5, 6, 7])
(.seq (.ops [⟨some 39, .move (.t 1), none, []⟩,
  ⟨some 40, .call 310 [(.t 39), (.c (.int .i64 1))], none, []⟩,
  ⟨some 8, .move (.t 40), none, []⟩] none [1, 3, 4, 5, 6, 7, 8])
(.seq (.ops [⟨some 41, .move (.t 1), none, []⟩,
  ⟨some 42, .call 316 [(.t 41)], none, []⟩] none [1, 3, 4, 5, 6, 7, 8])
(.seq (.ops [⟨some 43, .move (.t 1), none, []⟩,
  ⟨some 44, .call 306 [(.t 43), (.c (.int .i64 0))], none, []⟩,
  ⟨some 9, .alloc (.agg [(.int .i64 0), (.int .i64 0), (.int .i64 0), (.int .i64 0), (.int .i64 0), (.int .i64 0), (.int .i64 0)]), none, []⟩,
  ⟨none, .store (some 7) (.t 9) (.t 44), none, []⟩] none [1, 3, 4, 5, 6, 7, 8, 9])
(.seq (.ops [⟨some 45, .move (.t 1), none, []⟩,
  ⟨some 46, .call 308 [(.t 45)], none, []⟩,
  ⟨some 10, .move (.t 46), none, []⟩] none [1, 3, 4, 5, 6, 7, 8, 9, 10])
(.seq (.ops [⟨some 48, .move (.t 1), none, []⟩,
  ⟨some 49, .call 309 [(.t 48)], none, []⟩,
  ⟨some 47, .move (.t 49), none, []⟩,
  ⟨some 50, .ext 0 (.t 47), none, []⟩,
  ⟨some 51, .ext 1 (.t 47), none, []⟩,
  ⟨some 11, .move (.t 50), none, []⟩,
  ⟨some 12, .move (.t 51), none, []⟩] none [1, 3, 4, 5, 6, 7, 8, 9, 10, 11, 12])
(.seq (.ops [⟨some 53, .move (.t 1), none, []⟩,
  ⟨some 54, .call 307 [(.t 53), (.c (.int .i64 1)), (.c (.bool false))], none, []⟩,
  ⟨some 52, .move (.t 54), none, []⟩,
  ⟨some 55, .ext 0 (.t 52), none, []⟩,
  ⟨some 56, .ext 1 (.t 52), none, []⟩,
  ⟨some 13, .move (.t 55), none, []⟩,
  ⟨some 14, .move (.t 56), none, []⟩] none [1, 3, 4, 5, 6, 7, 8, 9, 10, 11, 12, 14])
(.seq (.ops [⟨some 57, .move (.t 1), none, []⟩,
  ⟨some 58, .call 306 [(.t 57), (.c (.int .i64 0))], none, []⟩,
  ⟨some 15, .alloc (.agg [(.int .i64 0), (.int .i64 0), (.int .i64 0), (.int .i64 0), (.int .i64 0), (.int .i64 0), (.int .i64 0)]), none, []⟩,
  ⟨none, .store (some 7) (.t 15) (.t 58), none, []⟩] none [3, 4, 5, 6, 7, 8, 9, 10, 11, 12, 14, 15])
(.seq (.ops [⟨some 59, .fldAddr 1 (.t 3), none, []⟩,
  ⟨some 60, .load none (.t 59), none, []⟩,
  ⟨some 61, .bin .eql (.t 60) (.c (.int .i64 1)), none, []⟩,
  ⟨some 62, .move (.t 61), none, []⟩,
  ⟨some 63, .move (.t 5), (some (62, true)), []⟩,
  ⟨some 64, .pick (.t 62) (.t 63) (.c (.bool false)), none, []⟩,
  ⟨some 65, .move (.t 64), none, []⟩,
  ⟨some 66, .move (.t 4), (some (65, true)), []⟩,
  ⟨some 67, .len .sl (.t 66), (some (65, true)), []⟩,
  ⟨some 68, .bin .eql (.t 67) (.c (.int .i64 1)), (some (65, true)), []⟩,
  ⟨some 69, .pick (.t 65) (.t 68) (.c (.bool false)), none, []⟩,
  ⟨some 70, .move (.t 69), none, []⟩,
  ⟨some 71, .move (.t 4), (some (70, true)), []⟩,
  ⟨some 72, .idxAddr 7 (.t 71) (.c (.int .i64 0)), (some (70, true)), []⟩,
  ⟨some 73, .fldAddr 1 (.t 72), (some (70, true)), []⟩,
  ⟨some 74, .load none (.t 73), (some (70, true)), []⟩,
  ⟨some 75, .bin .eql (.t 74) (.c (.int .i64 4)), (some (70, true)), []⟩,
  ⟨some 76, .pick (.t 70) (.t 75) (.c (.bool false)), none, []⟩,
  ⟨some 77, .move (.t 76), none, []⟩,
  ⟨some 78, .move (.t 7), (some (77, true)), []⟩,
  ⟨some 79, .pick (.t 77) (.t 78) (.c (.bool false)), none, []⟩,
  ⟨some 80, .move (.t 79), none, []⟩,
  ⟨some 81, .move (.t 6), (some (80, true)), []⟩,
  ⟨some 82, .len .sl (.t 81), (some (80, true)), []⟩,
  ⟨some 83, .bin .eql (.t 82) (.c (.int .i64 0)), (some (80, true)), []⟩,
  ⟨some 84, .pick (.t 80) (.t 83) (.c (.bool false)), none, []⟩,
  ⟨some 85, .move (.t 84), none, []⟩,
  ⟨some 86, .move (.t 8), (some (85, true)), []⟩,
  ⟨some 87, .len .sl (.t 86), (some (85, true)), []⟩,
  ⟨some 88, .bin .eql (.t 87) (.c (.int .i64 1)), (some (85, true)), []⟩,
  ⟨some 89, .pick (.t 85) (.t 88) (.c (.bool false)), none, []⟩,
  ⟨some 90, .move (.t 89), none, []⟩,
  ⟨some 91, .move (.t 8), (some (90, true)), []⟩,
  ⟨some 92, .idxAddr 7 (.t 91) (.c (.int .i64 0)), (some (90, true)), []⟩,
  ⟨some 93, .fldAddr 1 (.t 92), (some (90, true)), []⟩,
  ⟨some 94, .load none (.t 93), (some (90, true)), []⟩,
  ⟨some 95, .bin .eql (.t 94) (.c (.int .i64 3)), (some (90, true)), []⟩,
  ⟨some 96, .pick (.t 90) (.t 95) (.c (.bool false)), none, []⟩,
  ⟨some 97, .move (.t 96), none, []⟩,
  ⟨some 98, .fldAddr 0 (.t 9), (some (97, true)), []⟩,
  ⟨some 99, .load none (.t 98), (some (97, true)), []⟩,
  ⟨some 100, .bin .eql (.t 99) (.c (.int .i64 1)), (some (97, true)), []⟩,
  ⟨some 101, .pick (.t 97) (.t 100) (.c (.bool false)), none, []⟩,
  ⟨some 102, .move (.t 101), none, []⟩,
  ⟨some 103, .move (.t 10), (some (102, true)), []⟩,
  ⟨some 104, .buildSl 2 [(.int .i64 0), (.int .i64 0)] [(0, 1, (.c (.int .i64 2))), (1, 1, (.c (.int .i64 2)))], (some (102, true)), []⟩,
  ⟨some 105, .call 20 [(.t 103), (.t 104)], (some (102, true)), []⟩,
  ⟨some 106, .pick (.t 102) (.t 105) (.c (.bool false)), none, []⟩,
  ⟨some 107, .move (.t 106), none, []⟩,
  ⟨some 108, .move (.t 12), (some (107, true)), []⟩,
  ⟨some 109, .pick (.t 107) (.t 108) (.c (.bool false)), none, []⟩,
  ⟨some 110, .move (.t 109), none, []⟩,
  ⟨some 111, .move (.t 11), (some (110, true)), []⟩,
  ⟨some 112, .bin .eql (.t 111) (.c (.int .i64 1)), (some (110, true)), []⟩,
  ⟨some 113, .pick (.t 110) (.t 112) (.c (.bool false)), none, []⟩,
  ⟨some 114, .move (.t 113), none, []⟩,
  ⟨some 115, .move (.t 14), (some (114, true)), []⟩,
  ⟨some 116, .not (.t 115), (some (114, true)), []⟩,
  ⟨some 117, .pick (.t 114) (.t 116) (.c (.bool false)), none, []⟩,
  ⟨some 118, .move (.t 117), none, []⟩,
  ⟨some 119, .fldAddr 4 (.t 15), (some (118, true)), []⟩,
  ⟨some 120, .load none (.t 119), (some (118, true)), []⟩,
  ⟨some 121, .bin .eql (.t 120) (.c (.int .i64 12)), (some (118, true)), []⟩,
  ⟨some 122, .pick (.t 118) (.t 121) (.c (.bool false)), none, []⟩,
  ⟨some 0, .move (.t 122), none, []⟩] none [0])
(.ret)))))))))))))))
def f303 : SFunc := ⟨b303, [.t 0]⟩

/-- watchbill/watchbilllaw22.tasks -/
def b304 : SCode := (
.seq (.ops [⟨some 4, .alloc (.agg [(.int .i64 0), .nils, .nils]), none, []⟩] none [0, 1, 4])
(.seq (.ops [⟨some 7, .build [(.int .i64 0), (.int .i64 0)] [(1, 1, (.c (.int .i64 (-1))))], none, []⟩,
  ⟨some 8, .buildSl 1 [(.int .i64 0), (.int .i64 0)] [(0, 2, (.t 7))], none, []⟩,
  ⟨some 9, .build [(.int .i64 0), .nils, .nils] [(0, 1, (.c (.int .i64 1))), (1, 1, (.t 8))], none, []⟩,
  ⟨some 5, .alloc (.agg [(.int .i64 0), .nils, .nils]), none, []⟩,
  ⟨none, .store (some 3) (.t 5) (.t 9), none, []⟩] none [0, 1, 4, 5])
(.seq (.seq (.ops [⟨some 6, .move (.c (.int .i64 0)), none, []⟩] none [0, 1, 4, 5, 6])
(.block 0 (.loop [0, 1, 4, 5, 6] (.seq (.seq (.ops [⟨some 10, .move (.t 6), none, []⟩,
      ⟨some 11, .move (.t 0), none, []⟩,
      ⟨some 12, .bin .lss (.t 10) (.t 11), none, []⟩] none [0, 1, 4, 5, 6, 12])
    (.cond (.t 12)
      (.skip)
      (.exit 0)))
    (.seq (.block 1 (.ops [⟨some 15, .fldAddr 2 (.t 5), none, []⟩,
        ⟨some 16, .load none (.t 15), none, []⟩,
        ⟨some 17, .move (.t 6), none, []⟩,
        ⟨some 18, .bin .add (.c (.int .i64 97)) (.t 17), none, []⟩,
        ⟨some 19, .conv .u8 (.t 18), none, []⟩,
        ⟨some 20, .buildSl 1 [(.int .u8 0)] [(0, 1, (.t 19))], none, []⟩,
        ⟨some 21, .toStr (.t 20), none, []⟩,
        ⟨some 22, .move (.t 6), none, []⟩,
        ⟨some 23, .bin .add (.c (.int .i64 100)) (.t 22), none, []⟩,
        ⟨some 24, .buildSl 0 [] [], none, []⟩,
        ⟨some 25, .move (.t 1), none, []⟩,
        ⟨some 26, .append 5 (.t 24) (.t 25), none, [1, 6]⟩,
        ⟨some 27, .build [(.str []), (.int .i64 0), (.int .i64 0), (.int .i64 0), .nils] [(0, 1, (.t 21)), (1, 1, (.c (.int .i64 900))), (2, 1, (.t 23)), (3, 1, (.c (.int .i64 50))), (4, 1, (.t 26))], none, []⟩,
        ⟨some 28, .buildSl 1 [(.str []), (.int .i64 0), (.int .i64 0), (.int .i64 0), .nils] [(0, 5, (.t 27))], none, []⟩,
        ⟨some 29, .append 5 (.t 16) (.t 28), none, []⟩,
        ⟨some 30, .fldAddr 2 (.t 5), none, []⟩,
        ⟨none, .store none (.t 30) (.t 29), none, []⟩] (some [(0, []), (1, [0]), (2, []), (3, [2]), (4, [3, 2]), (5, [4, 3, 2]), (6, [5, 4, 3, 2]), (7, []), (8, [7]), (9, []), (10, []), (11, [9, 10]), (12, [6, 5, 4, 3, 2, 8, 7, 11, 9, 10]), (13, [12, 6, 5, 4, 3, 2, 8, 7, 11, 9, 10]), (14, [1, 0, 13, 12, 6, 5, 4, 3, 2, 8, 7, 11, 9, 10]), (15, [0, 1, 2, 3, 4, 5, 6, 7, 8, 9, 10, 11, 12, 13, 14]), (16, [15, 0, 1, 2, 3, 4, 5, 6, 7, 8, 9, 10, 11, 12, 13, 14])]) [0, 1, 4, 5, 6]))
    (.ops [⟨some 13, .move (.t 6), none, []⟩,
      ⟨some 14, .bin .add (.t 13) (.c (.int .i64 1)), none, []⟩,
      ⟨some 6, .move (.t 14), none, []⟩] none [0, 1, 4, 5, 6]))))))
(.seq (.ops [⟨some 31, .load (some 3) (.t 5), none, []⟩,
  ⟨none, .store (some 3) (.t 4) (.t 31), none, []⟩] none [4])
(.ret)))))
def f304 : SFunc := ⟨b304, [.cell (some 3) 4]⟩

/-- watchbill/core.New -/
def b305 : SCode := (
.seq (.ops [⟨some 1, .box (.t 0), none, []⟩,
  ⟨some 2, .move (.c .nilp), none, []⟩,
  ⟨some 3, .move (.c (.int .i64 0)), none, []⟩] none [1])
(.seq (.seq (.ops [⟨some 12, .load (some 3) (.t 1), none, []⟩,
  ⟨some 13, .call 265 [(.t 12)], none, []⟩,
  ⟨some 11, .move (.t 13), none, []⟩,
  ⟨some 14, .ext 0 (.t 11), none, []⟩,
  ⟨some 15, .ext 1 (.t 11), none, []⟩,
  ⟨some 4, .move (.t 14), none, []⟩,
  ⟨some 5, .move (.t 15), none, []⟩] none [1, 5])
(.seq (.ops [⟨some 16, .move (.t 5), none, []⟩,
  ⟨some 17, .bin .neq (.t 16) (.c (.int .i64 0)), none, []⟩] none [1, 5, 17])
(.cond (.t 17)
  (.seq (.ops [⟨some 18, .move (.t 5), none, []⟩,
    ⟨some 2, .move (.c .nilp), none, []⟩,
    ⟨some 3, .move (.t 18), none, []⟩] none [2, 3])
  (.ret))
  (.skip))))
(.seq (.ops [⟨some 19, .load (some 3) (.t 1), none, []⟩,
  ⟨some 20, .call 317 [(.t 19)], none, []⟩,
  ⟨none, .store (some 3) (.t 1) (.t 20), none, []⟩] none [1])
(.seq (.ops [⟨some 21, .load (some 3) (.t 1), none, []⟩,
  ⟨some 22, .load (some 3) (.t 1), none, []⟩,
  ⟨some 24, .load (some 3) (.t 1), none, []⟩,
  ⟨some 26, .fldAddr 2 (.t 1), none, []⟩,
  ⟨some 27, .load none (.t 26), none, []⟩,
  ⟨some 28, .len .sl (.t 27), none, []⟩,
  ⟨some 29, .mksl [(.bool false), .nils, (.int .i64 0), (.int .i64 0), (.int .i64 0), (.int .i64 0), (.int .i64 0), (.int .i64 0), (.bool false), .nils] (.t 28) (.t 28), none, []⟩,
  ⟨some 30, .load (some 3) (.t 1), none, []⟩,
  ⟨some 23, .call 318 [(.t 22)], none, [0, 2, 4, 5, 7]⟩,
  ⟨some 25, .call 319 [(.t 24)], none, [0, 4, 5, 7]⟩,
  ⟨some 31, .call 5 [(.t 30)], none, [0, 4, 5]⟩,
  ⟨some 32, .call 320 [], none, [0, 4, 5]⟩,
  ⟨some 33, .build [(.int .i64 0), .nils, .nils, .nils, .nils, .nils, .nils, .nils, .nilp, .nilp, (.int .i64 0), (.int .i64 0)] [(0, 3, (.t 21)), (3, 1, (.t 23)), (4, 1, (.t 25)), (5, 1, (.t 29)), (8, 1, (.t 31)), (9, 1, (.t 32))], none, []⟩,
  ⟨some 34, .box (.t 33), none, []⟩,
  ⟨some 6, .move (.t 34), none, []⟩] (some [(0, []), (1, []), (3, []), (5, []), (6, [3]), (7, [4, 3]), (8, [5, 4, 3]), (9, []), (2, [1]), (4, [2, 8, 1]), (10, [7, 9, 2, 8, 1]), (11, [10, 7, 9, 2, 8, 1]), (12, [0, 8, 1, 9, 2, 6, 5, 4, 3, 10, 7, 11]), (13, [12, 0, 8, 1, 9, 2, 6, 5, 4, 3, 10, 7, 11]), (14, [13, 12, 0, 8, 1, 9, 2, 6, 5, 4, 3, 10, 7, 11])]) [1, 6])
(.seq (.seq (.ops [⟨some 35, .fldAddr 1 (.t 1), none, []⟩,
  ⟨some 36, .load none (.t 35), none, []⟩,
  ⟨some 37, .len .sl (.t 36), none, []⟩,
  ⟨some 38, .move (.c (.int .i64 0)), none, []⟩] none [1, 6, 36, 37, 38])
(.block 0 (.loop [1, 6, 36, 37, 38] (.seq (.ops [⟨some 39, .bin .lss (.t 38) (.t 37), none, []⟩] none [1, 6, 36, 37, 38, 39])
    (.seq (.cond (.t 39)
      (.skip)
      (.exit 0))
    (.seq (.block 1 (.seq (.ops [⟨some 40, .idxAddr 2 (.t 36) (.t 38), none, []⟩,
        ⟨some 41, .load (some 2) (.t 40), none, []⟩,
        ⟨some 8, .alloc (.agg [(.int .i64 0), (.int .i64 0)]), none, []⟩,
        ⟨none, .store (some 2) (.t 8) (.t 41), none, []⟩] none [1, 6, 8, 36, 37, 38])
      (.seq (.ops [⟨some 43, .fldAddr 0 (.t 8), none, []⟩,
        ⟨some 44, .load none (.t 43), none, []⟩,
        ⟨some 45, .call 321 [(.t 44)], none, []⟩,
        ⟨some 42, .move (.t 45), none, []⟩,
        ⟨some 46, .ext 0 (.t 42), none, []⟩,
        ⟨some 47, .ext 1 (.t 42), none, []⟩,
        ⟨some 9, .move (.t 46), none, []⟩,
        ⟨some 10, .move (.t 47), none, []⟩] none [1, 6, 9, 36, 37, 38])
      (.ops [⟨some 48, .move (.t 6), none, []⟩,
        ⟨some 49, .move (.t 6), none, []⟩,
        ⟨some 50, .nilck (.t 49), none, []⟩,
        ⟨some 51, .fldAddr 6 (.t 50), none, []⟩,
        ⟨some 52, .load none (.t 51), none, []⟩,
        ⟨some 53, .move (.t 9), none, []⟩,
        ⟨some 54, .buildSl 1 [.nilp] [(0, 1, (.t 53))], none, []⟩,
        ⟨some 55, .append 1 (.t 52) (.t 54), none, []⟩,
        ⟨some 56, .nilck (.t 48), none, []⟩,
        ⟨some 57, .fldAddr 6 (.t 56), none, []⟩,
        ⟨none, .store none (.t 57) (.t 55), none, []⟩] none [1, 6, 36, 37, 38]))))
    (.ops [⟨some 58, .bin .add (.t 38) (.c (.int .i64 1)), none, []⟩,
      ⟨some 38, .move (.t 58), none, []⟩] none [1, 6, 36, 37, 38])))))))
(.seq (.seq (.ops [⟨some 59, .fldAddr 0 (.t 1), none, []⟩,
  ⟨some 60, .load none (.t 59), none, []⟩,
  ⟨some 61, .move (.c (.int .i64 0)), none, []⟩] none [6, 60, 61])
(.block 2 (.loop [6, 60, 61] (.seq (.ops [⟨some 62, .bin .lss (.t 61) (.t 60), none, []⟩] none [6, 60, 61, 62])
    (.seq (.cond (.t 62)
      (.skip)
      (.exit 2))
    (.seq (.block 3 (.ops [⟨some 63, .move (.t 6), none, []⟩,
        ⟨some 64, .move (.t 6), none, []⟩,
        ⟨some 65, .nilck (.t 64), none, []⟩,
        ⟨some 66, .fldAddr 7 (.t 65), none, []⟩,
        ⟨some 67, .load none (.t 66), none, []⟩,
        ⟨some 68, .call 322 [], none, [4]⟩,
        ⟨some 69, .buildSl 1 [.nilp] [(0, 1, (.t 68))], none, []⟩,
        ⟨some 70, .append 1 (.t 67) (.t 69), none, []⟩,
        ⟨some 71, .nilck (.t 63), none, []⟩,
        ⟨some 72, .fldAddr 7 (.t 71), none, []⟩,
        ⟨none, .store none (.t 72) (.t 70), none, []⟩] (some [(0, []), (1, []), (2, [1]), (3, [2, 1]), (4, [3, 2, 1]), (5, []), (6, [5]), (7, [4, 3, 2, 1, 6, 5]), (8, [0, 1, 2, 3, 4, 5, 6, 7]), (9, [8, 0, 1, 2, 3, 4, 5, 6, 7]), (10, [9, 8, 0, 1, 2, 3, 4, 5, 6, 7])]) [6, 60, 61]))
    (.ops [⟨some 73, .bin .add (.t 61) (.c (.int .i64 1)), none, []⟩,
      ⟨some 61, .move (.t 73), none, []⟩] none [6, 60, 61])))))))
(.seq (.ops [⟨some 74, .move (.t 6), none, []⟩,
  ⟨some 2, .move (.t 74), none, []⟩,
  ⟨some 3, .move (.c (.int .i64 0)), none, []⟩] none [2, 3])
(.ret))))))))
def f305 : SFunc := ⟨b305, [.t 2, .t 3]⟩

/-- (*watchbill/core.Core).Ask -/
def b306 : SCode := (
.seq (.ops [⟨some 4, .alloc (.agg [(.int .i64 0), (.int .i64 0), (.int .i64 0), (.int .i64 0), (.int .i64 0), (.int .i64 0), (.int .i64 0)]), none, []⟩] none [0, 1, 4])
(.seq (.ops [⟨some 8, .move (.t 0), none, []⟩,
  ⟨some 9, .move (.t 1), none, []⟩,
  ⟨some 10, .call 323 [(.t 8), (.t 9)], none, []⟩,
  ⟨some 11, .move (.t 10), none, []⟩,
  ⟨some 12, .move (.t 0), (some (11, true)), []⟩,
  ⟨some 13, .nilck (.t 12), (some (11, true)), []⟩,
  ⟨some 14, .fldAddr 5 (.t 13), (some (11, true)), []⟩,
  ⟨some 15, .load none (.t 14), (some (11, true)), []⟩,
  ⟨some 16, .move (.t 1), (some (11, true)), []⟩,
  ⟨some 17, .idxAddr 10 (.t 15) (.t 16), (some (11, true)), []⟩,
  ⟨some 18, .fldAddr 0 (.t 17), (some (11, true)), []⟩,
  ⟨some 19, .load none (.t 18), (some (11, true)), []⟩,
  ⟨some 20, .pick (.t 11) (.t 19) (.c (.bool false)), none, []⟩,
  ⟨some 5, .move (.t 20), none, []⟩] none [0, 1, 4, 5])
(.seq (.seq (.ops [⟨some 21, .move (.t 0), none, []⟩,
  ⟨some 22, .nilck (.t 21), none, []⟩,
  ⟨some 23, .fldAddr 8 (.t 22), none, []⟩,
  ⟨some 24, .load none (.t 23), none, []⟩,
  ⟨some 25, .move (.t 1), none, []⟩,
  ⟨some 26, .move (.t 0), none, []⟩,
  ⟨some 27, .nilck (.t 26), none, []⟩,
  ⟨some 28, .fldAddr 10 (.t 27), none, []⟩,
  ⟨some 29, .load none (.t 28), none, []⟩,
  ⟨some 30, .move (.t 5), none, []⟩,
  ⟨some 31, .call 6 [(.t 24), (.t 25), (.t 29), (.t 30)], none, []⟩,
  ⟨some 6, .move (.t 31), none, []⟩] (some [(0, []), (1, [0]), (2, [1, 0]), (3, [2, 1, 0]), (4, []), (5, []), (6, [5]), (7, [6, 5]), (8, [7, 6, 5]), (9, []), (10, [3, 2, 1, 0, 4, 8, 7, 6, 5, 9]), (11, [10, 3, 2, 1, 0, 4, 8, 7, 6, 5, 9])]) [0, 1, 4, 6])
(.seq (.ops [⟨some 32, .move (.t 6), none, []⟩,
  ⟨some 33, .bin .neq (.t 32) (.c (.int .i64 0)), none, []⟩] none [0, 1, 4, 6, 33])
(.cond (.t 33)
  (.seq (.ops [⟨some 34, .move (.t 0), none, []⟩,
    ⟨some 35, .nilck (.t 34), none, []⟩,
    ⟨some 36, .fldAddr 10 (.t 35), none, []⟩,
    ⟨some 37, .load none (.t 36), none, []⟩,
    ⟨some 38, .move (.t 1), none, []⟩,
    ⟨some 39, .move (.t 6), none, []⟩,
    ⟨some 40, .build [(.int .i64 0), (.int .i64 0), (.int .i64 0), (.int .i64 0), (.int .i64 0), (.int .i64 0), (.int .i64 0)] [(0, 1, (.t 37)), (1, 1, (.c (.int .i64 2))), (2, 1, (.t 38)), (4, 1, (.t 39))], none, []⟩,
    ⟨none, .store (some 7) (.t 4) (.t 40), none, []⟩] none [4])
  (.ret))
  (.skip))))
(.seq (.ops [⟨some 41, .move (.t 0), none, []⟩,
  ⟨some 42, .nilck (.t 41), none, []⟩,
  ⟨some 43, .fldAddr 0 (.t 42), none, []⟩,
  ⟨some 44, .fldAddr 2 (.t 43), none, []⟩,
  ⟨some 45, .load none (.t 44), none, []⟩,
  ⟨some 46, .move (.t 1), none, []⟩,
  ⟨some 47, .idxAddr 5 (.t 45) (.t 46), none, []⟩,
  ⟨some 48, .load (some 5) (.t 47), none, []⟩,
  ⟨some 7, .alloc (.agg [(.str []), (.int .i64 0), (.int .i64 0), (.int .i64 0), .nils]), none, []⟩,
  ⟨none, .store (some 5) (.t 7) (.t 48), none, []⟩] none [0, 1, 4, 7])
(.seq (.ops [⟨some 49, .move (.t 0), none, []⟩,
  ⟨some 50, .nilck (.t 49), none, []⟩,
  ⟨some 51, .fldAddr 5 (.t 50), none, []⟩,
  ⟨some 52, .load none (.t 51), none, []⟩,
  ⟨some 53, .move (.t 1), none, []⟩,
  ⟨some 54, .fldAddr 4 (.t 7), none, []⟩,
  ⟨some 55, .load none (.t 54), none, []⟩,
  ⟨some 56, .fldAddr 3 (.t 7), none, []⟩,
  ⟨some 57, .load none (.t 56), none, []⟩,
  ⟨some 58, .move (.t 0), none, []⟩,
  ⟨some 59, .nilck (.t 58), none, []⟩,
  ⟨some 60, .fldAddr 10 (.t 59), none, []⟩,
  ⟨some 61, .load none (.t 60), none, []⟩,
  ⟨some 62, .move (.t 0), none, []⟩,
  ⟨some 63, .call 324 [(.t 62)], none, [3, 6, 8, 12]⟩,
  ⟨some 64, .call 48 [(.t 55), (.t 57), (.t 61), (.t 63)], none, [3]⟩,
  ⟨some 65, .idxAddr 10 (.t 52) (.t 53), none, []⟩,
  ⟨none, .store (some 10) (.t 65) (.t 64), none, []⟩] (some [(0, []), (1, [0]), (2, [1, 0]), (3, [2, 1, 0]), (4, []), (5, []), (6, [5]), (7, []), (8, [7]), (9, []), (10, [9]), (11, [10, 9]), (12, [11, 10, 9]), (13, []), (14, [13]), (15, [6, 5, 8, 7, 12, 11, 10, 9, 14, 13]), (16, [3, 2, 1, 0, 4, 5, 6, 7, 8, 9, 10, 11, 12, 13, 14, 15]), (17, [16, 3, 2, 1, 0, 4, 5, 6, 7, 8, 9, 10, 11, 12, 13, 14, 15])]) [0, 1, 4])
(.seq (.ops [⟨some 66, .move (.t 0), none, []⟩,
  ⟨some 67, .nilck (.t 66), none, []⟩,
  ⟨some 68, .fldAddr 10 (.t 67), none, []⟩,
  ⟨some 69, .load none (.t 68), none, []⟩,
  ⟨some 70, .move (.t 1), none, []⟩,
  ⟨some 71, .build [(.int .i64 0), (.int .i64 0), (.int .i64 0), (.int .i64 0), (.int .i64 0), (.int .i64 0), (.int .i64 0)] [(0, 1, (.t 69)), (1, 1, (.c (.int .i64 1))), (2, 1, (.t 70))], none, []⟩,
  ⟨none, .store (some 7) (.t 4) (.t 71), none, []⟩] none [4])
(.ret)))))))
def f306 : SFunc := ⟨b306, [.cell (some 7) 4]⟩

/-- (*watchbill/core.Core).Op -/
def b307 : SCode := (
.seq (.ops [⟨some 6, .move (.c .nils), none, []⟩,
  ⟨some 7, .move (.c (.bool false)), none, []⟩] none [0, 1, 2])
(.seq (.seq (.ops [⟨some 14, .move (.t 0), none, []⟩,
  ⟨some 15, .move (.t 1), none, []⟩,
  ⟨some 16, .call 323 [(.t 14), (.t 15)], none, []⟩,
  ⟨some 17, .not (.t 16), none, []⟩,
  ⟨some 18, .move (.t 17), none, []⟩,
  ⟨some 19, .move (.t 0), (some (18, false)), []⟩,
  ⟨some 20, .nilck (.t 19), (some (18, false)), []⟩,
  ⟨some 21, .fldAddr 5 (.t 20), (some (18, false)), []⟩,
  ⟨some 22, .load none (.t 21), (some (18, false)), []⟩,
  ⟨some 23, .move (.t 1), (some (18, false)), []⟩,
  ⟨some 24, .idxAddr 10 (.t 22) (.t 23), (some (18, false)), []⟩,
  ⟨some 25, .fldAddr 0 (.t 24), (some (18, false)), []⟩,
  ⟨some 26, .load none (.t 25), (some (18, false)), []⟩,
  ⟨some 27, .not (.t 26), (some (18, false)), []⟩,
  ⟨some 28, .pick (.t 18) (.c (.bool true)) (.t 27), none, []⟩,
  ⟨some 29, .move (.t 28), none, []⟩,
  ⟨some 30, .move (.t 0), (some (29, false)), []⟩,
  ⟨some 31, .nilck (.t 30), (some (29, false)), []⟩,
  ⟨some 32, .fldAddr 5 (.t 31), (some (29, false)), []⟩,
  ⟨some 33, .load none (.t 32), (some (29, false)), []⟩,
  ⟨some 34, .move (.t 1), (some (29, false)), []⟩,
  ⟨some 35, .idxAddr 10 (.t 33) (.t 34), (some (29, false)), []⟩,
  ⟨some 36, .fldAddr 8 (.t 35), (some (29, false)), []⟩,
  ⟨some 37, .load none (.t 36), (some (29, false)), []⟩,
  ⟨some 38, .pick (.t 29) (.c (.bool true)) (.t 37), none, []⟩,
  ⟨some 39, .move (.t 38), none, []⟩,
  ⟨some 40, .move (.t 0), (some (39, false)), []⟩,
  ⟨some 41, .nilck (.t 40), (some (39, false)), []⟩,
  ⟨some 42, .fldAddr 5 (.t 41), (some (39, false)), []⟩,
  ⟨some 43, .load none (.t 42), (some (39, false)), []⟩,
  ⟨some 44, .move (.t 1), (some (39, false)), []⟩,
  ⟨some 45, .idxAddr 10 (.t 43) (.t 44), (some (39, false)), []⟩,
  ⟨some 46, .fldAddr 3 (.t 45), (some (39, false)), []⟩,
  ⟨some 47, .load none (.t 46), (some (39, false)), []⟩,
  ⟨some 48, .bin .neq (.t 47) (.c (.int .i64 0)), (some (39, false)), []⟩,
  ⟨some 49, .pick (.t 39) (.c (.bool true)) (.t 48), none, []⟩] none [0, 1, 2, 49])
(.cond (.t 49)
  (.seq (.ops [⟨some 6, .move (.c .nils), none, []⟩,
    ⟨some 7, .move (.c (.bool false)), none, []⟩] none [6, 7])
  (.ret))
  (.skip)))
(.seq (.ops [⟨some 50, .move (.t 0), none, []⟩,
  ⟨some 51, .nilck (.t 50), none, []⟩,
  ⟨some 52, .fldAddr 10 (.t 51), none, []⟩,
  ⟨some 53, .load none (.t 52), none, []⟩,
  ⟨some 8, .move (.t 53), none, []⟩] none [0, 1, 2, 8])
(.seq (.seq (.ops [⟨some 54, .move (.t 2), none, []⟩] none [0, 1, 8, 54])
(.cond (.t 54)
  (.ops [⟨some 55, .move (.t 8), none, []⟩,
    ⟨some 56, .bin .add (.t 55) (.c (.int .i64 1)), none, []⟩,
    ⟨some 8, .move (.t 56), none, []⟩] none [0, 1, 8])
  (.skip)))
(.seq (.ops [⟨some 58, .move (.t 0), none, []⟩,
  ⟨some 59, .nilck (.t 58), none, []⟩,
  ⟨some 60, .fldAddr 5 (.t 59), none, []⟩,
  ⟨some 61, .load none (.t 60), none, []⟩,
  ⟨some 62, .move (.t 1), none, []⟩,
  ⟨some 63, .idxAddr 10 (.t 61) (.t 62), none, []⟩,
  ⟨some 64, .load (some 10) (.t 63), none, []⟩,
  ⟨some 65, .call 30 [(.t 64)], none, []⟩,
  ⟨some 57, .move (.t 65), none, []⟩,
  ⟨some 66, .ext 0 (.t 57), none, []⟩,
  ⟨some 67, .ext 1 (.t 57), none, []⟩,
  ⟨some 9, .alloc (.agg [(.int .i64 0), (.int .i64 0), (.int .i64 0), (.int .i64 0), .nils]), none, []⟩,
  ⟨none, .store (some 5) (.t 9) (.t 66), none, []⟩,
  ⟨some 10, .move (.t 67), none, []⟩] none [0, 1, 8, 9, 10])
(.seq (.ops [⟨some 11, .move (.c .nils), none, []⟩] none [0, 1, 8, 9, 10])
(.seq (.skip)
(.seq (.block 0 (.seq (.ops [⟨some 74, .move (.t 10), none, []⟩,
    ⟨some 75, .not (.t 74), none, []⟩,
    ⟨some 73, .move (.t 75), none, []⟩] none [0, 1, 8, 9, 73])
  (.cond (.t 73)
    (.seq (.ops [⟨some 76, .move (.t 0), none, []⟩,
      ⟨some 77, .nilck (.t 76), none, []⟩,
      ⟨some 78, .fldAddr 5 (.t 77), none, []⟩,
      ⟨some 79, .load none (.t 78), none, []⟩,
      ⟨some 80, .move (.t 1), none, []⟩,
      ⟨some 81, .build [(.bool false), .nils, (.int .i64 0), (.int .i64 0), (.int .i64 0), (.int .i64 0), (.int .i64 0), (.int .i64 0), (.bool false), .nils] [], none, []⟩,
      ⟨some 82, .idxAddr 10 (.t 79) (.t 80), none, []⟩,
      ⟨none, .store (some 10) (.t 82) (.t 81), none, []⟩] none [1, 8])
    (.seq (.ops [⟨some 83, .move (.t 8), none, []⟩,
      ⟨some 84, .move (.t 1), none, []⟩,
      ⟨some 85, .build [(.int .i64 0), (.int .i64 0), (.int .i64 0), (.int .i64 0), (.int .i64 0), (.int .i64 0), (.int .i64 0)] [(0, 1, (.t 83)), (1, 1, (.c (.int .i64 6))), (2, 1, (.t 84))], none, []⟩,
      ⟨some 86, .buildSl 1 [(.int .i64 0), (.int .i64 0), (.int .i64 0), (.int .i64 0), (.int .i64 0), (.int .i64 0), (.int .i64 0)] [(0, 7, (.t 85))], none, []⟩,
      ⟨some 11, .move (.t 86), none, []⟩] none [11])
    (.exit 0)))
    (.seq (.ops [⟨some 88, .fldAddr 0 (.t 9), none, []⟩,
      ⟨some 89, .load none (.t 88), none, []⟩,
      ⟨some 90, .bin .eql (.t 89) (.c (.int .i64 1)), none, []⟩,
      ⟨some 87, .move (.t 90), none, []⟩] none [0, 1, 8, 9, 87])
    (.cond (.t 87)
      (.ops [⟨some 91, .move (.t 0), none, []⟩,
        ⟨some 92, .move (.t 8), none, []⟩,
        ⟨some 93, .move (.t 1), none, []⟩,
        ⟨some 94, .call 325 [(.t 91), (.t 92), (.t 93)], none, []⟩,
        ⟨some 11, .move (.t 94), none, []⟩] none [11])
      (.seq (.ops [⟨some 96, .fldAddr 0 (.t 9), none, []⟩,
        ⟨some 97, .load none (.t 96), none, []⟩,
        ⟨some 98, .bin .eql (.t 97) (.c (.int .i64 2)), none, []⟩,
        ⟨some 95, .move (.t 98), none, []⟩] none [0, 1, 8, 9, 95])
      (.cond (.t 95)
        (.ops [⟨some 99, .move (.t 0), none, []⟩,
          ⟨some 100, .move (.t 8), none, []⟩,
          ⟨some 101, .move (.t 1), none, []⟩,
          ⟨some 102, .load (some 5) (.t 9), none, []⟩,
          ⟨some 103, .call 326 [(.t 99), (.t 100), (.t 101), (.t 102)], none, []⟩,
          ⟨some 11, .move (.t 103), none, []⟩] none [11])
        (.seq (.ops [⟨some 105, .fldAddr 0 (.t 9), none, []⟩,
          ⟨some 106, .load none (.t 105), none, []⟩,
          ⟨some 107, .bin .eql (.t 106) (.c (.int .i64 3)), none, []⟩,
          ⟨some 104, .move (.t 107), none, []⟩] none [0, 1, 8, 9, 104])
        (.cond (.t 104)
          (.seq (.ops [⟨some 108, .move (.t 0), none, []⟩,
            ⟨some 109, .call 308 [(.t 108)], none, []⟩,
            ⟨some 12, .move (.t 109), none, []⟩] none [0, 1, 8, 9, 12])
          (.seq (.ops [⟨some 110, .move (.t 0), none, []⟩,
            ⟨some 111, .move (.t 8), none, []⟩,
            ⟨some 112, .move (.t 1), none, []⟩,
            ⟨some 113, .call 327 [(.t 110), (.t 111), (.t 112), (.c (.int .i64 0)), (.c (.int .i64 0)), (.c (.int .i64 0))], none, []⟩,
            ⟨some 13, .alloc (.agg [(.int .i64 0), (.int .i64 0), (.int .i64 0), (.int .i64 0), (.int .i64 0), (.int .i64 0), (.int .i64 0)]), none, []⟩,
            ⟨none, .store (some 7) (.t 13) (.t 113), none, []⟩] none [0, 1, 8, 9, 12, 13])
          (.ops [⟨some 114, .load (some 7) (.t 13), none, []⟩,
            ⟨some 115, .buildSl 1 [(.int .i64 0), (.int .i64 0), (.int .i64 0), (.int .i64 0), (.int .i64 0), (.int .i64 0), (.int .i64 0)] [(0, 7, (.t 114))], none, []⟩,
            ⟨some 116, .move (.t 0), none, []⟩,
            ⟨some 117, .move (.t 8), none, []⟩,
            ⟨some 118, .move (.t 1), none, []⟩,
            ⟨some 119, .fldAddr 1 (.t 9), none, []⟩,
            ⟨some 120, .load none (.t 119), none, []⟩,
            ⟨some 121, .move (.t 12), none, []⟩,
            ⟨some 122, .call 328 [(.t 116), (.t 117), (.t 118), (.t 120), (.t 121)], none, [0]⟩,
            ⟨some 123, .append 7 (.t 115) (.t 122), none, []⟩,
            ⟨some 11, .move (.t 123), none, []⟩] (some [(0, []), (1, [0]), (2, []), (3, []), (4, []), (5, []), (6, [5]), (7, []), (8, [2, 3, 4, 6, 5, 7]), (9, [1, 0, 8, 2, 3, 4, 6, 5, 7]), (10, [9, 1, 0, 8, 2, 3, 4, 6, 5, 7])]) [11])))
          (.seq (.ops [⟨some 125, .fldAddr 0 (.t 9), none, []⟩,
            ⟨some 126, .load none (.t 125), none, []⟩,
            ⟨some 127, .bin .eql (.t 126) (.c (.int .i64 6)), none, []⟩,
            ⟨some 124, .move (.t 127), none, []⟩] none [0, 1, 8, 9, 124])
          (.cond (.t 124)
            (.ops [⟨some 128, .move (.t 0), none, []⟩,
              ⟨some 129, .move (.t 8), none, []⟩,
              ⟨some 130, .move (.t 1), none, []⟩,
              ⟨some 131, .load (some 5) (.t 9), none, []⟩,
              ⟨some 132, .call 329 [(.t 128), (.t 129), (.t 130), (.t 131)], none, []⟩,
              ⟨some 11, .move (.t 132), none, []⟩] none [11])
            (.ops [⟨some 68, .move (.t 0), none, []⟩,
              ⟨some 69, .move (.t 8), none, []⟩,
              ⟨some 70, .move (.t 1), none, []⟩,
              ⟨some 71, .load (some 5) (.t 9), none, []⟩,
              ⟨some 72, .call 330 [(.t 68), (.t 69), (.t 70), (.t 71)], none, []⟩,
              ⟨some 11, .move (.t 72), none, []⟩] none [11]))))))))))))
(.seq (.ops [⟨some 133, .move (.t 11), none, []⟩,
  ⟨some 6, .move (.t 133), none, []⟩,
  ⟨some 7, .move (.c (.bool true)), none, []⟩] none [6, 7])
(.ret))))))))))
def f307 : SFunc := ⟨b307, [.t 6, .t 7]⟩

/-- (*watchbill/core.Core).Prios -/
def b308 : SCode := (
.seq (.ops [⟨some 2, .move (.c .nils), none, []⟩] none [0])
(.seq (.ops [⟨some 9, .move (.t 0), none, []⟩,
  ⟨some 10, .nilck (.t 9), none, []⟩,
  ⟨some 11, .fldAddr 5 (.t 10), none, []⟩,
  ⟨some 12, .load none (.t 11), none, []⟩,
  ⟨some 13, .len .sl (.t 12), none, []⟩,
  ⟨some 14, .mksl [(.int .i64 0)] (.t 13) (.t 13), none, []⟩,
  ⟨some 15, .move (.t 0), none, []⟩,
  ⟨some 16, .nilck (.t 15), none, []⟩,
  ⟨some 17, .fldAddr 5 (.t 16), none, []⟩,
  ⟨some 18, .load none (.t 17), none, []⟩,
  ⟨some 19, .len .sl (.t 18), none, []⟩,
  ⟨some 20, .mksl [(.int .i64 0)] (.t 19) (.t 19), none, []⟩,
  ⟨some 3, .move (.t 14), none, []⟩,
  ⟨some 4, .move (.t 20), none, []⟩] (some [(0, []), (1, [0]), (2, [1, 0]), (3, [2, 1, 0]), (4, [3, 2, 1, 0]), (5, [4, 3, 2, 1, 0]), (6, []), (7, [6]), (8, [7, 6]), (9, [8, 7, 6]), (10, [9, 8, 7, 6]), (11, [10, 9, 8, 7, 6]), (12, [5, 4, 3, 2, 1, 0]), (13, [11, 10, 9, 8, 7, 6, 12, 5, 4, 3, 2, 1, 0])]) [0, 3, 4])
(.seq (.seq (.ops [⟨some 21, .move (.t 0), none, []⟩,
  ⟨some 22, .nilck (.t 21), none, []⟩,
  ⟨some 23, .fldAddr 5 (.t 22), none, []⟩,
  ⟨some 24, .load none (.t 23), none, []⟩,
  ⟨some 25, .len .sl (.t 24), none, []⟩,
  ⟨some 26, .move (.c (.int .i64 0)), none, []⟩] none [0, 3, 4, 24, 25, 26])
(.block 0 (.loop [0, 3, 4, 24, 25, 26] (.seq (.ops [⟨some 27, .bin .lss (.t 26) (.t 25), none, []⟩] none [0, 3, 4, 24, 25, 26, 27])
    (.seq (.cond (.t 27)
      (.skip)
      (.exit 0))
    (.seq (.block 1 (.seq (.ops [⟨some 28, .move (.t 26), none, []⟩,
        ⟨some 29, .idxAddr 10 (.t 24) (.t 26), none, []⟩,
        ⟨some 30, .load (some 10) (.t 29), none, []⟩,
        ⟨some 6, .alloc (.agg [(.bool false), .nils, (.int .i64 0), (.int .i64 0), (.int .i64 0), (.int .i64 0), (.int .i64 0), (.int .i64 0), (.bool false), .nils]), none, []⟩,
        ⟨some 5, .move (.t 28), none, []⟩,
        ⟨none, .store (some 10) (.t 6) (.t 30), none, []⟩] none [0, 3, 4, 5, 6, 24, 25, 26])
      (.seq (.seq (.ops [⟨some 31, .fldAddr 0 (.t 6), none, []⟩,
        ⟨some 32, .load none (.t 31), none, []⟩,
        ⟨some 33, .not (.t 32), none, []⟩] none [0, 3, 4, 5, 6, 24, 25, 26, 33])
      (.cond (.t 33)
        (.exit 1)
        (.skip)))
      (.seq (.ops [⟨some 34, .move (.t 3), none, []⟩,
        ⟨some 35, .move (.t 5), none, []⟩,
        ⟨some 36, .move (.t 0), none, []⟩,
        ⟨some 37, .nilck (.t 36), none, []⟩,
        ⟨some 38, .fldAddr 3 (.t 37), none, []⟩,
        ⟨some 39, .load none (.t 38), none, []⟩,
        ⟨some 40, .move (.t 5), none, []⟩,
        ⟨some 41, .idxAddr 1 (.t 39) (.t 40), none, []⟩,
        ⟨some 42, .load none (.t 41), none, []⟩,
        ⟨some 43, .idxAddr 1 (.t 34) (.t 35), none, []⟩,
        ⟨none, .store none (.t 43) (.t 42), none, []⟩] none [0, 3, 4, 5, 6, 24, 25, 26])
      (.seq (.ops [⟨some 44, .fldAddr 9 (.t 6), none, []⟩,
        ⟨some 45, .load none (.t 44), none, []⟩,
        ⟨some 46, .len .sl (.t 45), none, []⟩,
        ⟨some 47, .move (.c (.int .i64 0)), none, []⟩] none [0, 3, 4, 5, 24, 25, 26, 45, 46, 47])
      (.block 2 (.loop [0, 3, 4, 5, 24, 25, 26, 45, 46, 47] (.seq (.ops [⟨some 48, .bin .lss (.t 47) (.t 46), none, []⟩] none [0, 3, 4, 5, 24, 25, 26, 45, 46, 47, 48])
          (.seq (.cond (.t 48)
            (.skip)
            (.exit 2))
          (.seq (.block 3 (.seq (.ops [⟨some 49, .idxAddr 1 (.t 45) (.t 47), none, []⟩,
              ⟨some 50, .load none (.t 49), none, []⟩,
              ⟨some 8, .move (.t 50), none, []⟩] none [0, 3, 4, 5, 8, 24, 25, 26, 45, 46, 47])
            (.ops [⟨some 51, .move (.t 4), none, []⟩,
              ⟨some 52, .move (.t 5), none, []⟩,
              ⟨some 53, .move (.t 4), none, []⟩,
              ⟨some 54, .move (.t 5), none, []⟩,
              ⟨some 55, .idxAddr 1 (.t 53) (.t 54), none, []⟩,
              ⟨some 56, .load none (.t 55), none, []⟩,
              ⟨some 57, .move (.t 0), none, []⟩,
              ⟨some 58, .nilck (.t 57), none, []⟩,
              ⟨some 59, .fldAddr 4 (.t 58), none, []⟩,
              ⟨some 60, .load none (.t 59), none, []⟩,
              ⟨some 61, .move (.t 8), none, []⟩,
              ⟨some 62, .idxAddr 1 (.t 60) (.t 61), none, []⟩,
              ⟨some 63, .load none (.t 62), none, []⟩,
              ⟨some 64, .mx [(.t 56), (.t 63)], none, []⟩,
              ⟨some 65, .idxAddr 1 (.t 51) (.t 52), none, []⟩,
              ⟨none, .store none (.t 65) (.t 64), none, []⟩] (some [(0, []), (1, []), (2, []), (3, []), (4, [2, 3]), (5, [4, 2, 3]), (6, []), (7, [6]), (8, [7, 6]), (9, [8, 7, 6]), (10, []), (11, [9, 8, 7, 6, 10]), (12, [11, 9, 8, 7, 6, 10]), (13, [5, 4, 2, 3, 12, 11, 9, 8, 7, 6, 10]), (14, [0, 1, 2, 3, 4, 5, 6, 7, 8, 9, 10, 11, 12, 13]), (15, [14, 0, 1, 2, 3, 4, 5, 6, 7, 8, 9, 10, 11, 12, 13])]) [0, 3, 4, 5, 24, 25, 26, 45, 46, 47])))
          (.ops [⟨some 66, .bin .add (.t 47) (.c (.int .i64 1)), none, []⟩,
            ⟨some 47, .move (.t 66), none, []⟩] none [0, 3, 4, 5, 24, 25, 26, 45, 46, 47])))))))))))
    (.ops [⟨some 67, .bin .add (.t 26) (.c (.int .i64 1)), none, []⟩,
      ⟨some 26, .move (.t 67), none, []⟩] none [0, 3, 4, 24, 25, 26])))))))
(.seq (.ops [⟨some 68, .move (.t 3), none, []⟩,
  ⟨some 69, .move (.t 4), none, []⟩,
  ⟨some 70, .move (.t 0), none, []⟩,
  ⟨some 71, .call 331 [(.t 70)], none, []⟩,
  ⟨some 72, .call 17 [(.t 68), (.t 69), (.t 71)], none, []⟩,
  ⟨some 2, .move (.t 72), none, []⟩] none [2])
(.ret)))))
def f308 : SFunc := ⟨b308, [.t 2]⟩

/-- (*watchbill/core.Core).Top -/
def b309 : SCode := (
.seq (.ops [⟨some 2, .move (.c (.int .i64 0)), none, []⟩,
  ⟨some 3, .move (.c (.bool false)), none, []⟩] none [0])
(.seq (.ops [⟨some 8, .move (.t 0), none, []⟩,
  ⟨some 9, .call 308 [(.t 8)], none, []⟩,
  ⟨some 4, .move (.t 9), none, []⟩] none [0, 4])
(.seq (.ops [⟨some 5, .move (.c (.int .i64 (-1))), none, []⟩] none [0, 4, 5])
(.seq (.seq (.ops [⟨some 10, .move (.t 0), none, []⟩,
  ⟨some 11, .nilck (.t 10), none, []⟩,
  ⟨some 12, .fldAddr 5 (.t 11), none, []⟩,
  ⟨some 13, .load none (.t 12), none, []⟩,
  ⟨some 14, .len .sl (.t 13), none, []⟩,
  ⟨some 15, .move (.c (.int .i64 0)), none, []⟩] none [0, 4, 5, 13, 14, 15])
(.block 0 (.loop [0, 4, 5, 13, 14, 15] (.seq (.ops [⟨some 16, .bin .lss (.t 15) (.t 14), none, []⟩] none [0, 4, 5, 13, 14, 15, 16])
    (.seq (.cond (.t 16)
      (.skip)
      (.exit 0))
    (.seq (.block 1 (.seq (.ops [⟨some 17, .move (.t 15), none, []⟩,
        ⟨some 18, .idxAddr 10 (.t 13) (.t 15), none, []⟩,
        ⟨some 19, .load (some 10) (.t 18), none, []⟩,
        ⟨some 7, .alloc (.agg [(.bool false), .nils, (.int .i64 0), (.int .i64 0), (.int .i64 0), (.int .i64 0), (.int .i64 0), (.int .i64 0), (.bool false), .nils]), none, []⟩,
        ⟨some 6, .move (.t 17), none, []⟩,
        ⟨none, .store (some 10) (.t 7) (.t 19), none, []⟩] none [0, 4, 5, 6, 7, 13, 14, 15])
      (.seq (.seq (.ops [⟨some 20, .fldAddr 0 (.t 7), none, []⟩,
        ⟨some 21, .load none (.t 20), none, []⟩,
        ⟨some 22, .not (.t 21), none, []⟩,
        ⟨some 23, .move (.t 22), none, []⟩,
        ⟨some 24, .fldAddr 8 (.t 7), (some (23, false)), []⟩,
        ⟨some 25, .load none (.t 24), (some (23, false)), []⟩,
        ⟨some 26, .pick (.t 23) (.c (.bool true)) (.t 25), none, []⟩] none [0, 4, 5, 6, 7, 13, 14, 15, 26])
      (.cond (.t 26)
        (.exit 1)
        (.skip)))
      (.seq (.ops [⟨some 27, .move (.t 5), none, []⟩,
        ⟨some 28, .bin .lss (.t 27) (.c (.int .i64 0)), none, []⟩,
        ⟨some 29, .move (.t 28), none, []⟩,
        ⟨some 30, .move (.t 4), (some (29, false)), []⟩,
        ⟨some 31, .move (.t 6), (some (29, false)), []⟩,
        ⟨some 32, .idxAddr 1 (.t 30) (.t 31), (some (29, false)), []⟩,
        ⟨some 33, .load none (.t 32), (some (29, false)), []⟩,
        ⟨some 34, .move (.t 4), (some (29, false)), []⟩,
        ⟨some 35, .move (.t 5), (some (29, false)), []⟩,
        ⟨some 36, .idxAddr 1 (.t 34) (.t 35), (some (29, false)), []⟩,
        ⟨some 37, .load none (.t 36), (some (29, false)), []⟩,
        ⟨some 38, .bin .gtr (.t 33) (.t 37), (some (29, false)), []⟩,
        ⟨some 39, .pick (.t 29) (.c (.bool true)) (.t 38), none, []⟩,
        ⟨some 40, .move (.t 39), none, []⟩,
        ⟨some 41, .move (.t 4), (some (40, false)), []⟩,
        ⟨some 42, .move (.t 6), (some (40, false)), []⟩,
        ⟨some 43, .idxAddr 1 (.t 41) (.t 42), (some (40, false)), []⟩,
        ⟨some 44, .load none (.t 43), (some (40, false)), []⟩,
        ⟨some 45, .move (.t 4), (some (40, false)), []⟩,
        ⟨some 46, .move (.t 5), (some (40, false)), []⟩,
        ⟨some 47, .idxAddr 1 (.t 45) (.t 46), (some (40, false)), []⟩,
        ⟨some 48, .load none (.t 47), (some (40, false)), []⟩,
        ⟨some 49, .bin .eql (.t 44) (.t 48), (some (40, false)), []⟩,
        ⟨some 50, .move (.t 49), (some (40, false)), []⟩,
        ⟨some 51, .fldAddr 7 (.t 7), (some (50, true)), []⟩,
        ⟨some 52, .load none (.t 51), (some (50, true)), []⟩,
        ⟨some 53, .move (.t 0), (some (50, true)), []⟩,
        ⟨some 54, .nilck (.t 53), (some (50, true)), []⟩,
        ⟨some 55, .fldAddr 5 (.t 54), (some (50, true)), []⟩,
        ⟨some 56, .load none (.t 55), (some (50, true)), []⟩,
        ⟨some 57, .move (.t 5), (some (50, true)), []⟩,
        ⟨some 58, .idxAddr 10 (.t 56) (.t 57), (some (50, true)), []⟩,
        ⟨some 59, .fldAddr 7 (.t 58), (some (50, true)), []⟩,
        ⟨some 60, .load none (.t 59), (some (50, true)), []⟩,
        ⟨some 61, .bin .lss (.t 52) (.t 60), (some (50, true)), []⟩,
        ⟨some 62, .pick (.t 50) (.t 61) (.c (.bool false)), (some (40, false)), []⟩,
        ⟨some 63, .pick (.t 40) (.c (.bool true)) (.t 62), none, []⟩] (some [(0, []), (1, [0]), (2, [1, 0]), (3, [2, 1, 0]), (4, [2, 1, 0]), (5, [3, 2, 1, 0, 4]), (6, [5, 3, 2, 1, 0, 4]), (7, [2, 1, 0]), (8, [2, 1, 0]), (9, [7, 2, 1, 0, 8]), (10, [9, 7, 2, 1, 0, 8]), (11, [6, 5, 3, 2, 1, 0, 4, 10, 9, 7, 8]), (12, [2, 1, 0, 11, 6, 5, 3, 4, 10, 9, 7, 8]), (13, [12, 2, 1, 0, 11, 6, 5, 3, 4, 10, 9, 7, 8]), (14, [13, 12, 2, 1, 0, 11, 6, 5, 3, 4, 10, 9, 7, 8]), (15, [13, 12, 2, 1, 0, 11, 6, 5, 3, 4, 10, 9, 7, 8]), (16, [14, 13, 12, 2, 1, 0, 11, 6, 5, 3, 4, 10, 9, 7, 8, 15]), (17, [16, 14, 13, 12, 2, 1, 0, 11, 6, 5, 3, 4, 10, 9, 7, 8, 15]), (18, [13, 12, 2, 1, 0, 11, 6, 5, 3, 4, 10, 9, 7, 8]), (19, [13, 12, 2, 1, 0, 11, 6, 5, 3, 4, 10, 9, 7, 8]), (20, [18, 13, 12, 2, 1, 0, 11, 6, 5, 3, 4, 10, 9, 7, 8, 19]), (21, [20, 18, 13, 12, 2, 1, 0, 11, 6, 5, 3, 4, 10, 9, 7, 8, 19]), (22, [17, 16, 14, 13, 12, 2, 1, 0, 11, 6, 5, 3, 4, 10, 9, 7, 8, 15, 21, 20, 18, 19]), (23, [22, 17, 16, 14, 13, 12, 2, 1, 0, 11, 6, 5, 3, 4, 10, 9, 7, 8, 15, 21, 20, 18, 19]), (24, [23, 22, 17, 16, 14, 13, 12, 2, 1, 0, 11, 6, 5, 3, 4, 10, 9, 7, 8, 15, 21, 20, 18, 19]), (25, [24, 23, 22, 17, 16, 14, 13, 12, 2, 1, 0, 11, 6, 5, 3, 4, 10, 9, 7, 8, 15, 21, 20, 18, 19]), (26, [23, 22, 17, 16, 14, 13, 12, 2, 1, 0, 11, 6, 5, 3, 4, 10, 9, 7, 8, 15, 21, 20, 18, 19]), (27, [26, 23, 22, 17, 16, 14, 13, 12, 2, 1, 0, 11, 6, 5, 3, 4, 10, 9, 7, 8, 15, 21, 20, 18, 19]), (28, [27, 26, 23, 22, 17, 16, 14, 13, 12, 2, 1, 0, 11, 6, 5, 3, 4, 10, 9, 7, 8, 15, 21, 20, 18, 19]), (29, [28, 27, 26, 23, 22, 17, 16, 14, 13, 12, 2, 1, 0, 11, 6, 5, 3, 4, 10, 9, 7, 8, 15, 21, 20, 18, 19]), (30, [23, 22, 17, 16, 14, 13, 12, 2, 1, 0, 11, 6, 5, 3, 4, 10, 9, 7, 8, 15, 21, 20, 18, 19]), (31, [29, 28, 27, 26, 23, 22, 17, 16, 14, 13, 12, 2, 1, 0, 11, 6, 5, 3, 4, 10, 9, 7, 8, 15, 21, 20, 18, 19, 30]), (32, [31, 29, 28, 27, 26, 23, 22, 17, 16, 14, 13, 12, 2, 1, 0, 11, 6, 5, 3, 4, 10, 9, 7, 8, 15, 21, 20, 18, 19, 30]), (33, [32, 31, 29, 28, 27, 26, 23, 22, 17, 16, 14, 13, 12, 2, 1, 0, 11, 6, 5, 3, 4, 10, 9, 7, 8, 15, 21, 20, 18, 19, 30]), (34, [25, 24, 23, 22, 17, 16, 14, 13, 12, 2, 1, 0, 11, 6, 5, 3, 4, 10, 9, 7, 8, 15, 21, 20, 18, 19, 33, 32, 31, 29, 28, 27, 26, 30]), (35, [23, 22, 17, 16, 14, 13, 12, 2, 1, 0, 11, 6, 5, 3, 4, 10, 9, 7, 8, 15, 21, 20, 18, 19, 34, 25, 24, 33, 32, 31, 29, 28, 27, 26, 30]), (36, [13, 12, 2, 1, 0, 11, 6, 5, 3, 4, 10, 9, 7, 8, 35, 23, 22, 17, 16, 14, 15, 21, 20, 18, 19, 34, 25, 24, 33, 32, 31, 29, 28, 27, 26, 30])]) [0, 4, 5, 6, 13, 14, 15, 63])
      (.cond (.t 63)
        (.ops [⟨some 64, .move (.t 6), none, []⟩,
          ⟨some 5, .move (.t 64), none, []⟩] none [0, 4, 5, 13, 14, 15])
        (.skip))))))
    (.ops [⟨some 65, .bin .add (.t 15) (.c (.int .i64 1)), none, []⟩,
      ⟨some 15, .move (.t 65), none, []⟩] none [0, 4, 5, 13, 14, 15])))))))
(.seq (.ops [⟨some 66, .move (.t 5), none, []⟩,
  ⟨some 67, .mx [(.t 66), (.c (.int .i64 0))], none, []⟩,
  ⟨some 68, .move (.t 5), none, []⟩,
  ⟨some 69, .bin .geq (.t 68) (.c (.int .i64 0)), none, []⟩,
  ⟨some 2, .move (.t 67), none, []⟩,
  ⟨some 3, .move (.t 69), none, []⟩] none [2, 3])
(.ret))))))
def f309 : SFunc := ⟨b309, [.t 2, .t 3]⟩

/-- (*watchbill/core.Core).Tick -/
def b310 : SCode := (
.seq (.ops [⟨some 4, .move (.c .nils), none, []⟩] none [0, 1])
(.seq (.seq (.ops [⟨some 8, .move (.t 0), none, []⟩,
  ⟨some 9, .move (.t 1), none, []⟩,
  ⟨some 10, .call 323 [(.t 8), (.t 9)], none, []⟩,
  ⟨some 11, .not (.t 10), none, []⟩,
  ⟨some 12, .move (.t 11), none, []⟩,
  ⟨some 13, .move (.t 0), (some (12, false)), []⟩,
  ⟨some 14, .nilck (.t 13), (some (12, false)), []⟩,
  ⟨some 15, .fldAddr 5 (.t 14), (some (12, false)), []⟩,
  ⟨some 16, .load none (.t 15), (some (12, false)), []⟩,
  ⟨some 17, .move (.t 1), (some (12, false)), []⟩,
  ⟨some 18, .idxAddr 10 (.t 16) (.t 17), (some (12, false)), []⟩,
  ⟨some 19, .fldAddr 0 (.t 18), (some (12, false)), []⟩,
  ⟨some 20, .load none (.t 19), (some (12, false)), []⟩,
  ⟨some 21, .not (.t 20), (some (12, false)), []⟩,
  ⟨some 22, .pick (.t 12) (.c (.bool true)) (.t 21), none, []⟩,
  ⟨some 23, .move (.t 22), none, []⟩,
  ⟨some 24, .move (.t 0), (some (23, false)), []⟩,
  ⟨some 25, .nilck (.t 24), (some (23, false)), []⟩,
  ⟨some 26, .fldAddr 5 (.t 25), (some (23, false)), []⟩,
  ⟨some 27, .load none (.t 26), (some (23, false)), []⟩,
  ⟨some 28, .move (.t 1), (some (23, false)), []⟩,
  ⟨some 29, .idxAddr 10 (.t 27) (.t 28), (some (23, false)), []⟩,
  ⟨some 30, .fldAddr 8 (.t 29), (some (23, false)), []⟩,
  ⟨some 31, .load none (.t 30), (some (23, false)), []⟩,
  ⟨some 32, .pick (.t 23) (.c (.bool true)) (.t 31), none, []⟩,
  ⟨some 33, .move (.t 32), none, []⟩,
  ⟨some 34, .move (.t 0), (some (33, false)), []⟩,
  ⟨some 35, .nilck (.t 34), (some (33, false)), []⟩,
  ⟨some 36, .fldAddr 5 (.t 35), (some (33, false)), []⟩,
  ⟨some 37, .load none (.t 36), (some (33, false)), []⟩,
  ⟨some 38, .move (.t 1), (some (33, false)), []⟩,
  ⟨some 39, .idxAddr 10 (.t 37) (.t 38), (some (33, false)), []⟩,
  ⟨some 40, .fldAddr 3 (.t 39), (some (33, false)), []⟩,
  ⟨some 41, .load none (.t 40), (some (33, false)), []⟩,
  ⟨some 42, .bin .eql (.t 41) (.c (.int .i64 0)), (some (33, false)), []⟩,
  ⟨some 43, .pick (.t 33) (.c (.bool true)) (.t 42), none, []⟩] none [0, 1, 43])
(.cond (.t 43)
  (.seq (.ops [⟨some 4, .move (.c .nils), none, []⟩] none [4])
  (.ret))
  (.skip)))
(.seq (.ops [⟨some 44, .move (.t 0), none, []⟩,
  ⟨some 45, .nilck (.t 44), none, []⟩,
  ⟨some 46, .fldAddr 10 (.t 45), none, []⟩,
  ⟨some 47, .load none (.t 46), none, []⟩,
  ⟨some 48, .move (.t 1), none, []⟩,
  ⟨some 49, .build [(.int .i64 0), (.int .i64 0), (.int .i64 0), (.int .i64 0), (.int .i64 0), (.int .i64 0), (.int .i64 0)] [(0, 1, (.t 47)), (1, 1, (.c (.int .i64 3))), (2, 1, (.t 48))], none, []⟩,
  ⟨some 50, .buildSl 1 [(.int .i64 0), (.int .i64 0), (.int .i64 0), (.int .i64 0), (.int .i64 0), (.int .i64 0), (.int .i64 0)] [(0, 7, (.t 49))], none, []⟩,
  ⟨some 5, .move (.t 50), none, []⟩] none [0, 1, 5])
(.seq (.ops [⟨some 52, .move (.t 0), none, []⟩,
  ⟨some 53, .nilck (.t 52), none, []⟩,
  ⟨some 54, .fldAddr 5 (.t 53), none, []⟩,
  ⟨some 55, .load none (.t 54), none, []⟩,
  ⟨some 56, .move (.t 1), none, []⟩,
  ⟨some 57, .idxAddr 10 (.t 55) (.t 56), none, []⟩,
  ⟨some 58, .load (some 10) (.t 57), none, []⟩,
  ⟨some 59, .call 39 [(.t 58)], none, []⟩,
  ⟨some 51, .move (.t 59), none, []⟩,
  ⟨some 60, .ext 0 (.t 51), none, []⟩,
  ⟨some 61, .ext 1 (.t 51), none, []⟩,
  ⟨some 6, .alloc (.agg [(.bool false), .nils, (.int .i64 0), (.int .i64 0), (.int .i64 0), (.int .i64 0), (.int .i64 0), (.int .i64 0), (.bool false), .nils]), none, []⟩,
  ⟨none, .store (some 10) (.t 6) (.t 60), none, []⟩,
  ⟨some 7, .move (.t 61), none, []⟩] none [0, 1, 5, 6, 7])
(.seq (.ops [⟨some 62, .move (.t 0), none, []⟩,
  ⟨some 63, .nilck (.t 62), none, []⟩,
  ⟨some 64, .fldAddr 5 (.t 63), none, []⟩,
  ⟨some 65, .load none (.t 64), none, []⟩,
  ⟨some 66, .move (.t 1), none, []⟩,
  ⟨some 67, .load (some 10) (.t 6), none, []⟩,
  ⟨some 68, .idxAddr 10 (.t 65) (.t 66), none, []⟩,
  ⟨none, .store (some 10) (.t 68) (.t 67), none, []⟩] (some [(0, []), (1, [0]), (2, [1, 0]), (3, [2, 1, 0]), (4, []), (5, []), (6, [3, 2, 1, 0, 4, 5]), (7, [6, 3, 2, 1, 0, 4, 5])]) [0, 1, 5, 7])
(.seq (.seq (.ops [⟨some 69, .move (.t 7), none, []⟩] none [0, 1, 5, 69])
(.cond (.t 69)
  (.ops [⟨some 70, .move (.t 5), none, []⟩,
    ⟨some 71, .move (.t 0), none, []⟩,
    ⟨some 72, .move (.t 0), none, []⟩,
    ⟨some 73, .nilck (.t 72), none, []⟩,
    ⟨some 74, .fldAddr 10 (.t 73), none, []⟩,
    ⟨some 75, .load none (.t 74), none, []⟩,
    ⟨some 76, .bin .add (.t 75) (.c (.int .i64 1)), none, []⟩,
    ⟨some 77, .move (.t 1), none, []⟩,
    ⟨some 78, .call 332 [(.t 71), (.t 76), (.t 77)], none, []⟩,
    ⟨some 79, .append 7 (.t 70) (.t 78), none, []⟩,
    ⟨some 5, .move (.t 79), none, []⟩] none [5])
  (.skip)))
(.seq (.ops [⟨some 80, .move (.t 5), none, []⟩,
  ⟨some 4, .move (.t 80), none, []⟩] none [4])
(.ret))))))))
def f310 : SFunc := ⟨b310, [.t 4]⟩

/-- (*watchbill/core.Core).Job -/
def b312 : SCode := (
.seq (.ops [⟨some 4, .alloc (.agg [(.bool false), .nils, (.int .i64 0), (.int .i64 0), (.int .i64 0), (.int .i64 0), (.int .i64 0), (.int .i64 0), (.bool false), .nils]), none, []⟩] none [0, 1, 4])
(.seq (.seq (.ops [⟨some 6, .move (.t 0), none, []⟩,
  ⟨some 7, .move (.t 1), none, []⟩,
  ⟨some 8, .call 323 [(.t 6), (.t 7)], none, []⟩,
  ⟨some 9, .not (.t 8), none, []⟩] none [0, 1, 4, 9])
(.cond (.t 9)
  (.seq (.ops [⟨some 10, .build [(.bool false), .nils, (.int .i64 0), (.int .i64 0), (.int .i64 0), (.int .i64 0), (.int .i64 0), (.int .i64 0), (.bool false), .nils] [], none, []⟩,
    ⟨none, .store (some 10) (.t 4) (.t 10), none, []⟩] none [4])
  (.ret))
  (.skip)))
(.seq (.ops [⟨some 11, .move (.t 0), none, []⟩,
  ⟨some 12, .nilck (.t 11), none, []⟩,
  ⟨some 13, .fldAddr 5 (.t 12), none, []⟩,
  ⟨some 14, .load none (.t 13), none, []⟩,
  ⟨some 15, .move (.t 1), none, []⟩,
  ⟨some 16, .idxAddr 10 (.t 14) (.t 15), none, []⟩,
  ⟨some 17, .load (some 10) (.t 16), none, []⟩,
  ⟨some 5, .alloc (.agg [(.bool false), .nils, (.int .i64 0), (.int .i64 0), (.int .i64 0), (.int .i64 0), (.int .i64 0), (.int .i64 0), (.bool false), .nils]), none, []⟩,
  ⟨none, .store (some 10) (.t 5) (.t 17), none, []⟩] none [4, 5])
(.seq (.ops [⟨some 18, .fldAddr 1 (.t 5), none, []⟩,
  ⟨some 19, .load none (.t 18), none, []⟩,
  ⟨some 21, .fldAddr 9 (.t 5), none, []⟩,
  ⟨some 22, .load none (.t 21), none, []⟩,
  ⟨some 20, .call 333 [(.t 19)], none, [3]⟩,
  ⟨some 24, .fldAddr 1 (.t 5), none, []⟩,
  ⟨some 23, .call 55 [(.t 22)], none, []⟩,
  ⟨none, .store none (.t 24) (.t 20), none, []⟩,
  ⟨some 25, .fldAddr 9 (.t 5), none, []⟩,
  ⟨none, .store none (.t 25) (.t 23), none, []⟩] (some [(0, []), (1, [0]), (3, []), (4, [2]), (2, [1, 0]), (6, [0, 1, 4, 2, 3]), (5, [3, 2, 4, 1, 0]), (7, [5, 0, 1, 4, 2, 3, 6]), (8, [0, 1, 4, 2, 3, 6, 5, 7]), (9, [8, 0, 1, 4, 2, 3, 6, 5, 7])]) [4, 5])
(.seq (.ops [⟨some 26, .load (some 10) (.t 5), none, []⟩,
  ⟨none, .store (some 10) (.t 4) (.t 26), none, []⟩] none [4])
(.ret))))))
def f312 : SFunc := ⟨b312, [.cell (some 10) 4]⟩

/-- watchbill/watchbilllaw1.Ints -/
def b20 : SCode := (
.seq (.ops [⟨some 4, .move (.c (.bool false)), none, []⟩] none [0, 1])
(.seq (.seq (.ops [⟨some 6, .move (.t 0), none, []⟩,
  ⟨some 7, .len .sl (.t 6), none, []⟩,
  ⟨some 8, .move (.t 1), none, []⟩,
  ⟨some 9, .len .sl (.t 8), none, []⟩,
  ⟨some 10, .bin .neq (.t 7) (.t 9), none, []⟩] none [0, 1, 10])
(.cond (.t 10)
  (.seq (.ops [⟨some 4, .move (.c (.bool false)), none, []⟩] none [4])
  (.ret))
  (.skip)))
(.seq (.seq (.ops [⟨some 5, .move (.c (.int .i64 0)), none, []⟩] none [0, 1, 5])
(.block 0 (.loop [0, 1, 5] (.seq (.seq (.ops [⟨some 11, .move (.t 5), none, []⟩,
      ⟨some 12, .move (.t 0), none, []⟩,
      ⟨some 13, .len .sl (.t 12), none, []⟩,
      ⟨some 14, .bin .lss (.t 11) (.t 13), none, []⟩] none [0, 1, 5, 14])
    (.cond (.t 14)
      (.skip)
      (.exit 0)))
    (.seq (.block 1 (.seq (.ops [⟨some 17, .move (.t 0), none, []⟩,
        ⟨some 18, .move (.t 5), none, []⟩,
        ⟨some 19, .idxAddr 1 (.t 17) (.t 18), none, []⟩,
        ⟨some 20, .load none (.t 19), none, []⟩,
        ⟨some 21, .move (.t 1), none, []⟩,
        ⟨some 22, .move (.t 5), none, []⟩,
        ⟨some 23, .idxAddr 1 (.t 21) (.t 22), none, []⟩,
        ⟨some 24, .load none (.t 23), none, []⟩,
        ⟨some 25, .bin .neq (.t 20) (.t 24), none, []⟩] (some [(0, []), (1, []), (2, [0, 1]), (3, [2, 0, 1]), (4, []), (5, []), (6, [4, 5]), (7, [6, 4, 5]), (8, [3, 2, 0, 1, 7, 6, 4, 5])]) [0, 1, 5, 25])
      (.cond (.t 25)
        (.seq (.ops [⟨some 4, .move (.c (.bool false)), none, []⟩] none [4])
        (.ret))
        (.skip))))
    (.ops [⟨some 15, .move (.t 5), none, []⟩,
      ⟨some 16, .bin .add (.t 15) (.c (.int .i64 1)), none, []⟩,
      ⟨some 5, .move (.t 16), none, []⟩] none [0, 1, 5]))))))
(.seq (.ops [⟨some 4, .move (.c (.bool true)), none, []⟩] none [4])
(.ret)))))
def f20 : SFunc := ⟨b20, [.t 4]⟩

/-- (*watchbill/core.Core).Lock -/
def b314 : SCode := (
.seq (.ops [⟨some 4, .move (.c .nilp), none, []⟩] none [0, 1])
(.seq (.seq (.ops [⟨some 5, .move (.t 1), none, []⟩,
  ⟨some 6, .bin .lss (.t 5) (.c (.int .i64 0)), none, []⟩,
  ⟨some 7, .move (.t 6), none, []⟩,
  ⟨some 8, .move (.t 1), (some (7, false)), []⟩,
  ⟨some 9, .move (.t 0), (some (7, false)), []⟩,
  ⟨some 10, .nilck (.t 9), (some (7, false)), []⟩,
  ⟨some 11, .fldAddr 7 (.t 10), (some (7, false)), []⟩,
  ⟨some 12, .load none (.t 11), (some (7, false)), []⟩,
  ⟨some 13, .len .sl (.t 12), (some (7, false)), []⟩,
  ⟨some 14, .bin .geq (.t 8) (.t 13), (some (7, false)), []⟩,
  ⟨some 15, .pick (.t 7) (.c (.bool true)) (.t 14), none, []⟩] none [0, 1, 15])
(.cond (.t 15)
  (.seq (.ops [⟨some 4, .move (.c .nilp), none, []⟩] none [4])
  (.ret))
  (.skip)))
(.seq (.ops [⟨some 16, .move (.t 0), none, []⟩,
  ⟨some 17, .nilck (.t 16), none, []⟩,
  ⟨some 18, .fldAddr 7 (.t 17), none, []⟩,
  ⟨some 19, .load none (.t 18), none, []⟩,
  ⟨some 20, .move (.t 1), none, []⟩,
  ⟨some 21, .idxAddr 1 (.t 19) (.t 20), none, []⟩,
  ⟨some 22, .load none (.t 21), none, []⟩,
  ⟨some 23, .call 334 [(.t 22)], none, []⟩,
  ⟨some 4, .move (.t 23), none, []⟩] none [4])
(.ret))))
def f314 : SFunc := ⟨b314, [.t 4]⟩

/-- (*watchbill/lockq.Lock).Owner -/
def b315 : SCode := (
.seq (.ops [⟨some 2, .move (.c (.int .i64 0)), none, []⟩] none [0])
(.seq (.ops [⟨some 3, .move (.t 0), none, []⟩,
  ⟨some 4, .nilck (.t 3), none, []⟩,
  ⟨some 5, .fldAddr 0 (.t 4), none, []⟩,
  ⟨some 6, .load none (.t 5), none, []⟩,
  ⟨some 2, .move (.t 6), none, []⟩] none [2])
(.ret)))
def f315 : SFunc := ⟨b315, [.t 2]⟩

/-- watchbill/watchbilllaw7.Two -/
def b52 : SCode := (
.seq (.ops [⟨some 0, .alloc (.agg [(.int .i64 0), .nils, .nils]), none, []⟩] none [0])
(.seq (.ops [⟨some 3, .build [(.int .i64 0), (.int .i64 0), (.int .i64 0), (.int .i64 0), .nils] [(0, 1, (.c (.int .i64 1))), (1, 1, (.c (.int .i64 1)))], none, []⟩,
  ⟨some 4, .build [(.int .i64 0), (.int .i64 0), (.int .i64 0), (.int .i64 0), .nils] [(0, 1, (.c (.int .i64 2)))], none, []⟩,
  ⟨some 5, .build [(.int .i64 0), (.int .i64 0), (.int .i64 0), (.int .i64 0), .nils] [(0, 1, (.c (.int .i64 1))), (1, 1, (.c (.int .i64 1)))], none, []⟩,
  ⟨some 6, .build [(.int .i64 0), (.int .i64 0), (.int .i64 0), (.int .i64 0), .nils] [(0, 1, (.c (.int .i64 3)))], none, []⟩,
  ⟨some 7, .buildSl 4 [(.int .i64 0), (.int .i64 0), (.int .i64 0), (.int .i64 0), .nils, (.int .i64 0), (.int .i64 0), (.int .i64 0), (.int .i64 0), .nils, (.int .i64 0), (.int .i64 0), (.int .i64 0), (.int .i64 0), .nils, (.int .i64 0), (.int .i64 0), (.int .i64 0), (.int .i64 0), .nils] [(0, 5, (.t 3)), (5, 5, (.t 4)), (10, 5, (.t 5)), (15, 5, (.t 6))], none, []⟩,
  ⟨some 8, .build [(.str []), (.int .i64 0), (.int .i64 0), (.int .i64 0), .nils] [(0, 1, (.c (.str [102, 97, 115, 116]))), (1, 1, (.c (.int .i64 10))), (2, 1, (.c (.int .i64 8))), (3, 1, (.c (.int .i64 3))), (4, 1, (.t 7))], none, []⟩,
  ⟨some 1, .alloc (.agg [(.str []), (.int .i64 0), (.int .i64 0), (.int .i64 0), .nils]), none, []⟩,
  ⟨none, .store (some 5) (.t 1) (.t 8), none, []⟩] none [0, 1])
(.seq (.ops [⟨some 9, .build [(.int .i64 0), (.int .i64 0), (.int .i64 0), (.int .i64 0), .nils] [(0, 1, (.c (.int .i64 2)))], none, []⟩,
  ⟨some 10, .build [(.int .i64 0), (.int .i64 0), (.int .i64 0), (.int .i64 0), .nils] [(0, 1, (.c (.int .i64 1))), (1, 1, (.c (.int .i64 4)))], none, []⟩,
  ⟨some 11, .build [(.int .i64 0), (.int .i64 0), (.int .i64 0), (.int .i64 0), .nils] [(0, 1, (.c (.int .i64 3)))], none, []⟩,
  ⟨some 12, .build [(.int .i64 0), (.int .i64 0), (.int .i64 0), (.int .i64 0), .nils] [(0, 1, (.c (.int .i64 1))), (1, 1, (.c (.int .i64 1)))], none, []⟩,
  ⟨some 13, .buildSl 4 [(.int .i64 0), (.int .i64 0), (.int .i64 0), (.int .i64 0), .nils, (.int .i64 0), (.int .i64 0), (.int .i64 0), (.int .i64 0), .nils, (.int .i64 0), (.int .i64 0), (.int .i64 0), (.int .i64 0), .nils, (.int .i64 0), (.int .i64 0), (.int .i64 0), (.int .i64 0), .nils] [(0, 5, (.t 9)), (5, 5, (.t 10)), (10, 5, (.t 11)), (15, 5, (.t 12))], none, []⟩,
  ⟨some 14, .build [(.str []), (.int .i64 0), (.int .i64 0), (.int .i64 0), .nils] [(0, 1, (.c (.str [115, 108, 111, 119]))), (1, 1, (.c (.int .i64 20))), (2, 1, (.c (.int .i64 20))), (3, 1, (.c (.int .i64 6))), (4, 1, (.t 13))], none, []⟩,
  ⟨some 2, .alloc (.agg [(.str []), (.int .i64 0), (.int .i64 0), (.int .i64 0), .nils]), none, []⟩,
  ⟨none, .store (some 5) (.t 2) (.t 14), none, []⟩] none [0, 1, 2])
(.seq (.ops [⟨some 15, .load (some 5) (.t 1), none, []⟩,
  ⟨some 16, .load (some 5) (.t 2), none, []⟩,
  ⟨some 17, .buildSl 2 [(.str []), (.int .i64 0), (.int .i64 0), (.int .i64 0), .nils, (.str []), (.int .i64 0), (.int .i64 0), (.int .i64 0), .nils] [(0, 5, (.t 15)), (5, 5, (.t 16))], none, []⟩,
  ⟨some 18, .build [(.int .i64 0), .nils, .nils] [(0, 1, (.c (.int .i64 1))), (2, 1, (.t 17))], none, []⟩,
  ⟨none, .store (some 3) (.t 0) (.t 18), none, []⟩] none [0])
(.ret)))))
def f52 : SFunc := ⟨b52, [.cell (some 3) 0]⟩

/-- (*watchbill/core.Core).Next -/
def b316 : SCode := (
.ops [⟨some 2, .move (.t 0), none, []⟩,
  ⟨some 3, .nilck (.t 2), none, []⟩,
  ⟨some 4, .fldAddr 10 (.t 3), none, []⟩,
  ⟨some 5, .load none (.t 4), none, []⟩,
  ⟨some 6, .bin .add (.t 5) (.c (.int .i64 1)), none, []⟩,
  ⟨some 7, .nilck (.t 2), none, []⟩,
  ⟨some 8, .fldAddr 10 (.t 7), none, []⟩,
  ⟨none, .store none (.t 8) (.t 6), none, []⟩] none [])
def f316 : SFunc := ⟨b316, []⟩

/-- watchbill/set.Check -/
def b265 : SCode := (
.seq (.ops [⟨some 1, .box (.t 0), none, []⟩,
  ⟨some 2, .move (.c (.int .i64 0)), none, []⟩,
  ⟨some 3, .move (.c (.int .i64 0)), none, []⟩] none [1])
(.seq (.seq (.ops [⟨some 8, .fldAddr 0 (.t 1), none, []⟩,
  ⟨some 9, .load none (.t 8), none, []⟩,
  ⟨some 10, .bin .lss (.t 9) (.c (.int .i64 0)), none, []⟩,
  ⟨some 11, .move (.t 10), none, []⟩,
  ⟨some 12, .fldAddr 0 (.t 1), (some (11, false)), []⟩,
  ⟨some 13, .load none (.t 12), (some (11, false)), []⟩,
  ⟨some 14, .bin .gtr (.t 13) (.c (.int .i64 8)), (some (11, false)), []⟩,
  ⟨some 15, .pick (.t 11) (.c (.bool true)) (.t 14), none, []⟩] none [1, 15])
(.cond (.t 15)
  (.seq (.ops [⟨some 2, .move (.c (.int .i64 0)), none, []⟩,
    ⟨some 3, .move (.c (.int .i64 1)), none, []⟩] none [2, 3])
  (.ret))
  (.skip)))
(.seq (.seq (.ops [⟨some 16, .fldAddr 1 (.t 1), none, []⟩,
  ⟨some 17, .load none (.t 16), none, []⟩,
  ⟨some 18, .len .sl (.t 17), none, []⟩,
  ⟨some 19, .bin .gtr (.t 18) (.c (.int .i64 8)), none, []⟩,
  ⟨some 20, .move (.t 19), none, []⟩,
  ⟨some 21, .fldAddr 2 (.t 1), (some (20, false)), []⟩,
  ⟨some 22, .load none (.t 21), (some (20, false)), []⟩,
  ⟨some 23, .len .sl (.t 22), (some (20, false)), []⟩,
  ⟨some 24, .bin .lss (.t 23) (.c (.int .i64 1)), (some (20, false)), []⟩,
  ⟨some 25, .pick (.t 20) (.c (.bool true)) (.t 24), none, []⟩,
  ⟨some 26, .move (.t 25), none, []⟩,
  ⟨some 27, .fldAddr 2 (.t 1), (some (26, false)), []⟩,
  ⟨some 28, .load none (.t 27), (some (26, false)), []⟩,
  ⟨some 29, .len .sl (.t 28), (some (26, false)), []⟩,
  ⟨some 30, .bin .gtr (.t 29) (.c (.int .i64 12)), (some (26, false)), []⟩,
  ⟨some 31, .pick (.t 26) (.c (.bool true)) (.t 30), none, []⟩] none [1, 31])
(.cond (.t 31)
  (.seq (.ops [⟨some 2, .move (.c (.int .i64 0)), none, []⟩,
    ⟨some 3, .move (.c (.int .i64 18)), none, []⟩] none [2, 3])
  (.ret))
  (.skip)))
(.seq (.seq (.ops [⟨some 32, .fldAddr 1 (.t 1), none, []⟩,
  ⟨some 33, .load none (.t 32), none, []⟩,
  ⟨some 34, .len .sl (.t 33), none, []⟩,
  ⟨some 35, .move (.c (.int .i64 0)), none, []⟩] none [1, 33, 34, 35])
(.block 0 (.loop [1, 33, 34, 35] (.seq (.ops [⟨some 36, .bin .lss (.t 35) (.t 34), none, []⟩] none [1, 33, 34, 35, 36])
    (.seq (.cond (.t 36)
      (.skip)
      (.exit 0))
    (.seq (.block 1 (.seq (.ops [⟨some 37, .idxAddr 2 (.t 33) (.t 35), none, []⟩,
        ⟨some 38, .load (some 2) (.t 37), none, []⟩,
        ⟨some 5, .alloc (.agg [(.int .i64 0), (.int .i64 0)]), none, []⟩,
        ⟨none, .store (some 2) (.t 5) (.t 38), none, []⟩] none [1, 5, 33, 34, 35])
      (.seq (.ops [⟨some 39, .fldAddr 0 (.t 5), none, []⟩,
        ⟨some 40, .load none (.t 39), none, []⟩,
        ⟨some 41, .bin .lss (.t 40) (.c (.int .i64 0)), none, []⟩,
        ⟨some 42, .move (.t 41), none, []⟩,
        ⟨some 43, .fldAddr 0 (.t 5), (some (42, false)), []⟩,
        ⟨some 44, .load none (.t 43), (some (42, false)), []⟩,
        ⟨some 45, .bin .gtr (.t 44) (.c (.int .i64 16)), (some (42, false)), []⟩,
        ⟨some 46, .pick (.t 42) (.c (.bool true)) (.t 45), none, []⟩,
        ⟨some 47, .move (.t 46), none, []⟩,
        ⟨some 48, .fldAddr 1 (.t 5), (some (47, false)), []⟩,
        ⟨some 49, .load none (.t 48), (some (47, false)), []⟩,
        ⟨some 50, .bin .lss (.t 49) (.c (.int .i64 (-1))), (some (47, false)), []⟩,
        ⟨some 51, .pick (.t 47) (.c (.bool true)) (.t 50), none, []⟩,
        ⟨some 52, .move (.t 51), none, []⟩,
        ⟨some 53, .fldAddr 1 (.t 5), (some (52, false)), []⟩,
        ⟨some 54, .load none (.t 53), (some (52, false)), []⟩,
        ⟨some 55, .fldAddr 2 (.t 1), (some (52, false)), []⟩,
        ⟨some 56, .load none (.t 55), (some (52, false)), []⟩,
        ⟨some 57, .len .sl (.t 56), (some (52, false)), []⟩,
        ⟨some 58, .bin .geq (.t 54) (.t 57), (some (52, false)), []⟩,
        ⟨some 59, .pick (.t 52) (.c (.bool true)) (.t 58), none, []⟩] none [1, 33, 34, 35, 59])
      (.cond (.t 59)
        (.seq (.ops [⟨some 2, .move (.c (.int .i64 0)), none, []⟩,
          ⟨some 3, .move (.c (.int .i64 1)), none, []⟩] none [2, 3])
        (.ret))
        (.skip)))))
    (.ops [⟨some 60, .bin .add (.t 35) (.c (.int .i64 1)), none, []⟩,
      ⟨some 35, .move (.t 60), none, []⟩] none [1, 33, 34, 35])))))))
(.seq (.skip)
(.seq (.seq (.ops [⟨some 61, .fldAddr 2 (.t 1), none, []⟩,
  ⟨some 62, .load none (.t 61), none, []⟩,
  ⟨some 63, .len .sl (.t 62), none, []⟩,
  ⟨some 64, .move (.c (.int .i64 0)), none, []⟩] none [1, 63, 64])
(.block 2 (.loop [1, 63, 64] (.seq (.ops [⟨some 65, .bin .lss (.t 64) (.t 63), none, []⟩] none [1, 63, 64, 65])
    (.seq (.cond (.t 65)
      (.skip)
      (.exit 2))
    (.seq (.block 3 (.seq (.ops [⟨some 66, .move (.t 64), none, []⟩,
        ⟨some 6, .move (.t 66), none, []⟩] none [1, 6, 63, 64])
      (.seq (.ops [⟨some 67, .load (some 3) (.t 1), none, []⟩,
        ⟨some 68, .move (.t 6), none, []⟩,
        ⟨some 69, .call 273 [(.t 67), (.t 68)], none, []⟩,
        ⟨some 7, .move (.t 69), none, []⟩] none [1, 6, 7, 63, 64])
      (.seq (.seq (.ops [⟨some 70, .move (.t 7), none, []⟩,
        ⟨some 71, .bin .eql (.t 70) (.c (.int .i64 0)), none, []⟩] none [1, 6, 7, 63, 64, 71])
      (.cond (.t 71)
        (.exit 3)
        (.skip)))
      (.seq (.ops [⟨some 72, .move (.t 6), none, []⟩,
        ⟨some 73, .move (.t 7), none, []⟩,
        ⟨some 2, .move (.t 72), none, []⟩,
        ⟨some 3, .move (.t 73), none, []⟩] none [2, 3])
      (.ret))))))
    (.ops [⟨some 74, .bin .add (.t 64) (.c (.int .i64 1)), none, []⟩,
      ⟨some 64, .move (.t 74), none, []⟩] none [1, 63, 64])))))))
(.seq (.ops [⟨some 2, .move (.c (.int .i64 0)), none, []⟩,
  ⟨some 3, .move (.c (.int .i64 0)), none, []⟩] none [2, 3])
(.ret))))))))
def f265 : SFunc := ⟨b265, [.t 2, .t 3]⟩

/-- watchbill/core.copied -/
def b317 : SCode := (
.seq (.ops [⟨some 1, .box (.t 0), none, []⟩,
  ⟨some 2, .alloc (.agg [(.int .i64 0), .nils, .nils]), none, []⟩] none [1, 2])
(.seq (.ops [⟨some 4, .fldAddr 1 (.t 1), none, []⟩,
  ⟨some 5, .load none (.t 4), none, []⟩,
  ⟨some 6, .call 335 [(.t 5)], none, []⟩,
  ⟨some 7, .fldAddr 1 (.t 1), none, []⟩,
  ⟨none, .store none (.t 7) (.t 6), none, []⟩] none [1, 2])
(.seq (.ops [⟨some 8, .fldAddr 2 (.t 1), none, []⟩,
  ⟨some 9, .load none (.t 8), none, []⟩,
  ⟨some 10, .call 336 [(.t 9)], none, []⟩,
  ⟨some 11, .fldAddr 2 (.t 1), none, []⟩,
  ⟨none, .store none (.t 11) (.t 10), none, []⟩] none [1, 2])
(.seq (.seq (.ops [⟨some 12, .fldAddr 2 (.t 1), none, []⟩,
  ⟨some 13, .load none (.t 12), none, []⟩,
  ⟨some 14, .len .sl (.t 13), none, []⟩,
  ⟨some 15, .move (.c (.int .i64 0)), none, []⟩] none [1, 2, 14, 15])
(.block 0 (.loop [1, 2, 14, 15] (.seq (.ops [⟨some 16, .bin .lss (.t 15) (.t 14), none, []⟩] none [1, 2, 14, 15, 16])
    (.seq (.cond (.t 16)
      (.skip)
      (.exit 0))
    (.seq (.block 1 (.seq (.ops [⟨some 17, .move (.t 15), none, []⟩,
        ⟨some 3, .move (.t 17), none, []⟩] none [1, 2, 3, 14, 15])
      (.ops [⟨some 18, .fldAddr 2 (.t 1), none, []⟩,
        ⟨some 19, .load none (.t 18), none, []⟩,
        ⟨some 20, .move (.t 3), none, []⟩,
        ⟨some 21, .fldAddr 2 (.t 1), none, []⟩,
        ⟨some 22, .load none (.t 21), none, []⟩,
        ⟨some 23, .move (.t 3), none, []⟩,
        ⟨some 24, .idxAddr 5 (.t 22) (.t 23), none, []⟩,
        ⟨some 25, .fldAddr 4 (.t 24), none, []⟩,
        ⟨some 26, .load none (.t 25), none, []⟩,
        ⟨some 27, .call 333 [(.t 26)], none, [1]⟩,
        ⟨some 28, .idxAddr 5 (.t 19) (.t 20), none, []⟩,
        ⟨some 29, .fldAddr 4 (.t 28), none, []⟩,
        ⟨none, .store none (.t 29) (.t 27), none, []⟩] (some [(0, []), (1, [0]), (2, []), (3, []), (4, [3]), (5, []), (6, [4, 3, 5]), (7, [6, 4, 3, 5]), (8, [7, 6, 4, 3, 5]), (9, [8, 7, 6, 4, 3, 5]), (10, [1, 0, 2, 3, 4, 5, 6, 7, 8, 9]), (11, [10, 1, 0, 2, 3, 4, 5, 6, 7, 8, 9]), (12, [11, 10, 1, 0, 2, 3, 4, 5, 6, 7, 8, 9])]) [1, 2, 14, 15])))
    (.ops [⟨some 30, .bin .add (.t 15) (.c (.int .i64 1)), none, []⟩,
      ⟨some 15, .move (.t 30), none, []⟩] none [1, 2, 14, 15])))))))
(.seq (.ops [⟨some 31, .load (some 3) (.t 1), none, []⟩,
  ⟨none, .store (some 3) (.t 2) (.t 31), none, []⟩] none [2])
(.ret))))))
def f317 : SFunc := ⟨b317, [.cell (some 3) 2]⟩

/-- watchbill/order.Prios -/
def b318 : SCode := (
.seq (.ops [⟨some 1, .box (.t 0), none, []⟩,
  ⟨some 2, .move (.c .nils), none, []⟩] none [1])
(.seq (.ops [⟨some 3, .move (.c .nils), none, []⟩] none [1, 3])
(.seq (.seq (.ops [⟨some 8, .fldAddr 2 (.t 1), none, []⟩,
  ⟨some 9, .load none (.t 8), none, []⟩,
  ⟨some 10, .len .sl (.t 9), none, []⟩,
  ⟨some 11, .move (.c (.int .i64 0)), none, []⟩] none [1, 3, 10, 11])
(.block 0 (.loop [1, 3, 10, 11] (.seq (.ops [⟨some 12, .bin .lss (.t 11) (.t 10), none, []⟩] none [1, 3, 10, 11, 12])
    (.seq (.cond (.t 12)
      (.skip)
      (.exit 0))
    (.seq (.block 1 (.seq (.ops [⟨some 13, .move (.t 11), none, []⟩,
        ⟨some 4, .move (.t 13), none, []⟩] none [1, 3, 4, 10, 11])
      (.ops [⟨some 14, .move (.t 3), none, []⟩,
        ⟨some 15, .move (.t 4), none, []⟩,
        ⟨some 16, .buildSl 1 [(.int .i64 0)] [(0, 1, (.t 15))], none, []⟩,
        ⟨some 17, .append 1 (.t 14) (.t 16), none, []⟩,
        ⟨some 3, .move (.t 17), none, []⟩] none [1, 3, 10, 11])))
    (.ops [⟨some 18, .bin .add (.t 11) (.c (.int .i64 1)), none, []⟩,
      ⟨some 11, .move (.t 18), none, []⟩] none [1, 3, 10, 11])))))))
(.seq (.ops [⟨some 19, .move (.t 3), none, []⟩,
  ⟨some 20, .mkfn 337 [(.t 1)], none, []⟩,
  ⟨some 21, .call 338 [(.t 19), (.t 20)], none, []⟩] none [3])
(.seq (.ops [⟨some 22, .move (.t 3), none, []⟩,
  ⟨some 23, .len .sl (.t 22), none, []⟩,
  ⟨some 24, .mksl [(.int .i64 0)] (.t 23) (.t 23), none, []⟩,
  ⟨some 5, .move (.t 24), none, []⟩] none [3, 5])
(.seq (.seq (.ops [⟨some 25, .move (.t 3), none, []⟩,
  ⟨some 26, .len .sl (.t 25), none, []⟩,
  ⟨some 27, .move (.c (.int .i64 0)), none, []⟩] none [3, 5, 25, 26, 27])
(.block 2 (.loop [3, 5, 25, 26, 27] (.seq (.ops [⟨some 28, .bin .lss (.t 27) (.t 26), none, []⟩] none [3, 5, 25, 26, 27, 28])
    (.seq (.cond (.t 28)
      (.skip)
      (.exit 2))
    (.seq (.block 3 (.seq (.ops [⟨some 29, .move (.t 27), none, []⟩,
        ⟨some 30, .idxAddr 1 (.t 25) (.t 27), none, []⟩,
        ⟨some 31, .load none (.t 30), none, []⟩,
        ⟨some 6, .move (.t 29), none, []⟩,
        ⟨some 7, .move (.t 31), none, []⟩] none [3, 5, 6, 7, 25, 26, 27])
      (.ops [⟨some 32, .move (.t 5), none, []⟩,
        ⟨some 33, .move (.t 7), none, []⟩,
        ⟨some 34, .move (.t 3), none, []⟩,
        ⟨some 35, .len .sl (.t 34), none, []⟩,
        ⟨some 36, .move (.t 6), none, []⟩,
        ⟨some 37, .bin .sub (.t 35) (.t 36), none, []⟩,
        ⟨some 38, .idxAddr 1 (.t 32) (.t 33), none, []⟩,
        ⟨none, .store none (.t 38) (.t 37), none, []⟩] none [3, 5, 25, 26, 27])))
    (.ops [⟨some 39, .bin .add (.t 27) (.c (.int .i64 1)), none, []⟩,
      ⟨some 27, .move (.t 39), none, []⟩] none [3, 5, 25, 26, 27])))))))
(.seq (.ops [⟨some 40, .move (.t 5), none, []⟩,
  ⟨some 2, .move (.t 40), none, []⟩] none [2])
(.ret))))))))
def f318 : SFunc := ⟨b318, [.t 2]⟩

/-- watchbill/ceil.Of -/
def b319 : SCode := (
.seq (.ops [⟨some 1, .box (.t 0), none, []⟩,
  ⟨some 2, .move (.c .nils), none, []⟩] none [1])
(.seq (.ops [⟨some 8, .load (some 3) (.t 1), none, []⟩,
  ⟨some 9, .call 318 [(.t 8)], none, []⟩,
  ⟨some 3, .move (.t 9), none, []⟩] none [1, 3])
(.seq (.ops [⟨some 10, .fldAddr 0 (.t 1), none, []⟩,
  ⟨some 11, .load none (.t 10), none, []⟩,
  ⟨some 12, .mx [(.t 11), (.c (.int .i64 0))], none, []⟩,
  ⟨some 13, .mksl [(.int .i64 0)] (.t 12) (.t 12), none, []⟩,
  ⟨some 4, .move (.t 13), none, []⟩] none [1, 3, 4])
(.seq (.skip)
(.seq (.seq (.ops [⟨some 14, .move (.t 4), none, []⟩,
  ⟨some 15, .len .sl (.t 14), none, []⟩,
  ⟨some 16, .move (.c (.int .i64 0)), none, []⟩] none [1, 3, 4, 15, 16])
(.block 0 (.loop [1, 3, 4, 15, 16] (.seq (.ops [⟨some 17, .bin .lss (.t 16) (.t 15), none, []⟩] none [1, 3, 4, 15, 16, 17])
    (.seq (.cond (.t 17)
      (.skip)
      (.exit 0))
    (.seq (.block 1 (.seq (.ops [⟨some 18, .move (.t 16), none, []⟩,
        ⟨some 5, .move (.t 18), none, []⟩] none [1, 3, 4, 5, 15, 16])
      (.seq (.ops [⟨some 19, .fldAddr 2 (.t 1), none, []⟩,
        ⟨some 20, .load none (.t 19), none, []⟩,
        ⟨some 21, .len .sl (.t 20), none, []⟩,
        ⟨some 22, .move (.c (.int .i64 0)), none, []⟩] none [1, 3, 4, 5, 15, 16, 20, 21, 22])
      (.block 2 (.loop [1, 3, 4, 5, 15, 16, 20, 21, 22] (.seq (.ops [⟨some 23, .bin .lss (.t 22) (.t 21), none, []⟩] none [1, 3, 4, 5, 15, 16, 20, 21, 22, 23])
          (.seq (.cond (.t 23)
            (.skip)
            (.exit 2))
          (.seq (.block 3 (.seq (.ops [⟨some 24, .move (.t 22), none, []⟩,
              ⟨some 25, .idxAddr 5 (.t 20) (.t 22), none, []⟩,
              ⟨some 26, .load (some 5) (.t 25), none, []⟩,
              ⟨some 7, .alloc (.agg [(.str []), (.int .i64 0), (.int .i64 0), (.int .i64 0), .nils]), none, []⟩,
              ⟨some 6, .move (.t 24), none, []⟩,
              ⟨none, .store (some 5) (.t 7) (.t 26), none, []⟩] none [1, 3, 4, 5, 6, 7, 15, 16, 20, 21, 22])
            (.seq (.seq (.ops [⟨some 27, .fldAddr 4 (.t 7), none, []⟩,
              ⟨some 28, .load none (.t 27), none, []⟩,
              ⟨some 29, .call 339 [(.t 28)], none, []⟩,
              ⟨some 30, .move (.t 5), none, []⟩,
              ⟨some 31, .call 340 [(.t 29), (.t 30)], none, []⟩,
              ⟨some 32, .not (.t 31), none, []⟩] none [1, 3, 4, 5, 6, 15, 16, 20, 21, 22, 32])
            (.cond (.t 32)
              (.exit 3)
              (.skip)))
            (.seq (.ops [⟨some 33, .move (.t 4), none, []⟩,
              ⟨some 34, .move (.t 5), none, []⟩,
              ⟨some 35, .move (.t 4), none, []⟩,
              ⟨some 36, .move (.t 5), none, []⟩,
              ⟨some 37, .idxAddr 1 (.t 35) (.t 36), none, []⟩,
              ⟨some 38, .load none (.t 37), none, []⟩,
              ⟨some 39, .move (.t 3), none, []⟩,
              ⟨some 40, .move (.t 6), none, []⟩,
              ⟨some 41, .idxAddr 1 (.t 39) (.t 40), none, []⟩,
              ⟨some 42, .load none (.t 41), none, []⟩,
              ⟨some 43, .mx [(.t 38), (.t 42)], none, []⟩,
              ⟨some 44, .idxAddr 1 (.t 33) (.t 34), none, []⟩,
              ⟨none, .store none (.t 44) (.t 43), none, []⟩] (some [(0, []), (1, []), (2, []), (3, []), (4, [2, 3]), (5, [4, 2, 3]), (6, []), (7, []), (8, [6, 7]), (9, [8, 6, 7]), (10, [5, 4, 2, 3, 9, 8, 6, 7]), (11, [0, 1, 2, 3, 4, 5, 6, 7, 8, 9, 10]), (12, [11, 0, 1, 2, 3, 4, 5, 6, 7, 8, 9, 10])]) [1, 3, 4, 5, 15, 16, 20, 21, 22])
            (.seq (.ops [⟨some 45, .move (.t 4), none, []⟩,
              ⟨some 46, .move (.t 5), none, []⟩,
              ⟨some 47, .idxAddr 1 (.t 45) (.t 46), none, []⟩,
              ⟨some 48, .load none (.t 47), none, []⟩,
              ⟨some 49, .move (.t 3), none, []⟩,
              ⟨some 50, .len .sl (.t 49), none, []⟩,
              ⟨some 51, .bin .eql (.t 48) (.t 50), none, []⟩] none [1, 3, 4, 5, 15, 16, 20, 21, 22, 51])
            (.cond (.t 51)
              (.exit 1)
              (.skip)))))))
          (.ops [⟨some 52, .bin .add (.t 22) (.c (.int .i64 1)), none, []⟩,
            ⟨some 22, .move (.t 52), none, []⟩] none [1, 3, 4, 5, 15, 16, 20, 21, 22])))))))))
    (.ops [⟨some 53, .bin .add (.t 16) (.c (.int .i64 1)), none, []⟩,
      ⟨some 16, .move (.t 53), none, []⟩] none [1, 3, 4, 15, 16])))))))
(.seq (.ops [⟨some 54, .move (.t 4), none, []⟩,
  ⟨some 2, .move (.t 54), none, []⟩] none [2])
(.ret)))))))
def f319 : SFunc := ⟨b319, [.t 2]⟩

/-- watchbill/guard.New -/
def b5 : SCode := (
.seq (.ops [⟨some 1, .box (.t 0), none, []⟩,
  ⟨some 2, .move (.c .nilp), none, []⟩] none [1])
(.seq (.ops [⟨some 5, .mkmap, none, []⟩,
  ⟨some 6, .build [.nils, .nilm, (.int .i64 0)] [(1, 1, (.t 5))], none, []⟩,
  ⟨some 7, .box (.t 6), none, []⟩,
  ⟨some 3, .move (.t 7), none, []⟩] none [1, 3])
(.seq (.skip)
(.seq (.block 0 (.loop [1, 3] (.block 1 (.seq (.ops [⟨some 8, .move (.t 3), none, []⟩,
        ⟨some 9, .nilck (.t 8), none, []⟩,
        ⟨some 10, .fldAddr 0 (.t 9), none, []⟩,
        ⟨some 11, .load none (.t 10), none, []⟩,
        ⟨some 12, .len .sl (.t 11), none, []⟩,
        ⟨some 4, .move (.t 12), none, []⟩] none [1, 3, 4])
      (.seq (.seq (.ops [⟨some 13, .move (.t 4), none, []⟩,
        ⟨some 14, .fldAddr 2 (.t 1), none, []⟩,
        ⟨some 15, .load none (.t 14), none, []⟩,
        ⟨some 16, .len .sl (.t 15), none, []⟩,
        ⟨some 17, .bin .eql (.t 13) (.t 16), none, []⟩] none [1, 3, 4, 17])
      (.cond (.t 17)
        (.exit 0)
        (.skip)))
      (.ops [⟨some 18, .move (.t 3), none, []⟩,
        ⟨some 19, .move (.t 3), none, []⟩,
        ⟨some 20, .nilck (.t 19), none, []⟩,
        ⟨some 21, .fldAddr 0 (.t 20), none, []⟩,
        ⟨some 22, .load none (.t 21), none, []⟩,
        ⟨some 23, .fldAddr 2 (.t 1), none, []⟩,
        ⟨some 24, .load none (.t 23), none, []⟩,
        ⟨some 25, .move (.t 4), none, []⟩,
        ⟨some 26, .idxAddr 5 (.t 24) (.t 25), none, []⟩,
        ⟨some 27, .fldAddr 1 (.t 26), none, []⟩,
        ⟨some 28, .load none (.t 27), none, []⟩,
        ⟨some 29, .buildSl 1 [(.int .i64 0)] [(0, 1, (.t 28))], none, []⟩,
        ⟨some 30, .append 1 (.t 22) (.t 29), none, []⟩,
        ⟨some 31, .nilck (.t 18), none, []⟩,
        ⟨some 32, .fldAddr 0 (.t 31), none, []⟩,
        ⟨none, .store none (.t 32) (.t 30), none, []⟩] (some [(0, []), (1, []), (2, [1]), (3, [2, 1]), (4, [3, 2, 1]), (5, []), (6, [5]), (7, []), (8, [6, 5, 7]), (9, [8, 6, 5, 7]), (10, [9, 8, 6, 5, 7]), (11, [10, 9, 8, 6, 5, 7]), (12, [4, 3, 2, 1, 11, 10, 9, 8, 6, 5, 7]), (13, [0, 1, 2, 3, 4, 5, 6, 7, 8, 9, 10, 11, 12]), (14, [13, 0, 1, 2, 3, 4, 5, 6, 7, 8, 9, 10, 11, 12]), (15, [14, 13, 0, 1, 2, 3, 4, 5, 6, 7, 8, 9, 10, 11, 12])]) [1, 3]))))))
(.seq (.ops [⟨some 33, .move (.t 3), none, []⟩,
  ⟨some 2, .move (.t 33), none, []⟩] none [2])
(.ret))))))
def f5 : SFunc := ⟨b5, [.t 2]⟩

/-- watchbill/timer.New -/
def b320 : SCode := (
.seq (.ops [⟨some 0, .move (.c .nilp), none, []⟩] none [])
(.seq (.ops [⟨some 1, .build [.nils] [], none, []⟩,
  ⟨some 2, .box (.t 1), none, []⟩,
  ⟨some 0, .move (.t 2), none, []⟩] none [0])
(.ret)))
def f320 : SFunc := ⟨b320, [.t 0]⟩

/-- watchbill/chanq.New -/
def b321 : SCode := (
.seq (.ops [⟨some 2, .move (.c .nilp), none, []⟩,
  ⟨some 3, .move (.c (.int .i64 0)), none, []⟩] none [0])
(.seq (.ops [⟨some 7, .move (.t 0), none, []⟩,
  ⟨some 8, .call 341 [(.t 7)], none, []⟩,
  ⟨some 6, .move (.t 8), none, []⟩,
  ⟨some 9, .ext 0 (.t 6), none, []⟩,
  ⟨some 10, .ext 1 (.t 6), none, []⟩,
  ⟨some 4, .move (.t 9), none, []⟩,
  ⟨some 5, .move (.t 10), none, []⟩] none [4, 5])
(.seq (.seq (.ops [⟨some 11, .move (.t 5), none, []⟩,
  ⟨some 12, .bin .neq (.t 11) (.c (.int .i64 0)), none, []⟩] none [4, 5, 12])
(.cond (.t 12)
  (.seq (.ops [⟨some 13, .move (.t 5), none, []⟩,
    ⟨some 2, .move (.c .nilp), none, []⟩,
    ⟨some 3, .move (.t 13), none, []⟩] none [2, 3])
  (.ret))
  (.skip)))
(.seq (.ops [⟨some 14, .move (.t 4), none, []⟩,
  ⟨some 15, .build [.nilp, .nils, .nils, (.bool false)] [(0, 1, (.t 14))], none, []⟩,
  ⟨some 16, .box (.t 15), none, []⟩,
  ⟨some 2, .move (.t 16), none, []⟩,
  ⟨some 3, .move (.c (.int .i64 0)), none, []⟩] none [2, 3])
(.ret)))))
def f321 : SFunc := ⟨b321, [.t 2, .t 3]⟩

/-- watchbill/lockq.New -/
def b322 : SCode := (
.seq (.ops [⟨some 0, .move (.c .nilp), none, []⟩] none [])
(.seq (.ops [⟨some 1, .build [(.int .i64 0), .nils] [(0, 1, (.c (.int .i64 (-1))))], none, []⟩,
  ⟨some 2, .box (.t 1), none, []⟩,
  ⟨some 0, .move (.t 2), none, []⟩] none [0])
(.ret)))
def f322 : SFunc := ⟨b322, [.t 0]⟩

/-- (*watchbill/core.Core).known -/
def b323 : SCode := (
.seq (.ops [⟨some 4, .move (.c (.bool false)), none, []⟩] none [0, 1])
(.seq (.ops [⟨some 5, .move (.t 1), none, []⟩,
  ⟨some 6, .bin .geq (.t 5) (.c (.int .i64 0)), none, []⟩,
  ⟨some 7, .move (.t 6), none, []⟩,
  ⟨some 8, .move (.t 1), (some (7, true)), []⟩,
  ⟨some 9, .move (.t 0), (some (7, true)), []⟩,
  ⟨some 10, .nilck (.t 9), (some (7, true)), []⟩,
  ⟨some 11, .fldAddr 5 (.t 10), (some (7, true)), []⟩,
  ⟨some 12, .load none (.t 11), (some (7, true)), []⟩,
  ⟨some 13, .len .sl (.t 12), (some (7, true)), []⟩,
  ⟨some 14, .bin .lss (.t 8) (.t 13), (some (7, true)), []⟩,
  ⟨some 15, .pick (.t 7) (.t 14) (.c (.bool false)), none, []⟩,
  ⟨some 4, .move (.t 15), none, []⟩] none [4])
(.ret)))
def f323 : SFunc := ⟨b323, [.t 4]⟩

/-- (*watchbill/guard.Guard).Ask -/
def b6 : SCode := (
.seq (.ops [⟨some 8, .move (.c (.int .i64 0)), none, []⟩] none [0, 1, 2, 3])
(.seq (.seq (.ops [⟨some 11, .move (.t 1), none, []⟩,
  ⟨some 12, .bin .lss (.t 11) (.c (.int .i64 0)), none, []⟩,
  ⟨some 13, .move (.t 12), none, []⟩,
  ⟨some 14, .move (.t 1), (some (13, false)), []⟩,
  ⟨some 15, .move (.t 0), (some (13, false)), []⟩,
  ⟨some 16, .nilck (.t 15), (some (13, false)), []⟩,
  ⟨some 17, .fldAddr 0 (.t 16), (some (13, false)), []⟩,
  ⟨some 18, .load none (.t 17), (some (13, false)), []⟩,
  ⟨some 19, .len .sl (.t 18), (some (13, false)), []⟩,
  ⟨some 20, .bin .geq (.t 14) (.t 19), (some (13, false)), []⟩,
  ⟨some 21, .pick (.t 13) (.c (.bool true)) (.t 20), none, []⟩] none [0, 1, 2, 3, 21])
(.cond (.t 21)
  (.seq (.ops [⟨some 8, .move (.c (.int .i64 3)), none, []⟩] none [8])
  (.ret))
  (.skip)))
(.seq (.seq (.ops [⟨some 22, .move (.t 2), none, []⟩,
  ⟨some 23, .move (.t 0), none, []⟩,
  ⟨some 24, .nilck (.t 23), none, []⟩,
  ⟨some 25, .fldAddr 2 (.t 24), none, []⟩,
  ⟨some 26, .load none (.t 25), none, []⟩,
  ⟨some 27, .bin .lss (.t 22) (.t 26), none, []⟩,
  ⟨some 28, .move (.t 27), none, []⟩,
  ⟨some 29, .move (.t 2), (some (28, false)), []⟩,
  ⟨some 30, .bin .lss (.t 29) (.c (.int .i64 0)), (some (28, false)), []⟩,
  ⟨some 31, .pick (.t 28) (.c (.bool true)) (.t 30), none, []⟩,
  ⟨some 32, .move (.t 31), none, []⟩,
  ⟨some 33, .move (.t 2), (some (32, false)), []⟩,
  ⟨some 34, .bin .gtr (.t 33) (.c (.int .i64 1099511627776)), (some (32, false)), []⟩,
  ⟨some 35, .pick (.t 32) (.c (.bool true)) (.t 34), none, []⟩] none [0, 1, 2, 3, 35])
(.cond (.t 35)
  (.seq (.ops [⟨some 8, .move (.c (.int .i64 1)), none, []⟩] none [8])
  (.ret))
  (.skip)))
(.seq (.ops [⟨some 37, .move (.t 0), none, []⟩,
  ⟨some 38, .nilck (.t 37), none, []⟩,
  ⟨some 39, .fldAddr 1 (.t 38), none, []⟩,
  ⟨some 40, .load none (.t 39), none, []⟩,
  ⟨some 41, .move (.t 1), none, []⟩,
  ⟨some 42, .lookup true .i (.int .i64 0) (.t 40) (.t 41), none, []⟩,
  ⟨some 36, .move (.t 42), none, []⟩,
  ⟨some 43, .ext 0 (.t 36), none, []⟩,
  ⟨some 44, .ext 1 (.t 36), none, []⟩,
  ⟨some 9, .move (.t 43), none, []⟩,
  ⟨some 10, .move (.t 44), none, []⟩] none [0, 1, 2, 3, 9, 10])
(.seq (.block 0 (.seq (.ops [⟨some 46, .move (.t 10), none, []⟩,
    ⟨some 47, .move (.t 46), none, []⟩,
    ⟨some 48, .move (.t 2), (some (47, true)), []⟩,
    ⟨some 49, .move (.t 9), (some (47, true)), []⟩,
    ⟨some 50, .bin .sub (.t 48) (.t 49), (some (47, true)), []⟩,
    ⟨some 51, .move (.t 0), (some (47, true)), []⟩,
    ⟨some 52, .nilck (.t 51), (some (47, true)), []⟩,
    ⟨some 53, .fldAddr 0 (.t 52), (some (47, true)), []⟩,
    ⟨some 54, .load none (.t 53), (some (47, true)), []⟩,
    ⟨some 55, .move (.t 1), (some (47, true)), []⟩,
    ⟨some 56, .idxAddr 1 (.t 54) (.t 55), (some (47, true)), []⟩,
    ⟨some 57, .load none (.t 56), (some (47, true)), []⟩,
    ⟨some 58, .bin .lss (.t 50) (.t 57), (some (47, true)), []⟩,
    ⟨some 59, .pick (.t 47) (.t 58) (.c (.bool false)), none, []⟩,
    ⟨some 45, .move (.t 59), none, []⟩] none [0, 1, 2, 3, 45])
  (.cond (.t 45)
    (.seq (.ops [⟨some 8, .move (.c (.int .i64 12)), none, []⟩] none [8])
    (.ret))
    (.seq (.ops [⟨some 61, .move (.t 3), none, []⟩,
      ⟨some 60, .move (.t 61), none, []⟩] none [0, 1, 2, 60])
    (.cond (.t 60)
      (.seq (.ops [⟨some 8, .move (.c (.int .i64 10)), none, []⟩] none [8])
      (.ret))
      (.skip))))))
(.seq (.ops [⟨some 62, .move (.t 0), none, []⟩,
  ⟨some 63, .nilck (.t 62), none, []⟩,
  ⟨some 64, .fldAddr 1 (.t 63), none, []⟩,
  ⟨some 65, .load none (.t 64), none, []⟩,
  ⟨some 66, .move (.t 1), none, []⟩,
  ⟨some 67, .move (.t 0), none, []⟩,
  ⟨some 68, .move (.t 2), none, []⟩,
  ⟨some 69, .move (.t 2), none, []⟩,
  ⟨some 70, .mapent .i (.int .i64 0) (.t 65) (.t 66), none, []⟩,
  ⟨some 71, .ext 1 (.t 70), none, []⟩,
  ⟨none, .entst (.t 65) (.t 71) (.t 68), none, []⟩,
  ⟨some 72, .nilck (.t 67), none, []⟩,
  ⟨some 73, .fldAddr 2 (.t 72), none, []⟩,
  ⟨none, .store none (.t 73) (.t 69), none, []⟩] none [])
(.seq (.ops [⟨some 8, .move (.c (.int .i64 0)), none, []⟩] none [8])
(.ret))))))))
def f6 : SFunc := ⟨b6, [.t 8]⟩

/-- watchbill/job.New -/
def b48 : SCode := (
.seq (.ops [⟨some 8, .alloc (.agg [(.bool false), .nils, (.int .i64 0), (.int .i64 0), (.int .i64 0), (.int .i64 0), (.int .i64 0), (.int .i64 0), (.bool false), .nils]), none, []⟩] none [0, 1, 2, 3, 8])
(.seq (.ops [⟨some 9, .move (.t 0), none, []⟩,
  ⟨some 10, .call 65 [(.t 9)], none, []⟩,
  ⟨some 11, .move (.t 1), none, []⟩,
  ⟨some 12, .move (.t 2), none, []⟩,
  ⟨some 13, .move (.t 3), none, []⟩,
  ⟨some 14, .build [(.bool false), .nils, (.int .i64 0), (.int .i64 0), (.int .i64 0), (.int .i64 0), (.int .i64 0), (.int .i64 0), (.bool false), .nils] [(0, 1, (.c (.bool true))), (1, 1, (.t 10)), (5, 1, (.t 11)), (6, 1, (.t 12)), (7, 1, (.t 13))], none, []⟩,
  ⟨none, .store (some 10) (.t 8) (.t 14), none, []⟩] none [8])
(.ret)))
def f48 : SFunc := ⟨b48, [.cell (some 10) 8]⟩

/-- (*watchbill/core.Core).next -/
def b324 : SCode := (
.seq (.ops [⟨some 2, .move (.c (.int .i64 0)), none, []⟩] none [0])
(.seq (.ops [⟨some 3, .move (.t 0), none, []⟩,
  ⟨some 4, .nilck (.t 3), none, []⟩,
  ⟨some 5, .fldAddr 11 (.t 4), none, []⟩,
  ⟨some 6, .load none (.t 5), none, []⟩,
  ⟨some 7, .bin .add (.t 6) (.c (.int .i64 1)), none, []⟩,
  ⟨some 8, .nilck (.t 3), none, []⟩,
  ⟨some 9, .fldAddr 11 (.t 8), none, []⟩,
  ⟨none, .store none (.t 9) (.t 7), none, []⟩] none [0])
(.seq (.ops [⟨some 10, .move (.t 0), none, []⟩,
  ⟨some 11, .nilck (.t 10), none, []⟩,
  ⟨some 12, .fldAddr 11 (.t 11), none, []⟩,
  ⟨some 13, .load none (.t 12), none, []⟩,
  ⟨some 2, .move (.t 13), none, []⟩] none [2])
(.ret))))
def f324 : SFunc := ⟨b324, [.t 2]⟩

/-- watchbill/job.Now -/
def b30 : SCode := (
.seq (.ops [⟨some 1, .box (.t 0), none, []⟩,
  ⟨some 2, .alloc (.agg [(.int .i64 0), (.int .i64 0), (.int .i64 0), (.int .i64 0), .nils]), none, []⟩,
  ⟨some 3, .move (.c (.bool false)), none, []⟩] none [1, 2])
(.seq (.seq (.ops [⟨some 4, .fldAddr 0 (.t 1), none, []⟩,
  ⟨some 5, .load none (.t 4), none, []⟩,
  ⟨some 6, .not (.t 5), none, []⟩,
  ⟨some 7, .move (.t 6), none, []⟩,
  ⟨some 8, .fldAddr 2 (.t 1), (some (7, false)), []⟩,
  ⟨some 9, .load none (.t 8), (some (7, false)), []⟩,
  ⟨some 10, .bin .lss (.t 9) (.c (.int .i64 0)), (some (7, false)), []⟩,
  ⟨some 11, .pick (.t 7) (.c (.bool true)) (.t 10), none, []⟩,
  ⟨some 12, .move (.t 11), none, []⟩,
  ⟨some 13, .fldAddr 2 (.t 1), (some (12, false)), []⟩,
  ⟨some 14, .load none (.t 13), (some (12, false)), []⟩,
  ⟨some 15, .fldAddr 1 (.t 1), (some (12, false)), []⟩,
  ⟨some 16, .load none (.t 15), (some (12, false)), []⟩,
  ⟨some 17, .len .sl (.t 16), (some (12, false)), []⟩,
  ⟨some 18, .bin .geq (.t 14) (.t 17), (some (12, false)), []⟩,
  ⟨some 19, .pick (.t 12) (.c (.bool true)) (.t 18), none, []⟩] none [1, 2, 19])
(.cond (.t 19)
  (.seq (.ops [⟨some 20, .build [(.int .i64 0), (.int .i64 0), (.int .i64 0), (.int .i64 0), .nils] [], none, []⟩,
    ⟨none, .store (some 5) (.t 2) (.t 20), none, []⟩,
    ⟨some 3, .move (.c (.bool false)), none, []⟩] none [2, 3])
  (.ret))
  (.skip)))
(.seq (.ops [⟨some 21, .fldAddr 1 (.t 1), none, []⟩,
  ⟨some 22, .load none (.t 21), none, []⟩,
  ⟨some 23, .fldAddr 2 (.t 1), none, []⟩,
  ⟨some 24, .load none (.t 23), none, []⟩,
  ⟨some 25, .idxAddr 5 (.t 22) (.t 24), none, []⟩,
  ⟨some 26, .load (some 5) (.t 25), none, []⟩,
  ⟨none, .store (some 5) (.t 2) (.t 26), none, []⟩,
  ⟨some 3, .move (.c (.bool true)), none, []⟩] none [2, 3])
(.ret))))
def f30 : SFunc := ⟨b30, [.cell (some 5) 2, .t 3]⟩

/-- (*watchbill/core.Core).begin -/
def b325 : SCode := (
.seq (.ops [⟨some 6, .move (.c .nils), none, []⟩] none [0, 1, 2])
(.seq (.ops [⟨some 10, .move (.t 0), none, []⟩,
  ⟨some 11, .nilck (.t 10), none, []⟩,
  ⟨some 12, .fldAddr 5 (.t 11), none, []⟩,
  ⟨some 13, .load none (.t 12), none, []⟩,
  ⟨some 14, .move (.t 2), none, []⟩,
  ⟨some 15, .idxAddr 10 (.t 13) (.t 14), none, []⟩,
  ⟨some 16, .load (some 10) (.t 15), none, []⟩,
  ⟨some 17, .call 36 [(.t 16)], none, []⟩,
  ⟨some 9, .move (.t 17), none, []⟩,
  ⟨some 18, .ext 0 (.t 9), none, []⟩,
  ⟨some 19, .ext 1 (.t 9), none, []⟩,
  ⟨some 7, .alloc (.agg [(.bool false), .nils, (.int .i64 0), (.int .i64 0), (.int .i64 0), (.int .i64 0), (.int .i64 0), (.int .i64 0), (.bool false), .nils]), none, []⟩,
  ⟨none, .store (some 10) (.t 7) (.t 18), none, []⟩,
  ⟨some 8, .move (.t 19), none, []⟩] none [0, 1, 2, 7, 8])
(.seq (.seq (.ops [⟨some 20, .move (.t 8), none, []⟩,
  ⟨some 21, .not (.t 20), none, []⟩] none [0, 1, 2, 7, 21])
(.cond (.t 21)
  (.seq (.ops [⟨some 22, .move (.t 0), none, []⟩,
    ⟨some 23, .move (.t 1), none, []⟩,
    ⟨some 24, .move (.t 2), none, []⟩,
    ⟨some 25, .call 332 [(.t 22), (.t 23), (.t 24)], none, []⟩,
    ⟨some 6, .move (.t 25), none, []⟩] none [6])
  (.ret))
  (.skip)))
(.seq (.ops [⟨some 26, .move (.t 0), none, []⟩,
  ⟨some 27, .nilck (.t 26), none, []⟩,
  ⟨some 28, .fldAddr 5 (.t 27), none, []⟩,
  ⟨some 29, .load none (.t 28), none, []⟩,
  ⟨some 30, .move (.t 2), none, []⟩,
  ⟨some 31, .load (some 10) (.t 7), none, []⟩,
  ⟨some 32, .idxAddr 10 (.t 29) (.t 30), none, []⟩,
  ⟨none, .store (some 10) (.t 32) (.t 31), none, []⟩] (some [(0, []), (1, [0]), (2, [1, 0]), (3, [2, 1, 0]), (4, []), (5, []), (6, [3, 2, 1, 0, 4, 5]), (7, [6, 3, 2, 1, 0, 4, 5])]) [])
(.seq (.ops [⟨some 6, .move (.c .nils), none, []⟩] none [6])
(.ret))))))
def f325 : SFunc := ⟨b325, [.t 6]⟩

/-- (*watchbill/core.Core).lock -/
def b326 : SCode := (
.seq (.ops [⟨some 7, .box (.t 3), none, []⟩,
  ⟨some 8, .move (.c .nils), none, []⟩] none [0, 1, 2, 7])
(.seq (.ops [⟨some 12, .move (.t 0), none, []⟩,
  ⟨some 13, .nilck (.t 12), none, []⟩,
  ⟨some 14, .fldAddr 7 (.t 13), none, []⟩,
  ⟨some 15, .load none (.t 14), none, []⟩,
  ⟨some 16, .fldAddr 1 (.t 7), none, []⟩,
  ⟨some 17, .load none (.t 16), none, []⟩,
  ⟨some 18, .idxAddr 1 (.t 15) (.t 17), none, []⟩,
  ⟨some 19, .load none (.t 18), none, []⟩,
  ⟨some 20, .move (.t 2), none, []⟩,
  ⟨some 21, .move (.t 0), none, []⟩,
  ⟨some 22, .nilck (.t 21), none, []⟩,
  ⟨some 23, .fldAddr 11 (.t 22), none, []⟩,
  ⟨some 24, .load none (.t 23), none, []⟩,
  ⟨some 25, .bin .add (.t 24) (.c (.int .i64 1)), none, []⟩,
  ⟨some 26, .call 342 [(.t 19), (.t 20), (.t 25)], none, []⟩,
  ⟨some 11, .move (.t 26), none, []⟩,
  ⟨some 27, .ext 0 (.t 11), none, []⟩,
  ⟨some 28, .ext 1 (.t 11), none, []⟩,
  ⟨some 9, .move (.t 27), none, []⟩,
  ⟨some 10, .move (.t 28), none, []⟩] (some [(0, []), (1, [0]), (2, [1, 0]), (3, [2, 1, 0]), (4, []), (5, [4]), (6, [3, 2, 1, 0, 5, 4]), (7, [6, 3, 2, 1, 0, 5, 4]), (8, []), (9, []), (10, [9]), (11, [10, 9]), (12, [11, 10, 9]), (13, [12, 11, 10, 9]), (14, [7, 6, 3, 2, 1, 0, 5, 4, 8, 13, 12, 11, 10, 9]), (15, [14, 7, 6, 3, 2, 1, 0, 5, 4, 8, 13, 12, 11, 10, 9]), (16, [15, 14, 7, 6, 3, 2, 1, 0, 5, 4, 8, 13, 12, 11, 10, 9]), (17, [15, 14, 7, 6, 3, 2, 1, 0, 5, 4, 8, 13, 12, 11, 10, 9]), (18, [16, 15, 14, 7, 6, 3, 2, 1, 0, 5, 4, 8, 13, 12, 11, 10, 9]), (19, [17, 15, 14, 7, 6, 3, 2, 1, 0, 5, 4, 8, 13, 12, 11, 10, 9, 18, 16])]) [0, 1, 2, 7, 9])
(.seq (.seq (.ops [⟨some 29, .move (.t 9), none, []⟩,
  ⟨some 30, .not (.t 29), none, []⟩] none [0, 1, 2, 7, 30])
(.cond (.t 30)
  (.seq (.ops [⟨some 31, .move (.t 0), none, []⟩,
    ⟨some 32, .call 324 [(.t 31)], none, []⟩] none [0, 1, 2])
  (.seq (.ops [⟨some 33, .move (.t 0), none, []⟩,
    ⟨some 34, .move (.t 1), none, []⟩,
    ⟨some 35, .move (.t 2), none, []⟩,
    ⟨some 36, .call 343 [(.t 33), (.t 34), (.t 35)], none, []⟩,
    ⟨some 8, .move (.t 36), none, []⟩] none [8])
  (.ret)))
  (.skip)))
(.seq (.ops [⟨some 37, .move (.t 0), none, []⟩,
  ⟨some 38, .nilck (.t 37), none, []⟩,
  ⟨some 39, .fldAddr 5 (.t 38), none, []⟩,
  ⟨some 40, .load none (.t 39), none, []⟩,
  ⟨some 41, .move (.t 2), none, []⟩,
  ⟨some 42, .move (.t 0), none, []⟩,
  ⟨some 43, .nilck (.t 42), none, []⟩,
  ⟨some 44, .fldAddr 5 (.t 43), none, []⟩,
  ⟨some 45, .load none (.t 44), none, []⟩,
  ⟨some 46, .move (.t 2), none, []⟩,
  ⟨some 47, .idxAddr 10 (.t 45) (.t 46), none, []⟩,
  ⟨some 48, .load (some 10) (.t 47), none, []⟩,
  ⟨some 49, .fldAddr 1 (.t 7), none, []⟩,
  ⟨some 50, .load none (.t 49), none, []⟩,
  ⟨some 51, .call 43 [(.t 48), (.t 50)], none, [3]⟩,
  ⟨some 52, .idxAddr 10 (.t 40) (.t 41), none, []⟩,
  ⟨none, .store (some 10) (.t 52) (.t 51), none, []⟩] (some [(0, []), (1, [0]), (2, [1, 0]), (3, [2, 1, 0]), (4, []), (5, []), (6, [5]), (7, [6, 5]), (8, [7, 6, 5]), (9, []), (10, [8, 7, 6, 5, 9]), (11, [10, 8, 7, 6, 5, 9]), (12, []), (13, [12]), (14, [11, 10, 8, 7, 6, 5, 9, 13, 12]), (15, [3, 2, 1, 0, 4, 5, 6, 7, 8, 9, 10, 11, 12, 13, 14]), (16, [15, 3, 2, 1, 0, 4, 5, 6, 7, 8, 9, 10, 11, 12, 13, 14])]) [0, 1, 2])
(.seq (.ops [⟨some 53, .move (.t 0), none, []⟩,
  ⟨some 54, .move (.t 1), none, []⟩,
  ⟨some 55, .move (.t 2), none, []⟩,
  ⟨some 56, .call 327 [(.t 53), (.t 54), (.t 55), (.c (.int .i64 0)), (.c (.int .i64 0)), (.c (.int .i64 0))], none, []⟩,
  ⟨some 57, .buildSl 1 [(.int .i64 0), (.int .i64 0), (.int .i64 0), (.int .i64 0), (.int .i64 0), (.int .i64 0), (.int .i64 0)] [(0, 7, (.t 56))], none, []⟩,
  ⟨some 8, .move (.t 57), none, []⟩] none [8])
(.ret))))))
def f326 : SFunc := ⟨b326, [.t 8]⟩

/-- (*watchbill/core.Core).result -/
def b327 : SCode := (
.seq (.ops [⟨some 12, .alloc (.agg [(.int .i64 0), (.int .i64 0), (.int .i64 0), (.int .i64 0), (.int .i64 0), (.int .i64 0), (.int .i64 0)]), none, []⟩] none [0, 1, 2, 3, 4, 5, 12])
(.seq (.ops [⟨some 14, .move (.t 0), none, []⟩,
  ⟨some 15, .nilck (.t 14), none, []⟩,
  ⟨some 16, .fldAddr 5 (.t 15), none, []⟩,
  ⟨some 17, .load none (.t 16), none, []⟩,
  ⟨some 18, .move (.t 2), none, []⟩,
  ⟨some 19, .idxAddr 10 (.t 17) (.t 18), none, []⟩,
  ⟨some 20, .load (some 10) (.t 19), none, []⟩,
  ⟨some 13, .alloc (.agg [(.bool false), .nils, (.int .i64 0), (.int .i64 0), (.int .i64 0), (.int .i64 0), (.int .i64 0), (.int .i64 0), (.bool false), .nils]), none, []⟩,
  ⟨none, .store (some 10) (.t 13) (.t 20), none, []⟩] none [0, 1, 2, 3, 4, 5, 12, 13])
(.seq (.ops [⟨some 21, .move (.t 0), none, []⟩,
  ⟨some 22, .nilck (.t 21), none, []⟩,
  ⟨some 23, .fldAddr 5 (.t 22), none, []⟩,
  ⟨some 24, .load none (.t 23), none, []⟩,
  ⟨some 25, .move (.t 2), none, []⟩,
  ⟨some 26, .load (some 10) (.t 13), none, []⟩,
  ⟨some 27, .call 41 [(.t 26)], none, [3]⟩,
  ⟨some 28, .idxAddr 10 (.t 24) (.t 25), none, []⟩,
  ⟨none, .store (some 10) (.t 28) (.t 27), none, []⟩] (some [(0, []), (1, [0]), (2, [1, 0]), (3, [2, 1, 0]), (4, []), (5, []), (6, [5]), (7, [3, 2, 1, 0, 4, 5, 6]), (8, [7, 3, 2, 1, 0, 4, 5, 6])]) [1, 2, 3, 4, 5, 12, 13])
(.seq (.ops [⟨some 29, .move (.t 1), none, []⟩,
  ⟨some 30, .move (.t 2), none, []⟩,
  ⟨some 31, .fldAddr 2 (.t 13), none, []⟩,
  ⟨some 32, .load none (.t 31), none, []⟩,
  ⟨some 33, .move (.t 5), none, []⟩,
  ⟨some 34, .move (.t 3), none, []⟩,
  ⟨some 35, .move (.t 4), none, []⟩,
  ⟨some 36, .build [(.int .i64 0), (.int .i64 0), (.int .i64 0), (.int .i64 0), (.int .i64 0), (.int .i64 0), (.int .i64 0)] [(0, 1, (.t 29)), (1, 1, (.c (.int .i64 4))), (2, 1, (.t 30)), (3, 1, (.t 32)), (4, 1, (.t 33)), (5, 1, (.t 34)), (6, 1, (.t 35))], none, []⟩,
  ⟨none, .store (some 7) (.t 12) (.t 36), none, []⟩] none [12])
(.ret)))))
def f327 : SFunc := ⟨b327, [.cell (some 7) 12]⟩

/-- (*watchbill/core.Core).give -/
def b328 : SCode := (
.seq (.ops [⟨some 10, .move (.c .nils), none, []⟩] none [0, 1, 2, 3, 4])
(.seq (.ops [⟨some 14, .move (.t 0), none, []⟩,
  ⟨some 15, .nilck (.t 14), none, []⟩,
  ⟨some 16, .fldAddr 5 (.t 15), none, []⟩,
  ⟨some 17, .load none (.t 16), none, []⟩,
  ⟨some 18, .move (.t 2), none, []⟩,
  ⟨some 19, .move (.t 0), none, []⟩,
  ⟨some 20, .nilck (.t 19), none, []⟩,
  ⟨some 21, .fldAddr 5 (.t 20), none, []⟩,
  ⟨some 22, .load none (.t 21), none, []⟩,
  ⟨some 23, .move (.t 2), none, []⟩,
  ⟨some 24, .idxAddr 10 (.t 22) (.t 23), none, []⟩,
  ⟨some 25, .load (some 10) (.t 24), none, []⟩,
  ⟨some 26, .move (.t 3), none, []⟩,
  ⟨some 27, .call 45 [(.t 25), (.t 26)], none, [3]⟩,
  ⟨some 28, .idxAddr 10 (.t 17) (.t 18), none, []⟩,
  ⟨none, .store (some 10) (.t 28) (.t 27), none, []⟩] (some [(0, []), (1, [0]), (2, [1, 0]), (3, [2, 1, 0]), (4, []), (5, []), (6, [5]), (7, [6, 5]), (8, [7, 6, 5]), (9, []), (10, [8, 7, 6, 5, 9]), (11, [10, 8, 7, 6, 5, 9]), (12, []), (13, [11, 10, 8, 7, 6, 5, 9, 12]), (14, [3, 2, 1, 0, 4, 5, 6, 7, 8, 9, 10, 11, 12, 13]), (15, [14, 3, 2, 1, 0, 4, 5, 6, 7, 8, 9, 10, 11, 12, 13])]) [0, 1, 2, 3, 4])
(.seq (.ops [⟨some 30, .move (.t 0), none, []⟩,
  ⟨some 31, .nilck (.t 30), none, []⟩,
  ⟨some 32, .fldAddr 7 (.t 31), none, []⟩,
  ⟨some 33, .load none (.t 32), none, []⟩,
  ⟨some 34, .move (.t 3), none, []⟩,
  ⟨some 35, .idxAddr 1 (.t 33) (.t 34), none, []⟩,
  ⟨some 36, .load none (.t 35), none, []⟩,
  ⟨some 37, .move (.t 2), none, []⟩,
  ⟨some 38, .move (.t 4), none, []⟩,
  ⟨some 39, .call 344 [(.t 36), (.t 37), (.t 38)], none, []⟩,
  ⟨some 29, .move (.t 39), none, []⟩,
  ⟨some 40, .ext 0 (.t 29), none, []⟩,
  ⟨some 41, .ext 1 (.t 29), none, []⟩,
  ⟨some 11, .move (.t 40), none, []⟩,
  ⟨some 12, .move (.t 41), none, []⟩] none [0, 1, 3, 11, 12])
(.seq (.seq (.ops [⟨some 42, .move (.t 12), none, []⟩,
  ⟨some 43, .bin .neq (.t 42) (.c (.int .i64 0)), none, []⟩,
  ⟨some 44, .move (.t 43), none, []⟩,
  ⟨some 45, .move (.t 11), (some (44, false)), []⟩,
  ⟨some 46, .bin .lss (.t 45) (.c (.int .i64 0)), (some (44, false)), []⟩,
  ⟨some 47, .pick (.t 44) (.c (.bool true)) (.t 46), none, []⟩] none [0, 1, 3, 11, 47])
(.cond (.t 47)
  (.seq (.ops [⟨some 10, .move (.c .nils), none, []⟩] none [10])
  (.ret))
  (.skip)))
(.seq (.ops [⟨some 48, .move (.t 0), none, []⟩,
  ⟨some 49, .move (.t 1), none, []⟩,
  ⟨some 50, .move (.t 11), none, []⟩,
  ⟨some 51, .build [(.int .i64 0), (.int .i64 0), (.int .i64 0), (.int .i64 0)] [(0, 1, (.t 50))], none, []⟩,
  ⟨some 52, .call 345 [(.t 48), (.t 49), (.t 51)], none, []⟩,
  ⟨some 13, .alloc (.agg [(.int .i64 0), (.int .i64 0), (.int .i64 0), (.int .i64 0), (.int .i64 0), (.int .i64 0), (.int .i64 0)]), none, []⟩,
  ⟨none, .store (some 7) (.t 13) (.t 52), none, []⟩] none [0, 3, 11, 13])
(.seq (.ops [⟨some 53, .move (.t 0), none, []⟩,
  ⟨some 54, .nilck (.t 53), none, []⟩,
  ⟨some 55, .fldAddr 5 (.t 54), none, []⟩,
  ⟨some 56, .load none (.t 55), none, []⟩,
  ⟨some 57, .move (.t 11), none, []⟩,
  ⟨some 58, .move (.t 0), none, []⟩,
  ⟨some 59, .nilck (.t 58), none, []⟩,
  ⟨some 60, .fldAddr 5 (.t 59), none, []⟩,
  ⟨some 61, .load none (.t 60), none, []⟩,
  ⟨some 62, .move (.t 11), none, []⟩,
  ⟨some 63, .idxAddr 10 (.t 61) (.t 62), none, []⟩,
  ⟨some 64, .load (some 10) (.t 63), none, []⟩,
  ⟨some 65, .move (.t 3), none, []⟩,
  ⟨some 66, .call 43 [(.t 64), (.t 65)], none, [3]⟩,
  ⟨some 67, .idxAddr 10 (.t 56) (.t 57), none, []⟩,
  ⟨none, .store (some 10) (.t 67) (.t 66), none, []⟩] (some [(0, []), (1, [0]), (2, [1, 0]), (3, [2, 1, 0]), (4, []), (5, []), (6, [5]), (7, [6, 5]), (8, [7, 6, 5]), (9, []), (10, [8, 7, 6, 5, 9]), (11, [10, 8, 7, 6, 5, 9]), (12, []), (13, [11, 10, 8, 7, 6, 5, 9, 12]), (14, [3, 2, 1, 0, 4, 5, 6, 7, 8, 9, 10, 11, 12, 13]), (15, [14, 3, 2, 1, 0, 4, 5, 6, 7, 8, 9, 10, 11, 12, 13])]) [13])
(.seq (.ops [⟨some 68, .load (some 7) (.t 13), none, []⟩,
  ⟨some 69, .buildSl 1 [(.int .i64 0), (.int .i64 0), (.int .i64 0), (.int .i64 0), (.int .i64 0), (.int .i64 0), (.int .i64 0)] [(0, 7, (.t 68))], none, []⟩,
  ⟨some 10, .move (.t 69), none, []⟩] none [10])
(.ret))))))))
def f328 : SFunc := ⟨b328, [.t 10]⟩

/-- (*watchbill/core.Core).shut -/
def b329 : SCode := (
.seq (.ops [⟨some 7, .box (.t 3), none, []⟩,
  ⟨some 8, .move (.c .nils), none, []⟩] none [0, 1, 2, 7])
(.seq (.ops [⟨some 12, .move (.t 0), none, []⟩,
  ⟨some 13, .nilck (.t 12), none, []⟩,
  ⟨some 14, .fldAddr 6 (.t 13), none, []⟩,
  ⟨some 15, .load none (.t 14), none, []⟩,
  ⟨some 16, .fldAddr 1 (.t 7), none, []⟩,
  ⟨some 17, .load none (.t 16), none, []⟩,
  ⟨some 18, .idxAddr 1 (.t 15) (.t 17), none, []⟩,
  ⟨some 19, .load none (.t 18), none, []⟩,
  ⟨some 20, .move (.t 0), none, []⟩,
  ⟨some 21, .call 308 [(.t 20)], none, [3, 5, 7]⟩,
  ⟨some 22, .call 346 [(.t 19), (.t 21)], none, []⟩,
  ⟨some 11, .move (.t 22), none, []⟩,
  ⟨some 23, .ext 0 (.t 11), none, []⟩,
  ⟨some 24, .ext 1 (.t 11), none, []⟩,
  ⟨some 9, .move (.t 23), none, []⟩,
  ⟨some 10, .move (.t 24), none, []⟩] (some [(0, []), (1, [0]), (2, [1, 0]), (3, [2, 1, 0]), (4, []), (5, [4]), (6, [3, 2, 1, 0, 5, 4]), (7, [6, 3, 2, 1, 0, 5, 4]), (8, []), (9, [8]), (10, [7, 6, 3, 2, 1, 0, 5, 4, 9, 8]), (11, [10, 7, 6, 3, 2, 1, 0, 5, 4, 9, 8]), (12, [11, 10, 7, 6, 3, 2, 1, 0, 5, 4, 9, 8]), (13, [11, 10, 7, 6, 3, 2, 1, 0, 5, 4, 9, 8]), (14, [12, 11, 10, 7, 6, 3, 2, 1, 0, 5, 4, 9, 8]), (15, [13, 11, 10, 7, 6, 3, 2, 1, 0, 5, 4, 9, 8, 14, 12])]) [0, 1, 2, 9, 10])
(.seq (.ops [⟨some 25, .move (.t 0), none, []⟩,
  ⟨some 26, .move (.t 1), none, []⟩,
  ⟨some 27, .move (.t 2), none, []⟩,
  ⟨some 28, .move (.t 10), none, []⟩,
  ⟨some 29, .call 327 [(.t 25), (.t 26), (.t 27), (.c (.int .i64 0)), (.c (.int .i64 0)), (.t 28)], none, []⟩,
  ⟨some 30, .buildSl 1 [(.int .i64 0), (.int .i64 0), (.int .i64 0), (.int .i64 0), (.int .i64 0), (.int .i64 0), (.int .i64 0)] [(0, 7, (.t 29))], none, []⟩,
  ⟨some 31, .move (.t 0), none, []⟩,
  ⟨some 32, .move (.t 1), none, []⟩,
  ⟨some 33, .move (.t 9), none, []⟩,
  ⟨some 34, .call 347 [(.t 31), (.t 32), (.t 33)], none, []⟩,
  ⟨some 35, .append 7 (.t 30) (.t 34), none, []⟩,
  ⟨some 8, .move (.t 35), none, []⟩] none [8])
(.ret))))
def f329 : SFunc := ⟨b329, [.t 8]⟩

/-- (*watchbill/core.Core).pass -/
def b330 : SCode := (
.seq (.ops [⟨some 7, .box (.t 3), none, []⟩,
  ⟨some 8, .move (.c .nils), none, []⟩] none [0, 1, 2, 7])
(.seq (.ops [⟨some 14, .load (some 5) (.t 7), none, []⟩,
  ⟨some 15, .call 348 [(.t 14)], none, []⟩,
  ⟨some 9, .move (.t 15), none, []⟩] none [0, 1, 2, 7, 9])
(.seq (.seq (.ops [⟨some 16, .move (.t 9), none, []⟩,
  ⟨some 17, .move (.t 0), none, []⟩,
  ⟨some 18, .nilck (.t 17), none, []⟩,
  ⟨some 19, .fldAddr 6 (.t 18), none, []⟩,
  ⟨some 20, .load none (.t 19), none, []⟩,
  ⟨some 21, .call 349 [(.t 16), (.t 20)], none, []⟩,
  ⟨some 22, .bin .geq (.t 21) (.c (.int .i64 0)), none, []⟩] none [0, 1, 2, 7, 9, 22])
(.cond (.t 22)
  (.seq (.ops [⟨some 24, .move (.t 9), none, []⟩,
    ⟨some 25, .move (.t 0), none, []⟩,
    ⟨some 26, .nilck (.t 25), none, []⟩,
    ⟨some 27, .fldAddr 6 (.t 26), none, []⟩,
    ⟨some 28, .load none (.t 27), none, []⟩,
    ⟨some 29, .move (.t 0), none, []⟩,
    ⟨some 30, .call 308 [(.t 29)], none, [4]⟩,
    ⟨some 31, .call 350 [(.t 24), (.t 28), (.t 30)], none, []⟩,
    ⟨some 23, .move (.t 31), none, []⟩,
    ⟨some 32, .ext 0 (.t 23), none, []⟩,
    ⟨some 33, .ext 1 (.t 23), none, []⟩,
    ⟨some 34, .ext 2 (.t 23), none, []⟩,
    ⟨some 35, .ext 3 (.t 23), none, []⟩,
    ⟨some 10, .move (.t 32), none, []⟩,
    ⟨some 11, .move (.t 33), none, []⟩,
    ⟨some 12, .move (.t 34), none, []⟩,
    ⟨some 13, .move (.t 35), none, []⟩] (some [(0, []), (1, []), (2, [1]), (3, [2, 1]), (4, [3, 2, 1]), (5, []), (6, [5]), (7, [0, 4, 3, 2, 1, 6, 5]), (8, [7, 0, 4, 3, 2, 1, 6, 5]), (9, [8, 7, 0, 4, 3, 2, 1, 6, 5]), (10, [8, 7, 0, 4, 3, 2, 1, 6, 5]), (11, [8, 7, 0, 4, 3, 2, 1, 6, 5]), (12, [8, 7, 0, 4, 3, 2, 1, 6, 5]), (13, [9, 8, 7, 0, 4, 3, 2, 1, 6, 5]), (14, [10, 8, 7, 0, 4, 3, 2, 1, 6, 5, 13, 9]), (15, [11, 8, 7, 0, 4, 3, 2, 1, 6, 5, 14, 10, 13, 9]), (16, [12, 8, 7, 0, 4, 3, 2, 1, 6, 5, 15, 11, 14, 10, 13, 9])]) [0, 1, 2, 10, 11, 12, 13])
  (.seq (.ops [⟨some 36, .move (.t 0), none, []⟩,
    ⟨some 37, .move (.t 1), none, []⟩,
    ⟨some 38, .move (.t 2), none, []⟩,
    ⟨some 39, .move (.t 10), none, []⟩,
    ⟨some 40, .move (.t 11), none, []⟩,
    ⟨some 41, .move (.t 13), none, []⟩,
    ⟨some 42, .call 327 [(.t 36), (.t 37), (.t 38), (.t 39), (.t 40), (.t 41)], none, []⟩,
    ⟨some 43, .buildSl 1 [(.int .i64 0), (.int .i64 0), (.int .i64 0), (.int .i64 0), (.int .i64 0), (.int .i64 0), (.int .i64 0)] [(0, 7, (.t 42))], none, []⟩,
    ⟨some 44, .move (.t 0), none, []⟩,
    ⟨some 45, .move (.t 1), none, []⟩,
    ⟨some 46, .move (.t 12), none, []⟩,
    ⟨some 47, .call 347 [(.t 44), (.t 45), (.t 46)], none, []⟩,
    ⟨some 48, .append 7 (.t 43) (.t 47), none, []⟩,
    ⟨some 8, .move (.t 48), none, []⟩] none [8])
  (.ret)))
  (.skip)))
(.seq (.seq (.ops [⟨some 49, .fldAddr 3 (.t 7), none, []⟩,
  ⟨some 50, .load none (.t 49), none, []⟩,
  ⟨some 51, .bin .eql (.t 50) (.c (.int .i64 0)), none, []⟩] none [0, 1, 2, 7, 9, 51])
(.cond (.t 51)
  (.seq (.ops [⟨some 52, .move (.t 0), none, []⟩,
    ⟨some 53, .move (.t 1), none, []⟩,
    ⟨some 54, .move (.t 2), none, []⟩,
    ⟨some 55, .load (some 5) (.t 7), none, []⟩,
    ⟨some 56, .call 351 [(.t 52), (.t 53), (.t 54), (.t 55)], none, []⟩,
    ⟨some 57, .buildSl 1 [(.int .i64 0), (.int .i64 0), (.int .i64 0), (.int .i64 0), (.int .i64 0), (.int .i64 0), (.int .i64 0)] [(0, 7, (.t 56))], none, []⟩,
    ⟨some 8, .move (.t 57), none, []⟩] none [8])
  (.ret))
  (.skip)))
(.seq (.ops [⟨some 58, .move (.t 9), none, []⟩,
  ⟨some 59, .move (.t 0), none, []⟩,
  ⟨some 60, .nilck (.t 59), none, []⟩,
  ⟨some 61, .fldAddr 6 (.t 60), none, []⟩,
  ⟨some 62, .load none (.t 61), none, []⟩,
  ⟨some 63, .move (.t 2), none, []⟩,
  ⟨some 64, .move (.t 0), none, []⟩,
  ⟨some 65, .call 324 [(.t 64)], none, [4]⟩,
  ⟨some 66, .call 352 [(.t 58), (.t 62), (.t 63), (.t 65)], none, []⟩] (some [(0, []), (1, []), (2, [1]), (3, [2, 1]), (4, [3, 2, 1]), (5, []), (6, []), (7, [6]), (8, [0, 4, 3, 2, 1, 5, 7, 6])]) [0, 1, 2, 7])
(.seq (.seq (.ops [⟨some 67, .fldAddr 3 (.t 7), none, []⟩,
  ⟨some 68, .load none (.t 67), none, []⟩,
  ⟨some 69, .bin .gtr (.t 68) (.c (.int .i64 0)), none, []⟩] none [0, 1, 2, 7, 69])
(.cond (.t 69)
  (.ops [⟨some 70, .move (.t 0), none, []⟩,
    ⟨some 71, .nilck (.t 70), none, []⟩,
    ⟨some 72, .fldAddr 9 (.t 71), none, []⟩,
    ⟨some 73, .load none (.t 72), none, []⟩,
    ⟨some 74, .move (.t 2), none, []⟩,
    ⟨some 75, .fldAddr 3 (.t 7), none, []⟩,
    ⟨some 76, .load none (.t 75), none, []⟩,
    ⟨some 77, .move (.t 1), none, []⟩,
    ⟨some 78, .bin .add (.t 76) (.t 77), none, []⟩,
    ⟨some 79, .move (.t 0), none, []⟩,
    ⟨some 80, .nilck (.t 79), none, []⟩,
    ⟨some 81, .fldAddr 10 (.t 80), none, []⟩,
    ⟨some 82, .load none (.t 81), none, []⟩,
    ⟨some 83, .bin .sub (.t 78) (.t 82), none, []⟩,
    ⟨some 84, .call 353 [(.t 73), (.t 74), (.t 83)], none, []⟩] (some [(0, []), (1, [0]), (2, [1, 0]), (3, [2, 1, 0]), (4, []), (5, []), (6, [5]), (7, []), (8, [6, 5, 7]), (9, []), (10, [9]), (11, [10, 9]), (12, [11, 10, 9]), (13, [8, 6, 5, 7, 12, 11, 10, 9]), (14, [3, 2, 1, 0, 4, 13, 8, 6, 5, 7, 12, 11, 10, 9])]) [0, 1, 2])
  (.skip)))
(.seq (.ops [⟨some 85, .move (.t 0), none, []⟩,
  ⟨some 86, .move (.t 1), none, []⟩,
  ⟨some 87, .move (.t 2), none, []⟩,
  ⟨some 88, .call 343 [(.t 85), (.t 86), (.t 87)], none, []⟩,
  ⟨some 8, .move (.t 88), none, []⟩] none [8])
(.ret))))))))
def f330 : SFunc := ⟨b330, [.t 8]⟩

/-- watchbill/graph.Prios -/
def b17 : SCode := (
.seq (.ops [⟨some 6, .move (.c .nils), none, []⟩] none [0, 1, 2])
(.seq (.ops [⟨some 12, .move (.t 0), none, []⟩,
  ⟨some 13, .call 55 [(.t 12)], none, []⟩,
  ⟨some 7, .move (.t 13), none, []⟩] none [1, 2, 7])
(.seq (.seq (.ops [⟨some 14, .move (.t 7), none, []⟩,
  ⟨some 15, .len .sl (.t 14), none, []⟩,
  ⟨some 16, .move (.c (.int .i64 0)), none, []⟩] none [1, 2, 7, 15, 16])
(.block 0 (.loop [1, 2, 7, 15, 16] (.seq (.ops [⟨some 17, .bin .lss (.t 16) (.t 15), none, []⟩] none [1, 2, 7, 15, 16, 17])
    (.seq (.cond (.t 17)
      (.skip)
      (.exit 0))
    (.seq (.block 1 (.seq (.ops [⟨some 18, .move (.t 16), none, []⟩,
        ⟨some 8, .move (.t 18), none, []⟩] none [1, 2, 7, 8, 15, 16])
      (.seq (.ops [⟨some 19, .move (.t 8), none, []⟩,
        ⟨some 20, .move (.t 1), none, []⟩,
        ⟨some 21, .len .sl (.t 20), none, []⟩,
        ⟨some 22, .bin .lss (.t 19) (.t 21), none, []⟩] none [1, 2, 7, 8, 15, 16, 22])
      (.cond (.t 22)
        (.ops [⟨some 23, .move (.t 7), none, []⟩,
          ⟨some 24, .move (.t 8), none, []⟩,
          ⟨some 25, .move (.t 7), none, []⟩,
          ⟨some 26, .move (.t 8), none, []⟩,
          ⟨some 27, .idxAddr 1 (.t 25) (.t 26), none, []⟩,
          ⟨some 28, .load none (.t 27), none, []⟩,
          ⟨some 29, .move (.t 1), none, []⟩,
          ⟨some 30, .move (.t 8), none, []⟩,
          ⟨some 31, .idxAddr 1 (.t 29) (.t 30), none, []⟩,
          ⟨some 32, .load none (.t 31), none, []⟩,
          ⟨some 33, .mx [(.t 28), (.t 32)], none, []⟩,
          ⟨some 34, .idxAddr 1 (.t 23) (.t 24), none, []⟩,
          ⟨none, .store none (.t 34) (.t 33), none, []⟩] (some [(0, []), (1, []), (2, []), (3, []), (4, [2, 3]), (5, [4, 2, 3]), (6, []), (7, []), (8, [6, 7]), (9, [8, 6, 7]), (10, [5, 4, 2, 3, 9, 8, 6, 7]), (11, [0, 1, 2, 3, 4, 5, 6, 7, 8, 9, 10]), (12, [11, 0, 1, 2, 3, 4, 5, 6, 7, 8, 9, 10])]) [1, 2, 7, 15, 16])
        (.skip)))))
    (.ops [⟨some 35, .bin .add (.t 16) (.c (.int .i64 1)), none, []⟩,
      ⟨some 16, .move (.t 35), none, []⟩] none [1, 2, 7, 15, 16])))))))
(.seq (.skip)
(.seq (.block 2 (.loop [2, 7] (.block 3 (.seq (.ops [⟨some 9, .move (.c (.bool false)), none, []⟩] none [2, 7, 9])
      (.seq (.seq (.ops [⟨some 36, .move (.t 2), none, []⟩,
        ⟨some 37, .len .sl (.t 36), none, []⟩,
        ⟨some 38, .move (.c (.int .i64 0)), none, []⟩] none [2, 7, 9, 36, 37, 38])
      (.block 4 (.loop [2, 7, 9, 36, 37, 38] (.seq (.ops [⟨some 39, .bin .lss (.t 38) (.t 37), none, []⟩] none [2, 7, 9, 36, 37, 38, 39])
          (.seq (.cond (.t 39)
            (.skip)
            (.exit 4))
          (.seq (.block 5 (.seq (.ops [⟨some 40, .idxAddr 2 (.t 36) (.t 38), none, []⟩,
              ⟨some 41, .load (some 2) (.t 40), none, []⟩,
              ⟨some 11, .alloc (.agg [(.int .i64 0), (.int .i64 0)]), none, []⟩,
              ⟨none, .store (some 2) (.t 11) (.t 41), none, []⟩] none [2, 7, 9, 11, 36, 37, 38])
            (.seq (.ops [⟨some 42, .load (some 2) (.t 11), none, []⟩,
              ⟨some 43, .move (.t 7), none, []⟩,
              ⟨some 44, .len .sl (.t 43), none, []⟩,
              ⟨some 45, .call 56 [(.t 42), (.t 44)], none, []⟩,
              ⟨some 46, .move (.t 45), none, []⟩,
              ⟨some 47, .move (.t 7), (some (46, true)), []⟩,
              ⟨some 48, .fldAddr 0 (.t 11), (some (46, true)), []⟩,
              ⟨some 49, .load none (.t 48), (some (46, true)), []⟩,
              ⟨some 50, .idxAddr 1 (.t 47) (.t 49), (some (46, true)), []⟩,
              ⟨some 51, .load none (.t 50), (some (46, true)), []⟩,
              ⟨some 52, .move (.t 7), (some (46, true)), []⟩,
              ⟨some 53, .fldAddr 1 (.t 11), (some (46, true)), []⟩,
              ⟨some 54, .load none (.t 53), (some (46, true)), []⟩,
              ⟨some 55, .idxAddr 1 (.t 52) (.t 54), (some (46, true)), []⟩,
              ⟨some 56, .load none (.t 55), (some (46, true)), []⟩,
              ⟨some 57, .bin .gtr (.t 51) (.t 56), (some (46, true)), []⟩,
              ⟨some 58, .pick (.t 46) (.t 57) (.c (.bool false)), none, []⟩] (some [(0, []), (1, []), (2, [1]), (3, [0, 2, 1]), (4, [3, 0, 2, 1]), (5, [4, 3, 0, 2, 1]), (6, [4, 3, 0, 2, 1]), (7, [6, 4, 3, 0, 2, 1]), (8, [5, 4, 3, 0, 2, 1, 7, 6]), (9, [8, 5, 4, 3, 0, 2, 1, 7, 6]), (10, [4, 3, 0, 2, 1]), (11, [4, 3, 0, 2, 1]), (12, [11, 4, 3, 0, 2, 1]), (13, [10, 4, 3, 0, 2, 1, 12, 11]), (14, [13, 10, 4, 3, 0, 2, 1, 12, 11]), (15, [9, 8, 5, 4, 3, 0, 2, 1, 7, 6, 14, 13, 10, 12, 11]), (16, [4, 3, 0, 2, 1, 15, 9, 8, 5, 7, 6, 14, 13, 10, 12, 11])]) [2, 7, 9, 11, 36, 37, 38, 58])
            (.cond (.t 58)
              (.seq (.ops [⟨some 59, .move (.t 7), none, []⟩,
                ⟨some 60, .fldAddr 1 (.t 11), none, []⟩,
                ⟨some 61, .load none (.t 60), none, []⟩,
                ⟨some 62, .move (.t 7), none, []⟩,
                ⟨some 63, .fldAddr 0 (.t 11), none, []⟩,
                ⟨some 64, .load none (.t 63), none, []⟩,
                ⟨some 65, .idxAddr 1 (.t 62) (.t 64), none, []⟩,
                ⟨some 66, .load none (.t 65), none, []⟩,
                ⟨some 67, .idxAddr 1 (.t 59) (.t 61), none, []⟩,
                ⟨none, .store none (.t 67) (.t 66), none, []⟩] (some [(0, []), (1, []), (2, [1]), (3, []), (4, []), (5, [4]), (6, [3, 5, 4]), (7, [6, 3, 5, 4]), (8, [0, 2, 1, 3, 4, 5, 6, 7]), (9, [8, 0, 2, 1, 3, 4, 5, 6, 7])]) [2, 7, 36, 37, 38])
              (.ops [⟨some 9, .move (.c (.bool true)), none, []⟩] none [2, 7, 9, 36, 37, 38]))
              (.skip)))))
          (.ops [⟨some 68, .bin .add (.t 38) (.c (.int .i64 1)), none, []⟩,
            ⟨some 38, .move (.t 68), none, []⟩] none [2, 7, 9, 36, 37, 38])))))))
      (.seq (.ops [⟨some 69, .move (.t 9), none, []⟩,
        ⟨some 70, .not (.t 69), none, []⟩] none [2, 7, 70])
      (.cond (.t 70)
        (.exit 2)
        (.skip))))))))
(.seq (.ops [⟨some 71, .move (.t 7), none, []⟩,
  ⟨some 6, .move (.t 71), none, []⟩] none [6])
(.ret)))))))
def f17 : SFunc := ⟨b17, [.t 6]⟩

/-- (*watchbill/core.Core).lends -/
def b331 : SCode := (
.seq (.ops [⟨some 2, .move (.c .nils), none, []⟩] none [0])
(.seq (.ops [⟨some 3, .move (.c .nils), none, []⟩] none [0, 3])
(.seq (.seq (.ops [⟨some 13, .move (.t 0), none, []⟩,
  ⟨some 14, .nilck (.t 13), none, []⟩,
  ⟨some 15, .fldAddr 7 (.t 14), none, []⟩,
  ⟨some 16, .load none (.t 15), none, []⟩,
  ⟨some 17, .len .sl (.t 16), none, []⟩,
  ⟨some 18, .move (.c (.int .i64 0)), none, []⟩] none [0, 3, 16, 17, 18])
(.block 0 (.loop [0, 3, 16, 17, 18] (.seq (.ops [⟨some 19, .bin .lss (.t 18) (.t 17), none, []⟩] none [0, 3, 16, 17, 18, 19])
    (.seq (.cond (.t 19)
      (.skip)
      (.exit 0))
    (.seq (.block 1 (.seq (.ops [⟨some 20, .idxAddr 1 (.t 16) (.t 18), none, []⟩,
        ⟨some 21, .load none (.t 20), none, []⟩,
        ⟨some 5, .move (.t 21), none, []⟩] none [0, 3, 5, 16, 17, 18])
      (.seq (.ops [⟨some 22, .move (.t 5), none, []⟩,
        ⟨some 23, .call 354 [(.t 22)], none, []⟩,
        ⟨some 24, .len .sl (.t 23), none, []⟩,
        ⟨some 25, .move (.c (.int .i64 0)), none, []⟩] none [0, 3, 5, 16, 17, 18, 23, 24, 25])
      (.block 2 (.loop [0, 3, 5, 16, 17, 18, 23, 24, 25] (.seq (.ops [⟨some 26, .bin .lss (.t 25) (.t 24), none, []⟩] none [0, 3, 5, 16, 17, 18, 23, 24, 25, 26])
          (.seq (.cond (.t 26)
            (.skip)
            (.exit 2))
          (.seq (.block 3 (.seq (.ops [⟨some 27, .idxAddr 4 (.t 23) (.t 25), none, []⟩,
              ⟨some 28, .load (some 4) (.t 27), none, []⟩,
              ⟨some 7, .alloc (.agg [(.int .i64 0), (.int .i64 0), (.int .i64 0), (.int .i64 0)]), none, []⟩,
              ⟨none, .store (some 4) (.t 7) (.t 28), none, []⟩] none [0, 3, 5, 7, 16, 17, 18, 23, 24, 25])
            (.ops [⟨some 29, .move (.t 3), none, []⟩,
              ⟨some 30, .fldAddr 0 (.t 7), none, []⟩,
              ⟨some 31, .load none (.t 30), none, []⟩,
              ⟨some 32, .move (.t 5), none, []⟩,
              ⟨some 33, .call 315 [(.t 32)], none, [2]⟩,
              ⟨some 34, .build [(.int .i64 0), (.int .i64 0)] [(0, 1, (.t 31)), (1, 1, (.t 33))], none, []⟩,
              ⟨some 35, .buildSl 1 [(.int .i64 0), (.int .i64 0)] [(0, 2, (.t 34))], none, []⟩,
              ⟨some 36, .append 2 (.t 29) (.t 35), none, []⟩,
              ⟨some 3, .move (.t 36), none, []⟩] (some [(0, []), (1, []), (2, [1]), (3, []), (4, [3]), (5, [2, 1, 4, 3]), (6, [5, 2, 1, 4, 3]), (7, [0, 6, 5, 2, 1, 4, 3]), (8, [7, 0, 6, 5, 2, 1, 4, 3])]) [0, 3, 5, 16, 17, 18, 23, 24, 25])))
          (.ops [⟨some 37, .bin .add (.t 25) (.c (.int .i64 1)), none, []⟩,
            ⟨some 25, .move (.t 37), none, []⟩] none [0, 3, 5, 16, 17, 18, 23, 24, 25])))))))))
    (.ops [⟨some 38, .bin .add (.t 18) (.c (.int .i64 1)), none, []⟩,
      ⟨some 18, .move (.t 38), none, []⟩] none [0, 3, 16, 17, 18])))))))
(.seq (.skip)
(.seq (.seq (.ops [⟨some 39, .move (.t 0), none, []⟩,
  ⟨some 40, .nilck (.t 39), none, []⟩,
  ⟨some 41, .fldAddr 6 (.t 40), none, []⟩,
  ⟨some 42, .load none (.t 41), none, []⟩,
  ⟨some 43, .len .sl (.t 42), none, []⟩,
  ⟨some 44, .move (.c (.int .i64 0)), none, []⟩] none [0, 3, 42, 43, 44])
(.block 4 (.loop [0, 3, 42, 43, 44] (.seq (.ops [⟨some 45, .bin .lss (.t 44) (.t 43), none, []⟩] none [0, 3, 42, 43, 44, 45])
    (.seq (.cond (.t 45)
      (.skip)
      (.exit 4))
    (.seq (.block 5 (.seq (.ops [⟨some 46, .move (.t 44), none, []⟩,
        ⟨some 47, .idxAddr 1 (.t 42) (.t 44), none, []⟩,
        ⟨some 48, .load none (.t 47), none, []⟩,
        ⟨some 8, .move (.t 46), none, []⟩,
        ⟨some 9, .move (.t 48), none, []⟩] none [0, 3, 8, 9, 42, 43, 44])
      (.seq (.ops [⟨some 49, .move (.t 0), none, []⟩,
        ⟨some 50, .nilck (.t 49), none, []⟩,
        ⟨some 51, .fldAddr 0 (.t 50), none, []⟩,
        ⟨some 52, .fldAddr 1 (.t 51), none, []⟩,
        ⟨some 53, .load none (.t 52), none, []⟩,
        ⟨some 54, .move (.t 8), none, []⟩,
        ⟨some 55, .idxAddr 2 (.t 53) (.t 54), none, []⟩,
        ⟨some 56, .fldAddr 1 (.t 55), none, []⟩,
        ⟨some 57, .load none (.t 56), none, []⟩,
        ⟨some 10, .move (.t 57), none, []⟩] none [0, 3, 9, 10, 42, 43, 44])
      (.seq (.seq (.ops [⟨some 58, .move (.t 10), none, []⟩,
        ⟨some 59, .bin .lss (.t 58) (.c (.int .i64 0)), none, []⟩,
        ⟨some 60, .move (.t 59), none, []⟩,
        ⟨some 61, .move (.t 0), (some (60, false)), []⟩,
        ⟨some 62, .nilck (.t 61), (some (60, false)), []⟩,
        ⟨some 63, .fldAddr 5 (.t 62), (some (60, false)), []⟩,
        ⟨some 64, .load none (.t 63), (some (60, false)), []⟩,
        ⟨some 65, .move (.t 10), (some (60, false)), []⟩,
        ⟨some 66, .idxAddr 10 (.t 64) (.t 65), (some (60, false)), []⟩,
        ⟨some 67, .fldAddr 0 (.t 66), (some (60, false)), []⟩,
        ⟨some 68, .load none (.t 67), (some (60, false)), []⟩,
        ⟨some 69, .not (.t 68), (some (60, false)), []⟩,
        ⟨some 70, .pick (.t 60) (.c (.bool true)) (.t 69), none, []⟩] none [0, 3, 9, 10, 42, 43, 44, 70])
      (.cond (.t 70)
        (.exit 5)
        (.skip)))
      (.seq (.ops [⟨some 71, .move (.t 9), none, []⟩,
        ⟨some 72, .call 355 [(.t 71)], none, []⟩,
        ⟨some 73, .len .sl (.t 72), none, []⟩,
        ⟨some 74, .move (.c (.int .i64 0)), none, []⟩] none [0, 3, 10, 42, 43, 44, 72, 73, 74])
      (.block 6 (.loop [0, 3, 10, 42, 43, 44, 72, 73, 74] (.seq (.ops [⟨some 75, .bin .lss (.t 74) (.t 73), none, []⟩] none [0, 3, 10, 42, 43, 44, 72, 73, 74, 75])
          (.seq (.cond (.t 75)
            (.skip)
            (.exit 6))
          (.seq (.block 7 (.seq (.ops [⟨some 76, .idxAddr 4 (.t 72) (.t 74), none, []⟩,
              ⟨some 77, .load (some 4) (.t 76), none, []⟩,
              ⟨some 12, .alloc (.agg [(.int .i64 0), (.int .i64 0), (.int .i64 0), (.int .i64 0)]), none, []⟩,
              ⟨none, .store (some 4) (.t 12) (.t 77), none, []⟩] none [0, 3, 10, 12, 42, 43, 44, 72, 73, 74])
            (.ops [⟨some 78, .move (.t 3), none, []⟩,
              ⟨some 79, .fldAddr 0 (.t 12), none, []⟩,
              ⟨some 80, .load none (.t 79), none, []⟩,
              ⟨some 81, .move (.t 10), none, []⟩,
              ⟨some 82, .build [(.int .i64 0), (.int .i64 0)] [(0, 1, (.t 80)), (1, 1, (.t 81))], none, []⟩,
              ⟨some 83, .buildSl 1 [(.int .i64 0), (.int .i64 0)] [(0, 2, (.t 82))], none, []⟩,
              ⟨some 84, .append 2 (.t 78) (.t 83), none, []⟩,
              ⟨some 3, .move (.t 84), none, []⟩] none [0, 3, 10, 42, 43, 44, 72, 73, 74])))
          (.ops [⟨some 85, .bin .add (.t 74) (.c (.int .i64 1)), none, []⟩,
            ⟨some 74, .move (.t 85), none, []⟩] none [0, 3, 10, 42, 43, 44, 72, 73, 74])))))))))))
    (.ops [⟨some 86, .bin .add (.t 44) (.c (.int .i64 1)), none, []⟩,
      ⟨some 44, .move (.t 86), none, []⟩] none [0, 3, 42, 43, 44])))))))
(.seq (.ops [⟨some 87, .move (.t 3), none, []⟩,
  ⟨some 2, .move (.t 87), none, []⟩] none [2])
(.ret)))))))
def f331 : SFunc := ⟨b331, [.t 2]⟩

/-- watchbill/job.Tick -/
def b39 : SCode := (
.seq (.ops [⟨some 1, .box (.t 0), none, []⟩,
  ⟨some 2, .alloc (.agg [(.bool false), .nils, (.int .i64 0), (.int .i64 0), (.int .i64 0), (.int .i64 0), (.int .i64 0), (.int .i64 0), (.bool false), .nils]), none, []⟩,
  ⟨some 3, .move (.c (.bool false)), none, []⟩] none [1, 2])
(.seq (.seq (.ops [⟨some 4, .fldAddr 0 (.t 1), none, []⟩,
  ⟨some 5, .load none (.t 4), none, []⟩,
  ⟨some 6, .not (.t 5), none, []⟩,
  ⟨some 7, .move (.t 6), none, []⟩,
  ⟨some 8, .fldAddr 3 (.t 1), (some (7, false)), []⟩,
  ⟨some 9, .load none (.t 8), (some (7, false)), []⟩,
  ⟨some 10, .bin .eql (.t 9) (.c (.int .i64 0)), (some (7, false)), []⟩,
  ⟨some 11, .pick (.t 7) (.c (.bool true)) (.t 10), none, []⟩] none [1, 2, 11])
(.cond (.t 11)
  (.seq (.ops [⟨some 12, .load (some 10) (.t 1), none, []⟩,
    ⟨none, .store (some 10) (.t 2) (.t 12), none, []⟩,
    ⟨some 3, .move (.c (.bool false)), none, []⟩] none [2, 3])
  (.ret))
  (.skip)))
(.seq (.ops [⟨some 13, .fldAddr 3 (.t 1), none, []⟩,
  ⟨some 14, .load none (.t 13), none, []⟩,
  ⟨some 15, .bin .sub (.t 14) (.c (.int .i64 1)), none, []⟩,
  ⟨some 16, .fldAddr 3 (.t 1), none, []⟩,
  ⟨none, .store none (.t 16) (.t 15), none, []⟩] none [1, 2])
(.seq (.ops [⟨some 17, .fldAddr 4 (.t 1), none, []⟩,
  ⟨some 18, .load none (.t 17), none, []⟩,
  ⟨some 19, .bin .add (.t 18) (.c (.int .i64 1)), none, []⟩,
  ⟨some 20, .fldAddr 4 (.t 1), none, []⟩,
  ⟨none, .store none (.t 20) (.t 19), none, []⟩] none [1, 2])
(.seq (.seq (.ops [⟨some 21, .fldAddr 3 (.t 1), none, []⟩,
  ⟨some 22, .load none (.t 21), none, []⟩,
  ⟨some 23, .bin .eql (.t 22) (.c (.int .i64 0)), none, []⟩] none [1, 2, 23])
(.cond (.t 23)
  (.seq (.ops [⟨some 24, .fldAddr 2 (.t 1), none, []⟩,
    ⟨some 25, .load none (.t 24), none, []⟩,
    ⟨some 26, .bin .add (.t 25) (.c (.int .i64 1)), none, []⟩,
    ⟨some 27, .fldAddr 2 (.t 1), none, []⟩,
    ⟨none, .store none (.t 27) (.t 26), none, []⟩] none [1, 2])
  (.seq (.ops [⟨some 28, .load (some 10) (.t 1), none, []⟩,
    ⟨none, .store (some 10) (.t 2) (.t 28), none, []⟩,
    ⟨some 3, .move (.c (.bool false)), none, []⟩] none [2, 3])
  (.ret)))
  (.skip)))
(.seq (.ops [⟨some 29, .load (some 10) (.t 1), none, []⟩,
  ⟨some 30, .fldAddr 4 (.t 1), none, []⟩,
  ⟨some 31, .load none (.t 30), none, []⟩,
  ⟨some 32, .fldAddr 5 (.t 1), none, []⟩,
  ⟨some 33, .load none (.t 32), none, []⟩,
  ⟨some 34, .bin .eql (.t 31) (.t 33), none, []⟩,
  ⟨none, .store (some 10) (.t 2) (.t 29), none, [2, 4]⟩,
  ⟨some 3, .move (.t 34), none, []⟩] (some [(0, []), (1, []), (2, [1]), (3, []), (4, [3]), (5, [2, 1, 4, 3]), (6, [0]), (7, [5, 2, 1, 4, 3, 6, 0])]) [2, 3])
(.ret)))))))
def f39 : SFunc := ⟨b39, [.cell (some 10) 2, .t 3]⟩

/-- slices.Clone[[]watchbill/op.Op,watchbill/op.Op] -/
def b333 : SCode := (
.seq (.ops [⟨some 2, .move (.c .nils), none, []⟩] none [0])
(.seq (.seq (.ops [⟨some 3, .move (.t 0), none, []⟩,
  ⟨some 4, .eq false .s (.t 3) (.c .nils), none, []⟩] none [0, 4])
(.cond (.t 4)
  (.seq (.ops [⟨some 2, .move (.c .nils), none, []⟩] none [2])
  (.ret))
  (.skip)))
(.seq (.ops [⟨some 5, .buildSl 0 [] [], none, []⟩,
  ⟨some 6, .move (.t 0), none, []⟩,
  ⟨some 7, .append 5 (.t 5) (.t 6), none, []⟩,
  ⟨some 2, .move (.t 7), none, []⟩] none [2])
(.ret))))
def f333 : SFunc := ⟨b333, [.t 2]⟩

/-- slices.Clone[[]int,int] -/
def b55 : SCode := (
.seq (.ops [⟨some 2, .move (.c .nils), none, []⟩] none [0])
(.seq (.seq (.ops [⟨some 3, .move (.t 0), none, []⟩,
  ⟨some 4, .eq false .s (.t 3) (.c .nils), none, []⟩] none [0, 4])
(.cond (.t 4)
  (.seq (.ops [⟨some 2, .move (.c .nils), none, []⟩] none [2])
  (.ret))
  (.skip)))
(.seq (.ops [⟨some 5, .buildSl 0 [] [], none, []⟩,
  ⟨some 6, .move (.t 0), none, []⟩,
  ⟨some 7, .append 1 (.t 5) (.t 6), none, []⟩,
  ⟨some 2, .move (.t 7), none, []⟩] none [2])
(.ret))))
def f55 : SFunc := ⟨b55, [.t 2]⟩

/-- (*watchbill/lockq.Lock).Twin -/
def b334 : SCode := (
.seq (.ops [⟨some 2, .move (.c .nilp), none, []⟩] none [0])
(.seq (.ops [⟨some 3, .move (.t 0), none, []⟩,
  ⟨some 4, .nilck (.t 3), none, []⟩,
  ⟨some 5, .fldAddr 0 (.t 4), none, []⟩,
  ⟨some 6, .load none (.t 5), none, []⟩,
  ⟨some 7, .move (.t 0), none, []⟩,
  ⟨some 8, .nilck (.t 7), none, []⟩,
  ⟨some 9, .fldAddr 1 (.t 8), none, []⟩,
  ⟨some 10, .load none (.t 9), none, []⟩,
  ⟨some 11, .call 356 [(.t 10)], none, [3]⟩,
  ⟨some 12, .build [(.int .i64 0), .nils] [(0, 1, (.t 6)), (1, 1, (.t 11))], none, []⟩,
  ⟨some 13, .box (.t 12), none, []⟩,
  ⟨some 2, .move (.t 13), none, []⟩] (some [(0, []), (1, [0]), (2, [1, 0]), (3, [2, 1, 0]), (4, []), (5, [4]), (6, [5, 4]), (7, [6, 5, 4]), (8, [7, 6, 5, 4]), (9, [3, 2, 1, 0, 8, 7, 6, 5, 4]), (10, [9, 3, 2, 1, 0, 8, 7, 6, 5, 4]), (11, [10, 9, 3, 2, 1, 0, 8, 7, 6, 5, 4])]) [2])
(.ret)))
def f334 : SFunc := ⟨b334, [.t 2]⟩

/-- watchbill/set.task -/
def b273 : SCode := (
.seq (.ops [⟨some 2, .box (.t 0), none, []⟩,
  ⟨some 4, .move (.c (.int .i64 0)), none, []⟩] none [1, 2])
(.seq (.ops [⟨some 12, .fldAddr 2 (.t 2), none, []⟩,
  ⟨some 13, .load none (.t 12), none, []⟩,
  ⟨some 14, .move (.t 1), none, []⟩,
  ⟨some 15, .idxAddr 5 (.t 13) (.t 14), none, []⟩,
  ⟨some 16, .load (some 5) (.t 15), none, []⟩,
  ⟨some 5, .alloc (.agg [(.str []), (.int .i64 0), (.int .i64 0), (.int .i64 0), .nils]), none, []⟩,
  ⟨none, .store (some 5) (.t 5) (.t 16), none, []⟩] none [1, 2, 5])
(.seq (.seq (.ops [⟨some 17, .fldAddr 0 (.t 5), none, []⟩,
  ⟨some 18, .load none (.t 17), none, []⟩,
  ⟨some 19, .call 97 [(.t 18)], none, []⟩,
  ⟨some 20, .not (.t 19), none, []⟩] none [1, 2, 5, 20])
(.cond (.t 20)
  (.seq (.ops [⟨some 4, .move (.c (.int .i64 3)), none, []⟩] none [4])
  (.ret))
  (.skip)))
(.seq (.seq (.ops [⟨some 22, .load (some 3) (.t 2), none, []⟩,
  ⟨some 23, .fldAddr 0 (.t 5), none, []⟩,
  ⟨some 24, .load none (.t 23), none, []⟩,
  ⟨some 25, .call 285 [(.t 22), (.t 24)], none, []⟩,
  ⟨some 21, .move (.t 25), none, []⟩,
  ⟨some 26, .ext 0 (.t 21), none, []⟩,
  ⟨some 27, .ext 1 (.t 21), none, []⟩,
  ⟨some 6, .move (.t 26), none, []⟩,
  ⟨some 7, .move (.t 27), none, []⟩] none [1, 2, 5, 6])
(.seq (.ops [⟨some 28, .move (.t 6), none, []⟩,
  ⟨some 29, .move (.t 1), none, []⟩,
  ⟨some 30, .bin .lss (.t 28) (.t 29), none, []⟩] none [2, 5, 30])
(.cond (.t 30)
  (.seq (.ops [⟨some 4, .move (.c (.int .i64 6)), none, []⟩] none [4])
  (.ret))
  (.skip))))
(.seq (.seq (.ops [⟨some 31, .fldAddr 1 (.t 5), none, []⟩,
  ⟨some 32, .load none (.t 31), none, []⟩,
  ⟨some 33, .bin .lss (.t 32) (.c (.int .i64 1)), none, []⟩,
  ⟨some 34, .move (.t 33), none, []⟩,
  ⟨some 35, .fldAddr 1 (.t 5), (some (34, false)), []⟩,
  ⟨some 36, .load none (.t 35), (some (34, false)), []⟩,
  ⟨some 37, .bin .gtr (.t 36) (.c (.int .i64 1099511627776)), (some (34, false)), []⟩,
  ⟨some 38, .pick (.t 34) (.c (.bool true)) (.t 37), none, []⟩,
  ⟨some 39, .move (.t 38), none, []⟩,
  ⟨some 40, .fldAddr 2 (.t 5), (some (39, false)), []⟩,
  ⟨some 41, .load none (.t 40), (some (39, false)), []⟩,
  ⟨some 42, .bin .lss (.t 41) (.c (.int .i64 1)), (some (39, false)), []⟩,
  ⟨some 43, .pick (.t 39) (.c (.bool true)) (.t 42), none, []⟩,
  ⟨some 44, .move (.t 43), none, []⟩,
  ⟨some 45, .fldAddr 2 (.t 5), (some (44, false)), []⟩,
  ⟨some 46, .load none (.t 45), (some (44, false)), []⟩,
  ⟨some 47, .fldAddr 1 (.t 5), (some (44, false)), []⟩,
  ⟨some 48, .load none (.t 47), (some (44, false)), []⟩,
  ⟨some 49, .bin .gtr (.t 46) (.t 48), (some (44, false)), []⟩,
  ⟨some 50, .pick (.t 44) (.c (.bool true)) (.t 49), none, []⟩,
  ⟨some 51, .move (.t 50), none, []⟩,
  ⟨some 52, .fldAddr 3 (.t 5), (some (51, false)), []⟩,
  ⟨some 53, .load none (.t 52), (some (51, false)), []⟩,
  ⟨some 54, .bin .lss (.t 53) (.c (.int .i64 1)), (some (51, false)), []⟩,
  ⟨some 55, .pick (.t 51) (.c (.bool true)) (.t 54), none, []⟩,
  ⟨some 56, .move (.t 55), none, []⟩,
  ⟨some 57, .fldAddr 3 (.t 5), (some (56, false)), []⟩,
  ⟨some 58, .load none (.t 57), (some (56, false)), []⟩,
  ⟨some 59, .fldAddr 2 (.t 5), (some (56, false)), []⟩,
  ⟨some 60, .load none (.t 59), (some (56, false)), []⟩,
  ⟨some 61, .bin .gtr (.t 58) (.t 60), (some (56, false)), []⟩,
  ⟨some 62, .pick (.t 56) (.c (.bool true)) (.t 61), none, []⟩] none [2, 5, 62])
(.cond (.t 62)
  (.seq (.ops [⟨some 4, .move (.c (.int .i64 1)), none, []⟩] none [4])
  (.ret))
  (.skip)))
(.seq (.seq (.ops [⟨some 64, .fldAddr 4 (.t 5), none, []⟩,
  ⟨some 65, .load none (.t 64), none, []⟩,
  ⟨some 66, .call 286 [(.t 65)], none, []⟩,
  ⟨some 63, .move (.t 66), none, []⟩,
  ⟨some 67, .ext 0 (.t 63), none, []⟩,
  ⟨some 68, .ext 1 (.t 63), none, []⟩,
  ⟨some 8, .move (.t 67), none, []⟩,
  ⟨some 9, .move (.t 68), none, []⟩] none [2, 5, 9])
(.seq (.ops [⟨some 69, .move (.t 9), none, []⟩,
  ⟨some 70, .bin .neq (.t 69) (.c (.int .i64 0)), none, []⟩] none [2, 5, 9, 70])
(.cond (.t 70)
  (.seq (.ops [⟨some 71, .move (.t 9), none, []⟩,
    ⟨some 4, .move (.t 71), none, []⟩] none [4])
  (.ret))
  (.skip))))
(.seq (.seq (.ops [⟨some 72, .fldAddr 4 (.t 5), none, []⟩,
  ⟨some 73, .load none (.t 72), none, []⟩,
  ⟨some 74, .call 287 [(.t 73)], none, []⟩,
  ⟨some 75, .bin .eql (.t 74) (.c (.int .i64 0)), none, []⟩] none [2, 5, 75])
(.cond (.t 75)
  (.seq (.ops [⟨some 4, .move (.c (.int .i64 5)), none, []⟩] none [4])
  (.ret))
  (.skip)))
(.seq (.seq (.ops [⟨some 76, .fldAddr 4 (.t 5), none, []⟩,
  ⟨some 77, .load none (.t 76), none, []⟩,
  ⟨some 78, .len .sl (.t 77), none, []⟩,
  ⟨some 79, .move (.c (.int .i64 0)), none, []⟩] none [2, 77, 78, 79])
(.block 0 (.loop [2, 77, 78, 79] (.seq (.ops [⟨some 80, .bin .lss (.t 79) (.t 78), none, []⟩] none [2, 77, 78, 79, 80])
    (.seq (.cond (.t 80)
      (.skip)
      (.exit 0))
    (.seq (.block 1 (.seq (.ops [⟨some 81, .idxAddr 5 (.t 77) (.t 79), none, []⟩,
        ⟨some 82, .load (some 5) (.t 81), none, []⟩,
        ⟨some 11, .alloc (.agg [(.int .i64 0), (.int .i64 0), (.int .i64 0), (.int .i64 0), .nils]), none, []⟩,
        ⟨none, .store (some 5) (.t 11) (.t 82), none, []⟩] none [2, 11, 77, 78, 79])
      (.seq (.ops [⟨some 83, .load (some 3) (.t 2), none, []⟩,
        ⟨some 84, .load (some 5) (.t 11), none, []⟩,
        ⟨some 85, .call 288 [(.t 83), (.t 84)], none, []⟩,
        ⟨some 86, .not (.t 85), none, []⟩] none [2, 77, 78, 79, 86])
      (.cond (.t 86)
        (.seq (.ops [⟨some 4, .move (.c (.int .i64 3)), none, []⟩] none [4])
        (.ret))
        (.skip)))))
    (.ops [⟨some 87, .bin .add (.t 79) (.c (.int .i64 1)), none, []⟩,
      ⟨some 79, .move (.t 87), none, []⟩] none [2, 77, 78, 79])))))))
(.seq (.ops [⟨some 4, .move (.c (.int .i64 0)), none, []⟩] none [4])
(.ret))))))))))
def f273 : SFunc := ⟨b273, [.t 4]⟩

/-- slices.Clone[[]watchbill/set.Chan,watchbill/set.Chan] -/
def b335 : SCode := (
.seq (.ops [⟨some 2, .move (.c .nils), none, []⟩] none [0])
(.seq (.seq (.ops [⟨some 3, .move (.t 0), none, []⟩,
  ⟨some 4, .eq false .s (.t 3) (.c .nils), none, []⟩] none [0, 4])
(.cond (.t 4)
  (.seq (.ops [⟨some 2, .move (.c .nils), none, []⟩] none [2])
  (.ret))
  (.skip)))
(.seq (.ops [⟨some 5, .buildSl 0 [] [], none, []⟩,
  ⟨some 6, .move (.t 0), none, []⟩,
  ⟨some 7, .append 2 (.t 5) (.t 6), none, []⟩,
  ⟨some 2, .move (.t 7), none, []⟩] none [2])
(.ret))))
def f335 : SFunc := ⟨b335, [.t 2]⟩

/-- slices.Clone[[]watchbill/set.Task,watchbill/set.Task] -/
def b336 : SCode := (
.seq (.ops [⟨some 2, .move (.c .nils), none, []⟩] none [0])
(.seq (.seq (.ops [⟨some 3, .move (.t 0), none, []⟩,
  ⟨some 4, .eq false .s (.t 3) (.c .nils), none, []⟩] none [0, 4])
(.cond (.t 4)
  (.seq (.ops [⟨some 2, .move (.c .nils), none, []⟩] none [2])
  (.ret))
  (.skip)))
(.seq (.ops [⟨some 5, .buildSl 0 [] [], none, []⟩,
  ⟨some 6, .move (.t 0), none, []⟩,
  ⟨some 7, .append 5 (.t 5) (.t 6), none, []⟩,
  ⟨some 2, .move (.t 7), none, []⟩] none [2])
(.ret))))
def f336 : SFunc := ⟨b336, [.t 2]⟩

/-- slices.SortStableFunc[[]int,int] -/
def b338 : SCode := (
.ops [⟨some 4, .move (.t 0), none, []⟩,
  ⟨some 5, .move (.t 0), none, []⟩,
  ⟨some 6, .len .sl (.t 5), none, []⟩,
  ⟨some 7, .move (.t 1), none, []⟩,
  ⟨some 8, .call 357 [(.t 4), (.t 6), (.t 7)], none, []⟩] none [])
def f338 : SFunc := ⟨b338, []⟩

/-- watchbill/order.Prios$1 -/
def b337 : SCode := (
.seq (.ops [⟨some 5, .move (.c (.int .i64 0)), none, []⟩] none [0, 1, 2])
(.seq (.ops [⟨some 6, .fldAddr 2 (.t 2), none, []⟩,
  ⟨some 7, .load none (.t 6), none, []⟩,
  ⟨some 8, .move (.t 0), none, []⟩,
  ⟨some 9, .idxAddr 5 (.t 7) (.t 8), none, []⟩,
  ⟨some 10, .fldAddr 2 (.t 9), none, []⟩,
  ⟨some 11, .load none (.t 10), none, []⟩,
  ⟨some 12, .fldAddr 2 (.t 2), none, []⟩,
  ⟨some 13, .load none (.t 12), none, []⟩,
  ⟨some 14, .move (.t 1), none, []⟩,
  ⟨some 15, .idxAddr 5 (.t 13) (.t 14), none, []⟩,
  ⟨some 16, .fldAddr 2 (.t 15), none, []⟩,
  ⟨some 17, .load none (.t 16), none, []⟩,
  ⟨some 18, .call 358 [(.t 11), (.t 17)], none, []⟩,
  ⟨some 5, .move (.t 18), none, []⟩] (some [(0, []), (1, [0]), (2, []), (3, [1, 0, 2]), (4, [3, 1, 0, 2]), (5, [4, 3, 1, 0, 2]), (6, []), (7, [6]), (8, []), (9, [7, 6, 8]), (10, [9, 7, 6, 8]), (11, [10, 9, 7, 6, 8]), (12, [5, 4, 3, 1, 0, 2, 11, 10, 9, 7, 6, 8]), (13, [12, 5, 4, 3, 1, 0, 2, 11, 10, 9, 7, 6, 8])]) [5])
(.ret)))
def f337 : SFunc := ⟨b337, [.t 5]⟩

/-- cmp.Compare[int64] -/
def b358 : SCode := (
.seq (.ops [⟨some 4, .move (.c (.int .i64 0)), none, []⟩] none [0, 1])
(.seq (.ops [⟨some 7, .move (.t 0), none, []⟩,
  ⟨some 8, .call 359 [(.t 7)], none, []⟩,
  ⟨some 5, .move (.t 8), none, []⟩] none [0, 1, 5])
(.seq (.ops [⟨some 9, .move (.t 1), none, []⟩,
  ⟨some 10, .call 359 [(.t 9)], none, []⟩,
  ⟨some 6, .move (.t 10), none, []⟩] none [0, 1, 5, 6])
(.seq (.seq (.ops [⟨some 11, .move (.t 5), none, []⟩] none [0, 1, 6, 11])
(.cond (.t 11)
  (.seq (.seq (.ops [⟨some 12, .move (.t 6), none, []⟩] none [12])
  (.cond (.t 12)
    (.seq (.ops [⟨some 4, .move (.c (.int .i64 0)), none, []⟩] none [4])
    (.ret))
    (.skip)))
  (.seq (.ops [⟨some 4, .move (.c (.int .i64 (-1))), none, []⟩] none [4])
  (.ret)))
  (.skip)))
(.seq (.seq (.ops [⟨some 13, .move (.t 6), none, []⟩] none [0, 1, 13])
(.cond (.t 13)
  (.seq (.ops [⟨some 4, .move (.c (.int .i64 1)), none, []⟩] none [4])
  (.ret))
  (.skip)))
(.seq (.seq (.ops [⟨some 14, .move (.t 0), none, []⟩,
  ⟨some 15, .move (.t 1), none, []⟩,
  ⟨some 16, .bin .lss (.t 14) (.t 15), none, []⟩] none [0, 1, 16])
(.cond (.t 16)
  (.seq (.ops [⟨some 4, .move (.c (.int .i64 (-1))), none, []⟩] none [4])
  (.ret))
  (.skip)))
(.seq (.seq (.ops [⟨some 17, .move (.t 0), none, []⟩,
  ⟨some 18, .move (.t 1), none, []⟩,
  ⟨some 19, .bin .gtr (.t 17) (.t 18), none, []⟩] none [19])
(.cond (.t 19)
  (.seq (.ops [⟨some 4, .move (.c (.int .i64 1)), none, []⟩] none [4])
  (.ret))
  (.skip)))
(.seq (.ops [⟨some 4, .move (.c (.int .i64 0)), none, []⟩] none [4])
(.ret)))))))))
def f358 : SFunc := ⟨b358, [.t 4]⟩

/-- slices.Contains[[]int,int] -/
def b340 : SCode := (
.seq (.ops [⟨some 4, .move (.c (.bool false)), none, []⟩] none [0, 1])
(.seq (.ops [⟨some 5, .move (.t 0), none, []⟩,
  ⟨some 6, .move (.t 1), none, []⟩,
  ⟨some 7, .call 360 [(.t 5), (.t 6)], none, []⟩,
  ⟨some 8, .bin .geq (.t 7) (.c (.int .i64 0)), none, []⟩,
  ⟨some 4, .move (.t 8), none, []⟩] none [4])
(.ret)))
def f340 : SFunc := ⟨b340, [.t 4]⟩

/-- watchbill/prog.Locks -/
def b339 : SCode := (
.seq (.ops [⟨some 2, .move (.c .nils), none, []⟩] none [0])
(.seq (.ops [⟨some 3, .move (.c .nils), none, []⟩] none [0, 3])
(.seq (.seq (.ops [⟨some 6, .move (.t 0), none, []⟩,
  ⟨some 7, .len .sl (.t 6), none, []⟩,
  ⟨some 8, .move (.c (.int .i64 0)), none, []⟩] none [3, 6, 7, 8])
(.block 0 (.loop [3, 6, 7, 8] (.seq (.ops [⟨some 9, .bin .lss (.t 8) (.t 7), none, []⟩] none [3, 6, 7, 8, 9])
    (.seq (.cond (.t 9)
      (.skip)
      (.exit 0))
    (.seq (.block 1 (.seq (.ops [⟨some 10, .idxAddr 5 (.t 6) (.t 8), none, []⟩,
        ⟨some 11, .load (some 5) (.t 10), none, []⟩,
        ⟨some 5, .alloc (.agg [(.int .i64 0), (.int .i64 0), (.int .i64 0), (.int .i64 0), .nils]), none, []⟩,
        ⟨none, .store (some 5) (.t 5) (.t 11), none, []⟩] none [3, 5, 6, 7, 8])
      (.seq (.ops [⟨some 12, .fldAddr 0 (.t 5), none, []⟩,
        ⟨some 13, .load none (.t 12), none, []⟩,
        ⟨some 14, .bin .eql (.t 13) (.c (.int .i64 2)), none, []⟩] none [3, 5, 6, 7, 8, 14])
      (.cond (.t 14)
        (.ops [⟨some 15, .move (.t 3), none, []⟩,
          ⟨some 16, .fldAddr 1 (.t 5), none, []⟩,
          ⟨some 17, .load none (.t 16), none, []⟩,
          ⟨some 18, .buildSl 1 [(.int .i64 0)] [(0, 1, (.t 17))], none, []⟩,
          ⟨some 19, .append 1 (.t 15) (.t 18), none, []⟩,
          ⟨some 3, .move (.t 19), none, []⟩] none [3, 6, 7, 8])
        (.skip)))))
    (.ops [⟨some 20, .bin .add (.t 8) (.c (.int .i64 1)), none, []⟩,
      ⟨some 8, .move (.t 20), none, []⟩] none [3, 6, 7, 8])))))))
(.seq (.ops [⟨some 21, .move (.t 3), none, []⟩,
  ⟨some 22, .call 361 [(.t 21)], none, []⟩] none [3])
(.seq (.ops [⟨some 23, .move (.t 3), none, []⟩,
  ⟨some 24, .call 362 [(.t 23)], none, []⟩,
  ⟨some 2, .move (.t 24), none, []⟩] none [2])
(.ret))))))
def f339 : SFunc := ⟨b339, [.t 2]⟩

/-- watchbill/ring.New -/
def b341 : SCode := (
.seq (.ops [⟨some 2, .move (.c .nilp), none, []⟩,
  ⟨some 3, .move (.c (.int .i64 0)), none, []⟩] none [0])
(.seq (.seq (.ops [⟨some 4, .move (.t 0), none, []⟩,
  ⟨some 5, .bin .lss (.t 4) (.c (.int .i64 0)), none, []⟩,
  ⟨some 6, .move (.t 5), none, []⟩,
  ⟨some 7, .move (.t 0), (some (6, false)), []⟩,
  ⟨some 8, .bin .gtr (.t 7) (.c (.int .i64 16)), (some (6, false)), []⟩,
  ⟨some 9, .pick (.t 6) (.c (.bool true)) (.t 8), none, []⟩] none [0, 9])
(.cond (.t 9)
  (.seq (.ops [⟨some 2, .move (.c .nilp), none, []⟩,
    ⟨some 3, .move (.c (.int .i64 1)), none, []⟩] none [2, 3])
  (.ret))
  (.skip)))
(.seq (.ops [⟨some 10, .move (.t 0), none, []⟩,
  ⟨some 11, .mkch (.t 10), none, []⟩,
  ⟨some 12, .build [.nilc] [(0, 1, (.t 11))], none, []⟩,
  ⟨some 13, .box (.t 12), none, []⟩,
  ⟨some 2, .move (.t 13), none, []⟩,
  ⟨some 3, .move (.c (.int .i64 0)), none, []⟩] none [2, 3])
(.ret))))
def f341 : SFunc := ⟨b341, [.t 2, .t 3]⟩

/-- watchbill/prog.Flat -/
def b65 : SCode := (
.seq (.ops [⟨some 2, .move (.c .nils), none, []⟩] none [0])
(.seq (.ops [⟨some 3, .move (.c .nils), none, []⟩] none [0, 3])
(.seq (.seq (.ops [⟨some 4, .move (.c (.int .i64 0)), none, []⟩] none [0, 3, 4])
(.block 0 (.loop [0, 3, 4] (.seq (.seq (.ops [⟨some 7, .move (.t 4), none, []⟩,
      ⟨some 8, .move (.t 0), none, []⟩,
      ⟨some 9, .len .sl (.t 8), none, []⟩,
      ⟨some 10, .bin .lss (.t 7) (.t 9), none, []⟩] none [0, 3, 4, 10])
    (.cond (.t 10)
      (.skip)
      (.exit 0)))
    (.seq (.block 1 (.seq (.seq (.ops [⟨some 13, .move (.t 0), none, []⟩,
        ⟨some 14, .move (.t 4), none, []⟩,
        ⟨some 15, .idxAddr 5 (.t 13) (.t 14), none, []⟩,
        ⟨some 16, .fldAddr 0 (.t 15), none, []⟩,
        ⟨some 17, .load none (.t 16), none, []⟩,
        ⟨some 18, .bin .neq (.t 17) (.c (.int .i64 8)), none, []⟩] none [0, 3, 4, 18])
      (.cond (.t 18)
        (.seq (.ops [⟨some 19, .move (.t 3), none, []⟩,
          ⟨some 20, .move (.t 0), none, []⟩,
          ⟨some 21, .move (.t 4), none, []⟩,
          ⟨some 22, .idxAddr 5 (.t 20) (.t 21), none, []⟩,
          ⟨some 23, .load (some 5) (.t 22), none, []⟩,
          ⟨some 24, .buildSl 1 [(.int .i64 0), (.int .i64 0), (.int .i64 0), (.int .i64 0), .nils] [(0, 5, (.t 23))], none, []⟩,
          ⟨some 25, .append 5 (.t 19) (.t 24), none, []⟩,
          ⟨some 3, .move (.t 25), none, []⟩] none [0, 3, 4])
        (.exit 1))
        (.skip)))
      (.seq (.ops [⟨some 26, .move (.t 0), none, []⟩,
        ⟨some 27, .move (.t 4), none, []⟩,
        ⟨some 28, .call 69 [(.t 26), (.t 27)], none, []⟩,
        ⟨some 5, .move (.t 28), none, []⟩] none [0, 3, 4, 5])
      (.seq (.seq (.ops [⟨some 29, .move (.t 5), none, []⟩,
        ⟨some 30, .bin .lss (.t 29) (.c (.int .i64 0)), none, []⟩] none [0, 3, 4, 5, 30])
      (.cond (.t 30)
        (.exit 0)
        (.skip)))
      (.seq (.ops [⟨some 31, .move (.t 0), none, []⟩,
        ⟨some 32, .move (.t 4), none, []⟩,
        ⟨some 33, .bin .add (.t 32) (.c (.int .i64 1)), none, []⟩,
        ⟨some 34, .move (.t 5), none, []⟩,
        ⟨some 35, .slSl 5 (.t 31) (some (.t 33)) (some (.t 34)), none, []⟩,
        ⟨some 36, .call 65 [(.t 35)], none, []⟩,
        ⟨some 6, .move (.t 36), none, []⟩] none [0, 3, 4, 5, 6])
      (.seq (.seq (.ops [⟨some 37, .move (.t 0), none, []⟩,
        ⟨some 38, .move (.t 4), none, []⟩,
        ⟨some 39, .idxAddr 5 (.t 37) (.t 38), none, []⟩,
        ⟨some 40, .fldAddr 1 (.t 39), none, []⟩,
        ⟨some 41, .load none (.t 40), none, []⟩,
        ⟨some 42, .move (.c (.int .i64 0)), none, []⟩] none [0, 3, 5, 6, 41, 42])
      (.block 2 (.loop [0, 3, 5, 6, 41, 42] (.seq (.ops [⟨some 43, .bin .lss (.t 42) (.t 41), none, []⟩] none [0, 3, 5, 6, 41, 42, 43])
          (.seq (.cond (.t 43)
            (.skip)
            (.exit 2))
          (.seq (.block 3 (.ops [⟨some 44, .move (.t 3), none, []⟩,
              ⟨some 45, .move (.t 6), none, []⟩,
              ⟨some 46, .append 5 (.t 44) (.t 45), none, []⟩,
              ⟨some 3, .move (.t 46), none, []⟩] none [0, 3, 5, 6, 41, 42]))
          (.ops [⟨some 47, .bin .add (.t 42) (.c (.int .i64 1)), none, []⟩,
            ⟨some 42, .move (.t 47), none, []⟩] none [0, 3, 5, 6, 41, 42])))))))
      (.ops [⟨some 48, .move (.t 5), none, []⟩,
        ⟨some 4, .move (.t 48), none, []⟩] none [0, 3, 4])))))))
    (.ops [⟨some 11, .move (.t 4), none, []⟩,
      ⟨some 12, .bin .add (.t 11) (.c (.int .i64 1)), none, []⟩,
      ⟨some 4, .move (.t 12), none, []⟩] none [0, 3, 4]))))))
(.seq (.ops [⟨some 49, .move (.t 3), none, []⟩,
  ⟨some 2, .move (.t 49), none, []⟩] none [2])
(.ret)))))
def f65 : SFunc := ⟨b65, [.t 2]⟩

/-- watchbill/job.Begin -/
def b36 : SCode := (
.seq (.ops [⟨some 1, .box (.t 0), none, []⟩,
  ⟨some 2, .alloc (.agg [(.bool false), .nils, (.int .i64 0), (.int .i64 0), (.int .i64 0), (.int .i64 0), (.int .i64 0), (.int .i64 0), (.bool false), .nils]), none, []⟩,
  ⟨some 3, .move (.c (.bool false)), none, []⟩] none [1, 2])
(.seq (.ops [⟨some 7, .load (some 10) (.t 1), none, []⟩,
  ⟨some 8, .call 30 [(.t 7)], none, []⟩,
  ⟨some 6, .move (.t 8), none, []⟩,
  ⟨some 9, .ext 0 (.t 6), none, []⟩,
  ⟨some 10, .ext 1 (.t 6), none, []⟩,
  ⟨some 4, .alloc (.agg [(.int .i64 0), (.int .i64 0), (.int .i64 0), (.int .i64 0), .nils]), none, []⟩,
  ⟨none, .store (some 5) (.t 4) (.t 9), none, []⟩,
  ⟨some 5, .move (.t 10), none, []⟩] none [1, 2, 4, 5])
(.seq (.seq (.ops [⟨some 11, .move (.t 5), none, []⟩,
  ⟨some 12, .not (.t 11), none, []⟩,
  ⟨some 13, .move (.t 12), none, []⟩,
  ⟨some 14, .fldAddr 0 (.t 4), (some (13, false)), []⟩,
  ⟨some 15, .load none (.t 14), (some (13, false)), []⟩,
  ⟨some 16, .bin .neq (.t 15) (.c (.int .i64 1)), (some (13, false)), []⟩,
  ⟨some 17, .pick (.t 13) (.c (.bool true)) (.t 16), none, []⟩,
  ⟨some 18, .move (.t 17), none, []⟩,
  ⟨some 19, .fldAddr 3 (.t 1), (some (18, false)), []⟩,
  ⟨some 20, .load none (.t 19), (some (18, false)), []⟩,
  ⟨some 21, .bin .neq (.t 20) (.c (.int .i64 0)), (some (18, false)), []⟩,
  ⟨some 22, .pick (.t 18) (.c (.bool true)) (.t 21), none, []⟩,
  ⟨some 23, .move (.t 22), none, []⟩,
  ⟨some 24, .fldAddr 4 (.t 1), (some (23, false)), []⟩,
  ⟨some 25, .load none (.t 24), (some (23, false)), []⟩,
  ⟨some 26, .fldAddr 5 (.t 1), (some (23, false)), []⟩,
  ⟨some 27, .load none (.t 26), (some (23, false)), []⟩,
  ⟨some 28, .bin .geq (.t 25) (.t 27), (some (23, false)), []⟩,
  ⟨some 29, .pick (.t 23) (.c (.bool true)) (.t 28), none, []⟩] none [1, 2, 4, 29])
(.cond (.t 29)
  (.seq (.ops [⟨some 30, .load (some 10) (.t 1), none, []⟩,
    ⟨none, .store (some 10) (.t 2) (.t 30), none, []⟩,
    ⟨some 3, .move (.c (.bool false)), none, []⟩] none [2, 3])
  (.ret))
  (.skip)))
(.seq (.ops [⟨some 31, .fldAddr 1 (.t 4), none, []⟩,
  ⟨some 32, .load none (.t 31), none, []⟩,
  ⟨some 33, .fldAddr 3 (.t 1), none, []⟩,
  ⟨none, .store none (.t 33) (.t 32), none, []⟩] none [1, 2])
(.seq (.ops [⟨some 34, .load (some 10) (.t 1), none, []⟩,
  ⟨none, .store (some 10) (.t 2) (.t 34), none, []⟩,
  ⟨some 3, .move (.c (.bool true)), none, []⟩] none [2, 3])
(.ret))))))
def f36 : SFunc := ⟨b36, [.cell (some 10) 2, .t 3]⟩

/-- (*watchbill/lockq.Lock).Take -/
def b342 : SCode := (
.seq (.ops [⟨some 6, .move (.c (.bool false)), none, []⟩,
  ⟨some 7, .move (.c (.int .i64 0)), none, []⟩] none [0, 1, 2])
(.seq (.block 0 (.seq (.ops [⟨some 9, .move (.t 1), none, []⟩,
    ⟨some 10, .bin .lss (.t 9) (.c (.int .i64 0)), none, []⟩,
    ⟨some 8, .move (.t 10), none, []⟩] none [0, 1, 2, 8])
  (.cond (.t 8)
    (.seq (.ops [⟨some 6, .move (.c (.bool false)), none, []⟩,
      ⟨some 7, .move (.c (.int .i64 1)), none, []⟩] none [6, 7])
    (.ret))
    (.seq (.ops [⟨some 12, .move (.t 0), none, []⟩,
      ⟨some 13, .nilck (.t 12), none, []⟩,
      ⟨some 14, .fldAddr 0 (.t 13), none, []⟩,
      ⟨some 15, .load none (.t 14), none, []⟩,
      ⟨some 16, .move (.t 1), none, []⟩,
      ⟨some 17, .bin .eql (.t 15) (.t 16), none, []⟩,
      ⟨some 18, .move (.t 17), none, []⟩,
      ⟨some 19, .move (.t 0), (some (18, false)), []⟩,
      ⟨some 20, .nilck (.t 19), (some (18, false)), []⟩,
      ⟨some 21, .fldAddr 1 (.t 20), (some (18, false)), []⟩,
      ⟨some 22, .load none (.t 21), (some (18, false)), []⟩,
      ⟨some 23, .move (.t 1), (some (18, false)), []⟩,
      ⟨some 24, .call 363 [(.t 22), (.t 23)], (some (18, false)), []⟩,
      ⟨some 25, .pick (.t 18) (.c (.bool true)) (.t 24), none, []⟩,
      ⟨some 11, .move (.t 25), none, []⟩] none [0, 1, 2, 11])
    (.cond (.t 11)
      (.seq (.ops [⟨some 6, .move (.c (.bool false)), none, []⟩,
        ⟨some 7, .move (.c (.int .i64 6)), none, []⟩] none [6, 7])
      (.ret))
      (.seq (.ops [⟨some 27, .move (.t 0), none, []⟩,
        ⟨some 28, .nilck (.t 27), none, []⟩,
        ⟨some 29, .fldAddr 0 (.t 28), none, []⟩,
        ⟨some 30, .load none (.t 29), none, []⟩,
        ⟨some 31, .bin .eql (.t 30) (.c (.int .i64 (-1))), none, []⟩,
        ⟨some 26, .move (.t 31), none, []⟩] none [0, 1, 2, 26])
      (.cond (.t 26)
        (.seq (.ops [⟨some 32, .move (.t 0), none, []⟩,
          ⟨some 33, .move (.t 1), none, []⟩,
          ⟨some 34, .nilck (.t 32), none, []⟩,
          ⟨some 35, .fldAddr 0 (.t 34), none, []⟩,
          ⟨none, .store none (.t 35) (.t 33), none, []⟩] none [])
        (.seq (.ops [⟨some 6, .move (.c (.bool true)), none, []⟩,
          ⟨some 7, .move (.c (.int .i64 0)), none, []⟩] none [6, 7])
        (.ret)))
        (.skip))))))))
(.seq (.ops [⟨some 36, .move (.t 0), none, []⟩,
  ⟨some 37, .move (.t 0), none, []⟩,
  ⟨some 38, .nilck (.t 37), none, []⟩,
  ⟨some 39, .fldAddr 1 (.t 38), none, []⟩,
  ⟨some 40, .load none (.t 39), none, []⟩,
  ⟨some 41, .call 356 [(.t 40)], none, []⟩,
  ⟨some 42, .move (.t 1), none, []⟩,
  ⟨some 43, .move (.t 2), none, []⟩,
  ⟨some 44, .build [(.int .i64 0), (.int .i64 0), (.int .i64 0), (.int .i64 0)] [(0, 1, (.t 42)), (2, 1, (.t 43))], none, []⟩,
  ⟨some 45, .buildSl 1 [(.int .i64 0), (.int .i64 0), (.int .i64 0), (.int .i64 0)] [(0, 4, (.t 44))], none, []⟩,
  ⟨some 46, .append 4 (.t 41) (.t 45), none, []⟩,
  ⟨some 47, .nilck (.t 36), none, []⟩,
  ⟨some 48, .fldAddr 1 (.t 47), none, []⟩,
  ⟨none, .store none (.t 48) (.t 46), none, []⟩] none [])
(.seq (.ops [⟨some 6, .move (.c (.bool false)), none, []⟩,
  ⟨some 7, .move (.c (.int .i64 0)), none, []⟩] none [6, 7])
(.ret)))))
def f342 : SFunc := ⟨b342, [.t 6, .t 7]⟩

/-- (*watchbill/core.Core).waits -/
def b343 : SCode := (
.seq (.ops [⟨some 6, .move (.c .nils), none, []⟩] none [0, 1, 2])
(.seq (.ops [⟨some 7, .move (.t 0), none, []⟩,
  ⟨some 8, .nilck (.t 7), none, []⟩,
  ⟨some 9, .fldAddr 5 (.t 8), none, []⟩,
  ⟨some 10, .load none (.t 9), none, []⟩,
  ⟨some 11, .move (.t 2), none, []⟩,
  ⟨some 12, .idxAddr 10 (.t 10) (.t 11), none, []⟩,
  ⟨some 13, .fldAddr 8 (.t 12), none, []⟩,
  ⟨none, .store none (.t 13) (.c (.bool true)), none, []⟩] none [0, 1, 2])
(.seq (.ops [⟨some 14, .move (.t 1), none, []⟩,
  ⟨some 15, .move (.t 2), none, []⟩,
  ⟨some 16, .move (.t 0), none, []⟩,
  ⟨some 17, .nilck (.t 16), none, []⟩,
  ⟨some 18, .fldAddr 5 (.t 17), none, []⟩,
  ⟨some 19, .load none (.t 18), none, []⟩,
  ⟨some 20, .move (.t 2), none, []⟩,
  ⟨some 21, .idxAddr 10 (.t 19) (.t 20), none, []⟩,
  ⟨some 22, .fldAddr 2 (.t 21), none, []⟩,
  ⟨some 23, .load none (.t 22), none, []⟩,
  ⟨some 24, .build [(.int .i64 0), (.int .i64 0), (.int .i64 0), (.int .i64 0), (.int .i64 0), (.int .i64 0), (.int .i64 0)] [(0, 1, (.t 14)), (1, 1, (.c (.int .i64 5))), (2, 1, (.t 15)), (3, 1, (.t 23))], none, []⟩,
  ⟨some 25, .buildSl 1 [(.int .i64 0), (.int .i64 0), (.int .i64 0), (.int .i64 0), (.int .i64 0), (.int .i64 0), (.int .i64 0)] [(0, 7, (.t 24))], none, []⟩,
  ⟨some 6, .move (.t 25), none, []⟩] none [6])
(.ret))))
def f343 : SFunc := ⟨b343, [.t 6]⟩

/-- watchbill/job.Take -/
def b43 : SCode := (
.seq (.ops [⟨some 2, .box (.t 0), none, []⟩,
  ⟨some 4, .alloc (.agg [(.bool false), .nils, (.int .i64 0), (.int .i64 0), (.int .i64 0), (.int .i64 0), (.int .i64 0), (.int .i64 0), (.bool false), .nils]), none, []⟩] none [1, 2, 4])
(.seq (.ops [⟨some 5, .fldAddr 9 (.t 2), none, []⟩,
  ⟨some 6, .load none (.t 5), none, []⟩,
  ⟨some 7, .call 55 [(.t 6)], none, []⟩,
  ⟨some 8, .move (.t 1), none, []⟩,
  ⟨some 9, .buildSl 1 [(.int .i64 0)] [(0, 1, (.t 8))], none, []⟩,
  ⟨some 10, .append 1 (.t 7) (.t 9), none, []⟩,
  ⟨some 11, .fldAddr 9 (.t 2), none, []⟩,
  ⟨none, .store none (.t 11) (.t 10), none, []⟩] none [2, 4])
(.seq (.ops [⟨some 12, .load (some 10) (.t 2), none, []⟩,
  ⟨none, .store (some 10) (.t 4) (.t 12), none, []⟩] none [4])
(.ret))))
def f43 : SFunc := ⟨b43, [.cell (some 10) 4]⟩

/-- watchbill/job.Step -/
def b41 : SCode := (
.seq (.ops [⟨some 1, .box (.t 0), none, []⟩,
  ⟨some 2, .alloc (.agg [(.bool false), .nils, (.int .i64 0), (.int .i64 0), (.int .i64 0), (.int .i64 0), (.int .i64 0), (.int .i64 0), (.bool false), .nils]), none, []⟩] none [1, 2])
(.seq (.ops [⟨some 3, .fldAddr 2 (.t 1), none, []⟩,
  ⟨some 4, .load none (.t 3), none, []⟩,
  ⟨some 5, .bin .add (.t 4) (.c (.int .i64 1)), none, []⟩,
  ⟨some 6, .fldAddr 2 (.t 1), none, []⟩,
  ⟨none, .store none (.t 6) (.t 5), none, []⟩,
  ⟨some 7, .fldAddr 3 (.t 1), none, []⟩,
  ⟨none, .store none (.t 7) (.c (.int .i64 0)), none, []⟩,
  ⟨some 8, .fldAddr 8 (.t 1), none, []⟩,
  ⟨none, .store none (.t 8) (.c (.bool false)), none, []⟩] none [1, 2])
(.seq (.ops [⟨some 9, .load (some 10) (.t 1), none, []⟩,
  ⟨none, .store (some 10) (.t 2) (.t 9), none, []⟩] none [2])
(.ret))))
def f41 : SFunc := ⟨b41, [.cell (some 10) 2]⟩

/-- watchbill/job.Give -/
def b45 : SCode := (
.seq (.ops [⟨some 2, .box (.t 0), none, []⟩,
  ⟨some 4, .alloc (.agg [(.bool false), .nils, (.int .i64 0), (.int .i64 0), (.int .i64 0), (.int .i64 0), (.int .i64 0), (.int .i64 0), (.bool false), .nils]), none, []⟩] none [1, 2, 4])
(.seq (.ops [⟨some 5, .move (.c .nils), none, []⟩] none [1, 2, 4, 5])
(.seq (.skip)
(.seq (.seq (.ops [⟨some 8, .fldAddr 9 (.t 2), none, []⟩,
  ⟨some 9, .load none (.t 8), none, []⟩,
  ⟨some 10, .len .sl (.t 9), none, []⟩,
  ⟨some 11, .move (.c (.int .i64 0)), none, []⟩] none [1, 2, 4, 5, 9, 10, 11])
(.block 0 (.loop [1, 2, 4, 5, 9, 10, 11] (.seq (.ops [⟨some 12, .bin .lss (.t 11) (.t 10), none, []⟩] none [1, 2, 4, 5, 9, 10, 11, 12])
    (.seq (.cond (.t 12)
      (.skip)
      (.exit 0))
    (.seq (.block 1 (.seq (.ops [⟨some 13, .idxAddr 1 (.t 9) (.t 11), none, []⟩,
        ⟨some 14, .load none (.t 13), none, []⟩,
        ⟨some 7, .move (.t 14), none, []⟩] none [1, 2, 4, 5, 7, 9, 10, 11])
      (.seq (.seq (.ops [⟨some 15, .move (.t 7), none, []⟩,
        ⟨some 16, .move (.t 1), none, []⟩,
        ⟨some 17, .bin .eql (.t 15) (.t 16), none, []⟩] none [1, 2, 4, 5, 7, 9, 10, 11, 17])
      (.cond (.t 17)
        (.exit 1)
        (.skip)))
      (.ops [⟨some 18, .move (.t 5), none, []⟩,
        ⟨some 19, .move (.t 7), none, []⟩,
        ⟨some 20, .buildSl 1 [(.int .i64 0)] [(0, 1, (.t 19))], none, []⟩,
        ⟨some 21, .append 1 (.t 18) (.t 20), none, []⟩,
        ⟨some 5, .move (.t 21), none, []⟩] none [1, 2, 4, 5, 9, 10, 11]))))
    (.ops [⟨some 22, .bin .add (.t 11) (.c (.int .i64 1)), none, []⟩,
      ⟨some 11, .move (.t 22), none, []⟩] none [1, 2, 4, 5, 9, 10, 11])))))))
(.seq (.ops [⟨some 23, .move (.t 5), none, []⟩,
  ⟨some 24, .fldAddr 9 (.t 2), none, []⟩,
  ⟨none, .store none (.t 24) (.t 23), none, []⟩] none [2, 4])
(.seq (.ops [⟨some 25, .load (some 10) (.t 2), none, []⟩,
  ⟨none, .store (some 10) (.t 4) (.t 25), none, []⟩] none [4])
(.ret)))))))
def f45 : SFunc := ⟨b45, [.cell (some 10) 4]⟩

/-- (*watchbill/lockq.Lock).Give -/
def b344 : SCode := (
.seq (.ops [⟨some 6, .move (.c (.int .i64 0)), none, []⟩,
  ⟨some 7, .move (.c (.int .i64 0)), none, []⟩] none [0, 1, 2])
(.seq (.seq (.ops [⟨some 9, .move (.t 1), none, []⟩,
  ⟨some 10, .bin .lss (.t 9) (.c (.int .i64 0)), none, []⟩,
  ⟨some 11, .move (.t 10), none, []⟩,
  ⟨some 12, .move (.t 0), (some (11, false)), []⟩,
  ⟨some 13, .nilck (.t 12), (some (11, false)), []⟩,
  ⟨some 14, .fldAddr 0 (.t 13), (some (11, false)), []⟩,
  ⟨some 15, .load none (.t 14), (some (11, false)), []⟩,
  ⟨some 16, .move (.t 1), (some (11, false)), []⟩,
  ⟨some 17, .bin .neq (.t 15) (.t 16), (some (11, false)), []⟩,
  ⟨some 18, .pick (.t 11) (.c (.bool true)) (.t 17), none, []⟩] none [0, 2, 18])
(.cond (.t 18)
  (.seq (.ops [⟨some 6, .move (.c (.int .i64 0)), none, []⟩,
    ⟨some 7, .move (.c (.int .i64 10)), none, []⟩] none [6, 7])
  (.ret))
  (.skip)))
(.seq (.ops [⟨some 19, .move (.t 0), none, []⟩,
  ⟨some 20, .nilck (.t 19), none, []⟩,
  ⟨some 21, .fldAddr 0 (.t 20), none, []⟩,
  ⟨none, .store none (.t 21) (.c (.int .i64 (-1))), none, []⟩] none [0, 2])
(.seq (.seq (.ops [⟨some 22, .move (.t 0), none, []⟩,
  ⟨some 23, .nilck (.t 22), none, []⟩,
  ⟨some 24, .fldAddr 1 (.t 23), none, []⟩,
  ⟨some 25, .load none (.t 24), none, []⟩,
  ⟨some 26, .move (.t 2), none, []⟩,
  ⟨some 27, .call 364 [(.t 25), (.t 26)], none, []⟩,
  ⟨some 8, .move (.t 27), none, []⟩] none [0, 8])
(.seq (.ops [⟨some 28, .move (.t 8), none, []⟩,
  ⟨some 29, .bin .geq (.t 28) (.c (.int .i64 0)), none, []⟩] none [0, 8, 29])
(.cond (.t 29)
  (.seq (.ops [⟨some 30, .move (.t 0), none, []⟩,
    ⟨some 31, .move (.t 0), none, []⟩,
    ⟨some 32, .nilck (.t 31), none, []⟩,
    ⟨some 33, .fldAddr 1 (.t 32), none, []⟩,
    ⟨some 34, .load none (.t 33), none, []⟩,
    ⟨some 35, .move (.t 8), none, []⟩,
    ⟨some 36, .idxAddr 4 (.t 34) (.t 35), none, []⟩,
    ⟨some 37, .fldAddr 0 (.t 36), none, []⟩,
    ⟨some 38, .load none (.t 37), none, []⟩,
    ⟨some 39, .nilck (.t 30), none, []⟩,
    ⟨some 40, .fldAddr 0 (.t 39), none, []⟩,
    ⟨none, .store none (.t 40) (.t 38), none, []⟩] none [0])
  (.ops [⟨some 41, .move (.t 0), none, []⟩,
    ⟨some 42, .move (.t 0), none, []⟩,
    ⟨some 43, .nilck (.t 42), none, []⟩,
    ⟨some 44, .fldAddr 0 (.t 43), none, []⟩,
    ⟨some 45, .load none (.t 44), none, []⟩,
    ⟨some 46, .call 365 [(.t 41), (.t 45)], none, []⟩] none [0]))
  (.skip))))
(.seq (.ops [⟨some 47, .move (.t 0), none, []⟩,
  ⟨some 48, .nilck (.t 47), none, []⟩,
  ⟨some 49, .fldAddr 0 (.t 48), none, []⟩,
  ⟨some 50, .load none (.t 49), none, []⟩,
  ⟨some 6, .move (.t 50), none, []⟩,
  ⟨some 7, .move (.c (.int .i64 0)), none, []⟩] none [6, 7])
(.ret))))))
def f344 : SFunc := ⟨b344, [.t 6, .t 7]⟩

/-- (*watchbill/core.Core).wake -/
def b345 : SCode := (
.seq (.ops [⟨some 5, .box (.t 2), none, []⟩,
  ⟨some 6, .alloc (.agg [(.int .i64 0), (.int .i64 0), (.int .i64 0), (.int .i64 0), (.int .i64 0), (.int .i64 0), (.int .i64 0)]), none, []⟩] none [0, 1, 5, 6])
(.seq (.ops [⟨some 10, .move (.t 0), none, []⟩,
  ⟨some 11, .nilck (.t 10), none, []⟩,
  ⟨some 12, .fldAddr 6 (.t 11), none, []⟩,
  ⟨some 13, .load none (.t 12), none, []⟩,
  ⟨some 14, .fldAddr 0 (.t 5), none, []⟩,
  ⟨some 15, .load none (.t 14), none, []⟩,
  ⟨some 16, .call 366 [(.t 13), (.t 15)], none, []⟩] (some [(0, []), (1, [0]), (2, [1, 0]), (3, [2, 1, 0]), (4, []), (5, [4]), (6, [3, 2, 1, 0, 5, 4])]) [0, 1, 5, 6])
(.seq (.seq (.ops [⟨some 17, .move (.t 0), none, []⟩,
  ⟨some 18, .nilck (.t 17), none, []⟩,
  ⟨some 19, .fldAddr 7 (.t 18), none, []⟩,
  ⟨some 20, .load none (.t 19), none, []⟩,
  ⟨some 21, .len .sl (.t 20), none, []⟩,
  ⟨some 22, .move (.c (.int .i64 0)), none, []⟩] none [0, 1, 5, 6, 20, 21, 22])
(.block 0 (.loop [0, 1, 5, 6, 20, 21, 22] (.seq (.ops [⟨some 23, .bin .lss (.t 22) (.t 21), none, []⟩] none [0, 1, 5, 6, 20, 21, 22, 23])
    (.seq (.cond (.t 23)
      (.skip)
      (.exit 0))
    (.seq (.block 1 (.seq (.ops [⟨some 24, .idxAddr 1 (.t 20) (.t 22), none, []⟩,
        ⟨some 25, .load none (.t 24), none, []⟩,
        ⟨some 8, .move (.t 25), none, []⟩] none [0, 1, 5, 6, 8, 20, 21, 22])
      (.ops [⟨some 26, .move (.t 8), none, []⟩,
        ⟨some 27, .fldAddr 0 (.t 5), none, []⟩,
        ⟨some 28, .load none (.t 27), none, []⟩,
        ⟨some 29, .call 365 [(.t 26), (.t 28)], none, []⟩] none [0, 1, 5, 6, 20, 21, 22])))
    (.ops [⟨some 30, .bin .add (.t 22) (.c (.int .i64 1)), none, []⟩,
      ⟨some 22, .move (.t 30), none, []⟩] none [0, 1, 5, 6, 20, 21, 22])))))))
(.seq (.ops [⟨some 31, .move (.t 0), none, []⟩,
  ⟨some 32, .nilck (.t 31), none, []⟩,
  ⟨some 33, .fldAddr 9 (.t 32), none, []⟩,
  ⟨some 34, .load none (.t 33), none, []⟩,
  ⟨some 35, .fldAddr 0 (.t 5), none, []⟩,
  ⟨some 36, .load none (.t 35), none, []⟩,
  ⟨some 37, .call 367 [(.t 34), (.t 36)], none, []⟩] (some [(0, []), (1, [0]), (2, [1, 0]), (3, [2, 1, 0]), (4, []), (5, [4]), (6, [3, 2, 1, 0, 5, 4])]) [0, 1, 5, 6])
(.seq (.ops [⟨some 38, .move (.t 0), none, []⟩,
  ⟨some 39, .move (.t 1), none, []⟩,
  ⟨some 40, .fldAddr 0 (.t 5), none, []⟩,
  ⟨some 41, .load none (.t 40), none, []⟩,
  ⟨some 42, .fldAddr 1 (.t 5), none, []⟩,
  ⟨some 43, .load none (.t 42), none, []⟩,
  ⟨some 44, .fldAddr 2 (.t 5), none, []⟩,
  ⟨some 45, .load none (.t 44), none, []⟩,
  ⟨some 46, .fldAddr 3 (.t 5), none, []⟩,
  ⟨some 47, .load none (.t 46), none, []⟩,
  ⟨some 48, .call 327 [(.t 38), (.t 39), (.t 41), (.t 43), (.t 45), (.t 47)], none, []⟩,
  ⟨some 9, .alloc (.agg [(.int .i64 0), (.int .i64 0), (.int .i64 0), (.int .i64 0), (.int .i64 0), (.int .i64 0), (.int .i64 0)]), none, []⟩,
  ⟨none, .store (some 7) (.t 9) (.t 48), none, []⟩] none [0, 5, 6, 9])
(.seq (.ops [⟨some 49, .move (.t 0), none, []⟩,
  ⟨some 50, .nilck (.t 49), none, []⟩,
  ⟨some 51, .fldAddr 5 (.t 50), none, []⟩,
  ⟨some 52, .load none (.t 51), none, []⟩,
  ⟨some 53, .fldAddr 0 (.t 5), none, []⟩,
  ⟨some 54, .load none (.t 53), none, []⟩,
  ⟨some 55, .move (.t 0), none, []⟩,
  ⟨some 56, .call 324 [(.t 55)], none, [3, 5]⟩,
  ⟨some 57, .idxAddr 10 (.t 52) (.t 54), none, []⟩,
  ⟨some 58, .fldAddr 7 (.t 57), none, []⟩,
  ⟨none, .store none (.t 58) (.t 56), none, []⟩] (some [(0, []), (1, [0]), (2, [1, 0]), (3, [2, 1, 0]), (4, []), (5, [4]), (6, []), (7, [6]), (8, [3, 2, 1, 0, 5, 4, 6, 7]), (9, [8, 3, 2, 1, 0, 5, 4, 6, 7]), (10, [9, 8, 3, 2, 1, 0, 5, 4, 6, 7])]) [6, 9])
(.seq (.ops [⟨some 59, .load (some 7) (.t 9), none, []⟩,
  ⟨none, .store (some 7) (.t 6) (.t 59), none, []⟩] none [6])
(.ret))))))))
def f345 : SFunc := ⟨b345, [.cell (some 7) 6]⟩

/-- (*watchbill/chanq.Chan).Close -/
def b346 : SCode := (
.seq (.ops [⟨some 4, .move (.c .nils), none, []⟩,
  ⟨some 5, .move (.c (.int .i64 0)), none, []⟩] none [0, 1])
(.seq (.seq (.ops [⟨some 7, .move (.t 0), none, []⟩,
  ⟨some 8, .nilck (.t 7), none, []⟩,
  ⟨some 9, .fldAddr 3 (.t 8), none, []⟩,
  ⟨some 10, .load none (.t 9), none, []⟩] none [0, 1, 10])
(.cond (.t 10)
  (.seq (.ops [⟨some 4, .move (.c .nils), none, []⟩,
    ⟨some 5, .move (.c (.int .i64 9)), none, []⟩] none [4, 5])
  (.ret))
  (.skip)))
(.seq (.ops [⟨some 11, .move (.t 0), none, []⟩,
  ⟨some 12, .nilck (.t 11), none, []⟩,
  ⟨some 13, .fldAddr 2 (.t 12), none, []⟩,
  ⟨some 14, .load none (.t 13), none, []⟩,
  ⟨some 15, .move (.t 1), none, []⟩,
  ⟨some 17, .move (.t 0), none, []⟩,
  ⟨some 18, .nilck (.t 17), none, []⟩,
  ⟨some 19, .fldAddr 1 (.t 18), none, []⟩,
  ⟨some 20, .load none (.t 19), none, []⟩,
  ⟨some 21, .move (.t 1), none, []⟩,
  ⟨some 16, .call 368 [(.t 14), (.t 15)], none, [8]⟩,
  ⟨some 22, .call 368 [(.t 20), (.t 21)], none, []⟩,
  ⟨some 23, .append 4 (.t 16) (.t 22), none, []⟩,
  ⟨some 6, .move (.t 23), none, []⟩] (some [(0, []), (1, [0]), (2, [1, 0]), (3, [2, 1, 0]), (4, []), (6, []), (7, [5]), (8, [6, 5]), (9, [7, 6, 5]), (10, []), (5, [3, 2, 1, 0, 4]), (11, [8, 7, 6, 5, 9, 10, 3, 2, 1, 0, 4]), (12, [10, 3, 2, 1, 0, 4, 11, 8, 7, 6, 5, 9]), (13, [12, 10, 3, 2, 1, 0, 4, 11, 8, 7, 6, 5, 9])]) [0, 6])
(.seq (.ops [⟨some 24, .move (.t 0), none, []⟩,
  ⟨some 25, .move (.t 0), none, []⟩,
  ⟨some 26, .move (.t 0), none, []⟩,
  ⟨some 27, .nilck (.t 24), none, []⟩,
  ⟨some 28, .fldAddr 3 (.t 27), none, []⟩,
  ⟨none, .store none (.t 28) (.c (.bool true)), none, []⟩,
  ⟨some 29, .nilck (.t 25), none, []⟩,
  ⟨some 30, .fldAddr 2 (.t 29), none, []⟩,
  ⟨none, .store none (.t 30) (.c .nils), none, []⟩,
  ⟨some 31, .nilck (.t 26), none, []⟩,
  ⟨some 32, .fldAddr 1 (.t 31), none, []⟩,
  ⟨none, .store none (.t 32) (.c .nils), none, []⟩] none [6])
(.seq (.ops [⟨some 33, .move (.t 6), none, []⟩,
  ⟨some 4, .move (.t 33), none, []⟩,
  ⟨some 5, .move (.c (.int .i64 0)), none, []⟩] none [4, 5])
(.ret))))))
def f346 : SFunc := ⟨b346, [.t 4, .t 5]⟩

/-- (*watchbill/core.Core).woken -/
def b347 : SCode := (
.seq (.ops [⟨some 6, .move (.c .nils), none, []⟩] none [0, 1, 2])
(.seq (.ops [⟨some 7, .move (.c .nils), none, []⟩] none [0, 1, 2, 7])
(.seq (.seq (.ops [⟨some 10, .move (.t 2), none, []⟩,
  ⟨some 11, .len .sl (.t 10), none, []⟩,
  ⟨some 12, .move (.c (.int .i64 0)), none, []⟩] none [0, 1, 7, 10, 11, 12])
(.block 0 (.loop [0, 1, 7, 10, 11, 12] (.seq (.ops [⟨some 13, .bin .lss (.t 12) (.t 11), none, []⟩] none [0, 1, 7, 10, 11, 12, 13])
    (.seq (.cond (.t 13)
      (.skip)
      (.exit 0))
    (.seq (.block 1 (.seq (.ops [⟨some 14, .idxAddr 4 (.t 10) (.t 12), none, []⟩,
        ⟨some 15, .load (some 4) (.t 14), none, []⟩,
        ⟨some 9, .alloc (.agg [(.int .i64 0), (.int .i64 0), (.int .i64 0), (.int .i64 0)]), none, []⟩,
        ⟨none, .store (some 4) (.t 9) (.t 15), none, []⟩] none [0, 1, 7, 9, 10, 11, 12])
      (.ops [⟨some 16, .move (.t 7), none, []⟩,
        ⟨some 17, .move (.t 0), none, []⟩,
        ⟨some 18, .move (.t 1), none, []⟩,
        ⟨some 19, .load (some 4) (.t 9), none, []⟩,
        ⟨some 20, .call 345 [(.t 17), (.t 18), (.t 19)], none, []⟩,
        ⟨some 21, .buildSl 1 [(.int .i64 0), (.int .i64 0), (.int .i64 0), (.int .i64 0), (.int .i64 0), (.int .i64 0), (.int .i64 0)] [(0, 7, (.t 20))], none, []⟩,
        ⟨some 22, .append 7 (.t 16) (.t 21), none, []⟩,
        ⟨some 7, .move (.t 22), none, []⟩] none [0, 1, 7, 10, 11, 12])))
    (.ops [⟨some 23, .bin .add (.t 12) (.c (.int .i64 1)), none, []⟩,
      ⟨some 12, .move (.t 23), none, []⟩] none [0, 1, 7, 10, 11, 12])))))))
(.seq (.ops [⟨some 24, .move (.t 7), none, []⟩,
  ⟨some 6, .move (.t 24), none, []⟩] none [6])
(.ret)))))
def f347 : SFunc := ⟨b347, [.t 6]⟩

/-- watchbill/core.cases -/
def b348 : SCode := (
.seq (.ops [⟨some 1, .box (.t 0), none, []⟩,
  ⟨some 2, .move (.c .nils), none, []⟩] none [1])
(.seq (.seq (.ops [⟨some 3, .fldAddr 0 (.t 1), none, []⟩,
  ⟨some 4, .load none (.t 3), none, []⟩,
  ⟨some 5, .bin .eql (.t 4) (.c (.int .i64 7)), none, []⟩] none [1, 5])
(.cond (.t 5)
  (.seq (.ops [⟨some 6, .fldAddr 4 (.t 1), none, []⟩,
    ⟨some 7, .load none (.t 6), none, []⟩,
    ⟨some 2, .move (.t 7), none, []⟩] none [2])
  (.ret))
  (.skip)))
(.seq (.ops [⟨some 8, .fldAddr 0 (.t 1), none, []⟩,
  ⟨some 9, .load none (.t 8), none, []⟩,
  ⟨some 10, .bin .eql (.t 9) (.c (.int .i64 4)), none, []⟩,
  ⟨some 11, .fldAddr 1 (.t 1), none, []⟩,
  ⟨some 12, .load none (.t 11), none, []⟩,
  ⟨some 13, .fldAddr 2 (.t 1), none, []⟩,
  ⟨some 14, .load none (.t 13), none, []⟩,
  ⟨some 15, .build [(.bool false), (.int .i64 0), (.int .i64 0)] [(0, 1, (.t 10)), (1, 1, (.t 12)), (2, 1, (.t 14))], none, []⟩,
  ⟨some 16, .buildSl 1 [(.bool false), (.int .i64 0), (.int .i64 0)] [(0, 3, (.t 15))], none, []⟩,
  ⟨some 2, .move (.t 16), none, []⟩] none [2])
(.ret))))
def f348 : SFunc := ⟨b348, [.t 2]⟩

/-- watchbill/pick.Ready -/
def b349 : SCode := (
.seq (.ops [⟨some 4, .move (.c (.int .i64 0)), none, []⟩] none [0, 1])
(.seq (.skip)
(.seq (.seq (.ops [⟨some 7, .move (.t 0), none, []⟩,
  ⟨some 8, .len .sl (.t 7), none, []⟩,
  ⟨some 9, .move (.c (.int .i64 0)), none, []⟩] none [1, 7, 8, 9])
(.block 0 (.loop [1, 7, 8, 9] (.seq (.ops [⟨some 10, .bin .lss (.t 9) (.t 8), none, []⟩] none [1, 7, 8, 9, 10])
    (.seq (.cond (.t 10)
      (.skip)
      (.exit 0))
    (.seq (.block 1 (.seq (.ops [⟨some 11, .move (.t 9), none, []⟩,
        ⟨some 12, .idxAddr 3 (.t 7) (.t 9), none, []⟩,
        ⟨some 13, .load (some 3) (.t 12), none, []⟩,
        ⟨some 6, .alloc (.agg [(.bool false), (.int .i64 0), (.int .i64 0)]), none, []⟩,
        ⟨some 5, .move (.t 11), none, []⟩,
        ⟨none, .store (some 3) (.t 6) (.t 13), none, []⟩] none [1, 5, 6, 7, 8, 9])
      (.block 2 (.seq (.ops [⟨some 15, .load (some 3) (.t 6), none, []⟩,
          ⟨some 16, .move (.t 1), none, []⟩,
          ⟨some 17, .call 369 [(.t 15), (.t 16)], none, []⟩,
          ⟨some 18, .not (.t 17), none, []⟩,
          ⟨some 14, .move (.t 18), none, []⟩] none [1, 5, 6, 7, 8, 9, 14])
        (.cond (.t 14)
          (.exit 1)
          (.seq (.seq (.ops [⟨some 20, .fldAddr 0 (.t 6), none, []⟩,
            ⟨some 21, .load none (.t 20), none, []⟩,
            ⟨some 22, .move (.t 21), none, []⟩,
            ⟨some 23, .move (.t 1), (some (22, true)), []⟩,
            ⟨some 24, .fldAddr 1 (.t 6), (some (22, true)), []⟩,
            ⟨some 25, .load none (.t 24), (some (22, true)), []⟩,
            ⟨some 26, .idxAddr 1 (.t 23) (.t 25), (some (22, true)), []⟩,
            ⟨some 27, .load none (.t 26), (some (22, true)), []⟩,
            ⟨some 28, .call 370 [(.t 27)], (some (22, true)), []⟩,
            ⟨some 29, .pick (.t 22) (.t 28) (.c (.bool false)), none, []⟩,
            ⟨some 19, .move (.t 29), none, []⟩] none [1, 5, 6, 7, 8, 9, 19])
          (.cond (.t 19)
            (.skip)
            (.ops [⟨some 30, .fldAddr 0 (.t 6), none, []⟩,
              ⟨some 31, .load none (.t 30), none, []⟩,
              ⟨some 32, .not (.t 31), none, []⟩,
              ⟨some 33, .move (.t 32), none, []⟩,
              ⟨some 34, .move (.t 1), (some (33, true)), []⟩,
              ⟨some 35, .fldAddr 1 (.t 6), (some (33, true)), []⟩,
              ⟨some 36, .load none (.t 35), (some (33, true)), []⟩,
              ⟨some 37, .idxAddr 1 (.t 34) (.t 36), (some (33, true)), []⟩,
              ⟨some 38, .load none (.t 37), (some (33, true)), []⟩,
              ⟨some 39, .call 371 [(.t 38)], (some (33, true)), []⟩,
              ⟨some 40, .pick (.t 33) (.t 39) (.c (.bool false)), none, []⟩,
              ⟨some 19, .move (.t 40), none, []⟩] none [1, 5, 7, 8, 9, 19])))
          (.cond (.t 19)
            (.seq (.ops [⟨some 41, .move (.t 5), none, []⟩,
              ⟨some 4, .move (.t 41), none, []⟩] none [4])
            (.ret))
            (.skip))))))))
    (.ops [⟨some 42, .bin .add (.t 9) (.c (.int .i64 1)), none, []⟩,
      ⟨some 9, .move (.t 42), none, []⟩] none [1, 7, 8, 9])))))))
(.seq (.ops [⟨some 4, .move (.c (.int .i64 (-1))), none, []⟩] none [4])
(.ret)))))
def f349 : SFunc := ⟨b349, [.t 4]⟩

/-- watchbill/pick.Do -/
def b350 : SCode := (
.seq (.ops [⟨some 6, .move (.c (.int .i64 0)), none, []⟩,
  ⟨some 7, .move (.c (.int .i64 0)), none, []⟩,
  ⟨some 8, .move (.c .nils), none, []⟩,
  ⟨some 9, .move (.c (.int .i64 0)), none, []⟩] none [0, 1, 2])
(.seq (.ops [⟨some 17, .move (.t 0), none, []⟩,
  ⟨some 18, .move (.t 1), none, []⟩,
  ⟨some 19, .call 349 [(.t 17), (.t 18)], none, []⟩,
  ⟨some 10, .move (.t 19), none, []⟩] none [0, 1, 2, 10])
(.seq (.seq (.ops [⟨some 20, .move (.t 10), none, []⟩,
  ⟨some 21, .bin .lss (.t 20) (.c (.int .i64 0)), none, []⟩] none [0, 1, 2, 10, 21])
(.cond (.t 21)
  (.seq (.ops [⟨some 6, .move (.c (.int .i64 (-1))), none, []⟩,
    ⟨some 7, .move (.c (.int .i64 0)), none, []⟩,
    ⟨some 8, .move (.c .nils), none, []⟩,
    ⟨some 9, .move (.c (.int .i64 8)), none, []⟩] none [6, 7, 8, 9])
  (.ret))
  (.skip)))
(.seq (.ops [⟨some 22, .move (.t 0), none, []⟩,
  ⟨some 23, .move (.t 10), none, []⟩,
  ⟨some 24, .idxAddr 3 (.t 22) (.t 23), none, []⟩,
  ⟨some 25, .load (some 3) (.t 24), none, []⟩,
  ⟨some 11, .alloc (.agg [(.bool false), (.int .i64 0), (.int .i64 0)]), none, []⟩,
  ⟨none, .store (some 3) (.t 11) (.t 25), none, []⟩] none [1, 2, 10, 11])
(.seq (.seq (.ops [⟨some 26, .fldAddr 0 (.t 11), none, []⟩,
  ⟨some 27, .load none (.t 26), none, []⟩,
  ⟨some 28, .not (.t 27), none, []⟩] none [1, 2, 10, 11, 28])
(.cond (.t 28)
  (.seq (.ops [⟨some 30, .move (.t 1), none, []⟩,
    ⟨some 31, .fldAddr 1 (.t 11), none, []⟩,
    ⟨some 32, .load none (.t 31), none, []⟩,
    ⟨some 33, .idxAddr 1 (.t 30) (.t 32), none, []⟩,
    ⟨some 34, .load none (.t 33), none, []⟩,
    ⟨some 35, .move (.t 2), none, []⟩,
    ⟨some 36, .call 372 [(.t 34), (.t 35)], none, []⟩,
    ⟨some 29, .move (.t 36), none, []⟩,
    ⟨some 37, .ext 0 (.t 29), none, []⟩,
    ⟨some 38, .ext 1 (.t 29), none, []⟩,
    ⟨some 39, .ext 2 (.t 29), none, []⟩,
    ⟨some 12, .move (.t 37), none, []⟩,
    ⟨some 13, .move (.t 38), none, []⟩,
    ⟨some 14, .move (.t 39), none, []⟩] none [10, 12, 13, 14])
  (.seq (.ops [⟨some 40, .move (.t 10), none, []⟩,
    ⟨some 41, .move (.t 12), none, []⟩,
    ⟨some 42, .move (.t 13), none, []⟩,
    ⟨some 43, .move (.t 14), none, []⟩,
    ⟨some 6, .move (.t 40), none, []⟩,
    ⟨some 7, .move (.t 41), none, []⟩,
    ⟨some 8, .move (.t 42), none, []⟩,
    ⟨some 9, .move (.t 43), none, []⟩] none [6, 7, 8, 9])
  (.ret)))
  (.skip)))
(.seq (.ops [⟨some 45, .move (.t 1), none, []⟩,
  ⟨some 46, .fldAddr 1 (.t 11), none, []⟩,
  ⟨some 47, .load none (.t 46), none, []⟩,
  ⟨some 48, .idxAddr 1 (.t 45) (.t 47), none, []⟩,
  ⟨some 49, .load none (.t 48), none, []⟩,
  ⟨some 50, .fldAddr 2 (.t 11), none, []⟩,
  ⟨some 51, .load none (.t 50), none, []⟩,
  ⟨some 52, .move (.t 2), none, []⟩,
  ⟨some 53, .call 373 [(.t 49), (.t 51), (.t 52)], none, []⟩,
  ⟨some 44, .move (.t 53), none, []⟩,
  ⟨some 54, .ext 0 (.t 44), none, []⟩,
  ⟨some 55, .ext 1 (.t 44), none, []⟩,
  ⟨some 15, .move (.t 54), none, []⟩,
  ⟨some 16, .move (.t 55), none, []⟩] (some [(0, []), (1, []), (2, [1]), (3, [0, 2, 1]), (4, [3, 0, 2, 1]), (5, []), (6, [5]), (7, []), (8, [4, 3, 0, 2, 1, 6, 5, 7]), (9, [8, 4, 3, 0, 2, 1, 6, 5, 7]), (10, [9, 8, 4, 3, 0, 2, 1, 6, 5, 7]), (11, [9, 8, 4, 3, 0, 2, 1, 6, 5, 7]), (12, [10, 9, 8, 4, 3, 0, 2, 1, 6, 5, 7]), (13, [11, 9, 8, 4, 3, 0, 2, 1, 6, 5, 7, 12, 10])]) [10, 11, 15, 16])
(.seq (.seq (.ops [⟨some 56, .move (.t 16), none, []⟩,
  ⟨some 57, .bin .neq (.t 56) (.c (.int .i64 0)), none, []⟩] none [10, 11, 15, 16, 57])
(.cond (.t 57)
  (.seq (.ops [⟨some 58, .move (.t 10), none, []⟩,
    ⟨some 59, .move (.t 15), none, []⟩,
    ⟨some 60, .move (.t 16), none, []⟩,
    ⟨some 6, .move (.t 58), none, []⟩,
    ⟨some 7, .move (.c (.int .i64 0)), none, []⟩,
    ⟨some 8, .move (.t 59), none, []⟩,
    ⟨some 9, .move (.t 60), none, []⟩] none [6, 7, 8, 9])
  (.ret))
  (.skip)))
(.seq (.ops [⟨some 61, .move (.t 10), none, []⟩,
  ⟨some 62, .fldAddr 2 (.t 11), none, []⟩,
  ⟨some 63, .load none (.t 62), none, []⟩,
  ⟨some 64, .move (.t 15), none, []⟩,
  ⟨some 6, .move (.t 61), none, []⟩,
  ⟨some 7, .move (.t 63), none, []⟩,
  ⟨some 8, .move (.t 64), none, []⟩,
  ⟨some 9, .move (.c (.int .i64 0)), none, []⟩] (some [(0, []), (1, []), (2, [1]), (3, []), (4, [0]), (5, [2, 1, 4, 0]), (6, [3, 5, 2, 1, 4, 0]), (7, [6, 3, 5, 2, 1, 4, 0])]) [6, 7, 8, 9])
(.ret)))))))))
def f350 : SFunc := ⟨b350, [.t 6, .t 7, .t 8, .t 9]⟩

/-- watchbill/pick.Wait -/
def b352 : SCode := (
.seq (.ops [⟨some 8, .move (.c (.int .i64 0)), none, []⟩] none [0, 1, 2, 3])
(.seq (.seq (.ops [⟨some 14, .move (.t 0), none, []⟩,
  ⟨some 15, .len .sl (.t 14), none, []⟩,
  ⟨some 16, .move (.c (.int .i64 0)), none, []⟩] none [0, 1, 2, 3, 14, 15, 16])
(.block 0 (.loop [0, 1, 2, 3, 14, 15, 16] (.seq (.ops [⟨some 17, .bin .lss (.t 16) (.t 15), none, []⟩] none [0, 1, 2, 3, 14, 15, 16, 17])
    (.seq (.cond (.t 17)
      (.skip)
      (.exit 0))
    (.seq (.block 1 (.seq (.ops [⟨some 18, .idxAddr 3 (.t 14) (.t 16), none, []⟩,
        ⟨some 19, .load (some 3) (.t 18), none, []⟩,
        ⟨some 10, .alloc (.agg [(.bool false), (.int .i64 0), (.int .i64 0)]), none, []⟩,
        ⟨none, .store (some 3) (.t 10) (.t 19), none, []⟩] none [0, 1, 2, 3, 10, 14, 15, 16])
      (.seq (.ops [⟨some 20, .load (some 3) (.t 10), none, []⟩,
        ⟨some 21, .move (.t 1), none, []⟩,
        ⟨some 22, .call 369 [(.t 20), (.t 21)], none, []⟩,
        ⟨some 23, .not (.t 22), none, []⟩] none [0, 1, 2, 3, 14, 15, 16, 23])
      (.cond (.t 23)
        (.seq (.ops [⟨some 8, .move (.c (.int .i64 1)), none, []⟩] none [8])
        (.ret))
        (.skip)))))
    (.ops [⟨some 24, .bin .add (.t 16) (.c (.int .i64 1)), none, []⟩,
      ⟨some 16, .move (.t 24), none, []⟩] none [0, 1, 2, 3, 14, 15, 16])))))))
(.seq (.seq (.ops [⟨some 25, .move (.t 0), none, []⟩,
  ⟨some 26, .move (.t 1), none, []⟩,
  ⟨some 27, .call 349 [(.t 25), (.t 26)], none, []⟩,
  ⟨some 28, .bin .geq (.t 27) (.c (.int .i64 0)), none, []⟩] none [0, 1, 2, 3, 28])
(.cond (.t 28)
  (.seq (.ops [⟨some 8, .move (.c (.int .i64 10)), none, []⟩] none [8])
  (.ret))
  (.skip)))
(.seq (.skip)
(.seq (.seq (.ops [⟨some 29, .move (.t 0), none, []⟩,
  ⟨some 30, .len .sl (.t 29), none, []⟩,
  ⟨some 31, .move (.c (.int .i64 0)), none, []⟩] none [1, 2, 3, 29, 30, 31])
(.block 2 (.loop [1, 2, 3, 29, 30, 31] (.seq (.ops [⟨some 32, .bin .lss (.t 31) (.t 30), none, []⟩] none [1, 2, 3, 29, 30, 31, 32])
    (.seq (.cond (.t 32)
      (.skip)
      (.exit 2))
    (.seq (.block 3 (.seq (.ops [⟨some 33, .move (.t 31), none, []⟩,
        ⟨some 34, .idxAddr 3 (.t 29) (.t 31), none, []⟩,
        ⟨some 35, .load (some 3) (.t 34), none, []⟩,
        ⟨some 12, .alloc (.agg [(.bool false), (.int .i64 0), (.int .i64 0)]), none, []⟩,
        ⟨some 11, .move (.t 33), none, []⟩,
        ⟨none, .store (some 3) (.t 12) (.t 35), none, []⟩] none [1, 2, 3, 11, 12, 29, 30, 31])
      (.seq (.ops [⟨some 36, .move (.t 1), none, []⟩,
        ⟨some 37, .fldAddr 1 (.t 12), none, []⟩,
        ⟨some 38, .load none (.t 37), none, []⟩,
        ⟨some 39, .idxAddr 1 (.t 36) (.t 38), none, []⟩,
        ⟨some 40, .load none (.t 39), none, []⟩,
        ⟨some 41, .move (.t 2), none, []⟩,
        ⟨some 42, .move (.t 11), none, []⟩,
        ⟨some 43, .move (.t 3), none, []⟩,
        ⟨some 44, .fldAddr 2 (.t 12), none, []⟩,
        ⟨some 45, .load none (.t 44), none, []⟩,
        ⟨some 46, .build [(.int .i64 0), (.int .i64 0), (.int .i64 0), (.int .i64 0)] [(0, 1, (.t 41)), (1, 1, (.t 42)), (2, 1, (.t 43)), (3, 1, (.t 45))], none, []⟩,
        ⟨some 47, .fldAddr 0 (.t 12), none, []⟩,
        ⟨some 48, .load none (.t 47), none, []⟩,
        ⟨some 49, .call 374 [(.t 40), (.t 46), (.t 48)], none, []⟩,
        ⟨some 13, .move (.t 49), none, []⟩] (some [(0, []), (1, []), (2, [1]), (3, [0, 2, 1]), (4, [3, 0, 2, 1]), (5, []), (6, []), (7, []), (8, []), (9, [8]), (10, [5, 6, 7, 9, 8]), (11, []), (12, [11]), (13, [4, 3, 0, 2, 1, 10, 5, 6, 7, 9, 8, 12, 11]), (14, [13, 4, 3, 0, 2, 1, 10, 5, 6, 7, 9, 8, 12, 11])]) [1, 2, 3, 13, 29, 30, 31])
      (.seq (.seq (.ops [⟨some 50, .move (.t 13), none, []⟩,
        ⟨some 51, .bin .eql (.t 50) (.c (.int .i64 0)), none, []⟩] none [1, 2, 3, 13, 29, 30, 31, 51])
      (.cond (.t 51)
        (.exit 3)
        (.skip)))
      (.seq (.ops [⟨some 52, .move (.t 13), none, []⟩,
        ⟨some 8, .move (.t 52), none, []⟩] none [8])
      (.ret))))))
    (.ops [⟨some 53, .bin .add (.t 31) (.c (.int .i64 1)), none, []⟩,
      ⟨some 31, .move (.t 53), none, []⟩] none [1, 2, 3, 29, 30, 31])))))))
(.seq (.ops [⟨some 8, .move (.c (.int .i64 0)), none, []⟩] none [8])
(.ret)))))))
def f352 : SFunc := ⟨b352, [.t 8]⟩

/-- (watchbill/graph.Edge).in -/
def b56 : SCode := (
.seq (.ops [⟨some 2, .box (.t 0), none, []⟩,
  ⟨some 4, .move (.c (.bool false)), none, []⟩] none [1, 2])
(.seq (.ops [⟨some 5, .fldAddr 0 (.t 2), none, []⟩,
  ⟨some 6, .load none (.t 5), none, []⟩,
  ⟨some 7, .bin .geq (.t 6) (.c (.int .i64 0)), none, []⟩,
  ⟨some 8, .move (.t 7), none, []⟩,
  ⟨some 9, .fldAddr 0 (.t 2), (some (8, true)), []⟩,
  ⟨some 10, .load none (.t 9), (some (8, true)), []⟩,
  ⟨some 11, .move (.t 1), (some (8, true)), []⟩,
  ⟨some 12, .bin .lss (.t 10) (.t 11), (some (8, true)), []⟩,
  ⟨some 13, .pick (.t 8) (.t 12) (.c (.bool false)), none, []⟩,
  ⟨some 14, .move (.t 13), none, []⟩,
  ⟨some 15, .fldAddr 1 (.t 2), (some (14, true)), []⟩,
  ⟨some 16, .load none (.t 15), (some (14, true)), []⟩,
  ⟨some 17, .bin .geq (.t 16) (.c (.int .i64 0)), (some (14, true)), []⟩,
  ⟨some 18, .pick (.t 14) (.t 17) (.c (.bool false)), none, []⟩,
  ⟨some 19, .move (.t 18), none, []⟩,
  ⟨some 20, .fldAddr 1 (.t 2), (some (19, true)), []⟩,
  ⟨some 21, .load none (.t 20), (some (19, true)), []⟩,
  ⟨some 22, .move (.t 1), (some (19, true)), []⟩,
  ⟨some 23, .bin .lss (.t 21) (.t 22), (some (19, true)), []⟩,
  ⟨some 24, .pick (.t 19) (.t 23) (.c (.bool false)), none, []⟩,
  ⟨some 4, .move (.t 24), none, []⟩] none [4])
(.ret)))
def f56 : SFunc := ⟨b56, [.t 4]⟩

/-- (*watchbill/lockq.Lock).Waiters -/
def b354 : SCode := (
.seq (.ops [⟨some 2, .move (.c .nils), none, []⟩] none [0])
(.seq (.ops [⟨some 3, .move (.t 0), none, []⟩,
  ⟨some 4, .nilck (.t 3), none, []⟩,
  ⟨some 5, .fldAddr 1 (.t 4), none, []⟩,
  ⟨some 6, .load none (.t 5), none, []⟩,
  ⟨some 7, .call 356 [(.t 6)], none, []⟩,
  ⟨some 2, .move (.t 7), none, []⟩] none [2])
(.ret)))
def f354 : SFunc := ⟨b354, [.t 2]⟩

/-- (*watchbill/chanq.Chan).Senders -/
def b355 : SCode := (
.seq (.ops [⟨some 2, .move (.c .nils), none, []⟩] none [0])
(.seq (.ops [⟨some 3, .move (.t 0), none, []⟩,
  ⟨some 4, .nilck (.t 3), none, []⟩,
  ⟨some 5, .fldAddr 1 (.t 4), none, []⟩,
  ⟨some 6, .load none (.t 5), none, []⟩,
  ⟨some 7, .call 356 [(.t 6)], none, []⟩,
  ⟨some 2, .move (.t 7), none, []⟩] none [2])
(.ret)))
def f355 : SFunc := ⟨b355, [.t 2]⟩

/-- slices.Clone[watchbill/waitq.Queue,watchbill/waitq.Waiter] -/
def b356 : SCode := (
.seq (.ops [⟨some 2, .move (.c .nils), none, []⟩] none [0])
(.seq (.seq (.ops [⟨some 3, .move (.t 0), none, []⟩,
  ⟨some 4, .eq false .s (.t 3) (.c .nils), none, []⟩] none [0, 4])
(.cond (.t 4)
  (.seq (.ops [⟨some 2, .move (.c .nils), none, []⟩] none [2])
  (.ret))
  (.skip)))
(.seq (.ops [⟨some 5, .buildSl 0 [] [], none, []⟩,
  ⟨some 6, .move (.t 0), none, []⟩,
  ⟨some 7, .append 4 (.t 5) (.t 6), none, []⟩,
  ⟨some 2, .move (.t 7), none, []⟩] none [2])
(.ret))))
def f356 : SFunc := ⟨b356, [.t 2]⟩

/-- watchbill/word.Name -/
def b97 : SCode := (
.seq (.ops [⟨some 2, .move (.c (.bool false)), none, []⟩] none [0])
(.seq (.ops [⟨some 3, .move (.t 0), none, []⟩,
  ⟨some 4, .len .str (.t 3), none, []⟩,
  ⟨some 5, .bin .geq (.t 4) (.c (.int .i64 1)), none, []⟩,
  ⟨some 6, .move (.t 5), none, []⟩,
  ⟨some 7, .move (.t 0), (some (6, true)), []⟩,
  ⟨some 8, .len .str (.t 7), (some (6, true)), []⟩,
  ⟨some 9, .bin .leq (.t 8) (.c (.int .i64 8)), (some (6, true)), []⟩,
  ⟨some 10, .pick (.t 6) (.t 9) (.c (.bool false)), none, []⟩,
  ⟨some 11, .move (.t 10), none, []⟩,
  ⟨some 12, .move (.t 0), (some (11, true)), []⟩,
  ⟨some 13, .call 124 [(.t 12), (.c (.str [97, 98, 99, 100, 101, 102, 103, 104, 105, 106, 107, 108, 109, 110, 111, 112, 113, 114, 115, 116, 117, 118, 119, 120, 121, 122]))], (some (11, true)), []⟩,
  ⟨some 14, .bin .eql (.t 13) (.c (.str [])), (some (11, true)), []⟩,
  ⟨some 15, .pick (.t 11) (.t 14) (.c (.bool false)), none, []⟩,
  ⟨some 2, .move (.t 15), none, []⟩] none [2])
(.ret)))
def f97 : SFunc := ⟨b97, [.t 2]⟩

/-- watchbill/set.Find -/
def b285 : SCode := (
.seq (.ops [⟨some 2, .box (.t 0), none, []⟩,
  ⟨some 4, .move (.c (.int .i64 0)), none, []⟩,
  ⟨some 5, .move (.c (.bool false)), none, []⟩] none [1, 2])
(.seq (.seq (.ops [⟨some 8, .fldAddr 2 (.t 2), none, []⟩,
  ⟨some 9, .load none (.t 8), none, []⟩,
  ⟨some 10, .len .sl (.t 9), none, []⟩,
  ⟨some 11, .move (.c (.int .i64 0)), none, []⟩] none [1, 9, 10, 11])
(.block 0 (.loop [1, 9, 10, 11] (.seq (.ops [⟨some 12, .bin .lss (.t 11) (.t 10), none, []⟩] none [1, 9, 10, 11, 12])
    (.seq (.cond (.t 12)
      (.skip)
      (.exit 0))
    (.seq (.block 1 (.seq (.ops [⟨some 13, .move (.t 11), none, []⟩,
        ⟨some 14, .idxAddr 5 (.t 9) (.t 11), none, []⟩,
        ⟨some 15, .load (some 5) (.t 14), none, []⟩,
        ⟨some 7, .alloc (.agg [(.str []), (.int .i64 0), (.int .i64 0), (.int .i64 0), .nils]), none, []⟩,
        ⟨some 6, .move (.t 13), none, []⟩,
        ⟨none, .store (some 5) (.t 7) (.t 15), none, []⟩] none [1, 6, 7, 9, 10, 11])
      (.seq (.ops [⟨some 16, .fldAddr 0 (.t 7), none, []⟩,
        ⟨some 17, .load none (.t 16), none, []⟩,
        ⟨some 18, .move (.t 1), none, []⟩,
        ⟨some 19, .bin .eql (.t 17) (.t 18), none, []⟩] none [1, 6, 9, 10, 11, 19])
      (.cond (.t 19)
        (.seq (.ops [⟨some 20, .move (.t 6), none, []⟩,
          ⟨some 4, .move (.t 20), none, []⟩,
          ⟨some 5, .move (.c (.bool true)), none, []⟩] none [4, 5])
        (.ret))
        (.skip)))))
    (.ops [⟨some 21, .bin .add (.t 11) (.c (.int .i64 1)), none, []⟩,
      ⟨some 11, .move (.t 21), none, []⟩] none [1, 9, 10, 11])))))))
(.seq (.ops [⟨some 4, .move (.c (.int .i64 0)), none, []⟩,
  ⟨some 5, .move (.c (.bool false)), none, []⟩] none [4, 5])
(.ret))))
def f285 : SFunc := ⟨b285, [.t 4, .t 5]⟩

/-- watchbill/prog.Check -/
def b286 : SCode := (
.seq (.ops [⟨some 2, .move (.c (.int .i64 0)), none, []⟩,
  ⟨some 3, .move (.c (.int .i64 0)), none, []⟩] none [0])
(.seq (.seq (.ops [⟨some 10, .move (.t 0), none, []⟩,
  ⟨some 11, .len .sl (.t 10), none, []⟩,
  ⟨some 12, .bin .gtr (.t 11) (.c (.int .i64 48)), none, []⟩] none [0, 12])
(.cond (.t 12)
  (.seq (.ops [⟨some 2, .move (.c (.int .i64 0)), none, []⟩,
    ⟨some 3, .move (.c (.int .i64 18)), none, []⟩] none [2, 3])
  (.ret))
  (.skip)))
(.seq (.seq (.ops [⟨some 13, .move (.t 0), none, []⟩,
  ⟨some 14, .len .sl (.t 13), none, []⟩,
  ⟨some 15, .move (.c (.int .i64 0)), none, []⟩] none [0, 13, 14, 15])
(.block 0 (.loop [0, 13, 14, 15] (.seq (.ops [⟨some 16, .bin .lss (.t 15) (.t 14), none, []⟩] none [0, 13, 14, 15, 16])
    (.seq (.cond (.t 16)
      (.skip)
      (.exit 0))
    (.seq (.block 1 (.seq (.ops [⟨some 17, .move (.t 15), none, []⟩,
        ⟨some 18, .idxAddr 5 (.t 13) (.t 15), none, []⟩,
        ⟨some 19, .load (some 5) (.t 18), none, []⟩,
        ⟨some 5, .alloc (.agg [(.int .i64 0), (.int .i64 0), (.int .i64 0), (.int .i64 0), .nils]), none, []⟩,
        ⟨some 4, .move (.t 17), none, []⟩,
        ⟨none, .store (some 5) (.t 5) (.t 19), none, []⟩] none [0, 4, 5, 13, 14, 15])
      (.seq (.ops [⟨some 20, .load (some 5) (.t 5), none, []⟩,
        ⟨some 21, .call 219 [(.t 20)], none, []⟩,
        ⟨some 6, .move (.t 21), none, []⟩] none [0, 4, 6, 13, 14, 15])
      (.seq (.ops [⟨some 22, .move (.t 6), none, []⟩,
        ⟨some 23, .bin .neq (.t 22) (.c (.int .i64 0)), none, []⟩] none [0, 4, 6, 13, 14, 15, 23])
      (.cond (.t 23)
        (.seq (.ops [⟨some 24, .move (.t 4), none, []⟩,
          ⟨some 25, .move (.t 6), none, []⟩,
          ⟨some 2, .move (.t 24), none, []⟩,
          ⟨some 3, .move (.t 25), none, []⟩] none [2, 3])
        (.ret))
        (.skip))))))
    (.ops [⟨some 26, .bin .add (.t 15) (.c (.int .i64 1)), none, []⟩,
      ⟨some 15, .move (.t 26), none, []⟩] none [0, 13, 14, 15])))))))
(.seq (.ops [⟨some 27, .build [.nils, .nils] [], none, []⟩,
  ⟨some 28, .box (.t 27), none, []⟩,
  ⟨some 7, .move (.t 28), none, []⟩] none [0, 7])
(.seq (.skip)
(.seq (.seq (.ops [⟨some 29, .move (.t 0), none, []⟩,
  ⟨some 30, .len .sl (.t 29), none, []⟩,
  ⟨some 31, .move (.c (.int .i64 0)), none, []⟩] none [0, 7, 29, 30, 31])
(.block 2 (.loop [0, 7, 29, 30, 31] (.seq (.ops [⟨some 32, .bin .lss (.t 31) (.t 30), none, []⟩] none [0, 7, 29, 30, 31, 32])
    (.seq (.cond (.t 32)
      (.skip)
      (.exit 2))
    (.seq (.block 3 (.seq (.ops [⟨some 33, .move (.t 31), none, []⟩,
        ⟨some 34, .idxAddr 5 (.t 29) (.t 31), none, []⟩,
        ⟨some 35, .load (some 5) (.t 34), none, []⟩,
        ⟨some 9, .alloc (.agg [(.int .i64 0), (.int .i64 0), (.int .i64 0), (.int .i64 0), .nils]), none, []⟩,
        ⟨some 8, .move (.t 33), none, []⟩,
        ⟨none, .store (some 5) (.t 9) (.t 35), none, []⟩] none [0, 7, 8, 9, 29, 30, 31])
      (.seq (.seq (.ops [⟨some 36, .move (.t 7), none, []⟩,
        ⟨some 37, .load (some 5) (.t 9), none, []⟩,
        ⟨some 38, .call 294 [(.t 36), (.t 37)], none, []⟩] none [0, 7, 8, 29, 30, 31, 38])
      (.cond (.t 38)
        (.exit 3)
        (.skip)))
      (.seq (.ops [⟨some 39, .move (.t 8), none, []⟩,
        ⟨some 2, .move (.t 39), none, []⟩,
        ⟨some 3, .move (.c (.int .i64 11)), none, []⟩] none [2, 3])
      (.ret)))))
    (.ops [⟨some 40, .bin .add (.t 31) (.c (.int .i64 1)), none, []⟩,
      ⟨some 31, .move (.t 40), none, []⟩] none [0, 7, 29, 30, 31])))))))
(.seq (.seq (.ops [⟨some 41, .move (.t 7), none, []⟩,
  ⟨some 42, .nilck (.t 41), none, []⟩,
  ⟨some 43, .fldAddr 1 (.t 42), none, []⟩,
  ⟨some 44, .load none (.t 43), none, []⟩,
  ⟨some 45, .len .sl (.t 44), none, []⟩,
  ⟨some 46, .bin .gtr (.t 45) (.c (.int .i64 0)), none, []⟩,
  ⟨some 47, .move (.t 46), none, []⟩,
  ⟨some 48, .move (.t 7), (some (47, false)), []⟩,
  ⟨some 49, .nilck (.t 48), (some (47, false)), []⟩,
  ⟨some 50, .fldAddr 0 (.t 49), (some (47, false)), []⟩,
  ⟨some 51, .load none (.t 50), (some (47, false)), []⟩,
  ⟨some 52, .len .sl (.t 51), (some (47, false)), []⟩,
  ⟨some 53, .bin .gtr (.t 52) (.c (.int .i64 0)), (some (47, false)), []⟩,
  ⟨some 54, .pick (.t 47) (.c (.bool true)) (.t 53), none, []⟩] none [0, 54])
(.cond (.t 54)
  (.seq (.ops [⟨some 55, .move (.t 0), none, []⟩,
    ⟨some 56, .len .sl (.t 55), none, []⟩,
    ⟨some 57, .bin .sub (.t 56) (.c (.int .i64 1)), none, []⟩,
    ⟨some 2, .move (.t 57), none, []⟩,
    ⟨some 3, .move (.c (.int .i64 11)), none, []⟩] none [2, 3])
  (.ret))
  (.skip)))
(.seq (.seq (.ops [⟨some 58, .move (.t 0), none, []⟩,
  ⟨some 59, .call 295 [(.t 58)], none, []⟩,
  ⟨some 60, .bin .gtr (.t 59) (.c (.int .i64 512)), none, []⟩] none [60])
(.cond (.t 60)
  (.seq (.ops [⟨some 2, .move (.c (.int .i64 0)), none, []⟩,
    ⟨some 3, .move (.c (.int .i64 4)), none, []⟩] none [2, 3])
  (.ret))
  (.skip)))
(.seq (.ops [⟨some 2, .move (.c (.int .i64 0)), none, []⟩,
  ⟨some 3, .move (.c (.int .i64 0)), none, []⟩] none [2, 3])
(.ret))))))))))
def f286 : SFunc := ⟨b286, [.t 2, .t 3]⟩

/-- watchbill/prog.Cost -/
def b287 : SCode := (
.seq (.ops [⟨some 2, .move (.c (.int .i64 0)), none, []⟩] none [0])
(.seq (.ops [⟨some 3, .alloc (.int .i64 0), none, []⟩,
  ⟨none, .store none (.t 3) (.c (.int .i64 0)), none, []⟩] none [0, 3])
(.seq (.ops [⟨some 4, .move (.t 0), none, []⟩,
  ⟨some 5, .mkfn 296 [(.t 3)], none, []⟩,
  ⟨some 6, .call 297 [(.t 4), (.t 5)], none, []⟩] none [3])
(.seq (.ops [⟨some 7, .load none (.t 3), none, []⟩,
  ⟨some 2, .move (.t 7), none, []⟩] none [2])
(.ret)))))
def f287 : SFunc := ⟨b287, [.t 2]⟩

end Go.Cl.S
