/-
  The functions' clean texts, printed by a program out of the loaded ones.
-/
import Derived.Test.YtdbakplieenefaaGreatDoorM1
namespace Go.Cl.S
open Go Go.Cl

def m (a b : Nat) : SOper := ⟨some a, .move (.t b), none, []⟩
def o (a : Nat) (x : SOp) : SOper := ⟨some a, x, none, []⟩
def n (x : SOp) : SOper := ⟨none, x, none, []⟩
def k (x : Int) : Opd := .c (.int .i64 x)
@[simp] theorem m_eq (a b : Nat) : m a b = ⟨some a, .move (.t b), none, []⟩ := rfl
@[simp] theorem o_eq (a : Nat) (x : SOp) : o a x = ⟨some a, x, none, []⟩ := rfl
@[simp] theorem n_eq (x : SOp) : n x = ⟨none, x, none, []⟩ := rfl
@[simp] theorem k_eq (x : Int) : k x = .c (.int .i64 x) := rfl

def b258 : SCode := (
.seq (.ops [o 6 (.move (.c (.bool false)))] none [0, 1, 2])
(.seq (.seq (.ops [o 17 (.call 247 []), o 18 (.not (.t 17))] none [0, 1, 2, 18])
(.cond (.t 18)
(.seq (.ops [o 6 (.move (.c (.bool false)))] none [6])
(.ret))
(.skip)))
(.seq (.ops [m 19 0, o 20 (.bin .rem (.t 19) (.c (.int .u8 13))), o 21 (.conv .i64 (.t 20)), o 22 (.bin .add (k 1) (.t 21)), m 23 1, o 24 (.bin .rem (.t 23) (.c (.int .u8 10))), o 25 (.conv .i64 (.t 24)), m 26 2, o 27 (.bin .rem (.t 26) (.c (.int .u8 50))), o 28 (.conv .i64 (.t 27)), o 29 (.bin .add (k 1) (.t 28)), m 7 22, m 8 25, m 9 29] none [7, 8, 9])
(.seq (.ops [o 10 (.move (.c (.str [108, 111, 99, 107, 115, 32, 48, 10])))] none [7, 8, 9, 10])
(.seq (.seq (.ops [o 11 (.move (k 0))] none [7, 8, 9, 10, 11])
(.block 0 (.loop [7, 8, 9, 10, 11] (.seq (.seq (.ops [m 30 11, m 31 8, o 32 (.bin .lss (.t 30) (.t 31))] none [7, 8, 9, 10, 11, 32])
(.cond (.t 32)
(.skip)
(.exit 0)))
(.seq (.block 1 (.ops [m 35 10, o 36 (.bin .add (.t 35) (.c (.str [99, 104, 97, 110, 32, 49, 32, 45, 10]))), m 10 36] none [7, 8, 9, 10, 11]))
(.ops [m 33 11, o 34 (.bin .add (.t 33) (k 1)), m 11 34] none [7, 8, 9, 10, 11]))))))
(.seq (.seq (.ops [o 12 (.move (k 0))] none [7, 8, 9, 10, 12])
(.block 2 (.loop [7, 8, 9, 10, 12] (.seq (.seq (.ops [m 37 12, m 38 7, o 39 (.bin .lss (.t 37) (.t 38))] none [7, 8, 9, 10, 12, 39])
(.cond (.t 39)
(.skip)
(.exit 2)))
(.seq (.block 3 (.seq (.ops [m 42 10, o 43 (.bin .add (.t 42) (.c (.str [116, 97, 115, 107, 32]))), m 44 12, o 45 (.bin .add (k 97) (.t 44)), o 46 (.conv .u8 (.t 45)), o 47 (.buildSl 1 [(.int .u8 0)] [(0, 1, (.t 46))]), o 48 (.toStr (.t 47)), o 49 (.bin .add (.t 43) (.t 48)), o 50 (.bin .add (.t 49) (.c (.str [32, 57, 57, 32, 57, 57, 32, 57, 57, 10]))), m 10 50] none [7, 8, 9, 10, 12])
(.seq (.seq (.ops [m 51 12, o 52 (.bin .gtr (.t 51) (k 0))] none [7, 8, 9, 10, 12, 52])
(.cond (.t 52)
(.seq (.ops [m 53 10, o 54 (.bin .add (.t 53) (.c (.str [114, 117, 110, 32, 49, 10]))), m 10 54] none [7, 8, 9, 10, 12])
(.exit 3))
(.skip)))
(.seq (.ops [o 13 (.move (k 0))] none [7, 8, 9, 10, 12, 13])
(.block 4 (.loop [7, 8, 9, 10, 12, 13] (.seq (.seq (.ops [m 55 13, m 56 9, o 57 (.bin .lss (.t 55) (.t 56))] none [7, 8, 9, 10, 12, 13, 57])
(.cond (.t 57)
(.skip)
(.exit 4)))
(.seq (.block 5 (.ops [m 60 10, o 61 (.bin .add (.t 60) (.c (.str [114, 117, 110, 32, 49, 10]))), m 10 61] none [7, 8, 9, 10, 12, 13]))
(.ops [m 58 13, o 59 (.bin .add (.t 58) (k 1)), m 13 59] none [7, 8, 9, 10, 12, 13])))))))))
(.ops [m 40 12, o 41 (.bin .add (.t 40) (k 1)), m 12 41] none [7, 8, 9, 10, 12]))))))
(.seq (.ops [m 63 10, o 64 (.call 252 [(.t 63)]), m 62 64, o 65 (.ext 0 (.t 62)), o 66 (.ext 1 (.t 62)), o 67 (.ext 2 (.t 62)), o 14 (.alloc (.agg [(.int .i64 0), .nils, .nils])), n (.store (some 3) (.t 14) (.t 65)), m 15 66, m 16 67] none [7, 8, 9, 14, 15, 16])
(.seq (.block 6 (.seq (.ops [m 69 8, o 70 (.bin .gtr (.t 69) (k 8)), m 68 70] none [7, 8, 9, 14, 15, 16, 68])
(.cond (.t 68)
(.seq (.ops [m 71 16, o 72 (.bin .eql (.t 71) (k 4)), m 73 72, ⟨some 74, .move (.t 15), (some (73, true)), []⟩, ⟨some 75, .bin .eql (.t 74) (k 9), (some (73, true)), []⟩, o 76 (.pick (.t 73) (.t 75) (.c (.bool false))), m 6 76] none [6])
(.ret))
(.seq (.ops [m 78 9, o 79 (.bin .gtr (.t 78) (k 48)), m 77 79] none [7, 8, 9, 14, 15, 16, 77])
(.cond (.t 77)
(.seq (.ops [m 80 16, o 81 (.bin .eql (.t 80) (k 4)), m 82 81, ⟨some 83, .move (.t 15), (some (82, true)), []⟩, ⟨some 84, .move (.t 8), (some (82, true)), []⟩, ⟨some 85, .bin .add (k 1) (.t 84), (some (82, true)), []⟩, ⟨some 86, .bin .add (.t 85) (k 49), (some (82, true)), []⟩, ⟨some 87, .bin .eql (.t 83) (.t 86), (some (82, true)), []⟩, o 88 (.pick (.t 82) (.t 87) (.c (.bool false))), m 6 88] none [6])
(.ret))
(.seq (.ops [m 90 7, o 91 (.bin .gtr (.t 90) (k 12)), m 89 91] none [7, 8, 9, 14, 15, 16, 89])
(.cond (.t 89)
(.seq (.ops [m 92 16, o 93 (.bin .eql (.t 92) (k 4)), m 94 93, ⟨some 95, .move (.t 15), (some (94, true)), []⟩, ⟨some 96, .move (.t 8), (some (94, true)), []⟩, ⟨some 97, .bin .add (k 1) (.t 96), (some (94, true)), []⟩, ⟨some 98, .bin .add (.t 97) (k 1), (some (94, true)), []⟩, ⟨some 99, .move (.t 9), (some (94, true)), []⟩, ⟨some 100, .bin .add (.t 98) (.t 99), (some (94, true)), []⟩, ⟨some 101, .bin .add (.t 100) (k 22), (some (94, true)), []⟩, ⟨some 102, .bin .eql (.t 95) (.t 101), (some (94, true)), []⟩, o 103 (.pick (.t 94) (.t 102) (.c (.bool false))), m 6 103] none [6])
(.ret))
(.skip))))))))
(.seq (.ops [m 104 16, o 105 (.bin .eql (.t 104) (k 0)), m 106 105, ⟨some 107, .fldAddr 2 (.t 14), (some (106, true)), []⟩, ⟨some 108, .load none (.t 107), (some (106, true)), []⟩, ⟨some 109, .len .sl (.t 108), (some (106, true)), []⟩, ⟨some 110, .move (.t 7), (some (106, true)), []⟩, ⟨some 111, .bin .eql (.t 109) (.t 110), (some (106, true)), []⟩, o 112 (.pick (.t 106) (.t 111) (.c (.bool false))), m 113 112, ⟨some 114, .fldAddr 1 (.t 14), (some (113, true)), []⟩, ⟨some 115, .load none (.t 114), (some (113, true)), []⟩, ⟨some 116, .len .sl (.t 115), (some (113, true)), []⟩, ⟨some 117, .move (.t 8), (some (113, true)), []⟩, ⟨some 118, .bin .eql (.t 116) (.t 117), (some (113, true)), []⟩, o 119 (.pick (.t 113) (.t 118) (.c (.bool false))), m 120 119, ⟨some 121, .fldAddr 2 (.t 14), (some (120, true)), []⟩, ⟨some 122, .load none (.t 121), (some (120, true)), []⟩, ⟨some 123, .idxAddr 5 (.t 122) (k 0), (some (120, true)), []⟩, ⟨some 124, .fldAddr 4 (.t 123), (some (120, true)), []⟩, ⟨some 125, .load none (.t 124), (some (120, true)), []⟩, ⟨some 126, .len .sl (.t 125), (some (120, true)), []⟩, ⟨some 127, .move (.t 9), (some (120, true)), []⟩, ⟨some 128, .bin .eql (.t 126) (.t 127), (some (120, true)), []⟩, o 129 (.pick (.t 120) (.t 128) (.c (.bool false))), m 130 129, ⟨some 131, .fldAddr 2 (.t 14), (some (130, true)), []⟩, ⟨some 132, .load none (.t 131), (some (130, true)), []⟩, ⟨some 133, .idxAddr 5 (.t 132) (k 0), (some (130, true)), []⟩, ⟨some 134, .fldAddr 4 (.t 133), (some (130, true)), []⟩, ⟨some 135, .load none (.t 134), (some (130, true)), []⟩, ⟨some 136, .move (.t 9), (some (130, true)), []⟩, ⟨some 137, .bin .sub (.t 136) (k 1), (some (130, true)), []⟩, ⟨some 138, .idxAddr 5 (.t 135) (.t 137), (some (130, true)), []⟩, ⟨some 139, .load (some 5) (.t 138), (some (130, true)), []⟩, ⟨some 140, .build [(.int .i64 0), (.int .i64 0), (.int .i64 0), (.int .i64 0), .nils] [(0, 1, (k 1)), (1, 1, (k 1))], (some (130, true)), []⟩, ⟨some 141, .call 51 [(.t 139), (.t 140)], (some (130, true)), []⟩, o 142 (.pick (.t 130) (.t 141) (.c (.bool false))), m 143 142, ⟨some 144, .load (some 3) (.t 14), (some (143, true)), []⟩, ⟨some 145, .load (some 3) (.t 14), (some (143, true)), []⟩, ⟨some 146, .call 259 [(.t 144), (.t 145)], (some (143, true)), []⟩, o 147 (.pick (.t 143) (.t 146) (.c (.bool false))), m 6 147] none [6])
(.ret))))))))))
def f258 : SFunc := ⟨b258, [.t 6]⟩

def b247 : SCode := (
.seq (.ops [o 0 (.move (.c (.bool false)))] none [])
(.seq (.ops [o 19 (.call 52 []), o 20 (.call 250 [(.t 19)]), m 18 20, o 21 (.ext 0 (.t 18)), o 22 (.ext 1 (.t 18)), m 1 21, m 2 22] none [1, 2])
(.seq (.ops [m 24 1, o 25 (.call 252 [(.t 24)]), m 23 25, o 26 (.ext 0 (.t 23)), o 27 (.ext 1 (.t 23)), o 28 (.ext 2 (.t 23)), o 3 (.alloc (.agg [(.int .i64 0), .nils, .nils])), n (.store (some 3) (.t 3) (.t 26)), m 4 27, m 5 28] none [1, 2, 3, 5])
(.seq (.ops [o 30 (.call 252 [(.c (.str [108, 111, 99, 107, 115, 32, 48, 10, 99, 104, 97, 110, 32, 49, 32, 45, 10, 116, 97, 115, 107, 32, 97, 32, 53, 32, 53, 32, 53, 10, 114, 117, 110, 32, 49, 10, 99, 104, 97, 110, 32, 49, 32, 45, 10]))]), m 29 30, o 31 (.ext 0 (.t 29)), o 32 (.ext 1 (.t 29)), o 33 (.ext 2 (.t 29)), o 6 (.alloc (.agg [(.int .i64 0), .nils, .nils])), n (.store (some 3) (.t 6) (.t 31)), m 7 32, m 8 33] none [1, 2, 3, 5, 7, 8])
(.seq (.ops [o 35 (.call 252 [(.c (.str [108, 111, 99, 107, 115, 32, 48, 10, 114, 117, 110, 32, 49, 10]))]), m 34 35, o 36 (.ext 0 (.t 34)), o 37 (.ext 1 (.t 34)), o 38 (.ext 2 (.t 34)), o 9 (.alloc (.agg [(.int .i64 0), .nils, .nils])), n (.store (some 3) (.t 9) (.t 36)), m 10 37, m 11 38] none [1, 2, 3, 5, 7, 8, 10, 11])
(.seq (.ops [o 40 (.call 252 [(.c (.str []))]), m 39 40, o 41 (.ext 0 (.t 39)), o 42 (.ext 1 (.t 39)), o 43 (.ext 2 (.t 39)), o 12 (.alloc (.agg [(.int .i64 0), .nils, .nils])), n (.store (some 3) (.t 12) (.t 41)), m 13 42, m 14 43] none [1, 2, 3, 5, 7, 8, 10, 11, 14])
(.seq (.ops [o 45 (.call 252 [(.c (.str [108, 111, 99, 107, 115, 32, 48, 10, 116, 97, 115, 107, 32, 97, 32, 53, 32, 54, 32, 53, 10, 114, 117, 110, 32, 49, 10]))]), m 44 45, o 46 (.ext 0 (.t 44)), o 47 (.ext 1 (.t 44)), o 48 (.ext 2 (.t 44)), o 15 (.alloc (.agg [(.int .i64 0), .nils, .nils])), n (.store (some 3) (.t 15) (.t 46)), m 16 47, m 17 48] none [1, 2, 3, 5, 7, 8, 10, 11, 14, 16, 17])
(.seq (.ops [m 49 2, m 50 5, o 51 (.bin .add (.t 49) (.t 50)), o 52 (.bin .eql (.t 51) (k 0)), m 53 52, ⟨some 54, .move (.t 1), (some (53, true)), []⟩, ⟨some 55, .bin .eql (.t 54) (.c (.str [108, 111, 99, 107, 115, 32, 49, 10, 116, 97, 115, 107, 32, 102, 97, 115, 116, 32, 49, 48, 32, 56, 32, 51, 10, 114, 117, 110, 32, 49, 10, 108, 111, 99, 107, 32, 48, 10, 114, 117, 110, 32, 49, 10, 117, 110, 108, 111, 99, 107, 32, 48, 10, 116, 97, 115, 107, 32, 115, 108, 111, 119, 32, 50, 48, 32, 50, 48, 32, 54, 10, 108, 111, 99, 107, 32, 48, 10, 114, 117, 110, 32, 52, 10, 117, 110, 108, 111, 99, 107, 32, 48, 10, 114, 117, 110, 32, 49, 10])), (some (53, true)), []⟩, o 56 (.pick (.t 53) (.t 55) (.c (.bool false))), m 57 56, ⟨some 58, .load (some 3) (.t 3), (some (57, true)), []⟩, ⟨some 59, .call 10 [(.t 58)], (some (57, true)), []⟩, ⟨some 60, .call 52 [], (some (57, true)), []⟩, ⟨some 61, .call 10 [(.t 60)], (some (57, true)), []⟩, ⟨some 62, .call 253 [(.t 59), (.t 61)], (some (57, true)), []⟩, o 63 (.pick (.t 57) (.t 62) (.c (.bool false))), m 64 63, ⟨some 65, .move (.t 8), (some (64, true)), []⟩, ⟨some 66, .bin .eql (.t 65) (k 2), (some (64, true)), []⟩, o 67 (.pick (.t 64) (.t 66) (.c (.bool false))), m 68 67, ⟨some 69, .move (.t 7), (some (68, true)), []⟩, ⟨some 70, .bin .eql (.t 69) (k 4), (some (68, true)), []⟩, o 71 (.pick (.t 68) (.t 70) (.c (.bool false))), m 72 71, ⟨some 73, .move (.t 11), (some (72, true)), []⟩, ⟨some 74, .bin .eql (.t 73) (k 2), (some (72, true)), []⟩, o 75 (.pick (.t 72) (.t 74) (.c (.bool false))), m 76 75, ⟨some 77, .move (.t 10), (some (76, true)), []⟩, ⟨some 78, .bin .eql (.t 77) (k 1), (some (76, true)), []⟩, o 79 (.pick (.t 76) (.t 78) (.c (.bool false))), m 80 79, ⟨some 81, .move (.t 14), (some (80, true)), []⟩, ⟨some 82, .bin .eql (.t 81) (k 2), (some (80, true)), []⟩, o 83 (.pick (.t 80) (.t 82) (.c (.bool false))), m 84 83, ⟨some 85, .move (.t 17), (some (84, true)), []⟩, ⟨some 86, .bin .eql (.t 85) (k 1), (some (84, true)), []⟩, o 87 (.pick (.t 84) (.t 86) (.c (.bool false))), m 88 87, ⟨some 89, .move (.t 16), (some (88, true)), []⟩, ⟨some 90, .bin .eql (.t 89) (k 0), (some (88, true)), []⟩, o 91 (.pick (.t 88) (.t 90) (.c (.bool false))), m 0 91] none [0])
(.ret)))))))))
def f247 : SFunc := ⟨b247, [.t 0]⟩

def b250 : SCode := (
.seq (.ops [o 1 (.box (.t 0)), o 2 (.move (.c (.str []))), o 3 (.move (k 0))] none [1])
(.seq (.seq (.ops [o 14 (.load (some 3) (.t 1)), o 15 (.call 265 [(.t 14)]), m 13 15, o 16 (.ext 0 (.t 13)), o 17 (.ext 1 (.t 13)), m 4 16, m 5 17] none [1, 5])
(.seq (.ops [m 18 5, o 19 (.bin .neq (.t 18) (k 0))] none [1, 5, 19])
(.cond (.t 19)
(.seq (.ops [m 20 5, o 2 (.move (.c (.str []))), m 3 20] none [2, 3])
(.ret))
(.skip))))
(.seq (.ops [o 21 (.fldAddr 0 (.t 1)), o 22 (.load none (.t 21)), o 23 (.call 99 [(.t 22)]), o 24 (.bin .add (.c (.str [108, 111, 99, 107, 115, 32])) (.t 23)), o 25 (.buildSl 1 [(.str [])] [(0, 1, (.t 24))]), m 6 25] none [1, 6])
(.seq (.seq (.ops [o 26 (.fldAddr 1 (.t 1)), o 27 (.load none (.t 26)), o 28 (.len .sl (.t 27)), o 29 (.move (k 0))] none [1, 6, 27, 28, 29])
(.block 0 (.loop [1, 6, 27, 28, 29] (.seq (.ops [o 30 (.bin .lss (.t 29) (.t 28))] none [1, 6, 27, 28, 29, 30])
(.seq (.cond (.t 30)
(.skip)
(.exit 0))
(.seq (.block 1 (.seq (.ops [o 31 (.idxAddr 2 (.t 27) (.t 29)), o 32 (.load (some 2) (.t 31)), o 8 (.alloc (.agg [(.int .i64 0), (.int .i64 0)])), n (.store (some 2) (.t 8) (.t 32))] none [1, 6, 8, 27, 28, 29])
(.ops [m 33 6, o 34 (.fldAddr 0 (.t 8)), o 35 (.load none (.t 34)), o 39 (.fldAddr 1 (.t 8)), o 40 (.load none (.t 39)), ⟨some 36, .call 99 [(.t 35)], none, [4]⟩, o 37 (.bin .add (.c (.str [99, 104, 97, 110, 32])) (.t 36)), o 38 (.bin .add (.t 37) (.c (.str [32]))), o 41 (.call 266 [(.t 40)]), o 42 (.bin .add (.t 38) (.t 41)), o 43 (.buildSl 1 [(.str [])] [(0, 1, (.t 42))]), o 44 (.append 1 (.t 33) (.t 43)), m 6 44] (some [(0, []), (1, []), (2, [1]), (6, []), (7, [3]), (3, [2, 1]), (4, [5, 2, 1]), (5, [6, 5, 2, 1]), (8, [4, 3, 5, 2, 1]), (9, [7, 6, 5, 2, 1, 8, 4, 3]), (10, [9, 7, 6, 5, 2, 1, 8, 4, 3]), (11, [0, 10, 9, 7, 6, 5, 2, 1, 8, 4, 3]), (12, [11, 0, 10, 9, 7, 6, 5, 2, 1, 8, 4, 3])]) [1, 6, 27, 28, 29])))
(.ops [o 45 (.bin .add (.t 29) (k 1)), m 29 45] none [1, 6, 27, 28, 29])))))))
(.seq (.seq (.ops [o 46 (.fldAddr 2 (.t 1)), o 47 (.load none (.t 46)), o 48 (.len .sl (.t 47)), o 49 (.move (k 0))] none [6, 47, 48, 49])
(.block 2 (.loop [6, 47, 48, 49] (.seq (.ops [o 50 (.bin .lss (.t 49) (.t 48))] none [6, 47, 48, 49, 50])
(.seq (.cond (.t 50)
(.skip)
(.exit 2))
(.seq (.block 3 (.seq (.ops [o 51 (.idxAddr 5 (.t 47) (.t 49)), o 52 (.load (some 5) (.t 51)), o 10 (.alloc (.agg [(.str []), (.int .i64 0), (.int .i64 0), (.int .i64 0), .nils])), n (.store (some 5) (.t 10) (.t 52))] none [6, 10, 47, 48, 49])
(.seq (.ops [m 53 6, o 54 (.fldAddr 0 (.t 10)), o 55 (.load none (.t 54)), o 56 (.fldAddr 1 (.t 10)), o 57 (.load none (.t 56)), o 59 (.fldAddr 2 (.t 10)), o 60 (.load none (.t 59)), o 62 (.fldAddr 3 (.t 10)), o 63 (.load none (.t 62)), ⟨some 58, .call 99 [(.t 57)], none, [2, 6, 8]⟩, ⟨some 61, .call 99 [(.t 60)], none, [2, 8]⟩, ⟨some 64, .call 99 [(.t 63)], none, [2]⟩, o 65 (.buildSl 5 [(.str []), (.str []), (.str []), (.str []), (.str [])] [(0, 1, (.c (.str [116, 97, 115, 107]))), (1, 1, (.t 55)), (2, 1, (.t 58)), (3, 1, (.t 61)), (4, 1, (.t 64))]), o 66 (.call 128 [(.t 65), (.c (.str [32]))]), o 67 (.buildSl 1 [(.str [])] [(0, 1, (.t 66))]), o 68 (.append 1 (.t 53) (.t 67)), m 6 68] (some [(0, []), (1, []), (2, [1]), (3, []), (4, [3]), (6, []), (7, [5]), (9, []), (10, [7]), (5, [4, 3]), (8, [6, 5, 9, 4, 3]), (11, [8, 7, 10, 6, 5, 9, 4, 3]), (12, [2, 1, 9, 4, 3, 10, 6, 5, 11, 8, 7]), (13, [12, 2, 1, 9, 4, 3, 10, 6, 5, 11, 8, 7]), (14, [13, 12, 2, 1, 9, 4, 3, 10, 6, 5, 11, 8, 7]), (15, [0, 14, 13, 12, 2, 1, 9, 4, 3, 10, 6, 5, 11, 8, 7]), (16, [15, 0, 14, 13, 12, 2, 1, 9, 4, 3, 10, 6, 5, 11, 8, 7])]) [6, 10, 47, 48, 49])
(.seq (.ops [o 69 (.fldAddr 4 (.t 10)), o 70 (.load none (.t 69)), o 71 (.len .sl (.t 70)), o 72 (.move (k 0))] none [6, 47, 48, 49, 70, 71, 72])
(.block 4 (.loop [6, 47, 48, 49, 70, 71, 72] (.seq (.ops [o 73 (.bin .lss (.t 72) (.t 71))] none [6, 47, 48, 49, 70, 71, 72, 73])
(.seq (.cond (.t 73)
(.skip)
(.exit 4))
(.seq (.block 5 (.seq (.ops [o 74 (.idxAddr 5 (.t 70) (.t 72)), o 75 (.load (some 5) (.t 74)), o 12 (.alloc (.agg [(.int .i64 0), (.int .i64 0), (.int .i64 0), (.int .i64 0), .nils])), n (.store (some 5) (.t 12) (.t 75))] none [6, 12, 47, 48, 49, 70, 71, 72])
(.ops [m 76 6, o 77 (.load (some 5) (.t 12)), o 78 (.call 221 [(.t 77)]), o 79 (.buildSl 1 [(.str [])] [(0, 1, (.t 78))]), o 80 (.append 1 (.t 76) (.t 79)), m 6 80] none [6, 47, 48, 49, 70, 71, 72])))
(.ops [o 81 (.bin .add (.t 72) (k 1)), m 72 81] none [6, 47, 48, 49, 70, 71, 72]))))))))))
(.ops [o 82 (.bin .add (.t 49) (k 1)), m 49 82] none [6, 47, 48, 49])))))))
(.seq (.ops [m 83 6, o 84 (.call 128 [(.t 83), (.c (.str [10]))]), o 85 (.bin .add (.t 84) (.c (.str [10]))), m 2 85, o 3 (.move (k 0))] none [2, 3])
(.ret)))))))
def f250 : SFunc := ⟨b250, [.t 2, .t 3]⟩

def b252 : SCode := (
.seq (.ops [o 2 (.alloc (.agg [(.int .i64 0), .nils, .nils])), o 3 (.move (k 0)), o 4 (.move (k 0))] none [0, 2])
(.seq (.ops [m 14 0, o 15 (.call 90 [(.t 14)]), m 13 15, o 16 (.ext 0 (.t 13)), o 17 (.ext 1 (.t 13)), m 5 16, m 6 17] none [2, 5, 6])
(.seq (.seq (.ops [m 18 6, o 19 (.bin .eql (.t 18) (k 0)), m 20 19, ⟨some 21, .move (.t 5), (some (20, true)), []⟩, ⟨some 22, .len .sl (.t 21), (some (20, true)), []⟩, ⟨some 23, .bin .eql (.t 22) (k 0), (some (20, true)), []⟩, o 24 (.pick (.t 20) (.t 23) (.c (.bool false)))] none [2, 5, 6, 24])
(.cond (.t 24)
(.ops [o 6 (.move (k 2))] none [2, 5, 6])
(.skip)))
(.seq (.seq (.ops [m 25 6, o 26 (.bin .neq (.t 25) (k 0))] none [2, 5, 6, 26])
(.cond (.t 26)
(.seq (.ops [o 27 (.build [(.int .i64 0), .nils, .nils] []), m 28 6, n (.store (some 3) (.t 2) (.t 27)), o 3 (.move (k 0)), m 4 28] none [2, 3, 4])
(.ret))
(.skip)))
(.seq (.ops [o 29 (.build [(.int .i64 0), .nils, .nils] []), o 30 (.box (.t 29)), m 7 30] none [2, 5, 7])
(.seq (.skip)
(.seq (.seq (.ops [m 31 5, o 32 (.len .sl (.t 31)), o 33 (.move (k 0))] none [2, 7, 31, 32, 33])
(.block 0 (.loop [2, 7, 31, 32, 33] (.seq (.ops [o 34 (.bin .lss (.t 33) (.t 32))] none [2, 7, 31, 32, 33, 34])
(.seq (.cond (.t 34)
(.skip)
(.exit 0))
(.seq (.block 1 (.seq (.ops [m 35 33, o 36 (.idxAddr 1 (.t 31) (.t 33)), o 37 (.load none (.t 36)), m 8 35, m 9 37] none [2, 7, 8, 9, 31, 32, 33])
(.seq (.ops [m 38 7, m 39 8, m 40 9, o 41 (.call 267 [(.t 38), (.t 39), (.t 40)]), m 10 41] none [2, 7, 8, 10, 31, 32, 33])
(.seq (.seq (.ops [m 42 10, o 43 (.bin .eql (.t 42) (k 0))] none [2, 7, 8, 10, 31, 32, 33, 43])
(.cond (.t 43)
(.exit 1)
(.skip)))
(.seq (.ops [o 44 (.build [(.int .i64 0), .nils, .nils] []), m 45 8, m 46 10, n (.store (some 3) (.t 2) (.t 44)), m 3 45, m 4 46] none [2, 3, 4])
(.ret))))))
(.ops [o 47 (.bin .add (.t 33) (k 1)), m 33 47] none [2, 7, 31, 32, 33])))))))
(.seq (.seq (.ops [m 49 7, o 50 (.nilck (.t 49)), o 51 (.fldAddr 0 (.t 50)), o 52 (.load (some 3) (.t 51)), o 53 (.call 265 [(.t 52)]), m 48 53, o 54 (.ext 0 (.t 48)), o 55 (.ext 1 (.t 48)), m 11 54, m 12 55] none [2, 7, 12])
(.seq (.ops [m 56 12, o 57 (.bin .neq (.t 56) (k 0))] none [2, 7, 12, 57])
(.cond (.t 57)
(.seq (.ops [o 58 (.build [(.int .i64 0), .nils, .nils] []), m 59 12, n (.store (some 3) (.t 2) (.t 58)), o 3 (.move (k 0)), m 4 59] none [2, 3, 4])
(.ret))
(.skip))))
(.seq (.ops [m 60 7, o 61 (.nilck (.t 60)), o 62 (.fldAddr 0 (.t 61)), o 63 (.load (some 3) (.t 62)), n (.store (some 3) (.t 2) (.t 63)), o 3 (.move (k 0)), o 4 (.move (k 0))] none [2, 3, 4])
(.ret))))))))))
def f252 : SFunc := ⟨b252, [.cell (some 3) 2, .t 3, .t 4]⟩

def b253 : SCode := (
.seq (.ops [o 2 (.box (.t 0)), o 3 (.box (.t 1)), o 4 (.move (.c (.bool false)))] none [2, 3])
(.seq (.seq (.ops [o 9 (.fldAddr 0 (.t 2)), o 10 (.load none (.t 9)), o 11 (.fldAddr 0 (.t 3)), o 12 (.load none (.t 11)), o 13 (.bin .neq (.t 10) (.t 12)), m 14 13, ⟨some 15, .fldAddr 1 (.t 2), (some (14, false)), []⟩, ⟨some 16, .load none (.t 15), (some (14, false)), []⟩, ⟨some 17, .len .sl (.t 16), (some (14, false)), []⟩, ⟨some 18, .fldAddr 1 (.t 3), (some (14, false)), []⟩, ⟨some 19, .load none (.t 18), (some (14, false)), []⟩, ⟨some 20, .len .sl (.t 19), (some (14, false)), []⟩, ⟨some 21, .bin .neq (.t 17) (.t 20), (some (14, false)), []⟩, o 22 (.pick (.t 14) (.c (.bool true)) (.t 21)), m 23 22, ⟨some 24, .fldAddr 2 (.t 2), (some (23, false)), []⟩, ⟨some 25, .load none (.t 24), (some (23, false)), []⟩, ⟨some 26, .len .sl (.t 25), (some (23, false)), []⟩, ⟨some 27, .fldAddr 2 (.t 3), (some (23, false)), []⟩, ⟨some 28, .load none (.t 27), (some (23, false)), []⟩, ⟨some 29, .len .sl (.t 28), (some (23, false)), []⟩, ⟨some 30, .bin .neq (.t 26) (.t 29), (some (23, false)), []⟩, o 31 (.pick (.t 23) (.c (.bool true)) (.t 30))] none [2, 3, 31])
(.cond (.t 31)
(.seq (.ops [o 4 (.move (.c (.bool false)))] none [4])
(.ret))
(.skip)))
(.seq (.seq (.ops [o 5 (.move (k 0))] none [2, 3, 5])
(.block 0 (.loop [2, 3, 5] (.seq (.seq (.ops [m 32 5, o 33 (.fldAddr 1 (.t 2)), o 34 (.load none (.t 33)), o 35 (.len .sl (.t 34)), o 36 (.bin .lss (.t 32) (.t 35))] none [2, 3, 5, 36])
(.cond (.t 36)
(.skip)
(.exit 0)))
(.seq (.block 1 (.seq (.ops [o 39 (.fldAddr 1 (.t 2)), o 40 (.load none (.t 39)), m 41 5, o 42 (.idxAddr 2 (.t 40) (.t 41)), o 43 (.load (some 2) (.t 42)), o 44 (.fldAddr 1 (.t 3)), o 45 (.load none (.t 44)), m 46 5, o 47 (.idxAddr 2 (.t 45) (.t 46)), o 48 (.load (some 2) (.t 47)), o 49 (.eq true (.st [.i, .i]) (.t 43) (.t 48))] (some [(0, []), (1, [0]), (2, []), (3, [1, 0, 2]), (4, [3, 1, 0, 2]), (5, []), (6, [5]), (7, []), (8, [6, 5, 7]), (9, [8, 6, 5, 7]), (10, [4, 3, 1, 0, 2, 9, 8, 6, 5, 7])]) [2, 3, 5, 49])
(.cond (.t 49)
(.seq (.ops [o 4 (.move (.c (.bool false)))] none [4])
(.ret))
(.skip))))
(.ops [m 37 5, o 38 (.bin .add (.t 37) (k 1)), m 5 38] none [2, 3, 5]))))))
(.seq (.seq (.ops [o 6 (.move (k 0))] none [2, 3, 6])
(.block 2 (.loop [2, 3, 6] (.seq (.seq (.ops [m 50 6, o 51 (.fldAddr 2 (.t 2)), o 52 (.load none (.t 51)), o 53 (.len .sl (.t 52)), o 54 (.bin .lss (.t 50) (.t 53))] none [2, 3, 6, 54])
(.cond (.t 54)
(.skip)
(.exit 2)))
(.seq (.block 3 (.seq (.ops [o 57 (.fldAddr 2 (.t 2)), o 58 (.load none (.t 57)), m 59 6, o 60 (.idxAddr 5 (.t 58) (.t 59)), o 61 (.load (some 5) (.t 60)), o 7 (.alloc (.agg [(.str []), (.int .i64 0), (.int .i64 0), (.int .i64 0), .nils])), n (.store (some 5) (.t 7) (.t 61))] none [2, 3, 6, 7])
(.seq (.ops [o 62 (.fldAddr 2 (.t 3)), o 63 (.load none (.t 62)), m 64 6, o 65 (.idxAddr 5 (.t 63) (.t 64)), o 66 (.load (some 5) (.t 65)), o 8 (.alloc (.agg [(.str []), (.int .i64 0), (.int .i64 0), (.int .i64 0), .nils])), n (.store (some 5) (.t 8) (.t 66))] none [2, 3, 6, 7, 8])
(.seq (.ops [o 67 (.fldAddr 0 (.t 7)), o 68 (.load none (.t 67)), o 69 (.fldAddr 0 (.t 8)), o 70 (.load none (.t 69)), o 71 (.bin .neq (.t 68) (.t 70)), m 72 71, ⟨some 73, .fldAddr 1 (.t 7), (some (72, false)), []⟩, ⟨some 74, .load none (.t 73), (some (72, false)), []⟩, ⟨some 75, .fldAddr 1 (.t 8), (some (72, false)), []⟩, ⟨some 76, .load none (.t 75), (some (72, false)), []⟩, ⟨some 77, .bin .neq (.t 74) (.t 76), (some (72, false)), []⟩, o 78 (.pick (.t 72) (.c (.bool true)) (.t 77)), m 79 78, ⟨some 80, .fldAddr 2 (.t 7), (some (79, false)), []⟩, ⟨some 81, .load none (.t 80), (some (79, false)), []⟩, ⟨some 82, .fldAddr 2 (.t 8), (some (79, false)), []⟩, ⟨some 83, .load none (.t 82), (some (79, false)), []⟩, ⟨some 84, .bin .neq (.t 81) (.t 83), (some (79, false)), []⟩, o 85 (.pick (.t 79) (.c (.bool true)) (.t 84)), m 86 85, ⟨some 87, .fldAddr 3 (.t 7), (some (86, false)), []⟩, ⟨some 88, .load none (.t 87), (some (86, false)), []⟩, ⟨some 89, .fldAddr 3 (.t 8), (some (86, false)), []⟩, ⟨some 90, .load none (.t 89), (some (86, false)), []⟩, ⟨some 91, .bin .neq (.t 88) (.t 90), (some (86, false)), []⟩, o 92 (.pick (.t 86) (.c (.bool true)) (.t 91)), m 93 92, ⟨some 94, .fldAddr 4 (.t 7), (some (93, false)), []⟩, ⟨some 95, .load none (.t 94), (some (93, false)), []⟩, ⟨some 96, .fldAddr 4 (.t 8), (some (93, false)), []⟩, ⟨some 97, .load none (.t 96), (some (93, false)), []⟩, ⟨some 98, .call 63 [(.t 95), (.t 97)], (some (93, false)), []⟩, ⟨some 99, .not (.t 98), (some (93, false)), []⟩, o 100 (.pick (.t 93) (.c (.bool true)) (.t 99))] none [2, 3, 6, 100])
(.cond (.t 100)
(.seq (.ops [o 4 (.move (.c (.bool false)))] none [4])
(.ret))
(.skip))))))
(.ops [m 55 6, o 56 (.bin .add (.t 55) (k 1)), m 6 56] none [2, 3, 6]))))))
(.seq (.ops [o 4 (.move (.c (.bool true)))] none [4])
(.ret))))))
def f253 : SFunc := ⟨b253, [.t 4]⟩

def b10 : SCode := (
.seq (.ops [o 1 (.box (.t 0)), o 2 (.alloc (.agg [(.int .i64 0), .nils, .nils]))] none [1, 2])
(.seq (.ops [o 7 (.fldAddr 0 (.t 1)), o 8 (.load none (.t 7)), o 9 (.build [(.int .i64 0), .nils, .nils] [(0, 1, (.t 8))]), o 3 (.alloc (.agg [(.int .i64 0), .nils, .nils])), n (.store (some 3) (.t 3) (.t 9))] none [1, 2, 3])
(.seq (.seq (.ops [o 4 (.move (k 0))] none [1, 2, 3, 4])
(.block 0 (.loop [1, 2, 3, 4] (.seq (.seq (.ops [m 10 4, o 11 (.fldAddr 1 (.t 1)), o 12 (.load none (.t 11)), o 13 (.len .sl (.t 12)), o 14 (.bin .lss (.t 10) (.t 13))] none [1, 2, 3, 4, 14])
(.cond (.t 14)
(.skip)
(.exit 0)))
(.seq (.block 1 (.ops [o 17 (.fldAddr 1 (.t 3)), o 18 (.load none (.t 17)), o 19 (.fldAddr 1 (.t 1)), o 20 (.load none (.t 19)), m 21 4, o 22 (.idxAddr 2 (.t 20) (.t 21)), o 23 (.fldAddr 0 (.t 22)), o 24 (.load none (.t 23)), o 25 (.fldAddr 1 (.t 1)), o 26 (.load none (.t 25)), m 27 4, o 28 (.idxAddr 2 (.t 26) (.t 27)), o 29 (.fldAddr 1 (.t 28)), o 30 (.load none (.t 29)), o 31 (.build [(.int .i64 0), (.int .i64 0)] [(0, 1, (.t 24)), (1, 1, (.t 30))]), o 32 (.buildSl 1 [(.int .i64 0), (.int .i64 0)] [(0, 2, (.t 31))]), o 33 (.append 2 (.t 18) (.t 32)), o 34 (.fldAddr 1 (.t 3)), n (.store none (.t 34) (.t 33))] (some [(0, []), (1, [0]), (2, []), (3, [2]), (4, []), (5, [3, 2, 4]), (6, [5, 3, 2, 4]), (7, [6, 5, 3, 2, 4]), (8, []), (9, [8]), (10, []), (11, [9, 8, 10]), (12, [11, 9, 8, 10]), (13, [12, 11, 9, 8, 10]), (14, [7, 6, 5, 3, 2, 4, 13, 12, 11, 9, 8, 10]), (15, [14, 7, 6, 5, 3, 2, 4, 13, 12, 11, 9, 8, 10]), (16, [1, 0, 15, 14, 7, 6, 5, 3, 2, 4, 13, 12, 11, 9, 8, 10]), (17, [0, 1, 2, 3, 4, 5, 6, 7, 8, 9, 10, 11, 12, 13, 14, 15, 16]), (18, [17, 0, 1, 2, 3, 4, 5, 6, 7, 8, 9, 10, 11, 12, 13, 14, 15, 16])]) [1, 2, 3, 4]))
(.ops [m 15 4, o 16 (.bin .add (.t 15) (k 1)), m 4 16] none [1, 2, 3, 4]))))))
(.seq (.seq (.ops [o 5 (.move (k 0))] none [1, 2, 3, 5])
(.block 2 (.loop [1, 2, 3, 5] (.seq (.seq (.ops [m 35 5, o 36 (.fldAddr 2 (.t 1)), o 37 (.load none (.t 36)), o 38 (.len .sl (.t 37)), o 39 (.bin .lss (.t 35) (.t 38))] none [1, 2, 3, 5, 39])
(.cond (.t 39)
(.skip)
(.exit 2)))
(.seq (.block 3 (.seq (.ops [o 42 (.fldAddr 2 (.t 1)), o 43 (.load none (.t 42)), m 44 5, o 45 (.idxAddr 5 (.t 43) (.t 44)), o 46 (.load (some 5) (.t 45)), o 6 (.alloc (.agg [(.str []), (.int .i64 0), (.int .i64 0), (.int .i64 0), .nils])), n (.store (some 5) (.t 6) (.t 46))] none [1, 2, 3, 5, 6])
(.ops [o 47 (.fldAddr 2 (.t 3)), o 48 (.load none (.t 47)), o 49 (.fldAddr 0 (.t 6)), o 50 (.load none (.t 49)), o 51 (.fldAddr 1 (.t 6)), o 52 (.load none (.t 51)), o 53 (.fldAddr 2 (.t 6)), o 54 (.load none (.t 53)), o 55 (.fldAddr 3 (.t 6)), o 56 (.load none (.t 55)), o 57 (.fldAddr 4 (.t 6)), o 58 (.load none (.t 57)), ⟨some 59, .call 53 [(.t 58)], none, [1, 3, 5, 7, 9]⟩, o 60 (.build [(.str []), (.int .i64 0), (.int .i64 0), (.int .i64 0), .nils] [(0, 1, (.t 50)), (1, 1, (.t 52)), (2, 1, (.t 54)), (3, 1, (.t 56)), (4, 1, (.t 59))]), o 61 (.buildSl 1 [(.str []), (.int .i64 0), (.int .i64 0), (.int .i64 0), .nils] [(0, 5, (.t 60))]), o 62 (.append 5 (.t 48) (.t 61)), o 63 (.fldAddr 2 (.t 3)), n (.store none (.t 63) (.t 62))] (some [(0, []), (1, [0]), (2, []), (3, [2]), (4, []), (5, [4]), (6, []), (7, [6]), (8, []), (9, [8]), (10, []), (11, [10]), (12, [11, 10]), (13, [3, 2, 5, 4, 7, 6, 9, 8, 12, 11, 10]), (14, [13, 3, 2, 5, 4, 7, 6, 9, 8, 12, 11, 10]), (15, [1, 0, 14, 13, 3, 2, 5, 4, 7, 6, 9, 8, 12, 11, 10]), (16, [0, 1, 2, 3, 4, 5, 6, 7, 8, 9, 10, 11, 12, 13, 14, 15]), (17, [16, 0, 1, 2, 3, 4, 5, 6, 7, 8, 9, 10, 11, 12, 13, 14, 15])]) [1, 2, 3, 5])))
(.ops [m 40 5, o 41 (.bin .add (.t 40) (k 1)), m 5 41] none [1, 2, 3, 5]))))))
(.seq (.ops [o 64 (.load (some 3) (.t 3)), n (.store (some 3) (.t 2) (.t 64))] none [2])
(.ret))))))
def f10 : SFunc := ⟨b10, [.cell (some 3) 2]⟩

def b51 : SCode := (
.seq (.ops [o 2 (.box (.t 0)), o 3 (.box (.t 1)), o 4 (.move (.c (.bool false)))] none [2, 3])
(.seq (.ops [o 5 (.fldAddr 0 (.t 2)), o 6 (.load none (.t 5)), o 7 (.fldAddr 0 (.t 3)), o 8 (.load none (.t 7)), o 9 (.bin .eql (.t 6) (.t 8)), m 10 9, ⟨some 11, .fldAddr 1 (.t 2), (some (10, true)), []⟩, ⟨some 12, .load none (.t 11), (some (10, true)), []⟩, ⟨some 13, .fldAddr 1 (.t 3), (some (10, true)), []⟩, ⟨some 14, .load none (.t 13), (some (10, true)), []⟩, ⟨some 15, .bin .eql (.t 12) (.t 14), (some (10, true)), []⟩, o 16 (.pick (.t 10) (.t 15) (.c (.bool false))), m 17 16, ⟨some 18, .fldAddr 2 (.t 2), (some (17, true)), []⟩, ⟨some 19, .load none (.t 18), (some (17, true)), []⟩, ⟨some 20, .fldAddr 2 (.t 3), (some (17, true)), []⟩, ⟨some 21, .load none (.t 20), (some (17, true)), []⟩, ⟨some 22, .bin .eql (.t 19) (.t 21), (some (17, true)), []⟩, o 23 (.pick (.t 17) (.t 22) (.c (.bool false))), m 24 23, ⟨some 25, .fldAddr 3 (.t 2), (some (24, true)), []⟩, ⟨some 26, .load none (.t 25), (some (24, true)), []⟩, ⟨some 27, .fldAddr 3 (.t 3), (some (24, true)), []⟩, ⟨some 28, .load none (.t 27), (some (24, true)), []⟩, ⟨some 29, .bin .eql (.t 26) (.t 28), (some (24, true)), []⟩, o 30 (.pick (.t 24) (.t 29) (.c (.bool false))), m 31 30, ⟨some 32, .fldAddr 4 (.t 2), (some (31, true)), []⟩, ⟨some 33, .load none (.t 32), (some (31, true)), []⟩, ⟨some 34, .fldAddr 4 (.t 3), (some (31, true)), []⟩, ⟨some 35, .load none (.t 34), (some (31, true)), []⟩, ⟨some 36, .call 66 [(.t 33), (.t 35)], (some (31, true)), []⟩, o 37 (.pick (.t 31) (.t 36) (.c (.bool false))), m 4 37] none [4])
(.ret)))
def f51 : SFunc := ⟨b51, [.t 4]⟩

def b259 : SCode := (
.seq (.ops [o 2 (.box (.t 0)), o 3 (.box (.t 1)), o 4 (.move (.c (.bool false)))] none [2, 3])
(.seq (.ops [o 5 (.fldAddr 0 (.t 2)), o 6 (.load none (.t 5)), o 7 (.fldAddr 0 (.t 3)), o 8 (.load none (.t 7)), o 9 (.bin .eql (.t 6) (.t 8)), m 10 9, ⟨some 11, .fldAddr 1 (.t 2), (some (10, true)), []⟩, ⟨some 12, .load none (.t 11), (some (10, true)), []⟩, ⟨some 13, .fldAddr 1 (.t 3), (some (10, true)), []⟩, ⟨some 14, .load none (.t 13), (some (10, true)), []⟩, ⟨some 15, .call 270 [(.t 12), (.t 14)], (some (10, true)), []⟩, o 16 (.pick (.t 10) (.t 15) (.c (.bool false))), m 17 16, ⟨some 18, .fldAddr 2 (.t 2), (some (17, true)), []⟩, ⟨some 19, .load none (.t 18), (some (17, true)), []⟩, ⟨some 20, .fldAddr 2 (.t 3), (some (17, true)), []⟩, ⟨some 21, .load none (.t 20), (some (17, true)), []⟩, ⟨some 22, .call 272 [(.t 19), (.t 21), (.c (.fn 271 []))], (some (17, true)), []⟩, o 23 (.pick (.t 17) (.t 22) (.c (.bool false))), m 4 23] none [4])
(.ret)))
def f259 : SFunc := ⟨b259, [.t 4]⟩

def b52 : SCode := (
.seq (.ops [o 0 (.alloc (.agg [(.int .i64 0), .nils, .nils]))] none [0])
(.seq (.ops [o 3 (.build [(.int .i64 0), (.int .i64 0), (.int .i64 0), (.int .i64 0), .nils] [(0, 1, (k 1)), (1, 1, (k 1))]), o 4 (.build [(.int .i64 0), (.int .i64 0), (.int .i64 0), (.int .i64 0), .nils] [(0, 1, (k 2))]), o 5 (.build [(.int .i64 0), (.int .i64 0), (.int .i64 0), (.int .i64 0), .nils] [(0, 1, (k 1)), (1, 1, (k 1))]), o 6 (.build [(.int .i64 0), (.int .i64 0), (.int .i64 0), (.int .i64 0), .nils] [(0, 1, (k 3))]), o 7 (.buildSl 4 [(.int .i64 0), (.int .i64 0), (.int .i64 0), (.int .i64 0), .nils, (.int .i64 0), (.int .i64 0), (.int .i64 0), (.int .i64 0), .nils, (.int .i64 0), (.int .i64 0), (.int .i64 0), (.int .i64 0), .nils, (.int .i64 0), (.int .i64 0), (.int .i64 0), (.int .i64 0), .nils] [(0, 5, (.t 3)), (5, 5, (.t 4)), (10, 5, (.t 5)), (15, 5, (.t 6))]), o 8 (.build [(.str []), (.int .i64 0), (.int .i64 0), (.int .i64 0), .nils] [(0, 1, (.c (.str [102, 97, 115, 116]))), (1, 1, (k 10)), (2, 1, (k 8)), (3, 1, (k 3)), (4, 1, (.t 7))]), o 1 (.alloc (.agg [(.str []), (.int .i64 0), (.int .i64 0), (.int .i64 0), .nils])), n (.store (some 5) (.t 1) (.t 8))] none [0, 1])
(.seq (.ops [o 9 (.build [(.int .i64 0), (.int .i64 0), (.int .i64 0), (.int .i64 0), .nils] [(0, 1, (k 2))]), o 10 (.build [(.int .i64 0), (.int .i64 0), (.int .i64 0), (.int .i64 0), .nils] [(0, 1, (k 1)), (1, 1, (k 4))]), o 11 (.build [(.int .i64 0), (.int .i64 0), (.int .i64 0), (.int .i64 0), .nils] [(0, 1, (k 3))]), o 12 (.build [(.int .i64 0), (.int .i64 0), (.int .i64 0), (.int .i64 0), .nils] [(0, 1, (k 1)), (1, 1, (k 1))]), o 13 (.buildSl 4 [(.int .i64 0), (.int .i64 0), (.int .i64 0), (.int .i64 0), .nils, (.int .i64 0), (.int .i64 0), (.int .i64 0), (.int .i64 0), .nils, (.int .i64 0), (.int .i64 0), (.int .i64 0), (.int .i64 0), .nils, (.int .i64 0), (.int .i64 0), (.int .i64 0), (.int .i64 0), .nils] [(0, 5, (.t 9)), (5, 5, (.t 10)), (10, 5, (.t 11)), (15, 5, (.t 12))]), o 14 (.build [(.str []), (.int .i64 0), (.int .i64 0), (.int .i64 0), .nils] [(0, 1, (.c (.str [115, 108, 111, 119]))), (1, 1, (k 20)), (2, 1, (k 20)), (3, 1, (k 6)), (4, 1, (.t 13))]), o 2 (.alloc (.agg [(.str []), (.int .i64 0), (.int .i64 0), (.int .i64 0), .nils])), n (.store (some 5) (.t 2) (.t 14))] none [0, 1, 2])
(.seq (.ops [o 15 (.load (some 5) (.t 1)), o 16 (.load (some 5) (.t 2)), o 17 (.buildSl 2 [(.str []), (.int .i64 0), (.int .i64 0), (.int .i64 0), .nils, (.str []), (.int .i64 0), (.int .i64 0), (.int .i64 0), .nils] [(0, 5, (.t 15)), (5, 5, (.t 16))]), o 18 (.build [(.int .i64 0), .nils, .nils] [(0, 1, (k 1)), (2, 1, (.t 17))]), n (.store (some 3) (.t 0) (.t 18))] none [0])
(.ret)))))
def f52 : SFunc := ⟨b52, [.cell (some 3) 0]⟩

def b265 : SCode := (
.seq (.ops [o 1 (.box (.t 0)), o 2 (.move (k 0)), o 3 (.move (k 0))] none [1])
(.seq (.seq (.ops [o 8 (.fldAddr 0 (.t 1)), o 9 (.load none (.t 8)), o 10 (.bin .lss (.t 9) (k 0)), m 11 10, ⟨some 12, .fldAddr 0 (.t 1), (some (11, false)), []⟩, ⟨some 13, .load none (.t 12), (some (11, false)), []⟩, ⟨some 14, .bin .gtr (.t 13) (k 8), (some (11, false)), []⟩, o 15 (.pick (.t 11) (.c (.bool true)) (.t 14))] none [1, 15])
(.cond (.t 15)
(.seq (.ops [o 2 (.move (k 0)), o 3 (.move (k 1))] none [2, 3])
(.ret))
(.skip)))
(.seq (.seq (.ops [o 16 (.fldAddr 1 (.t 1)), o 17 (.load none (.t 16)), o 18 (.len .sl (.t 17)), o 19 (.bin .gtr (.t 18) (k 8)), m 20 19, ⟨some 21, .fldAddr 2 (.t 1), (some (20, false)), []⟩, ⟨some 22, .load none (.t 21), (some (20, false)), []⟩, ⟨some 23, .len .sl (.t 22), (some (20, false)), []⟩, ⟨some 24, .bin .lss (.t 23) (k 1), (some (20, false)), []⟩, o 25 (.pick (.t 20) (.c (.bool true)) (.t 24)), m 26 25, ⟨some 27, .fldAddr 2 (.t 1), (some (26, false)), []⟩, ⟨some 28, .load none (.t 27), (some (26, false)), []⟩, ⟨some 29, .len .sl (.t 28), (some (26, false)), []⟩, ⟨some 30, .bin .gtr (.t 29) (k 12), (some (26, false)), []⟩, o 31 (.pick (.t 26) (.c (.bool true)) (.t 30))] none [1, 31])
(.cond (.t 31)
(.seq (.ops [o 2 (.move (k 0)), o 3 (.move (k 18))] none [2, 3])
(.ret))
(.skip)))
(.seq (.seq (.ops [o 32 (.fldAddr 1 (.t 1)), o 33 (.load none (.t 32)), o 34 (.len .sl (.t 33)), o 35 (.move (k 0))] none [1, 33, 34, 35])
(.block 0 (.loop [1, 33, 34, 35] (.seq (.ops [o 36 (.bin .lss (.t 35) (.t 34))] none [1, 33, 34, 35, 36])
(.seq (.cond (.t 36)
(.skip)
(.exit 0))
(.seq (.block 1 (.seq (.ops [o 37 (.idxAddr 2 (.t 33) (.t 35)), o 38 (.load (some 2) (.t 37)), o 5 (.alloc (.agg [(.int .i64 0), (.int .i64 0)])), n (.store (some 2) (.t 5) (.t 38))] none [1, 5, 33, 34, 35])
(.seq (.ops [o 39 (.fldAddr 0 (.t 5)), o 40 (.load none (.t 39)), o 41 (.bin .lss (.t 40) (k 0)), m 42 41, ⟨some 43, .fldAddr 0 (.t 5), (some (42, false)), []⟩, ⟨some 44, .load none (.t 43), (some (42, false)), []⟩, ⟨some 45, .bin .gtr (.t 44) (k 16), (some (42, false)), []⟩, o 46 (.pick (.t 42) (.c (.bool true)) (.t 45)), m 47 46, ⟨some 48, .fldAddr 1 (.t 5), (some (47, false)), []⟩, ⟨some 49, .load none (.t 48), (some (47, false)), []⟩, ⟨some 50, .bin .lss (.t 49) (.c (.int .i64 (-1))), (some (47, false)), []⟩, o 51 (.pick (.t 47) (.c (.bool true)) (.t 50)), m 52 51, ⟨some 53, .fldAddr 1 (.t 5), (some (52, false)), []⟩, ⟨some 54, .load none (.t 53), (some (52, false)), []⟩, ⟨some 55, .fldAddr 2 (.t 1), (some (52, false)), []⟩, ⟨some 56, .load none (.t 55), (some (52, false)), []⟩, ⟨some 57, .len .sl (.t 56), (some (52, false)), []⟩, ⟨some 58, .bin .geq (.t 54) (.t 57), (some (52, false)), []⟩, o 59 (.pick (.t 52) (.c (.bool true)) (.t 58))] none [1, 33, 34, 35, 59])
(.cond (.t 59)
(.seq (.ops [o 2 (.move (k 0)), o 3 (.move (k 1))] none [2, 3])
(.ret))
(.skip)))))
(.ops [o 60 (.bin .add (.t 35) (k 1)), m 35 60] none [1, 33, 34, 35])))))))
(.seq (.skip)
(.seq (.seq (.ops [o 61 (.fldAddr 2 (.t 1)), o 62 (.load none (.t 61)), o 63 (.len .sl (.t 62)), o 64 (.move (k 0))] none [1, 63, 64])
(.block 2 (.loop [1, 63, 64] (.seq (.ops [o 65 (.bin .lss (.t 64) (.t 63))] none [1, 63, 64, 65])
(.seq (.cond (.t 65)
(.skip)
(.exit 2))
(.seq (.block 3 (.seq (.ops [m 66 64, m 6 66] none [1, 6, 63, 64])
(.seq (.ops [o 67 (.load (some 3) (.t 1)), m 68 6, o 69 (.call 273 [(.t 67), (.t 68)]), m 7 69] none [1, 6, 7, 63, 64])
(.seq (.seq (.ops [m 70 7, o 71 (.bin .eql (.t 70) (k 0))] none [1, 6, 7, 63, 64, 71])
(.cond (.t 71)
(.exit 3)
(.skip)))
(.seq (.ops [m 72 6, m 73 7, m 2 72, m 3 73] none [2, 3])
(.ret))))))
(.ops [o 74 (.bin .add (.t 64) (k 1)), m 64 74] none [1, 63, 64])))))))
(.seq (.ops [o 2 (.move (k 0)), o 3 (.move (k 0))] none [2, 3])
(.ret))))))))
def f265 : SFunc := ⟨b265, [.t 2, .t 3]⟩

def b99 : SCode := (
.seq (.ops [o 2 (.move (.c (.str [])))] none [0])
(.seq (.ops [m 3 0, o 4 (.call 126 [(.t 3), (k 10)]), m 2 4] none [2])
(.ret)))
def f99 : SFunc := ⟨b99, [.t 2]⟩

def b266 : SCode := (
.seq (.ops [o 2 (.move (.c (.str [])))] none [0])
(.seq (.seq (.ops [m 3 0, o 4 (.bin .lss (.t 3) (k 0))] none [0, 4])
(.cond (.t 4)
(.seq (.ops [o 2 (.move (.c (.str [45])))] none [2])
(.ret))
(.skip)))
(.seq (.ops [m 5 0, o 6 (.call 99 [(.t 5)]), m 2 6] none [2])
(.ret))))
def f266 : SFunc := ⟨b266, [.t 2]⟩

def b221 : SCode := (
.seq (.ops [o 1 (.box (.t 0)), o 2 (.move (.c (.str [])))] none [1])
(.seq (.seq (.ops [o 6 (.fldAddr 0 (.t 1)), o 7 (.load none (.t 6)), o 8 (.bin .lss (.t 7) (k 1)), m 9 8, ⟨some 10, .fldAddr 0 (.t 1), (some (9, false)), []⟩, ⟨some 11, .load none (.t 10), (some (9, false)), []⟩, ⟨some 12, .bin .gtr (.t 11) (k 9), (some (9, false)), []⟩, o 13 (.pick (.t 9) (.c (.bool true)) (.t 12))] none [1, 13])
(.cond (.t 13)
(.seq (.ops [o 2 (.move (.c (.str [])))] none [2])
(.ret))
(.skip)))
(.seq (.ops [o 15 (.fldAddr 0 (.t 1)), o 16 (.load none (.t 15)), ⟨some 14, .call 224 [], none, [1]⟩, o 17 (.idxAddr 5 (.t 14) (.t 16)), o 18 (.fldAddr 0 (.t 17)), o 19 (.load none (.t 18)), o 20 (.buildSl 1 [(.str [])] [(0, 1, (.t 19))]), m 3 20] (some [(1, []), (2, [0]), (0, []), (3, [2, 1, 0]), (4, [3, 2, 1, 0]), (5, [4, 3, 2, 1, 0]), (6, [5, 4, 3, 2, 1, 0]), (7, [6, 5, 4, 3, 2, 1, 0])]) [1, 3])
(.seq (.seq (.ops [o 21 (.fldAddr 0 (.t 1)), o 22 (.load none (.t 21))] none [1, 3, 22])
(.block 0 (.seq (.ops [o 30 (.bin .eql (.t 22) (k 4)), m 29 30] none [1, 3, 22, 29])
(.cond (.t 29)
(.ops [m 31 3, o 32 (.fldAddr 1 (.t 1)), o 33 (.load none (.t 32)), o 35 (.fldAddr 2 (.t 1)), o 36 (.load none (.t 35)), o 38 (.fldAddr 3 (.t 1)), o 39 (.load none (.t 38)), ⟨some 34, .call 99 [(.t 33)], none, [4, 6]⟩, ⟨some 37, .call 99 [(.t 36)], none, [6]⟩, o 40 (.call 226 [(.t 39)]), o 41 (.buildSl 3 [(.str []), (.str []), (.str [])] [(0, 1, (.t 34)), (1, 1, (.t 37)), (2, 1, (.t 40))]), o 42 (.append 1 (.t 31) (.t 41)), m 3 42] (some [(0, []), (1, []), (2, [1]), (4, []), (5, [3]), (7, []), (8, [5]), (3, [2, 1]), (6, [4, 3, 7, 2, 1]), (9, [6, 5, 8, 4, 3, 7, 2, 1]), (10, [7, 2, 1, 8, 4, 3, 9, 6, 5]), (11, [0, 10, 7, 2, 1, 8, 4, 3, 9, 6, 5]), (12, [11, 0, 10, 7, 2, 1, 8, 4, 3, 9, 6, 5])]) [3])
(.seq (.ops [o 44 (.bin .eql (.t 22) (k 5)), m 43 44] none [1, 3, 22, 43])
(.cond (.t 43)
(.ops [m 45 3, o 46 (.fldAddr 1 (.t 1)), o 47 (.load none (.t 46)), o 49 (.fldAddr 3 (.t 1)), o 50 (.load none (.t 49)), ⟨some 48, .call 99 [(.t 47)], none, [4]⟩, o 51 (.call 226 [(.t 50)]), o 52 (.buildSl 2 [(.str []), (.str [])] [(0, 1, (.t 48)), (1, 1, (.t 51))]), o 53 (.append 1 (.t 45) (.t 52)), m 3 53] (some [(0, []), (1, []), (2, [1]), (4, []), (5, [3]), (3, [2, 1]), (6, [4, 3, 5, 2, 1]), (7, [5, 2, 1, 6, 4, 3]), (8, [0, 7, 5, 2, 1, 6, 4, 3]), (9, [8, 0, 7, 5, 2, 1, 6, 4, 3])]) [3])
(.seq (.ops [o 55 (.bin .eql (.t 22) (k 7)), m 54 55] none [1, 3, 22, 54])
(.cond (.t 54)
(.seq (.ops [m 56 3, o 57 (.fldAddr 3 (.t 1)), o 58 (.load none (.t 57)), o 59 (.call 226 [(.t 58)]), o 60 (.buildSl 1 [(.str [])] [(0, 1, (.t 59))]), o 61 (.append 1 (.t 56) (.t 60)), m 3 61] none [1, 3])
(.seq (.ops [o 62 (.fldAddr 4 (.t 1)), o 63 (.load none (.t 62)), o 64 (.len .sl (.t 63)), o 65 (.move (k 0))] none [3, 63, 64, 65])
(.block 1 (.loop [3, 63, 64, 65] (.seq (.ops [o 66 (.bin .lss (.t 65) (.t 64))] none [3, 63, 64, 65, 66])
(.seq (.cond (.t 66)
(.skip)
(.exit 1))
(.seq (.block 2 (.seq (.ops [o 67 (.idxAddr 3 (.t 63) (.t 65)), o 68 (.load (some 3) (.t 67)), o 5 (.alloc (.agg [(.bool false), (.int .i64 0), (.int .i64 0)])), n (.store (some 3) (.t 5) (.t 68))] none [3, 5, 63, 64, 65])
(.ops [m 69 3, o 70 (.load (some 3) (.t 5)), o 71 (.call 227 [(.t 70)]), o 72 (.append 1 (.t 69) (.t 71)), m 3 72] none [3, 63, 64, 65])))
(.ops [o 73 (.bin .add (.t 65) (k 1)), m 65 73] none [3, 63, 64, 65]))))))))
(.seq (.ops [o 75 (.bin .eql (.t 22) (k 9)), m 74 75] none [1, 3, 74])
(.cond (.t 74)
(.skip)
(.ops [m 23 3, o 24 (.fldAddr 1 (.t 1)), o 25 (.load none (.t 24)), o 26 (.call 99 [(.t 25)]), o 27 (.buildSl 1 [(.str [])] [(0, 1, (.t 26))]), o 28 (.append 1 (.t 23) (.t 27)), m 3 28] none [3])))))))))))
(.seq (.ops [m 76 3, o 77 (.call 128 [(.t 76), (.c (.str [32]))]), m 2 77] none [2])
(.ret))))))
def f221 : SFunc := ⟨b221, [.t 2]⟩

def b90 : SCode := (
.seq (.ops [o 2 (.move (.c .nils)), o 3 (.move (k 0))] none [0])
(.seq (.seq (.ops [m 6 0, o 7 (.bin .eql (.t 6) (.c (.str [])))] none [0, 7])
(.cond (.t 7)
(.seq (.ops [o 2 (.move (.c .nils)), o 3 (.move (k 0))] none [2, 3])
(.ret))
(.skip)))
(.seq (.ops [m 9 0, o 10 (.call 121 [(.t 9), (.c (.str [10]))]), m 8 10, o 11 (.ext 0 (.t 8)), o 12 (.ext 1 (.t 8)), m 4 11, m 5 12] none [4, 5])
(.seq (.seq (.ops [m 13 5, o 14 (.not (.t 13))] none [4, 14])
(.cond (.t 14)
(.seq (.ops [o 2 (.move (.c .nils)), o 3 (.move (k 2))] none [2, 3])
(.ret))
(.skip)))
(.seq (.ops [m 15 4, o 16 (.call 122 [(.t 15), (.c (.str [10]))]), m 2 16, o 3 (.move (k 0))] none [2, 3])
(.ret))))))
def f90 : SFunc := ⟨b90, [.t 2, .t 3]⟩

def b267 : SCode := (
.seq (.ops [o 6 (.move (k 0))] none [0, 1, 2])
(.seq (.ops [m 12 2, o 13 (.call 92 [(.t 12)]), m 11 13, o 14 (.ext 0 (.t 11)), o 15 (.ext 1 (.t 11)), m 7 14, m 8 15] none [0, 1, 2, 7, 8])
(.seq (.seq (.ops [m 16 8, o 17 (.bin .neq (.t 16) (k 0))] none [0, 1, 2, 7, 8, 17])
(.cond (.t 17)
(.seq (.ops [m 18 8, m 6 18] none [6])
(.ret))
(.skip)))
(.seq (.ops [o 9 (.move (.c (.str [])))] none [0, 1, 2, 7, 9])
(.seq (.seq (.ops [m 19 7, o 20 (.len .sl (.t 19)), o 21 (.bin .gtr (.t 20) (k 0))] none [0, 1, 2, 7, 9, 21])
(.cond (.t 21)
(.ops [m 22 7, o 23 (.idxAddr 1 (.t 22) (k 0)), o 24 (.load none (.t 23)), m 9 24] none [0, 1, 2, 7, 9])
(.skip)))
(.seq (.ops [m 25 0, o 26 (.nilck (.t 25)), o 27 (.fldAddr 0 (.t 26)), o 28 (.fldAddr 2 (.t 27)), o 29 (.load none (.t 28)), o 30 (.len .sl (.t 29)), o 31 (.bin .gtr (.t 30) (k 0)), m 10 31] none [0, 1, 2, 7, 9, 10])
(.seq (.block 0 (.seq (.ops [m 33 1, o 34 (.bin .eql (.t 33) (k 0)), m 35 34, ⟨some 36, .move (.t 9), (some (35, true)), []⟩, ⟨some 37, .bin .eql (.t 36) (.c (.str [108, 111, 99, 107, 115])), (some (35, true)), []⟩, o 38 (.pick (.t 35) (.t 37) (.c (.bool false))), m 32 38] none [0, 1, 2, 7, 9, 10, 32])
(.cond (.t 32)
(.seq (.ops [m 39 0, m 40 7, o 41 (.call 274 [(.t 39), (.t 40)]), m 6 41] none [6])
(.ret))
(.seq (.ops [m 43 1, o 44 (.bin .gtr (.t 43) (k 0)), m 45 44, ⟨some 46, .move (.t 9), (some (45, true)), []⟩, ⟨some 47, .bin .eql (.t 46) (.c (.str [99, 104, 97, 110])), (some (45, true)), []⟩, o 48 (.pick (.t 45) (.t 47) (.c (.bool false))), m 49 48, ⟨some 50, .move (.t 10), (some (49, true)), []⟩, ⟨some 51, .not (.t 50), (some (49, true)), []⟩, o 52 (.pick (.t 49) (.t 51) (.c (.bool false))), m 42 52] none [0, 1, 2, 7, 9, 10, 42])
(.cond (.t 42)
(.seq (.ops [m 53 0, m 54 7, o 55 (.call 275 [(.t 53), (.t 54)]), m 6 55] none [6])
(.ret))
(.seq (.ops [m 57 1, o 58 (.bin .gtr (.t 57) (k 0)), m 59 58, ⟨some 60, .move (.t 9), (some (59, true)), []⟩, ⟨some 61, .bin .eql (.t 60) (.c (.str [116, 97, 115, 107])), (some (59, true)), []⟩, o 62 (.pick (.t 59) (.t 61) (.c (.bool false))), m 56 62] none [0, 2, 7, 9, 10, 56])
(.cond (.t 56)
(.seq (.ops [m 63 0, m 64 7, o 65 (.call 276 [(.t 63), (.t 64)]), m 6 65] none [6])
(.ret))
(.seq (.ops [m 67 10, m 68 67, ⟨some 69, .call 277 [], (some (68, true)), []⟩, ⟨some 70, .move (.t 9), (some (68, true)), []⟩, ⟨some 71, .call 278 [(.t 69), (.t 70)], (some (68, true)), []⟩, o 72 (.pick (.t 68) (.t 71) (.c (.bool false))), m 66 72] none [0, 2, 66])
(.cond (.t 66)
(.seq (.ops [m 73 0, m 74 2, o 75 (.call 279 [(.t 73), (.t 74)]), m 6 75] none [6])
(.ret))
(.skip))))))))))
(.seq (.ops [o 6 (.move (k 2))] none [6])
(.ret)))))))))
def f267 : SFunc := ⟨b267, [.t 6]⟩

def b63 : SCode := (
.seq (.ops [o 4 (.move (.c (.bool false)))] none [0, 1])
(.seq (.seq (.ops [m 6 0, o 7 (.len .sl (.t 6)), m 8 1, o 9 (.len .sl (.t 8)), o 10 (.bin .neq (.t 7) (.t 9))] none [0, 1, 10])
(.cond (.t 10)
(.seq (.ops [o 4 (.move (.c (.bool false)))] none [4])
(.ret))
(.skip)))
(.seq (.seq (.ops [o 5 (.move (k 0))] none [0, 1, 5])
(.block 0 (.loop [0, 1, 5] (.seq (.seq (.ops [m 11 5, m 12 0, o 13 (.len .sl (.t 12)), o 14 (.bin .lss (.t 11) (.t 13))] none [0, 1, 5, 14])
(.cond (.t 14)
(.skip)
(.exit 0)))
(.seq (.block 1 (.seq (.ops [m 17 0, m 18 5, o 19 (.idxAddr 5 (.t 17) (.t 18)), o 20 (.load (some 5) (.t 19)), m 21 1, m 22 5, o 23 (.idxAddr 5 (.t 21) (.t 22)), o 24 (.load (some 5) (.t 23)), o 25 (.call 33 [(.t 20), (.t 24)]), o 26 (.not (.t 25))] (some [(0, []), (1, []), (2, [0, 1]), (3, [2, 0, 1]), (4, []), (5, []), (6, [4, 5]), (7, [6, 4, 5]), (8, [3, 2, 0, 1, 7, 6, 4, 5]), (9, [8, 3, 2, 0, 1, 7, 6, 4, 5])]) [0, 1, 5, 26])
(.cond (.t 26)
(.seq (.ops [o 4 (.move (.c (.bool false)))] none [4])
(.ret))
(.skip))))
(.ops [m 15 5, o 16 (.bin .add (.t 15) (k 1)), m 5 16] none [0, 1, 5]))))))
(.seq (.ops [o 4 (.move (.c (.bool true)))] none [4])
(.ret)))))
def f63 : SFunc := ⟨b63, [.t 4]⟩

def b53 : SCode := (
.seq (.ops [o 2 (.move (.c .nils))] none [0])
(.seq (.ops [o 3 (.move (.c .nils))] none [0, 3])
(.seq (.seq (.ops [o 4 (.move (k 0))] none [0, 3, 4])
(.block 0 (.loop [0, 3, 4] (.seq (.seq (.ops [m 5 4, m 6 0, o 7 (.len .sl (.t 6)), o 8 (.bin .lss (.t 5) (.t 7))] none [0, 3, 4, 8])
(.cond (.t 8)
(.skip)
(.exit 0)))
(.seq (.block 1 (.ops [m 11 3, m 12 0, m 13 4, o 14 (.idxAddr 5 (.t 12) (.t 13)), o 15 (.load (some 5) (.t 14)), o 16 (.call 32 [(.t 15)]), o 17 (.buildSl 1 [(.int .i64 0), (.int .i64 0), (.int .i64 0), (.int .i64 0), .nils] [(0, 5, (.t 16))]), o 18 (.append 5 (.t 11) (.t 17)), m 3 18] none [0, 3, 4]))
(.ops [m 9 4, o 10 (.bin .add (.t 9) (k 1)), m 4 10] none [0, 3, 4]))))))
(.seq (.ops [m 19 3, m 2 19] none [2])
(.ret)))))
def f53 : SFunc := ⟨b53, [.t 2]⟩

def b66 : SCode := (
.seq (.ops [o 4 (.move (.c (.bool false)))] none [0, 1])
(.seq (.seq (.ops [m 6 0, o 7 (.len .sl (.t 6)), m 8 1, o 9 (.len .sl (.t 8)), o 10 (.bin .neq (.t 7) (.t 9))] none [0, 1, 10])
(.cond (.t 10)
(.seq (.ops [o 4 (.move (.c (.bool false)))] none [4])
(.ret))
(.skip)))
(.seq (.seq (.ops [m 11 0, o 12 (.len .sl (.t 11)), o 13 (.move (k 0))] none [0, 1, 12, 13])
(.block 0 (.loop [0, 1, 12, 13] (.seq (.ops [o 14 (.bin .lss (.t 13) (.t 12))] none [0, 1, 12, 13, 14])
(.seq (.cond (.t 14)
(.skip)
(.exit 0))
(.seq (.block 1 (.seq (.ops [m 15 13, m 5 15] none [0, 1, 5, 12, 13])
(.seq (.ops [m 16 0, m 17 5, o 18 (.idxAddr 3 (.t 16) (.t 17)), o 19 (.load (some 3) (.t 18)), m 20 1, m 21 5, o 22 (.idxAddr 3 (.t 20) (.t 21)), o 23 (.load (some 3) (.t 22)), o 24 (.eq true (.st [.b, .i, .i]) (.t 19) (.t 23))] (some [(0, []), (1, []), (2, [0, 1]), (3, [2, 0, 1]), (4, []), (5, []), (6, [4, 5]), (7, [6, 4, 5]), (8, [3, 2, 0, 1, 7, 6, 4, 5])]) [0, 1, 12, 13, 24])
(.cond (.t 24)
(.seq (.ops [o 4 (.move (.c (.bool false)))] none [4])
(.ret))
(.skip)))))
(.ops [o 25 (.bin .add (.t 13) (k 1)), m 13 25] none [0, 1, 12, 13])))))))
(.seq (.ops [o 4 (.move (.c (.bool true)))] none [4])
(.ret)))))
def f66 : SFunc := ⟨b66, [.t 4]⟩

def b270 : SCode := (
.seq (.ops [o 4 (.move (.c (.bool false)))] none [0, 1])
(.seq (.seq (.ops [m 6 0, o 7 (.len .sl (.t 6)), m 8 1, o 9 (.len .sl (.t 8)), o 10 (.bin .neq (.t 7) (.t 9))] none [0, 1, 10])
(.cond (.t 10)
(.seq (.ops [o 4 (.move (.c (.bool false)))] none [4])
(.ret))
(.skip)))
(.seq (.seq (.ops [m 11 0, o 12 (.len .sl (.t 11)), o 13 (.move (k 0))] none [0, 1, 12, 13])
(.block 0 (.loop [0, 1, 12, 13] (.seq (.ops [o 14 (.bin .lss (.t 13) (.t 12))] none [0, 1, 12, 13, 14])
(.seq (.cond (.t 14)
(.skip)
(.exit 0))
(.seq (.block 1 (.seq (.ops [m 15 13, m 5 15] none [0, 1, 5, 12, 13])
(.seq (.ops [m 16 0, m 17 5, o 18 (.idxAddr 2 (.t 16) (.t 17)), o 19 (.load (some 2) (.t 18)), m 20 1, m 21 5, o 22 (.idxAddr 2 (.t 20) (.t 21)), o 23 (.load (some 2) (.t 22)), o 24 (.eq true (.st [.i, .i]) (.t 19) (.t 23))] (some [(0, []), (1, []), (2, [0, 1]), (3, [2, 0, 1]), (4, []), (5, []), (6, [4, 5]), (7, [6, 4, 5]), (8, [3, 2, 0, 1, 7, 6, 4, 5])]) [0, 1, 12, 13, 24])
(.cond (.t 24)
(.seq (.ops [o 4 (.move (.c (.bool false)))] none [4])
(.ret))
(.skip)))))
(.ops [o 25 (.bin .add (.t 13) (k 1)), m 13 25] none [0, 1, 12, 13])))))))
(.seq (.ops [o 4 (.move (.c (.bool true)))] none [4])
(.ret)))))
def f270 : SFunc := ⟨b270, [.t 4]⟩

def b272 : SCode := (
.seq (.ops [o 6 (.move (.c (.bool false)))] none [0, 1, 2])
(.seq (.seq (.ops [m 10 0, o 11 (.len .sl (.t 10)), m 12 1, o 13 (.len .sl (.t 12)), o 14 (.bin .neq (.t 11) (.t 13))] none [0, 1, 2, 14])
(.cond (.t 14)
(.seq (.ops [o 6 (.move (.c (.bool false)))] none [6])
(.ret))
(.skip)))
(.seq (.seq (.ops [m 15 0, o 16 (.len .sl (.t 15)), o 17 (.move (k 0))] none [1, 2, 15, 16, 17])
(.block 0 (.loop [1, 2, 15, 16, 17] (.seq (.ops [o 18 (.bin .lss (.t 17) (.t 16))] none [1, 2, 15, 16, 17, 18])
(.seq (.cond (.t 18)
(.skip)
(.exit 0))
(.seq (.block 1 (.seq (.ops [m 19 17, o 20 (.idxAddr 5 (.t 15) (.t 17)), o 21 (.load (some 5) (.t 20)), o 8 (.alloc (.agg [(.str []), (.int .i64 0), (.int .i64 0), (.int .i64 0), .nils])), m 7 19, n (.store (some 5) (.t 8) (.t 21))] none [1, 2, 7, 8, 15, 16, 17])
(.seq (.ops [m 22 1, m 23 7, o 24 (.idxAddr 5 (.t 22) (.t 23)), o 25 (.load (some 5) (.t 24)), o 9 (.alloc (.agg [(.str []), (.int .i64 0), (.int .i64 0), (.int .i64 0), .nils])), n (.store (some 5) (.t 9) (.t 25))] none [1, 2, 8, 9, 15, 16, 17])
(.seq (.ops [m 26 2, o 27 (.load (some 5) (.t 8)), o 28 (.load (some 5) (.t 9)), o 29 (.callv (.t 26) [(.t 27), (.t 28)]), o 30 (.not (.t 29))] none [1, 2, 15, 16, 17, 30])
(.cond (.t 30)
(.seq (.ops [o 6 (.move (.c (.bool false)))] none [6])
(.ret))
(.skip))))))
(.ops [o 31 (.bin .add (.t 17) (k 1)), m 17 31] none [1, 2, 15, 16, 17])))))))
(.seq (.ops [o 6 (.move (.c (.bool true)))] none [6])
(.ret)))))
def f272 : SFunc := ⟨b272, [.t 6]⟩

def b271 : SCode := (
.seq (.ops [o 2 (.box (.t 0)), o 3 (.box (.t 1)), o 4 (.move (.c (.bool false)))] none [2, 3])
(.seq (.ops [o 5 (.fldAddr 0 (.t 2)), o 6 (.load none (.t 5)), o 7 (.fldAddr 0 (.t 3)), o 8 (.load none (.t 7)), o 9 (.bin .eql (.t 6) (.t 8)), m 10 9, ⟨some 11, .fldAddr 1 (.t 2), (some (10, true)), []⟩, ⟨some 12, .load none (.t 11), (some (10, true)), []⟩, ⟨some 13, .fldAddr 1 (.t 3), (some (10, true)), []⟩, ⟨some 14, .load none (.t 13), (some (10, true)), []⟩, ⟨some 15, .bin .eql (.t 12) (.t 14), (some (10, true)), []⟩, o 16 (.pick (.t 10) (.t 15) (.c (.bool false))), m 17 16, ⟨some 18, .fldAddr 2 (.t 2), (some (17, true)), []⟩, ⟨some 19, .load none (.t 18), (some (17, true)), []⟩, ⟨some 20, .fldAddr 2 (.t 3), (some (17, true)), []⟩, ⟨some 21, .load none (.t 20), (some (17, true)), []⟩, ⟨some 22, .bin .eql (.t 19) (.t 21), (some (17, true)), []⟩, o 23 (.pick (.t 17) (.t 22) (.c (.bool false))), m 24 23, ⟨some 25, .fldAddr 3 (.t 2), (some (24, true)), []⟩, ⟨some 26, .load none (.t 25), (some (24, true)), []⟩, ⟨some 27, .fldAddr 3 (.t 3), (some (24, true)), []⟩, ⟨some 28, .load none (.t 27), (some (24, true)), []⟩, ⟨some 29, .bin .eql (.t 26) (.t 28), (some (24, true)), []⟩, o 30 (.pick (.t 24) (.t 29) (.c (.bool false))), m 31 30, ⟨some 32, .fldAddr 4 (.t 2), (some (31, true)), []⟩, ⟨some 33, .load none (.t 32), (some (31, true)), []⟩, ⟨some 34, .fldAddr 4 (.t 3), (some (31, true)), []⟩, ⟨some 35, .load none (.t 34), (some (31, true)), []⟩, ⟨some 36, .call 62 [(.t 33), (.t 35), (.c (.fn 51 []))], (some (31, true)), []⟩, o 37 (.pick (.t 31) (.t 36) (.c (.bool false))), m 4 37] none [4])
(.ret)))
def f271 : SFunc := ⟨b271, [.t 4]⟩

def b273 : SCode := (
.seq (.ops [o 2 (.box (.t 0)), o 4 (.move (k 0))] none [1, 2])
(.seq (.ops [o 12 (.fldAddr 2 (.t 2)), o 13 (.load none (.t 12)), m 14 1, o 15 (.idxAddr 5 (.t 13) (.t 14)), o 16 (.load (some 5) (.t 15)), o 5 (.alloc (.agg [(.str []), (.int .i64 0), (.int .i64 0), (.int .i64 0), .nils])), n (.store (some 5) (.t 5) (.t 16))] none [1, 2, 5])
(.seq (.seq (.ops [o 17 (.fldAddr 0 (.t 5)), o 18 (.load none (.t 17)), o 19 (.call 97 [(.t 18)]), o 20 (.not (.t 19))] none [1, 2, 5, 20])
(.cond (.t 20)
(.seq (.ops [o 4 (.move (k 3))] none [4])
(.ret))
(.skip)))
(.seq (.seq (.ops [o 22 (.load (some 3) (.t 2)), o 23 (.fldAddr 0 (.t 5)), o 24 (.load none (.t 23)), o 25 (.call 285 [(.t 22), (.t 24)]), m 21 25, o 26 (.ext 0 (.t 21)), o 27 (.ext 1 (.t 21)), m 6 26, m 7 27] none [1, 2, 5, 6])
(.seq (.ops [m 28 6, m 29 1, o 30 (.bin .lss (.t 28) (.t 29))] none [2, 5, 30])
(.cond (.t 30)
(.seq (.ops [o 4 (.move (k 6))] none [4])
(.ret))
(.skip))))
(.seq (.seq (.ops [o 31 (.fldAddr 1 (.t 5)), o 32 (.load none (.t 31)), o 33 (.bin .lss (.t 32) (k 1)), m 34 33, ⟨some 35, .fldAddr 1 (.t 5), (some (34, false)), []⟩, ⟨some 36, .load none (.t 35), (some (34, false)), []⟩, ⟨some 37, .bin .gtr (.t 36) (k 1099511627776), (some (34, false)), []⟩, o 38 (.pick (.t 34) (.c (.bool true)) (.t 37)), m 39 38, ⟨some 40, .fldAddr 2 (.t 5), (some (39, false)), []⟩, ⟨some 41, .load none (.t 40), (some (39, false)), []⟩, ⟨some 42, .bin .lss (.t 41) (k 1), (some (39, false)), []⟩, o 43 (.pick (.t 39) (.c (.bool true)) (.t 42)), m 44 43, ⟨some 45, .fldAddr 2 (.t 5), (some (44, false)), []⟩, ⟨some 46, .load none (.t 45), (some (44, false)), []⟩, ⟨some 47, .fldAddr 1 (.t 5), (some (44, false)), []⟩, ⟨some 48, .load none (.t 47), (some (44, false)), []⟩, ⟨some 49, .bin .gtr (.t 46) (.t 48), (some (44, false)), []⟩, o 50 (.pick (.t 44) (.c (.bool true)) (.t 49)), m 51 50, ⟨some 52, .fldAddr 3 (.t 5), (some (51, false)), []⟩, ⟨some 53, .load none (.t 52), (some (51, false)), []⟩, ⟨some 54, .bin .lss (.t 53) (k 1), (some (51, false)), []⟩, o 55 (.pick (.t 51) (.c (.bool true)) (.t 54)), m 56 55, ⟨some 57, .fldAddr 3 (.t 5), (some (56, false)), []⟩, ⟨some 58, .load none (.t 57), (some (56, false)), []⟩, ⟨some 59, .fldAddr 2 (.t 5), (some (56, false)), []⟩, ⟨some 60, .load none (.t 59), (some (56, false)), []⟩, ⟨some 61, .bin .gtr (.t 58) (.t 60), (some (56, false)), []⟩, o 62 (.pick (.t 56) (.c (.bool true)) (.t 61))] none [2, 5, 62])
(.cond (.t 62)
(.seq (.ops [o 4 (.move (k 1))] none [4])
(.ret))
(.skip)))
(.seq (.seq (.ops [o 64 (.fldAddr 4 (.t 5)), o 65 (.load none (.t 64)), o 66 (.call 286 [(.t 65)]), m 63 66, o 67 (.ext 0 (.t 63)), o 68 (.ext 1 (.t 63)), m 8 67, m 9 68] none [2, 5, 9])
(.seq (.ops [m 69 9, o 70 (.bin .neq (.t 69) (k 0))] none [2, 5, 9, 70])
(.cond (.t 70)
(.seq (.ops [m 71 9, m 4 71] none [4])
(.ret))
(.skip))))
(.seq (.seq (.ops [o 72 (.fldAddr 4 (.t 5)), o 73 (.load none (.t 72)), o 74 (.call 287 [(.t 73)]), o 75 (.bin .eql (.t 74) (k 0))] none [2, 5, 75])
(.cond (.t 75)
(.seq (.ops [o 4 (.move (k 5))] none [4])
(.ret))
(.skip)))
(.seq (.seq (.ops [o 76 (.fldAddr 4 (.t 5)), o 77 (.load none (.t 76)), o 78 (.len .sl (.t 77)), o 79 (.move (k 0))] none [2, 77, 78, 79])
(.block 0 (.loop [2, 77, 78, 79] (.seq (.ops [o 80 (.bin .lss (.t 79) (.t 78))] none [2, 77, 78, 79, 80])
(.seq (.cond (.t 80)
(.skip)
(.exit 0))
(.seq (.block 1 (.seq (.ops [o 81 (.idxAddr 5 (.t 77) (.t 79)), o 82 (.load (some 5) (.t 81)), o 11 (.alloc (.agg [(.int .i64 0), (.int .i64 0), (.int .i64 0), (.int .i64 0), .nils])), n (.store (some 5) (.t 11) (.t 82))] none [2, 11, 77, 78, 79])
(.seq (.ops [o 83 (.load (some 3) (.t 2)), o 84 (.load (some 5) (.t 11)), o 85 (.call 288 [(.t 83), (.t 84)]), o 86 (.not (.t 85))] none [2, 77, 78, 79, 86])
(.cond (.t 86)
(.seq (.ops [o 4 (.move (k 3))] none [4])
(.ret))
(.skip)))))
(.ops [o 87 (.bin .add (.t 79) (k 1)), m 79 87] none [2, 77, 78, 79])))))))
(.seq (.ops [o 4 (.move (k 0))] none [4])
(.ret))))))))))
def f273 : SFunc := ⟨b273, [.t 4]⟩

def b224 : SCode := (
.seq (.ops [o 0 (.move (.c .nils))] none [])
(.seq (.ops [o 1 (.build [(.str []), (.int .i64 0), (.int .i64 0), (.bool false), (.bool false)] []), o 2 (.build [(.str []), (.int .i64 0), (.int .i64 0), (.bool false), (.bool false)] [(0, 1, (.c (.str [114, 117, 110]))), (1, 1, (k 1)), (2, 1, (k 1000)), (3, 1, (.c (.bool false))), (4, 1, (.c (.bool false)))]), o 3 (.build [(.str []), (.int .i64 0), (.int .i64 0), (.bool false), (.bool false)] [(0, 1, (.c (.str [108, 111, 99, 107]))), (1, 1, (k 0)), (2, 1, (k 7)), (3, 1, (.c (.bool false))), (4, 1, (.c (.bool false)))]), o 4 (.build [(.str []), (.int .i64 0), (.int .i64 0), (.bool false), (.bool false)] [(0, 1, (.c (.str [117, 110, 108, 111, 99, 107]))), (1, 1, (k 0)), (2, 1, (k 7)), (3, 1, (.c (.bool false))), (4, 1, (.c (.bool false)))]), o 5 (.build [(.str []), (.int .i64 0), (.int .i64 0), (.bool false), (.bool false)] [(0, 1, (.c (.str [115, 101, 110, 100]))), (1, 1, (k 0)), (2, 1, (k 7)), (3, 1, (.c (.bool true))), (4, 1, (.c (.bool false)))]), o 6 (.build [(.str []), (.int .i64 0), (.int .i64 0), (.bool false), (.bool false)] [(0, 1, (.c (.str [114, 101, 99, 118]))), (1, 1, (k 0)), (2, 1, (k 7)), (3, 1, (.c (.bool true))), (4, 1, (.c (.bool false)))]), o 7 (.build [(.str []), (.int .i64 0), (.int .i64 0), (.bool false), (.bool false)] [(0, 1, (.c (.str [99, 108, 111, 115, 101]))), (1, 1, (k 0)), (2, 1, (k 7)), (3, 1, (.c (.bool false))), (4, 1, (.c (.bool false)))]), o 8 (.build [(.str []), (.int .i64 0), (.int .i64 0), (.bool false), (.bool false)] [(0, 1, (.c (.str [115, 101, 108, 101, 99, 116]))), (1, 1, (k 0)), (2, 1, (k 0)), (3, 1, (.c (.bool true))), (4, 1, (.c (.bool true)))]), o 9 (.build [(.str []), (.int .i64 0), (.int .i64 0), (.bool false), (.bool false)] [(0, 1, (.c (.str [108, 111, 111, 112]))), (1, 1, (k 1)), (2, 1, (k 32)), (3, 1, (.c (.bool false))), (4, 1, (.c (.bool false)))]), o 10 (.build [(.str []), (.int .i64 0), (.int .i64 0), (.bool false), (.bool false)] [(0, 1, (.c (.str [101, 110, 100]))), (1, 1, (k 0)), (2, 1, (k 0)), (3, 1, (.c (.bool false))), (4, 1, (.c (.bool false)))]), o 11 (.buildSl 10 [(.str []), (.int .i64 0), (.int .i64 0), (.bool false), (.bool false), (.str []), (.int .i64 0), (.int .i64 0), (.bool false), (.bool false), (.str []), (.int .i64 0), (.int .i64 0), (.bool false), (.bool false), (.str []), (.int .i64 0), (.int .i64 0), (.bool false), (.bool false), (.str []), (.int .i64 0), (.int .i64 0), (.bool false), (.bool false), (.str []), (.int .i64 0), (.int .i64 0), (.bool false), (.bool false), (.str []), (.int .i64 0), (.int .i64 0), (.bool false), (.bool false), (.str []), (.int .i64 0), (.int .i64 0), (.bool false), (.bool false), (.str []), (.int .i64 0), (.int .i64 0), (.bool false), (.bool false), (.str []), (.int .i64 0), (.int .i64 0), (.bool false), (.bool false)] [(0, 5, (.t 1)), (5, 5, (.t 2)), (10, 5, (.t 3)), (15, 5, (.t 4)), (20, 5, (.t 5)), (25, 5, (.t 6)), (30, 5, (.t 7)), (35, 5, (.t 8)), (40, 5, (.t 9)), (45, 5, (.t 10))]), m 0 11] none [0])
(.ret)))
def f224 : SFunc := ⟨b224, [.t 0]⟩

def b226 : SCode := (
.seq (.ops [o 2 (.move (.c (.str [])))] none [0])
(.seq (.seq (.ops [m 3 0, o 4 (.bin .eql (.t 3) (.c (.int .i64 (-1))))] none [0, 4])
(.cond (.t 4)
(.seq (.ops [o 2 (.move (.c (.str [45])))] none [2])
(.ret))
(.skip)))
(.seq (.ops [m 5 0, o 6 (.call 99 [(.t 5)]), m 2 6] none [2])
(.ret))))
def f226 : SFunc := ⟨b226, [.t 2]⟩

def b227 : SCode := (
.seq (.ops [o 1 (.box (.t 0)), o 2 (.move (.c .nils))] none [1])
(.seq (.seq (.ops [o 3 (.fldAddr 0 (.t 1)), o 4 (.load none (.t 3))] none [1, 4])
(.cond (.t 4)
(.seq (.ops [o 5 (.fldAddr 1 (.t 1)), o 6 (.load none (.t 5)), o 8 (.fldAddr 2 (.t 1)), o 9 (.load none (.t 8)), ⟨some 7, .call 99 [(.t 6)], none, [3]⟩, o 10 (.call 99 [(.t 9)]), o 11 (.buildSl 3 [(.str []), (.str []), (.str [])] [(0, 1, (.c (.str [115, 101, 110, 100]))), (1, 1, (.t 7)), (2, 1, (.t 10))]), m 2 11] (some [(0, []), (1, [0]), (3, []), (4, [2]), (2, [1, 0]), (5, [3, 2, 4, 1, 0]), (6, [4, 1, 0, 5, 3, 2]), (7, [6, 4, 1, 0, 5, 3, 2])]) [2])
(.ret))
(.skip)))
(.seq (.ops [o 12 (.fldAddr 1 (.t 1)), o 13 (.load none (.t 12)), o 14 (.call 99 [(.t 13)]), o 15 (.buildSl 2 [(.str []), (.str [])] [(0, 1, (.c (.str [114, 101, 99, 118]))), (1, 1, (.t 14))]), m 2 15] none [2])
(.ret))))
def f227 : SFunc := ⟨b227, [.t 2]⟩

def b92 : SCode := (
.seq (.ops [o 2 (.move (.c .nils)), o 3 (.move (k 0))] none [0])
(.seq (.seq (.ops [m 8 0, o 9 (.bin .eql (.t 8) (.c (.str [])))] none [0, 9])
(.cond (.t 9)
(.seq (.ops [o 2 (.move (.c .nils)), o 3 (.move (k 0))] none [2, 3])
(.ret))
(.skip)))
(.seq (.ops [m 10 0, o 11 (.call 122 [(.t 10), (.c (.str [32]))]), m 4 11] none [4])
(.seq (.skip)
(.seq (.seq (.ops [m 12 4, o 13 (.len .sl (.t 12)), o 14 (.move (k 0))] none [4, 12, 13, 14])
(.block 0 (.loop [4, 12, 13, 14] (.seq (.ops [o 15 (.bin .lss (.t 14) (.t 13))] none [4, 12, 13, 14, 15])
(.seq (.cond (.t 15)
(.skip)
(.exit 0))
(.seq (.block 1 (.seq (.ops [o 16 (.idxAddr 1 (.t 12) (.t 14)), o 17 (.load none (.t 16)), m 6 17] none [4, 6, 12, 13, 14])
(.seq (.seq (.ops [m 18 6, o 19 (.len .str (.t 18)), o 20 (.move (k 0))] none [4, 6, 12, 13, 14, 19, 20])
(.block 2 (.loop [4, 6, 12, 13, 14, 19, 20] (.seq (.ops [o 21 (.bin .lss (.t 20) (.t 19))] none [4, 6, 12, 13, 14, 19, 20, 21])
(.seq (.cond (.t 21)
(.skip)
(.exit 2))
(.seq (.block 3 (.seq (.ops [m 22 20, m 7 22] none [4, 6, 7, 12, 13, 14, 19, 20])
(.seq (.ops [m 23 6, m 24 7, o 25 (.idxStr (.t 23) (.t 24)), o 26 (.bin .lss (.t 25) (.c (.int .u8 33))), m 27 26, ⟨some 28, .move (.t 6), (some (27, false)), []⟩, ⟨some 29, .move (.t 7), (some (27, false)), []⟩, ⟨some 30, .idxStr (.t 28) (.t 29), (some (27, false)), []⟩, ⟨some 31, .bin .gtr (.t 30) (.c (.int .u8 126)), (some (27, false)), []⟩, o 32 (.pick (.t 27) (.c (.bool true)) (.t 31))] none [4, 6, 12, 13, 14, 19, 20, 32])
(.cond (.t 32)
(.seq (.ops [o 2 (.move (.c .nils)), o 3 (.move (k 2))] none [2, 3])
(.ret))
(.skip)))))
(.ops [o 33 (.bin .add (.t 20) (k 1)), m 20 33] none [4, 6, 12, 13, 14, 19, 20])))))))
(.seq (.seq (.ops [m 34 6, o 35 (.bin .neq (.t 34) (.c (.str [])))] none [4, 12, 13, 14, 35])
(.cond (.t 35)
(.exit 1)
(.skip)))
(.seq (.ops [o 2 (.move (.c .nils)), o 3 (.move (k 2))] none [2, 3])
(.ret))))))
(.ops [o 36 (.bin .add (.t 14) (k 1)), m 14 36] none [4, 12, 13, 14])))))))
(.seq (.ops [m 37 4, m 2 37, o 3 (.move (k 0))] none [2, 3])
(.ret)))))))
def f92 : SFunc := ⟨b92, [.t 2, .t 3]⟩

def b274 : SCode := (
.seq (.ops [o 4 (.move (k 0))] none [0, 1])
(.seq (.seq (.ops [m 5 1, o 6 (.len .sl (.t 5)), o 7 (.bin .neq (.t 6) (k 2))] none [0, 1, 7])
(.cond (.t 7)
(.seq (.ops [o 4 (.move (k 2))] none [4])
(.ret))
(.skip)))
(.seq (.ops [m 9 0, m 10 1, o 11 (.idxAddr 1 (.t 10) (k 1)), o 12 (.load none (.t 11)), o 13 (.call 289 [(.t 12)]), m 8 13, o 14 (.ext 0 (.t 8)), o 15 (.ext 1 (.t 8)), o 16 (.nilck (.t 9)), o 17 (.fldAddr 0 (.t 16)), o 18 (.fldAddr 0 (.t 17)), n (.store none (.t 18) (.t 14)), m 4 15] none [4])
(.seq (.ops [m 19 4, m 4 19] none [4])
(.ret)))))
def f274 : SFunc := ⟨b274, [.t 4]⟩

def b275 : SCode := (
.seq (.ops [o 4 (.move (k 0))] none [0, 1])
(.seq (.seq (.ops [m 8 0, o 9 (.nilck (.t 8)), o 10 (.fldAddr 0 (.t 9)), o 11 (.fldAddr 1 (.t 10)), o 12 (.load none (.t 11)), o 13 (.len .sl (.t 12)), o 14 (.bin .eql (.t 13) (k 8))] none [0, 1, 14])
(.cond (.t 14)
(.seq (.ops [o 4 (.move (k 4))] none [4])
(.ret))
(.skip)))
(.seq (.seq (.ops [m 15 1, o 16 (.len .sl (.t 15)), o 17 (.bin .neq (.t 16) (k 3))] none [0, 1, 17])
(.cond (.t 17)
(.seq (.ops [o 4 (.move (k 2))] none [4])
(.ret))
(.skip)))
(.seq (.ops [m 19 1, o 20 (.idxAddr 1 (.t 19) (k 1)), o 21 (.load none (.t 20)), o 22 (.call 289 [(.t 21)]), m 18 22, o 23 (.ext 0 (.t 18)), o 24 (.ext 1 (.t 18)), m 5 23, m 6 24] none [0, 1, 5, 6])
(.seq (.seq (.ops [m 25 6, o 26 (.bin .neq (.t 25) (k 0))] none [0, 1, 5, 6, 26])
(.cond (.t 26)
(.seq (.ops [m 27 6, m 4 27] none [4])
(.ret))
(.skip)))
(.seq (.ops [m 29 1, o 30 (.idxAddr 1 (.t 29) (k 2)), o 31 (.load none (.t 30)), o 32 (.call 290 [(.t 31)]), m 28 32, o 33 (.ext 0 (.t 28)), o 34 (.ext 1 (.t 28)), m 7 33, m 6 34] none [0, 5, 6, 7])
(.seq (.ops [m 35 0, m 36 0, o 37 (.nilck (.t 36)), o 38 (.fldAddr 0 (.t 37)), o 39 (.fldAddr 1 (.t 38)), o 40 (.load none (.t 39)), m 41 5, m 42 7, o 43 (.build [(.int .i64 0), (.int .i64 0)] [(0, 1, (.t 41)), (1, 1, (.t 42))]), o 44 (.buildSl 1 [(.int .i64 0), (.int .i64 0)] [(0, 2, (.t 43))]), o 45 (.append 2 (.t 40) (.t 44)), o 46 (.nilck (.t 35)), o 47 (.fldAddr 0 (.t 46)), o 48 (.fldAddr 1 (.t 47)), n (.store none (.t 48) (.t 45))] none [6])
(.seq (.ops [m 49 6, m 4 49] none [4])
(.ret)))))))))
def f275 : SFunc := ⟨b275, [.t 4]⟩

def b276 : SCode := (
.seq (.ops [o 4 (.move (k 0))] none [0, 1])
(.seq (.seq (.ops [m 9 0, o 10 (.nilck (.t 9)), o 11 (.fldAddr 0 (.t 10)), o 12 (.fldAddr 2 (.t 11)), o 13 (.load none (.t 12)), o 14 (.len .sl (.t 13)), o 15 (.bin .eql (.t 14) (k 12))] none [0, 1, 15])
(.cond (.t 15)
(.seq (.ops [o 4 (.move (k 4))] none [4])
(.ret))
(.skip)))
(.seq (.seq (.ops [m 16 1, o 17 (.len .sl (.t 16)), o 18 (.bin .neq (.t 17) (k 5))] none [0, 1, 18])
(.cond (.t 18)
(.seq (.ops [o 4 (.move (k 2))] none [4])
(.ret))
(.skip)))
(.seq (.ops [o 5 (.alloc (.agg [(.int .i64 0), (.int .i64 0), (.int .i64 0)]))] none [0, 1, 5])
(.seq (.seq (.ops [o 19 (.move (k 0))] none [0, 1, 5, 19])
(.block 0 (.loop [0, 1, 5, 19] (.seq (.ops [o 20 (.bin .lss (.t 19) (k 3))] none [0, 1, 5, 19, 20])
(.seq (.cond (.t 20)
(.skip)
(.exit 0))
(.seq (.block 1 (.seq (.ops [m 21 19, m 6 21] none [0, 1, 5, 6, 19])
(.seq (.ops [m 23 1, m 24 6, o 25 (.bin .add (k 2) (.t 24)), o 26 (.idxAddr 1 (.t 23) (.t 25)), o 27 (.load none (.t 26)), o 28 (.call 94 [(.t 27)]), m 22 28, o 29 (.ext 0 (.t 22)), o 30 (.ext 1 (.t 22)), m 7 29, m 8 30] none [0, 1, 5, 6, 7, 8, 19])
(.seq (.seq (.ops [m 31 8, o 32 (.bin .neq (.t 31) (k 0))] none [0, 1, 5, 6, 7, 8, 19, 32])
(.cond (.t 32)
(.seq (.ops [m 33 8, m 4 33] none [4])
(.ret))
(.skip)))
(.ops [m 34 6, m 35 7, o 36 (.idxArrAddr 1 3 (.t 5) (.t 34)), n (.store none (.t 36) (.t 35))] none [0, 1, 5, 19])))))
(.ops [o 37 (.bin .add (.t 19) (k 1)), m 19 37] none [0, 1, 5, 19])))))))
(.seq (.ops [m 38 0, m 39 0, o 40 (.nilck (.t 39)), o 41 (.fldAddr 0 (.t 40)), o 42 (.fldAddr 2 (.t 41)), o 43 (.load none (.t 42)), m 44 1, o 45 (.idxAddr 1 (.t 44) (k 1)), o 46 (.load none (.t 45)), o 47 (.idxArrAddr 1 3 (.t 5) (k 0)), o 48 (.load none (.t 47)), o 49 (.idxArrAddr 1 3 (.t 5) (k 1)), o 50 (.load none (.t 49)), o 51 (.idxArrAddr 1 3 (.t 5) (k 2)), o 52 (.load none (.t 51)), o 53 (.build [(.str []), (.int .i64 0), (.int .i64 0), (.int .i64 0), .nils] [(0, 1, (.t 46)), (1, 1, (.t 48)), (2, 1, (.t 50)), (3, 1, (.t 52))]), o 54 (.buildSl 1 [(.str []), (.int .i64 0), (.int .i64 0), (.int .i64 0), .nils] [(0, 5, (.t 53))]), o 55 (.append 5 (.t 43) (.t 54)), o 56 (.nilck (.t 38)), o 57 (.fldAddr 0 (.t 56)), o 58 (.fldAddr 2 (.t 57)), n (.store none (.t 58) (.t 55))] (some [(0, []), (1, []), (2, [1]), (3, [2, 1]), (4, [3, 2, 1]), (5, [4, 3, 2, 1]), (6, []), (7, [6]), (8, [7, 6]), (9, []), (10, [9]), (11, []), (12, [11]), (13, []), (14, [13]), (15, [8, 7, 6, 10, 9, 12, 11, 14, 13]), (16, [15, 8, 7, 6, 10, 9, 12, 11, 14, 13]), (17, [5, 4, 3, 2, 1, 16, 15, 8, 7, 6, 10, 9, 12, 11, 14, 13]), (18, [0, 1, 2, 3, 4, 5, 6, 7, 8, 9, 10, 11, 12, 13, 14, 15, 16, 17]), (19, [18, 0, 1, 2, 3, 4, 5, 6, 7, 8, 9, 10, 11, 12, 13, 14, 15, 16, 17]), (20, [19, 18, 0, 1, 2, 3, 4, 5, 6, 7, 8, 9, 10, 11, 12, 13, 14, 15, 16, 17]), (21, [20, 19, 18, 0, 1, 2, 3, 4, 5, 6, 7, 8, 9, 10, 11, 12, 13, 14, 15, 16, 17])]) [])
(.seq (.ops [o 4 (.move (k 0))] none [4])
(.ret))))))))
def f276 : SFunc := ⟨b276, [.t 4]⟩

def b278 : SCode := (
.seq (.ops [o 4 (.move (.c (.bool false)))] none [0, 1])
(.seq (.ops [m 5 0, m 6 1, o 7 (.call 291 [(.t 5), (.t 6)]), o 8 (.bin .geq (.t 7) (k 0)), m 4 8] none [4])
(.ret)))
def f278 : SFunc := ⟨b278, [.t 4]⟩

def b277 : SCode := (
.seq (.ops [o 0 (.move (.c .nils))] none [])
(.seq (.ops [o 1 (.buildSl 9 [(.str []), (.str []), (.str []), (.str []), (.str []), (.str []), (.str []), (.str []), (.str [])] [(0, 1, (.c (.str [114, 117, 110]))), (1, 1, (.c (.str [108, 111, 99, 107]))), (2, 1, (.c (.str [117, 110, 108, 111, 99, 107]))), (3, 1, (.c (.str [115, 101, 110, 100]))), (4, 1, (.c (.str [114, 101, 99, 118]))), (5, 1, (.c (.str [99, 108, 111, 115, 101]))), (6, 1, (.c (.str [115, 101, 108, 101, 99, 116]))), (7, 1, (.c (.str [108, 111, 111, 112]))), (8, 1, (.c (.str [101, 110, 100])))]), m 0 1] none [0])
(.ret)))
def f277 : SFunc := ⟨b277, [.t 0]⟩

def b279 : SCode := (
.seq (.ops [o 4 (.move (k 0))] none [0, 1])
(.seq (.ops [m 8 0, o 9 (.nilck (.t 8)), o 10 (.fldAddr 0 (.t 9)), o 11 (.fldAddr 2 (.t 10)), o 12 (.load none (.t 11)), m 13 0, o 14 (.nilck (.t 13)), o 15 (.fldAddr 0 (.t 14)), o 16 (.fldAddr 2 (.t 15)), o 17 (.load none (.t 16)), o 18 (.len .sl (.t 17)), o 19 (.bin .sub (.t 18) (k 1)), o 20 (.idxAddr 5 (.t 12) (.t 19)), m 5 20] (some [(0, []), (1, [0]), (2, [1, 0]), (3, [2, 1, 0]), (4, [3, 2, 1, 0]), (5, []), (6, [5]), (7, [6, 5]), (8, [7, 6, 5]), (9, [8, 7, 6, 5]), (10, [9, 8, 7, 6, 5]), (11, [10, 9, 8, 7, 6, 5]), (12, [4, 3, 2, 1, 0, 11, 10, 9, 8, 7, 6, 5]), (13, [12, 4, 3, 2, 1, 0, 11, 10, 9, 8, 7, 6, 5])]) [1, 5])
(.seq (.seq (.ops [m 21 5, o 22 (.nilck (.t 21)), o 23 (.fldAddr 4 (.t 22)), o 24 (.load none (.t 23)), o 25 (.len .sl (.t 24)), o 26 (.bin .eql (.t 25) (k 48))] none [1, 5, 26])
(.cond (.t 26)
(.seq (.ops [o 4 (.move (k 4))] none [4])
(.ret))
(.skip)))
(.seq (.ops [m 28 1, o 29 (.call 222 [(.t 28)]), m 27 29, o 30 (.ext 0 (.t 27)), o 31 (.ext 1 (.t 27)), o 6 (.alloc (.agg [(.int .i64 0), (.int .i64 0), (.int .i64 0), (.int .i64 0), .nils])), n (.store (some 5) (.t 6) (.t 30)), m 7 31] none [5, 6, 7])
(.seq (.ops [m 32 5, m 33 5, o 34 (.nilck (.t 33)), o 35 (.fldAddr 4 (.t 34)), o 36 (.load none (.t 35)), o 37 (.load (some 5) (.t 6)), o 38 (.buildSl 1 [(.int .i64 0), (.int .i64 0), (.int .i64 0), (.int .i64 0), .nils] [(0, 5, (.t 37))]), o 39 (.append 5 (.t 36) (.t 38)), o 40 (.nilck (.t 32)), o 41 (.fldAddr 4 (.t 40)), n (.store none (.t 41) (.t 39))] (some [(0, []), (1, []), (2, [1]), (3, [2, 1]), (4, [3, 2, 1]), (5, []), (6, [5]), (7, [4, 3, 2, 1, 6, 5]), (8, [0, 1, 2, 3, 4, 5, 6, 7]), (9, [8, 0, 1, 2, 3, 4, 5, 6, 7]), (10, [9, 8, 0, 1, 2, 3, 4, 5, 6, 7])]) [7])
(.seq (.ops [m 42 7, m 4 42] none [4])
(.ret)))))))
def f279 : SFunc := ⟨b279, [.t 4]⟩

def b33 : SCode := (
.seq (.ops [o 2 (.box (.t 0)), o 3 (.box (.t 1)), o 4 (.move (.c (.bool false)))] none [2, 3])
(.seq (.seq (.ops [o 6 (.fldAddr 0 (.t 2)), o 7 (.load none (.t 6)), o 8 (.fldAddr 0 (.t 3)), o 9 (.load none (.t 8)), o 10 (.bin .neq (.t 7) (.t 9)), m 11 10, ⟨some 12, .fldAddr 1 (.t 2), (some (11, false)), []⟩, ⟨some 13, .load none (.t 12), (some (11, false)), []⟩, ⟨some 14, .fldAddr 1 (.t 3), (some (11, false)), []⟩, ⟨some 15, .load none (.t 14), (some (11, false)), []⟩, ⟨some 16, .bin .neq (.t 13) (.t 15), (some (11, false)), []⟩, o 17 (.pick (.t 11) (.c (.bool true)) (.t 16)), m 18 17, ⟨some 19, .fldAddr 2 (.t 2), (some (18, false)), []⟩, ⟨some 20, .load none (.t 19), (some (18, false)), []⟩, ⟨some 21, .fldAddr 2 (.t 3), (some (18, false)), []⟩, ⟨some 22, .load none (.t 21), (some (18, false)), []⟩, ⟨some 23, .bin .neq (.t 20) (.t 22), (some (18, false)), []⟩, o 24 (.pick (.t 18) (.c (.bool true)) (.t 23)), m 25 24, ⟨some 26, .fldAddr 3 (.t 2), (some (25, false)), []⟩, ⟨some 27, .load none (.t 26), (some (25, false)), []⟩, ⟨some 28, .fldAddr 3 (.t 3), (some (25, false)), []⟩, ⟨some 29, .load none (.t 28), (some (25, false)), []⟩, ⟨some 30, .bin .neq (.t 27) (.t 29), (some (25, false)), []⟩, o 31 (.pick (.t 25) (.c (.bool true)) (.t 30)), m 32 31, ⟨some 33, .fldAddr 4 (.t 2), (some (32, false)), []⟩, ⟨some 34, .load none (.t 33), (some (32, false)), []⟩, ⟨some 35, .len .sl (.t 34), (some (32, false)), []⟩, ⟨some 36, .fldAddr 4 (.t 3), (some (32, false)), []⟩, ⟨some 37, .load none (.t 36), (some (32, false)), []⟩, ⟨some 38, .len .sl (.t 37), (some (32, false)), []⟩, ⟨some 39, .bin .neq (.t 35) (.t 38), (some (32, false)), []⟩, o 40 (.pick (.t 32) (.c (.bool true)) (.t 39))] none [2, 3, 40])
(.cond (.t 40)
(.seq (.ops [o 4 (.move (.c (.bool false)))] none [4])
(.ret))
(.skip)))
(.seq (.seq (.ops [o 5 (.move (k 0))] none [2, 3, 5])
(.block 0 (.loop [2, 3, 5] (.seq (.seq (.ops [m 41 5, o 42 (.fldAddr 4 (.t 2)), o 43 (.load none (.t 42)), o 44 (.len .sl (.t 43)), o 45 (.bin .lss (.t 41) (.t 44))] none [2, 3, 5, 45])
(.cond (.t 45)
(.skip)
(.exit 0)))
(.seq (.block 1 (.seq (.ops [o 48 (.fldAddr 4 (.t 2)), o 49 (.load none (.t 48)), m 50 5, o 51 (.idxAddr 3 (.t 49) (.t 50)), o 52 (.load (some 3) (.t 51)), o 53 (.fldAddr 4 (.t 3)), o 54 (.load none (.t 53)), m 55 5, o 56 (.idxAddr 3 (.t 54) (.t 55)), o 57 (.load (some 3) (.t 56)), o 58 (.eq true (.st [.b, .i, .i]) (.t 52) (.t 57))] (some [(0, []), (1, [0]), (2, []), (3, [1, 0, 2]), (4, [3, 1, 0, 2]), (5, []), (6, [5]), (7, []), (8, [6, 5, 7]), (9, [8, 6, 5, 7]), (10, [4, 3, 1, 0, 2, 9, 8, 6, 5, 7])]) [2, 3, 5, 58])
(.cond (.t 58)
(.seq (.ops [o 4 (.move (.c (.bool false)))] none [4])
(.ret))
(.skip))))
(.ops [m 46 5, o 47 (.bin .add (.t 46) (k 1)), m 5 47] none [2, 3, 5]))))))
(.seq (.ops [o 4 (.move (.c (.bool true)))] none [4])
(.ret)))))
def f33 : SFunc := ⟨b33, [.t 4]⟩

def b32 : SCode := (
.seq (.ops [o 1 (.box (.t 0)), o 2 (.alloc (.agg [(.int .i64 0), (.int .i64 0), (.int .i64 0), (.int .i64 0), .nils]))] none [1, 2])
(.seq (.ops [o 5 (.fldAddr 0 (.t 1)), o 6 (.load none (.t 5)), o 7 (.fldAddr 1 (.t 1)), o 8 (.load none (.t 7)), o 9 (.fldAddr 2 (.t 1)), o 10 (.load none (.t 9)), o 11 (.fldAddr 3 (.t 1)), o 12 (.load none (.t 11)), o 13 (.build [(.int .i64 0), (.int .i64 0), (.int .i64 0), (.int .i64 0), .nils] [(0, 1, (.t 6)), (1, 1, (.t 8)), (2, 1, (.t 10)), (3, 1, (.t 12))]), o 3 (.alloc (.agg [(.int .i64 0), (.int .i64 0), (.int .i64 0), (.int .i64 0), .nils])), n (.store (some 5) (.t 3) (.t 13))] none [1, 2, 3])
(.seq (.seq (.ops [o 4 (.move (k 0))] none [1, 2, 3, 4])
(.block 0 (.loop [1, 2, 3, 4] (.seq (.seq (.ops [m 14 4, o 15 (.fldAddr 4 (.t 1)), o 16 (.load none (.t 15)), o 17 (.len .sl (.t 16)), o 18 (.bin .lss (.t 14) (.t 17))] none [1, 2, 3, 4, 18])
(.cond (.t 18)
(.skip)
(.exit 0)))
(.seq (.block 1 (.ops [o 21 (.fldAddr 4 (.t 3)), o 22 (.load none (.t 21)), o 23 (.fldAddr 4 (.t 1)), o 24 (.load none (.t 23)), m 25 4, o 26 (.idxAddr 3 (.t 24) (.t 25)), o 27 (.fldAddr 0 (.t 26)), o 28 (.load none (.t 27)), o 29 (.fldAddr 4 (.t 1)), o 30 (.load none (.t 29)), m 31 4, o 32 (.idxAddr 3 (.t 30) (.t 31)), o 33 (.fldAddr 1 (.t 32)), o 34 (.load none (.t 33)), o 35 (.fldAddr 4 (.t 1)), o 36 (.load none (.t 35)), m 37 4, o 38 (.idxAddr 3 (.t 36) (.t 37)), o 39 (.fldAddr 2 (.t 38)), o 40 (.load none (.t 39)), o 41 (.build [(.bool false), (.int .i64 0), (.int .i64 0)] [(0, 1, (.t 28)), (1, 1, (.t 34)), (2, 1, (.t 40))]), o 42 (.buildSl 1 [(.bool false), (.int .i64 0), (.int .i64 0)] [(0, 3, (.t 41))]), o 43 (.append 3 (.t 22) (.t 42)), o 44 (.fldAddr 4 (.t 3)), n (.store none (.t 44) (.t 43))] (some [(0, []), (1, [0]), (2, []), (3, [2]), (4, []), (5, [3, 2, 4]), (6, [5, 3, 2, 4]), (7, [6, 5, 3, 2, 4]), (8, []), (9, [8]), (10, []), (11, [9, 8, 10]), (12, [11, 9, 8, 10]), (13, [12, 11, 9, 8, 10]), (14, []), (15, [14]), (16, []), (17, [15, 14, 16]), (18, [17, 15, 14, 16]), (19, [18, 17, 15, 14, 16]), (20, [7, 6, 5, 3, 2, 4, 13, 12, 11, 9, 8, 10, 19, 18, 17, 15, 14, 16]), (21, [20, 7, 6, 5, 3, 2, 4, 13, 12, 11, 9, 8, 10, 19, 18, 17, 15, 14, 16]), (22, [1, 0, 21, 20, 7, 6, 5, 3, 2, 4, 13, 12, 11, 9, 8, 10, 19, 18, 17, 15, 14, 16]), (23, [0, 1, 2, 3, 4, 5, 6, 7, 8, 9, 10, 11, 12, 13, 14, 15, 16, 17, 18, 19, 20, 21, 22]), (24, [23, 0, 1, 2, 3, 4, 5, 6, 7, 8, 9, 10, 11, 12, 13, 14, 15, 16, 17, 18, 19, 20, 21, 22])]) [1, 2, 3, 4]))
(.ops [m 19 4, o 20 (.bin .add (.t 19) (k 1)), m 4 20] none [1, 2, 3, 4]))))))
(.seq (.ops [o 45 (.load (some 5) (.t 3)), n (.store (some 5) (.t 2) (.t 45))] none [2])
(.ret)))))
def f32 : SFunc := ⟨b32, [.cell (some 5) 2]⟩

def b62 : SCode := (
.seq (.ops [o 6 (.move (.c (.bool false)))] none [0, 1, 2])
(.seq (.seq (.ops [m 10 0, o 11 (.len .sl (.t 10)), m 12 1, o 13 (.len .sl (.t 12)), o 14 (.bin .neq (.t 11) (.t 13))] none [0, 1, 2, 14])
(.cond (.t 14)
(.seq (.ops [o 6 (.move (.c (.bool false)))] none [6])
(.ret))
(.skip)))
(.seq (.seq (.ops [m 15 0, o 16 (.len .sl (.t 15)), o 17 (.move (k 0))] none [1, 2, 15, 16, 17])
(.block 0 (.loop [1, 2, 15, 16, 17] (.seq (.ops [o 18 (.bin .lss (.t 17) (.t 16))] none [1, 2, 15, 16, 17, 18])
(.seq (.cond (.t 18)
(.skip)
(.exit 0))
(.seq (.block 1 (.seq (.ops [m 19 17, o 20 (.idxAddr 5 (.t 15) (.t 17)), o 21 (.load (some 5) (.t 20)), o 8 (.alloc (.agg [(.int .i64 0), (.int .i64 0), (.int .i64 0), (.int .i64 0), .nils])), m 7 19, n (.store (some 5) (.t 8) (.t 21))] none [1, 2, 7, 8, 15, 16, 17])
(.seq (.ops [m 22 1, m 23 7, o 24 (.idxAddr 5 (.t 22) (.t 23)), o 25 (.load (some 5) (.t 24)), o 9 (.alloc (.agg [(.int .i64 0), (.int .i64 0), (.int .i64 0), (.int .i64 0), .nils])), n (.store (some 5) (.t 9) (.t 25))] none [1, 2, 8, 9, 15, 16, 17])
(.seq (.ops [m 26 2, o 27 (.load (some 5) (.t 8)), o 28 (.load (some 5) (.t 9)), o 29 (.callv (.t 26) [(.t 27), (.t 28)]), o 30 (.not (.t 29))] none [1, 2, 15, 16, 17, 30])
(.cond (.t 30)
(.seq (.ops [o 6 (.move (.c (.bool false)))] none [6])
(.ret))
(.skip))))))
(.ops [o 31 (.bin .add (.t 17) (k 1)), m 17 31] none [1, 2, 15, 16, 17])))))))
(.seq (.ops [o 6 (.move (.c (.bool true)))] none [6])
(.ret)))))
def f62 : SFunc := ⟨b62, [.t 6]⟩

def b97 : SCode := (
.seq (.ops [o 2 (.move (.c (.bool false)))] none [0])
(.seq (.ops [m 3 0, o 4 (.len .str (.t 3)), o 5 (.bin .geq (.t 4) (k 1)), m 6 5, ⟨some 7, .move (.t 0), (some (6, true)), []⟩, ⟨some 8, .len .str (.t 7), (some (6, true)), []⟩, ⟨some 9, .bin .leq (.t 8) (k 8), (some (6, true)), []⟩, o 10 (.pick (.t 6) (.t 9) (.c (.bool false))), m 11 10, ⟨some 12, .move (.t 0), (some (11, true)), []⟩, ⟨some 13, .call 124 [(.t 12), (.c (.str [97, 98, 99, 100, 101, 102, 103, 104, 105, 106, 107, 108, 109, 110, 111, 112, 113, 114, 115, 116, 117, 118, 119, 120, 121, 122]))], (some (11, true)), []⟩, ⟨some 14, .bin .eql (.t 13) (.c (.str [])), (some (11, true)), []⟩, o 15 (.pick (.t 11) (.t 14) (.c (.bool false))), m 2 15] none [2])
(.ret)))
def f97 : SFunc := ⟨b97, [.t 2]⟩

def b285 : SCode := (
.seq (.ops [o 2 (.box (.t 0)), o 4 (.move (k 0)), o 5 (.move (.c (.bool false)))] none [1, 2])
(.seq (.seq (.ops [o 8 (.fldAddr 2 (.t 2)), o 9 (.load none (.t 8)), o 10 (.len .sl (.t 9)), o 11 (.move (k 0))] none [1, 9, 10, 11])
(.block 0 (.loop [1, 9, 10, 11] (.seq (.ops [o 12 (.bin .lss (.t 11) (.t 10))] none [1, 9, 10, 11, 12])
(.seq (.cond (.t 12)
(.skip)
(.exit 0))
(.seq (.block 1 (.seq (.ops [m 13 11, o 14 (.idxAddr 5 (.t 9) (.t 11)), o 15 (.load (some 5) (.t 14)), o 7 (.alloc (.agg [(.str []), (.int .i64 0), (.int .i64 0), (.int .i64 0), .nils])), m 6 13, n (.store (some 5) (.t 7) (.t 15))] none [1, 6, 7, 9, 10, 11])
(.seq (.ops [o 16 (.fldAddr 0 (.t 7)), o 17 (.load none (.t 16)), m 18 1, o 19 (.bin .eql (.t 17) (.t 18))] none [1, 6, 9, 10, 11, 19])
(.cond (.t 19)
(.seq (.ops [m 20 6, m 4 20, o 5 (.move (.c (.bool true)))] none [4, 5])
(.ret))
(.skip)))))
(.ops [o 21 (.bin .add (.t 11) (k 1)), m 11 21] none [1, 9, 10, 11])))))))
(.seq (.ops [o 4 (.move (k 0)), o 5 (.move (.c (.bool false)))] none [4, 5])
(.ret))))
def f285 : SFunc := ⟨b285, [.t 4, .t 5]⟩

def b286 : SCode := (
.seq (.ops [o 2 (.move (k 0)), o 3 (.move (k 0))] none [0])
(.seq (.seq (.ops [m 10 0, o 11 (.len .sl (.t 10)), o 12 (.bin .gtr (.t 11) (k 48))] none [0, 12])
(.cond (.t 12)
(.seq (.ops [o 2 (.move (k 0)), o 3 (.move (k 18))] none [2, 3])
(.ret))
(.skip)))
(.seq (.seq (.ops [m 13 0, o 14 (.len .sl (.t 13)), o 15 (.move (k 0))] none [0, 13, 14, 15])
(.block 0 (.loop [0, 13, 14, 15] (.seq (.ops [o 16 (.bin .lss (.t 15) (.t 14))] none [0, 13, 14, 15, 16])
(.seq (.cond (.t 16)
(.skip)
(.exit 0))
(.seq (.block 1 (.seq (.ops [m 17 15, o 18 (.idxAddr 5 (.t 13) (.t 15)), o 19 (.load (some 5) (.t 18)), o 5 (.alloc (.agg [(.int .i64 0), (.int .i64 0), (.int .i64 0), (.int .i64 0), .nils])), m 4 17, n (.store (some 5) (.t 5) (.t 19))] none [0, 4, 5, 13, 14, 15])
(.seq (.ops [o 20 (.load (some 5) (.t 5)), o 21 (.call 219 [(.t 20)]), m 6 21] none [0, 4, 6, 13, 14, 15])
(.seq (.ops [m 22 6, o 23 (.bin .neq (.t 22) (k 0))] none [0, 4, 6, 13, 14, 15, 23])
(.cond (.t 23)
(.seq (.ops [m 24 4, m 25 6, m 2 24, m 3 25] none [2, 3])
(.ret))
(.skip))))))
(.ops [o 26 (.bin .add (.t 15) (k 1)), m 15 26] none [0, 13, 14, 15])))))))
(.seq (.ops [o 27 (.build [.nils, .nils] []), o 28 (.box (.t 27)), m 7 28] none [0, 7])
(.seq (.skip)
(.seq (.seq (.ops [m 29 0, o 30 (.len .sl (.t 29)), o 31 (.move (k 0))] none [0, 7, 29, 30, 31])
(.block 2 (.loop [0, 7, 29, 30, 31] (.seq (.ops [o 32 (.bin .lss (.t 31) (.t 30))] none [0, 7, 29, 30, 31, 32])
(.seq (.cond (.t 32)
(.skip)
(.exit 2))
(.seq (.block 3 (.seq (.ops [m 33 31, o 34 (.idxAddr 5 (.t 29) (.t 31)), o 35 (.load (some 5) (.t 34)), o 9 (.alloc (.agg [(.int .i64 0), (.int .i64 0), (.int .i64 0), (.int .i64 0), .nils])), m 8 33, n (.store (some 5) (.t 9) (.t 35))] none [0, 7, 8, 9, 29, 30, 31])
(.seq (.seq (.ops [m 36 7, o 37 (.load (some 5) (.t 9)), o 38 (.call 294 [(.t 36), (.t 37)])] none [0, 7, 8, 29, 30, 31, 38])
(.cond (.t 38)
(.exit 3)
(.skip)))
(.seq (.ops [m 39 8, m 2 39, o 3 (.move (k 11))] none [2, 3])
(.ret)))))
(.ops [o 40 (.bin .add (.t 31) (k 1)), m 31 40] none [0, 7, 29, 30, 31])))))))
(.seq (.seq (.ops [m 41 7, o 42 (.nilck (.t 41)), o 43 (.fldAddr 1 (.t 42)), o 44 (.load none (.t 43)), o 45 (.len .sl (.t 44)), o 46 (.bin .gtr (.t 45) (k 0)), m 47 46, ⟨some 48, .move (.t 7), (some (47, false)), []⟩, ⟨some 49, .nilck (.t 48), (some (47, false)), []⟩, ⟨some 50, .fldAddr 0 (.t 49), (some (47, false)), []⟩, ⟨some 51, .load none (.t 50), (some (47, false)), []⟩, ⟨some 52, .len .sl (.t 51), (some (47, false)), []⟩, ⟨some 53, .bin .gtr (.t 52) (k 0), (some (47, false)), []⟩, o 54 (.pick (.t 47) (.c (.bool true)) (.t 53))] none [0, 54])
(.cond (.t 54)
(.seq (.ops [m 55 0, o 56 (.len .sl (.t 55)), o 57 (.bin .sub (.t 56) (k 1)), m 2 57, o 3 (.move (k 11))] none [2, 3])
(.ret))
(.skip)))
(.seq (.seq (.ops [m 58 0, o 59 (.call 295 [(.t 58)]), o 60 (.bin .gtr (.t 59) (k 512))] none [60])
(.cond (.t 60)
(.seq (.ops [o 2 (.move (k 0)), o 3 (.move (k 4))] none [2, 3])
(.ret))
(.skip)))
(.seq (.ops [o 2 (.move (k 0)), o 3 (.move (k 0))] none [2, 3])
(.ret))))))))))
def f286 : SFunc := ⟨b286, [.t 2, .t 3]⟩

def b287 : SCode := (
.seq (.ops [o 2 (.move (k 0))] none [0])
(.seq (.ops [o 3 (.alloc (.int .i64 0)), n (.store none (.t 3) (k 0))] none [0, 3])
(.seq (.ops [m 4 0, o 5 (.mkfn 296 [(.t 3)]), o 6 (.call 297 [(.t 4), (.t 5)])] none [3])
(.seq (.ops [o 7 (.load none (.t 3)), m 2 7] none [2])
(.ret)))))
def f287 : SFunc := ⟨b287, [.t 2]⟩

def b288 : SCode := (
.seq (.ops [o 2 (.box (.t 0)), o 3 (.box (.t 1)), o 4 (.move (.c (.bool false)))] none [2, 3])
(.seq (.seq (.ops [o 5 (.fldAddr 0 (.t 3)), o 6 (.load none (.t 5))] none [2, 3, 6])
(.block 0 (.seq (.seq (.ops [o 8 (.bin .eql (.t 6) (k 2)), m 7 8] none [2, 3, 6, 7])
(.cond (.t 7)
(.skip)
(.ops [o 9 (.bin .eql (.t 6) (k 3)), m 7 9] none [2, 3, 6, 7])))
(.cond (.t 7)
(.seq (.ops [o 10 (.fldAddr 1 (.t 3)), o 11 (.load none (.t 10)), o 12 (.fldAddr 0 (.t 2)), o 13 (.load none (.t 12)), o 14 (.bin .lss (.t 11) (.t 13)), m 4 14] none [4])
(.ret))
(.seq (.seq (.ops [o 16 (.bin .eql (.t 6) (k 4)), m 15 16] none [2, 3, 6, 15])
(.cond (.t 15)
(.skip)
(.seq (.ops [o 17 (.bin .eql (.t 6) (k 5)), m 15 17] none [2, 3, 6, 15])
(.cond (.t 15)
(.skip)
(.ops [o 18 (.bin .eql (.t 6) (k 6)), m 15 18] none [2, 3, 15])))))
(.cond (.t 15)
(.seq (.ops [o 19 (.fldAddr 1 (.t 3)), o 20 (.load none (.t 19)), o 21 (.fldAddr 1 (.t 2)), o 22 (.load none (.t 21)), o 23 (.len .sl (.t 22)), o 24 (.bin .lss (.t 20) (.t 23)), m 4 24] none [4])
(.ret))
(.skip)))))))
(.seq (.ops [o 25 (.fldAddr 4 (.t 3)), o 26 (.load none (.t 25)), o 27 (.mkfn 298 [(.t 2)]), o 28 (.call 235 [(.t 26), (.t 27)]), o 29 (.not (.t 28)), m 4 29] none [4])
(.ret))))
def f288 : SFunc := ⟨b288, [.t 4]⟩

def b289 : SCode := (
.seq (.ops [o 2 (.move (k 0)), o 3 (.move (k 0))] none [0])
(.seq (.ops [m 7 0, o 8 (.call 94 [(.t 7)]), m 6 8, o 9 (.ext 0 (.t 6)), o 10 (.ext 1 (.t 6)), m 4 9, m 5 10] none [4, 5])
(.seq (.seq (.ops [m 11 5, o 12 (.bin .neq (.t 11) (k 0))] none [4, 5, 12])
(.cond (.t 12)
(.seq (.ops [m 13 5, o 2 (.move (k 0)), m 3 13] none [2, 3])
(.ret))
(.skip)))
(.seq (.ops [m 14 4, o 15 (.call 299 [(.t 14)]), o 16 (.ext 0 (.t 15)), o 17 (.ext 1 (.t 15)), m 2 16, m 3 17] none [2, 3])
(.ret)))))
def f289 : SFunc := ⟨b289, [.t 2, .t 3]⟩

def b290 : SCode := (
.seq (.ops [o 2 (.move (k 0)), o 3 (.move (k 0))] none [0])
(.seq (.seq (.ops [m 6 0, o 7 (.bin .eql (.t 6) (.c (.str [45])))] none [0, 7])
(.cond (.t 7)
(.seq (.ops [o 2 (.move (.c (.int .i64 (-1)))), o 3 (.move (k 0))] none [2, 3])
(.ret))
(.skip)))
(.seq (.ops [m 9 0, o 10 (.call 94 [(.t 9)]), m 8 10, o 11 (.ext 0 (.t 8)), o 12 (.ext 1 (.t 8)), m 4 11, m 5 12] none [4, 5])
(.seq (.block 0 (.seq (.ops [m 14 5, o 15 (.bin .neq (.t 14) (k 0)), m 13 15] none [4, 5, 13])
(.cond (.t 13)
(.seq (.ops [m 16 5, o 2 (.move (k 0)), m 3 16] none [2, 3])
(.ret))
(.seq (.ops [m 18 4, o 19 (.bin .lss (.t 18) (k 0)), m 17 19] none [4, 17])
(.cond (.t 17)
(.seq (.ops [o 2 (.move (k 0)), o 3 (.move (k 2))] none [2, 3])
(.ret))
(.skip))))))
(.seq (.ops [m 20 4, o 21 (.call 299 [(.t 20)]), o 22 (.ext 0 (.t 21)), o 23 (.ext 1 (.t 21)), m 2 22, m 3 23] none [2, 3])
(.ret))))))
def f290 : SFunc := ⟨b290, [.t 2, .t 3]⟩

def b94 : SCode := (
.seq (.ops [o 2 (.move (k 0)), o 3 (.move (k 0))] none [0])
(.seq (.ops [m 7 0, o 8 (.call 123 [(.t 7), (.c (.str [45]))]), m 4 8] none [0, 4])
(.seq (.seq (.ops [m 9 4, o 10 (.bin .eql (.t 9) (.c (.str []))), m 11 10, ⟨some 12, .move (.t 4), (some (11, false)), []⟩, ⟨some 13, .call 124 [(.t 12), (.c (.str [48, 49, 50, 51, 52, 53, 54, 55, 56, 57]))], (some (11, false)), []⟩, ⟨some 14, .bin .neq (.t 13) (.c (.str [])), (some (11, false)), []⟩, o 15 (.pick (.t 11) (.c (.bool true)) (.t 14)), m 16 15, ⟨some 17, .move (.t 4), (some (16, false)), []⟩, ⟨some 18, .len .str (.t 17), (some (16, false)), []⟩, ⟨some 19, .bin .gtr (.t 18) (k 1), (some (16, false)), []⟩, ⟨some 20, .move (.t 19), (some (16, false)), []⟩, ⟨some 21, .move (.t 4), (some (20, true)), []⟩, ⟨some 22, .idxStr (.t 21) (k 0), (some (20, true)), []⟩, ⟨some 23, .bin .eql (.t 22) (.c (.int .u8 48)), (some (20, true)), []⟩, ⟨some 24, .pick (.t 20) (.t 23) (.c (.bool false)), (some (16, false)), []⟩, o 25 (.pick (.t 16) (.c (.bool true)) (.t 24)), m 26 25, ⟨some 27, .move (.t 0), (some (26, false)), []⟩, ⟨some 28, .bin .eql (.t 27) (.c (.str [45, 48])), (some (26, false)), []⟩, o 29 (.pick (.t 26) (.c (.bool true)) (.t 28))] none [0, 29])
(.cond (.t 29)
(.seq (.ops [o 2 (.move (k 0)), o 3 (.move (k 2))] none [2, 3])
(.ret))
(.skip)))
(.seq (.ops [m 31 0, o 32 (.call 125 [(.t 31), (k 10), (k 64)]), m 30 32, o 33 (.ext 0 (.t 30)), o 34 (.ext 1 (.t 30)), m 5 33, m 6 34] none [5, 6])
(.seq (.seq (.ops [m 35 6, o 36 (.eq true .i (.t 35) (.c .nili))] none [5, 36])
(.cond (.t 36)
(.seq (.ops [o 2 (.move (k 0)), o 3 (.move (k 14))] none [2, 3])
(.ret))
(.skip)))
(.seq (.ops [m 37 5, m 2 37, o 3 (.move (k 0))] none [2, 3])
(.ret)))))))
def f94 : SFunc := ⟨b94, [.t 2, .t 3]⟩

def b291 : SCode := (
.seq (.ops [o 4 (.move (k 0))] none [0, 1])
(.seq (.seq (.ops [m 6 0, o 7 (.len .sl (.t 6)), o 8 (.move (k 0))] none [0, 1, 7, 8])
(.block 0 (.loop [0, 1, 7, 8] (.seq (.ops [o 9 (.bin .lss (.t 8) (.t 7))] none [0, 1, 7, 8, 9])
(.seq (.cond (.t 9)
(.skip)
(.exit 0))
(.seq (.block 1 (.seq (.ops [m 10 8, m 5 10] none [0, 1, 5, 7, 8])
(.seq (.ops [m 11 1, m 12 0, m 13 5, o 14 (.idxAddr 1 (.t 12) (.t 13)), o 15 (.load none (.t 14)), o 16 (.bin .eql (.t 11) (.t 15))] none [0, 1, 5, 7, 8, 16])
(.cond (.t 16)
(.seq (.ops [m 17 5, m 4 17] none [4])
(.ret))
(.skip)))))
(.ops [o 18 (.bin .add (.t 8) (k 1)), m 8 18] none [0, 1, 7, 8])))))))
(.seq (.ops [o 4 (.move (.c (.int .i64 (-1))))] none [4])
(.ret))))
def f291 : SFunc := ⟨b291, [.t 4]⟩

def b222 : SCode := (
.seq (.ops [o 2 (.alloc (.agg [(.int .i64 0), (.int .i64 0), (.int .i64 0), (.int .i64 0), .nils])), o 3 (.move (k 0))] none [0, 2])
(.seq (.ops [m 9 0, o 10 (.call 92 [(.t 9)]), m 8 10, o 11 (.ext 0 (.t 8)), o 12 (.ext 1 (.t 8)), o 4 (.alloc .nils), n (.store none (.t 4) (.t 11)), m 5 12] none [2, 4, 5])
(.seq (.seq (.ops [m 13 5, o 14 (.bin .neq (.t 13) (k 0))] none [2, 4, 5, 14])
(.cond (.t 14)
(.seq (.ops [o 15 (.build [(.int .i64 0), (.int .i64 0), (.int .i64 0), (.int .i64 0), .nils] []), m 16 5, n (.store (some 5) (.t 2) (.t 15)), m 3 16] none [2, 3])
(.ret))
(.skip)))
(.seq (.ops [o 17 (.build [(.int .i64 0), (.int .i64 0), (.int .i64 0), (.int .i64 0), .nils] []), o 6 (.alloc (.agg [(.int .i64 0), (.int .i64 0), (.int .i64 0), (.int .i64 0), .nils])), n (.store (some 5) (.t 6) (.t 17))] none [2, 4, 6])
(.seq (.seq (.ops [o 18 (.load none (.t 4)), o 19 (.len .sl (.t 18)), o 20 (.bin .gtr (.t 19) (k 0))] none [2, 4, 6, 20])
(.cond (.t 20)
(.ops [o 21 (.call 224 []), o 22 (.mkfn 228 [(.t 4)]), o 23 (.call 229 [(.t 21), (.t 22)]), o 24 (.fldAddr 0 (.t 6)), n (.store none (.t 24) (.t 23))] none [2, 4, 6])
(.skip)))
(.seq (.seq (.ops [o 25 (.fldAddr 0 (.t 6)), o 26 (.load none (.t 25)), o 27 (.bin .lss (.t 26) (k 1)), m 28 27, ⟨some 29, .fldAddr 0 (.t 6), (some (28, false)), []⟩, ⟨some 30, .load none (.t 29), (some (28, false)), []⟩, ⟨some 31, .load none (.t 4), (some (28, false)), []⟩, ⟨some 32, .slSl 1 (.t 31) (some (k 1)) none, (some (28, false)), []⟩, ⟨some 33, .call 230 [(.t 30), (.t 32)], (some (28, false)), []⟩, ⟨some 34, .not (.t 33), (some (28, false)), []⟩, o 35 (.pick (.t 28) (.c (.bool true)) (.t 34))] (some [(0, []), (1, [0]), (2, [1, 0]), (3, [2, 1, 0]), (4, [3, 2, 1, 0]), (5, [4, 3, 2, 1, 0]), (6, [3, 2, 1, 0]), (7, [6, 3, 2, 1, 0]), (8, [5, 4, 3, 2, 1, 0, 7, 6]), (9, [8, 5, 4, 3, 2, 1, 0, 7, 6]), (10, [3, 2, 1, 0, 9, 8, 5, 4, 7, 6])]) [2, 4, 6, 35])
(.cond (.t 35)
(.seq (.ops [o 36 (.build [(.int .i64 0), (.int .i64 0), (.int .i64 0), (.int .i64 0), .nils] []), n (.store (some 5) (.t 2) (.t 36)), o 3 (.move (k 2))] none [2, 3])
(.ret))
(.skip)))
(.seq (.ops [o 37 (.load none (.t 4)), o 38 (.slSl 1 (.t 37) (some (k 1)) none), o 39 (.build [.nils, (.int .i64 0)] [(0, 1, (.t 38))]), o 40 (.box (.t 39)), m 7 40] none [2, 6, 7])
(.seq (.seq (.ops [o 41 (.fldAddr 0 (.t 6)), o 42 (.load none (.t 41)), o 43 (.bin .neq (.t 42) (k 7)), m 44 43, ⟨some 45, .fldAddr 0 (.t 6), (some (44, true)), []⟩, ⟨some 46, .load none (.t 45), (some (44, true)), []⟩, ⟨some 47, .bin .neq (.t 46) (k 9), (some (44, true)), []⟩, o 48 (.pick (.t 44) (.t 47) (.c (.bool false)))] none [2, 6, 7, 48])
(.cond (.t 48)
(.ops [m 49 7, o 50 (.call 231 [(.t 49)]), o 51 (.fldAddr 1 (.t 6)), n (.store none (.t 51) (.t 50))] none [2, 6, 7])
(.skip)))
(.seq (.seq (.ops [o 52 (.fldAddr 0 (.t 6)), o 53 (.load none (.t 52)), o 54 (.bin .eql (.t 53) (k 4))] none [2, 6, 7, 54])
(.cond (.t 54)
(.ops [m 55 7, o 56 (.call 231 [(.t 55)]), o 57 (.fldAddr 2 (.t 6)), n (.store none (.t 57) (.t 56))] none [2, 6, 7])
(.skip)))
(.seq (.seq (.ops [o 59 (.fldAddr 0 (.t 6)), o 60 (.load none (.t 59)), ⟨some 58, .call 224 [], none, [1]⟩, o 61 (.idxAddr 5 (.t 58) (.t 60)), o 62 (.fldAddr 3 (.t 61)), o 63 (.load none (.t 62))] (some [(1, []), (2, [0]), (0, []), (3, [2, 1, 0]), (4, [3, 2, 1, 0]), (5, [4, 3, 2, 1, 0])]) [2, 6, 7, 63])
(.cond (.t 63)
(.ops [m 64 7, o 65 (.call 232 [(.t 64)]), o 66 (.fldAddr 3 (.t 6)), n (.store none (.t 66) (.t 65))] none [2, 6, 7])
(.skip)))
(.seq (.block 0 (.loop [2, 6, 7] (.seq (.seq (.ops [m 67 7, o 68 (.nilck (.t 67)), o 69 (.fldAddr 0 (.t 68)), o 70 (.load none (.t 69)), o 71 (.len .sl (.t 70)), o 72 (.bin .gtr (.t 71) (k 0))] none [2, 6, 7, 72])
(.cond (.t 72)
(.skip)
(.exit 0)))
(.block 1 (.ops [o 73 (.fldAddr 4 (.t 6)), o 74 (.load none (.t 73)), m 75 7, ⟨some 76, .call 233 [(.t 75)], none, [1]⟩, o 77 (.buildSl 1 [(.bool false), (.int .i64 0), (.int .i64 0)] [(0, 3, (.t 76))]), o 78 (.append 3 (.t 74) (.t 77)), o 79 (.fldAddr 4 (.t 6)), n (.store none (.t 79) (.t 78))] (some [(0, []), (1, [0]), (2, []), (3, [2]), (4, [3, 2]), (5, [1, 0, 4, 3, 2]), (6, [0, 1, 2, 3, 4, 5]), (7, [6, 0, 1, 2, 3, 4, 5])]) [2, 6, 7])))))
(.seq (.seq (.ops [m 80 7, o 81 (.nilck (.t 80)), o 82 (.fldAddr 1 (.t 81)), o 83 (.load none (.t 82)), o 84 (.bin .eql (.t 83) (k 0))] none [2, 6, 7, 84])
(.cond (.t 84)
(.ops [m 85 7, o 86 (.load (some 5) (.t 6)), o 87 (.call 219 [(.t 86)]), o 88 (.nilck (.t 85)), o 89 (.fldAddr 1 (.t 88)), n (.store none (.t 89) (.t 87))] none [2, 6, 7])
(.skip)))
(.seq (.seq (.ops [m 90 7, o 91 (.nilck (.t 90)), o 92 (.fldAddr 1 (.t 91)), o 93 (.load none (.t 92)), o 94 (.bin .neq (.t 93) (k 0))] none [2, 6, 7, 94])
(.cond (.t 94)
(.seq (.ops [o 95 (.build [(.int .i64 0), (.int .i64 0), (.int .i64 0), (.int .i64 0), .nils] []), m 96 7, o 97 (.nilck (.t 96)), o 98 (.fldAddr 1 (.t 97)), o 99 (.load none (.t 98)), ⟨none, .store (some 5) (.t 2) (.t 95), none, [4]⟩, m 3 99] (some [(0, []), (1, []), (2, [1]), (3, [2, 1]), (4, [3, 2, 1]), (5, [0]), (6, [4, 3, 2, 1, 5, 0])]) [2, 3])
(.ret))
(.skip)))
(.seq (.ops [o 100 (.load (some 5) (.t 6)), n (.store (some 5) (.t 2) (.t 100)), o 3 (.move (k 0))] none [2, 3])
(.ret)))))))))))))))
def f222 : SFunc := ⟨b222, [.cell (some 5) 2, .t 3]⟩

def b124 : SCode := (
.seq (.ops [o 4 (.move (.c (.str [])))] none [0, 1])
(.seq (.seq (.ops [m 7 0, o 8 (.bin .eql (.t 7) (.c (.str []))), m 9 8, ⟨some 10, .move (.t 1), (some (9, false)), []⟩, ⟨some 11, .bin .eql (.t 10) (.c (.str [])), (some (9, false)), []⟩, o 12 (.pick (.t 9) (.c (.bool true)) (.t 11))] none [0, 1, 12])
(.cond (.t 12)
(.seq (.ops [m 13 0, m 4 13] none [4])
(.ret))
(.skip)))
(.seq (.seq (.ops [m 14 1, o 15 (.len .str (.t 14)), o 16 (.bin .eql (.t 15) (k 1)), m 17 16, ⟨some 18, .move (.t 1), (some (17, true)), []⟩, ⟨some 19, .idxStr (.t 18) (k 0), (some (17, true)), []⟩, ⟨some 20, .bin .lss (.t 19) (.c (.int .u8 128)), (some (17, true)), []⟩, o 21 (.pick (.t 17) (.t 20) (.c (.bool false)))] none [0, 1, 21])
(.cond (.t 21)
(.seq (.ops [m 22 0, m 23 1, o 24 (.idxStr (.t 23) (k 0)), m 26 1, o 27 (.idxStr (.t 26) (k 0)), o 25 (.call 142 [(.t 22), (.t 24)]), o 28 (.call 143 [(.t 25), (.t 27)]), m 4 28] (some [(0, []), (1, []), (2, [1]), (4, []), (5, [3]), (3, [0, 2, 1]), (6, [5, 0, 2, 1, 4, 3]), (7, [6, 5, 0, 2, 1, 4, 3])]) [4])
(.ret))
(.skip)))
(.seq (.seq (.ops [m 30 1, o 31 (.call 144 [(.t 30)]), m 29 31, o 32 (.ext 0 (.t 29)), o 33 (.ext 1 (.t 29)), o 5 (.alloc (.agg [(.bool false), (.bool false), (.bool false), (.bool false), (.bool false), (.bool false), (.bool false), (.bool false), (.bool false), (.bool false), (.bool false), (.bool false), (.bool false), (.bool false), (.bool false), (.bool false), (.bool false), (.bool false), (.bool false), (.bool false), (.bool false), (.bool false), (.bool false), (.bool false), (.bool false), (.bool false), (.bool false), (.bool false), (.bool false), (.bool false), (.bool false), (.bool false), (.bool false), (.bool false), (.bool false), (.bool false), (.bool false), (.bool false), (.bool false), (.bool false), (.bool false), (.bool false), (.bool false), (.bool false), (.bool false), (.bool false), (.bool false), (.bool false), (.bool false), (.bool false), (.bool false), (.bool false), (.bool false), (.bool false), (.bool false), (.bool false), (.bool false), (.bool false), (.bool false), (.bool false), (.bool false), (.bool false), (.bool false), (.bool false), (.bool false), (.bool false), (.bool false), (.bool false), (.bool false), (.bool false), (.bool false), (.bool false), (.bool false), (.bool false), (.bool false), (.bool false), (.bool false), (.bool false), (.bool false), (.bool false), (.bool false), (.bool false), (.bool false), (.bool false), (.bool false), (.bool false), (.bool false), (.bool false), (.bool false), (.bool false), (.bool false), (.bool false), (.bool false), (.bool false), (.bool false), (.bool false), (.bool false), (.bool false), (.bool false), (.bool false), (.bool false), (.bool false), (.bool false), (.bool false), (.bool false), (.bool false), (.bool false), (.bool false), (.bool false), (.bool false), (.bool false), (.bool false), (.bool false), (.bool false), (.bool false), (.bool false), (.bool false), (.bool false), (.bool false), (.bool false), (.bool false), (.bool false), (.bool false), (.bool false), (.bool false), (.bool false), (.bool false), (.bool false), (.bool false), (.bool false), (.bool false), (.bool false), (.bool false), (.bool false), (.bool false), (.bool false), (.bool false), (.bool false), (.bool false), (.bool false), (.bool false), (.bool false), (.bool false), (.bool false), (.bool false), (.bool false), (.bool false), (.bool false), (.bool false), (.bool false), (.bool false), (.bool false), (.bool false), (.bool false), (.bool false), (.bool false), (.bool false), (.bool false), (.bool false), (.bool false), (.bool false), (.bool false), (.bool false), (.bool false), (.bool false), (.bool false), (.bool false), (.bool false), (.bool false), (.bool false), (.bool false), (.bool false), (.bool false), (.bool false), (.bool false), (.bool false), (.bool false), (.bool false), (.bool false), (.bool false), (.bool false), (.bool false), (.bool false), (.bool false), (.bool false), (.bool false), (.bool false), (.bool false), (.bool false), (.bool false), (.bool false), (.bool false), (.bool false), (.bool false), (.bool false), (.bool false), (.bool false), (.bool false), (.bool false), (.bool false), (.bool false), (.bool false), (.bool false), (.bool false), (.bool false), (.bool false), (.bool false), (.bool false), (.bool false), (.bool false), (.bool false), (.bool false), (.bool false), (.bool false), (.bool false), (.bool false), (.bool false), (.bool false), (.bool false), (.bool false), (.bool false), (.bool false), (.bool false), (.bool false), (.bool false), (.bool false), (.bool false), (.bool false), (.bool false), (.bool false), (.bool false), (.bool false), (.bool false), (.bool false), (.bool false), (.bool false), (.bool false), (.bool false), (.bool false), (.bool false), (.bool false), (.bool false), (.bool false), (.bool false), (.bool false), (.bool false), (.bool false), (.bool false), (.bool false), (.bool false), (.bool false), (.bool false), (.bool false), (.bool false), (.bool false), (.bool false)])), n (.store (some 256) (.t 5) (.t 32)), m 6 33] none [0, 1, 5, 6])
(.seq (.ops [m 34 6] none [0, 1, 5, 34])
(.cond (.t 34)
(.seq (.ops [m 35 0, o 36 (.call 145 [(.t 35), (.t 5)]), o 37 (.call 146 [(.t 36), (.t 5)]), m 4 37] none [4])
(.ret))
(.skip))))
(.seq (.ops [m 38 0, m 39 1, o 40 (.call 147 [(.t 38), (.t 39)]), m 41 1, o 42 (.call 148 [(.t 40), (.t 41)]), m 4 42] none [4])
(.ret))))))
def f124 : SFunc := ⟨b124, [.t 4]⟩

def b219 : SCode := (
.seq (.ops [o 1 (.box (.t 0)), o 2 (.move (k 0))] none [1])
(.seq (.seq (.ops [o 4 (.fldAddr 0 (.t 1)), o 5 (.load none (.t 4)), o 6 (.bin .lss (.t 5) (k 1)), m 7 6, ⟨some 8, .fldAddr 0 (.t 1), (some (7, false)), []⟩, ⟨some 9, .load none (.t 8), (some (7, false)), []⟩, ⟨some 10, .bin .gtr (.t 9) (k 9), (some (7, false)), []⟩, o 11 (.pick (.t 7) (.c (.bool true)) (.t 10))] none [1, 11])
(.cond (.t 11)
(.seq (.ops [o 2 (.move (k 3))] none [2])
(.ret))
(.skip)))
(.seq (.ops [o 13 (.fldAddr 0 (.t 1)), o 14 (.load none (.t 13)), o 3 (.alloc (.agg [(.str []), (.int .i64 0), (.int .i64 0), (.bool false), (.bool false)])), ⟨some 12, .call 224 [], none, [1]⟩, o 15 (.idxAddr 5 (.t 12) (.t 14)), o 16 (.load (some 5) (.t 15)), n (.store (some 5) (.t 3) (.t 16))] (some [(1, []), (2, [0]), (5, []), (0, []), (3, [3, 1, 0]), (4, [4, 3, 1, 0]), (6, [2, 5, 4, 3, 1, 0])]) [1, 3])
(.seq (.block 0 (.seq (.ops [o 18 (.fldAddr 1 (.t 1)), o 19 (.load none (.t 18)), o 20 (.fldAddr 1 (.t 3)), o 21 (.load none (.t 20)), o 22 (.bin .lss (.t 19) (.t 21)), m 23 22, ⟨some 24, .fldAddr 1 (.t 1), (some (23, false)), []⟩, ⟨some 25, .load none (.t 24), (some (23, false)), []⟩, ⟨some 26, .fldAddr 2 (.t 3), (some (23, false)), []⟩, ⟨some 27, .load none (.t 26), (some (23, false)), []⟩, ⟨some 28, .bin .gtr (.t 25) (.t 27), (some (23, false)), []⟩, o 29 (.pick (.t 23) (.c (.bool true)) (.t 28)), m 30 29, ⟨some 31, .fldAddr 0 (.t 1), (some (30, false)), []⟩, ⟨some 32, .load none (.t 31), (some (30, false)), []⟩, ⟨some 33, .bin .neq (.t 32) (k 4), (some (30, false)), []⟩, ⟨some 34, .move (.t 33), (some (30, false)), []⟩, ⟨some 35, .fldAddr 2 (.t 1), (some (34, true)), []⟩, ⟨some 36, .load none (.t 35), (some (34, true)), []⟩, ⟨some 37, .bin .neq (.t 36) (k 0), (some (34, true)), []⟩, ⟨some 38, .pick (.t 34) (.t 37) (.c (.bool false)), (some (30, false)), []⟩, o 39 (.pick (.t 30) (.c (.bool true)) (.t 38)), m 17 39] none [1, 3, 17])
(.cond (.t 17)
(.seq (.ops [o 2 (.move (k 1))] none [2])
(.ret))
(.seq (.ops [o 41 (.fldAddr 3 (.t 3)), o 42 (.load none (.t 41)), o 43 (.not (.t 42)), m 44 43, ⟨some 45, .fldAddr 3 (.t 1), (some (44, true)), []⟩, ⟨some 46, .load none (.t 45), (some (44, true)), []⟩, ⟨some 47, .bin .neq (.t 46) (k 0), (some (44, true)), []⟩, o 48 (.pick (.t 44) (.t 47) (.c (.bool false))), m 49 48, ⟨some 50, .fldAddr 3 (.t 1), (some (49, false)), []⟩, ⟨some 51, .load none (.t 50), (some (49, false)), []⟩, ⟨some 52, .bin .lss (.t 51) (.c (.int .i64 (-1))), (some (49, false)), []⟩, o 53 (.pick (.t 49) (.c (.bool true)) (.t 52)), m 54 53, ⟨some 55, .fldAddr 3 (.t 1), (some (54, false)), []⟩, ⟨some 56, .load none (.t 55), (some (54, false)), []⟩, ⟨some 57, .bin .gtr (.t 56) (k 1000), (some (54, false)), []⟩, o 58 (.pick (.t 54) (.c (.bool true)) (.t 57)), m 40 58] none [1, 3, 40])
(.cond (.t 40)
(.seq (.ops [o 2 (.move (k 1))] none [2])
(.ret))
(.seq (.ops [o 60 (.fldAddr 4 (.t 3)), o 61 (.load none (.t 60)), m 59 61] none [1, 59])
(.cond (.t 59)
(.seq (.ops [o 62 (.fldAddr 4 (.t 1)), o 63 (.load none (.t 62)), o 64 (.call 225 [(.t 63)]), m 2 64] none [2])
(.ret))
(.seq (.ops [o 66 (.fldAddr 4 (.t 1)), o 67 (.load none (.t 66)), o 68 (.len .sl (.t 67)), o 69 (.bin .gtr (.t 68) (k 0)), m 65 69] none [65])
(.cond (.t 65)
(.seq (.ops [o 2 (.move (k 1))] none [2])
(.ret))
(.skip))))))))))
(.seq (.ops [o 2 (.move (k 0))] none [2])
(.ret))))))
def f219 : SFunc := ⟨b219, [.t 2]⟩

def b294 : SCode := (
.seq (.ops [o 3 (.box (.t 1)), o 4 (.move (.c (.bool false)))] none [0, 3])
(.seq (.ops [m 6 0, o 7 (.nilck (.t 6)), o 8 (.fldAddr 1 (.t 7)), o 9 (.load none (.t 8)), o 10 (.len .sl (.t 9)), o 11 (.bin .sub (.t 10) (k 1)), m 5 11] none [0, 3, 5])
(.seq (.seq (.ops [o 12 (.fldAddr 0 (.t 3)), o 13 (.load none (.t 12))] none [0, 3, 5, 13])
(.block 0 (.seq (.ops [o 26 (.bin .eql (.t 13) (k 8)), m 25 26] none [0, 3, 5, 13, 25])
(.cond (.t 25)
(.seq (.ops [m 27 0, m 28 0, o 29 (.nilck (.t 28)), o 30 (.fldAddr 1 (.t 29)), o 31 (.load none (.t 30)), m 32 0, o 33 (.nilck (.t 32)), o 34 (.fldAddr 0 (.t 33)), o 35 (.load none (.t 34)), ⟨some 36, .call 55 [(.t 35)], none, [4]⟩, o 37 (.buildSl 1 [.nils] [(0, 1, (.t 36))]), o 38 (.append 1 (.t 31) (.t 37)), o 39 (.nilck (.t 27)), o 40 (.fldAddr 1 (.t 39)), n (.store none (.t 40) (.t 38))] (some [(0, []), (1, []), (2, [1]), (3, [2, 1]), (4, [3, 2, 1]), (5, []), (6, [5]), (7, [6, 5]), (8, [7, 6, 5]), (9, [8, 7, 6, 5]), (10, [9, 8, 7, 6, 5]), (11, [4, 3, 2, 1, 10, 9, 8, 7, 6, 5]), (12, [0, 1, 2, 3, 4, 5, 6, 7, 8, 9, 10, 11]), (13, [12, 0, 1, 2, 3, 4, 5, 6, 7, 8, 9, 10, 11]), (14, [13, 12, 0, 1, 2, 3, 4, 5, 6, 7, 8, 9, 10, 11])]) [0])
(.seq (.ops [m 41 0, o 42 (.nilck (.t 41)), o 43 (.fldAddr 1 (.t 42)), o 44 (.load none (.t 43)), o 45 (.len .sl (.t 44)), o 46 (.bin .leq (.t 45) (k 3)), m 4 46] none [4])
(.ret)))
(.seq (.ops [o 48 (.bin .eql (.t 13) (k 9)), m 47 48] none [0, 3, 5, 13, 47])
(.cond (.t 47)
(.seq (.seq (.ops [m 49 5, o 50 (.bin .lss (.t 49) (k 0)), m 51 50, ⟨some 52, .move (.t 0), (some (51, false)), []⟩, ⟨some 53, .nilck (.t 52), (some (51, false)), []⟩, ⟨some 54, .fldAddr 1 (.t 53), (some (51, false)), []⟩, ⟨some 55, .load none (.t 54), (some (51, false)), []⟩, ⟨some 56, .move (.t 5), (some (51, false)), []⟩, ⟨some 57, .idxAddr 1 (.t 55) (.t 56), (some (51, false)), []⟩, ⟨some 58, .load none (.t 57), (some (51, false)), []⟩, ⟨some 59, .move (.t 0), (some (51, false)), []⟩, ⟨some 60, .nilck (.t 59), (some (51, false)), []⟩, ⟨some 61, .fldAddr 0 (.t 60), (some (51, false)), []⟩, ⟨some 62, .load none (.t 61), (some (51, false)), []⟩, ⟨some 63, .call 61 [(.t 58), (.t 62)], (some (51, false)), []⟩, ⟨some 64, .not (.t 63), (some (51, false)), []⟩, o 65 (.pick (.t 51) (.c (.bool true)) (.t 64))] (some [(0, []), (1, [0]), (2, [1, 0]), (3, [2, 1, 0]), (4, [3, 2, 1, 0]), (5, [4, 3, 2, 1, 0]), (6, [5, 4, 3, 2, 1, 0]), (7, [2, 1, 0]), (8, [6, 5, 4, 3, 2, 1, 0, 7]), (9, [8, 6, 5, 4, 3, 2, 1, 0, 7]), (10, [2, 1, 0]), (11, [10, 2, 1, 0]), (12, [11, 10, 2, 1, 0]), (13, [12, 11, 10, 2, 1, 0]), (14, [9, 8, 6, 5, 4, 3, 2, 1, 0, 7, 13, 12, 11, 10]), (15, [14, 9, 8, 6, 5, 4, 3, 2, 1, 0, 7, 13, 12, 11, 10]), (16, [2, 1, 0, 15, 14, 9, 8, 6, 5, 4, 3, 7, 13, 12, 11, 10])]) [0, 5, 65])
(.cond (.t 65)
(.seq (.ops [o 4 (.move (.c (.bool false)))] none [4])
(.ret))
(.skip)))
(.ops [m 66 0, m 67 0, o 68 (.nilck (.t 67)), o 69 (.fldAddr 1 (.t 68)), o 70 (.load none (.t 69)), m 71 5, o 72 (.slSl 1 (.t 70) none (some (.t 71))), o 73 (.nilck (.t 66)), o 74 (.fldAddr 1 (.t 73)), n (.store none (.t 74) (.t 72))] none []))
(.seq (.ops [o 76 (.bin .eql (.t 13) (k 2)), m 75 76] none [0, 3, 13, 75])
(.cond (.t 75)
(.seq (.seq (.ops [m 77 0, o 78 (.nilck (.t 77)), o 79 (.fldAddr 0 (.t 78)), o 80 (.load none (.t 79)), o 81 (.len .sl (.t 80)), o 82 (.bin .gtr (.t 81) (k 0)), m 83 82, ⟨some 84, .move (.t 0), (some (83, true)), []⟩, ⟨some 85, .nilck (.t 84), (some (83, true)), []⟩, ⟨some 86, .fldAddr 0 (.t 85), (some (83, true)), []⟩, ⟨some 87, .load none (.t 86), (some (83, true)), []⟩, ⟨some 88, .move (.t 0), (some (83, true)), []⟩, ⟨some 89, .nilck (.t 88), (some (83, true)), []⟩, ⟨some 90, .fldAddr 0 (.t 89), (some (83, true)), []⟩, ⟨some 91, .load none (.t 90), (some (83, true)), []⟩, ⟨some 92, .len .sl (.t 91), (some (83, true)), []⟩, ⟨some 93, .bin .sub (.t 92) (k 1), (some (83, true)), []⟩, ⟨some 94, .idxAddr 1 (.t 87) (.t 93), (some (83, true)), []⟩, ⟨some 95, .load none (.t 94), (some (83, true)), []⟩, ⟨some 96, .fldAddr 1 (.t 3), (some (83, true)), []⟩, ⟨some 97, .load none (.t 96), (some (83, true)), []⟩, ⟨some 98, .bin .geq (.t 95) (.t 97), (some (83, true)), []⟩, o 99 (.pick (.t 83) (.t 98) (.c (.bool false)))] (some [(0, []), (1, [0]), (2, [1, 0]), (3, [2, 1, 0]), (4, [3, 2, 1, 0]), (5, [4, 3, 2, 1, 0]), (6, [5, 4, 3, 2, 1, 0]), (7, [6, 5, 4, 3, 2, 1, 0]), (8, [7, 6, 5, 4, 3, 2, 1, 0]), (9, [8, 7, 6, 5, 4, 3, 2, 1, 0]), (10, [9, 8, 7, 6, 5, 4, 3, 2, 1, 0]), (11, [6, 5, 4, 3, 2, 1, 0]), (12, [11, 6, 5, 4, 3, 2, 1, 0]), (13, [12, 11, 6, 5, 4, 3, 2, 1, 0]), (14, [13, 12, 11, 6, 5, 4, 3, 2, 1, 0]), (15, [14, 13, 12, 11, 6, 5, 4, 3, 2, 1, 0]), (16, [15, 14, 13, 12, 11, 6, 5, 4, 3, 2, 1, 0]), (17, [10, 9, 8, 7, 6, 5, 4, 3, 2, 1, 0, 16, 15, 14, 13, 12, 11]), (18, [17, 10, 9, 8, 7, 6, 5, 4, 3, 2, 1, 0, 16, 15, 14, 13, 12, 11]), (19, [6, 5, 4, 3, 2, 1, 0]), (20, [19, 6, 5, 4, 3, 2, 1, 0]), (21, [18, 17, 10, 9, 8, 7, 6, 5, 4, 3, 2, 1, 0, 16, 15, 14, 13, 12, 11, 20, 19]), (22, [6, 5, 4, 3, 2, 1, 0, 21, 18, 17, 10, 9, 8, 7, 16, 15, 14, 13, 12, 11, 20, 19])]) [0, 3, 99])
(.cond (.t 99)
(.seq (.ops [o 4 (.move (.c (.bool false)))] none [4])
(.ret))
(.skip)))
(.ops [m 100 0, m 101 0, o 102 (.nilck (.t 101)), o 103 (.fldAddr 0 (.t 102)), o 104 (.load none (.t 103)), o 105 (.fldAddr 1 (.t 3)), o 106 (.load none (.t 105)), o 107 (.buildSl 1 [(.int .i64 0)] [(0, 1, (.t 106))]), o 108 (.append 1 (.t 104) (.t 107)), o 109 (.nilck (.t 100)), o 110 (.fldAddr 0 (.t 109)), n (.store none (.t 110) (.t 108))] (some [(0, []), (1, []), (2, [1]), (3, [2, 1]), (4, [3, 2, 1]), (5, []), (6, [5]), (7, [6, 5]), (8, [4, 3, 2, 1, 7, 6, 5]), (9, [0, 1, 2, 3, 4, 5, 6, 7, 8]), (10, [9, 0, 1, 2, 3, 4, 5, 6, 7, 8]), (11, [10, 9, 0, 1, 2, 3, 4, 5, 6, 7, 8])]) []))
(.seq (.ops [o 112 (.bin .eql (.t 13) (k 3)), m 111 112] none [0, 3, 111])
(.cond (.t 111)
(.seq (.seq (.ops [m 113 0, o 114 (.nilck (.t 113)), o 115 (.fldAddr 0 (.t 114)), o 116 (.load none (.t 115)), o 117 (.len .sl (.t 116)), o 118 (.bin .eql (.t 117) (k 0)), m 119 118, ⟨some 120, .move (.t 0), (some (119, false)), []⟩, ⟨some 121, .nilck (.t 120), (some (119, false)), []⟩, ⟨some 122, .fldAddr 0 (.t 121), (some (119, false)), []⟩, ⟨some 123, .load none (.t 122), (some (119, false)), []⟩, ⟨some 124, .move (.t 0), (some (119, false)), []⟩, ⟨some 125, .nilck (.t 124), (some (119, false)), []⟩, ⟨some 126, .fldAddr 0 (.t 125), (some (119, false)), []⟩, ⟨some 127, .load none (.t 126), (some (119, false)), []⟩, ⟨some 128, .len .sl (.t 127), (some (119, false)), []⟩, ⟨some 129, .bin .sub (.t 128) (k 1), (some (119, false)), []⟩, ⟨some 130, .idxAddr 1 (.t 123) (.t 129), (some (119, false)), []⟩, ⟨some 131, .load none (.t 130), (some (119, false)), []⟩, ⟨some 132, .fldAddr 1 (.t 3), (some (119, false)), []⟩, ⟨some 133, .load none (.t 132), (some (119, false)), []⟩, ⟨some 134, .bin .neq (.t 131) (.t 133), (some (119, false)), []⟩, o 135 (.pick (.t 119) (.c (.bool true)) (.t 134))] (some [(0, []), (1, [0]), (2, [1, 0]), (3, [2, 1, 0]), (4, [3, 2, 1, 0]), (5, [4, 3, 2, 1, 0]), (6, [5, 4, 3, 2, 1, 0]), (7, [6, 5, 4, 3, 2, 1, 0]), (8, [7, 6, 5, 4, 3, 2, 1, 0]), (9, [8, 7, 6, 5, 4, 3, 2, 1, 0]), (10, [9, 8, 7, 6, 5, 4, 3, 2, 1, 0]), (11, [6, 5, 4, 3, 2, 1, 0]), (12, [11, 6, 5, 4, 3, 2, 1, 0]), (13, [12, 11, 6, 5, 4, 3, 2, 1, 0]), (14, [13, 12, 11, 6, 5, 4, 3, 2, 1, 0]), (15, [14, 13, 12, 11, 6, 5, 4, 3, 2, 1, 0]), (16, [15, 14, 13, 12, 11, 6, 5, 4, 3, 2, 1, 0]), (17, [10, 9, 8, 7, 6, 5, 4, 3, 2, 1, 0, 16, 15, 14, 13, 12, 11]), (18, [17, 10, 9, 8, 7, 6, 5, 4, 3, 2, 1, 0, 16, 15, 14, 13, 12, 11]), (19, [6, 5, 4, 3, 2, 1, 0]), (20, [19, 6, 5, 4, 3, 2, 1, 0]), (21, [18, 17, 10, 9, 8, 7, 6, 5, 4, 3, 2, 1, 0, 16, 15, 14, 13, 12, 11, 20, 19]), (22, [6, 5, 4, 3, 2, 1, 0, 21, 18, 17, 10, 9, 8, 7, 16, 15, 14, 13, 12, 11, 20, 19])]) [0, 135])
(.cond (.t 135)
(.seq (.ops [o 4 (.move (.c (.bool false)))] none [4])
(.ret))
(.skip)))
(.ops [m 136 0, m 137 0, o 138 (.nilck (.t 137)), o 139 (.fldAddr 0 (.t 138)), o 140 (.load none (.t 139)), m 141 0, o 142 (.nilck (.t 141)), o 143 (.fldAddr 0 (.t 142)), o 144 (.load none (.t 143)), o 145 (.len .sl (.t 144)), o 146 (.bin .sub (.t 145) (k 1)), o 147 (.slSl 1 (.t 140) none (some (.t 146))), o 148 (.nilck (.t 136)), o 149 (.fldAddr 0 (.t 148)), n (.store none (.t 149) (.t 147))] (some [(0, []), (1, []), (2, [1]), (3, [2, 1]), (4, [3, 2, 1]), (5, []), (6, [5]), (7, [6, 5]), (8, [7, 6, 5]), (9, [8, 7, 6, 5]), (10, [9, 8, 7, 6, 5]), (11, [4, 3, 2, 1, 10, 9, 8, 7, 6, 5]), (12, [0, 1, 2, 3, 4, 5, 6, 7, 8, 9, 10, 11]), (13, [12, 0, 1, 2, 3, 4, 5, 6, 7, 8, 9, 10, 11]), (14, [13, 12, 0, 1, 2, 3, 4, 5, 6, 7, 8, 9, 10, 11])]) []))
(.seq (.ops [o 14 (.load (some 5) (.t 3)), o 15 (.call 223 [(.t 14)]), o 16 (.not (.t 15)), m 17 16, ⟨some 18, .move (.t 0), (some (17, false)), []⟩, ⟨some 19, .nilck (.t 18), (some (17, false)), []⟩, ⟨some 20, .fldAddr 0 (.t 19), (some (17, false)), []⟩, ⟨some 21, .load none (.t 20), (some (17, false)), []⟩, ⟨some 22, .len .sl (.t 21), (some (17, false)), []⟩, ⟨some 23, .bin .eql (.t 22) (k 0), (some (17, false)), []⟩, o 24 (.pick (.t 17) (.c (.bool true)) (.t 23)), m 4 24] none [4])
(.ret))))))))))))
(.seq (.ops [o 4 (.move (.c (.bool true)))] none [4])
(.ret)))))
def f294 : SFunc := ⟨b294, [.t 4]⟩

def b295 : SCode := (
.seq (.ops [o 2 (.move (k 0))] none [0])
(.seq (.ops [o 3 (.alloc (.int .i64 0)), n (.store none (.t 3) (k 0))] none [0, 3])
(.seq (.ops [m 4 0, o 5 (.mkfn 301 [(.t 3)]), o 6 (.call 297 [(.t 4), (.t 5)])] none [3])
(.seq (.ops [o 7 (.load none (.t 3)), m 2 7] none [2])
(.ret)))))
def f295 : SFunc := ⟨b295, [.t 2]⟩

def b297 : SCode := (
.seq (.ops [o 8 (.buildSl 1 [(.int .i64 0)] [(0, 1, (k 1))]), m 4 8] none [0, 1, 4])
(.seq (.ops [m 9 0, o 10 (.len .sl (.t 9)), o 11 (.move (k 0))] none [1, 4, 9, 10, 11])
(.block 0 (.loop [1, 4, 9, 10, 11] (.seq (.ops [o 12 (.bin .lss (.t 11) (.t 10))] none [1, 4, 9, 10, 11, 12])
(.seq (.cond (.t 12)
(.skip)
(.exit 0))
(.seq (.block 1 (.seq (.ops [o 13 (.idxAddr 5 (.t 9) (.t 11)), o 14 (.load (some 5) (.t 13)), o 6 (.alloc (.agg [(.int .i64 0), (.int .i64 0), (.int .i64 0), (.int .i64 0), .nils])), n (.store (some 5) (.t 6) (.t 14))] none [1, 4, 6, 9, 10, 11])
(.seq (.ops [m 15 4, m 16 4, o 17 (.len .sl (.t 16)), o 18 (.bin .sub (.t 17) (k 1)), o 19 (.idxAddr 1 (.t 15) (.t 18)), o 20 (.load none (.t 19)), m 7 20] none [1, 4, 6, 7, 9, 10, 11])
(.seq (.ops [o 21 (.fldAddr 0 (.t 6)), o 22 (.load none (.t 21))] none [1, 4, 6, 7, 9, 10, 11, 22])
(.block 2 (.seq (.ops [o 28 (.bin .eql (.t 22) (k 8)), m 27 28] none [1, 4, 6, 7, 9, 10, 11, 22, 27])
(.cond (.t 27)
(.ops [m 29 4, m 30 7, o 31 (.fldAddr 1 (.t 6)), o 32 (.load none (.t 31)), o 33 (.bin .mul (.t 30) (.t 32)), o 34 (.buildSl 1 [(.int .i64 0)] [(0, 1, (.t 33))]), o 35 (.append 1 (.t 29) (.t 34)), m 4 35] none [1, 4, 9, 10, 11])
(.seq (.ops [o 37 (.bin .eql (.t 22) (k 9)), m 36 37] none [1, 4, 6, 7, 9, 10, 11, 36])
(.cond (.t 36)
(.ops [m 38 4, m 39 4, o 40 (.len .sl (.t 39)), o 41 (.bin .sub (.t 40) (k 1)), o 42 (.mx [(.t 41), (k 1)]), o 43 (.slSl 1 (.t 38) none (some (.t 42))), m 4 43] none [1, 4, 9, 10, 11])
(.ops [m 23 1, o 24 (.load (some 5) (.t 6)), m 25 7, o 26 (.callv (.t 23) [(.t 24), (.t 25)])] none [1, 4, 9, 10, 11]))))))))))
(.ops [o 44 (.bin .add (.t 11) (k 1)), m 11 44] none [1, 4, 9, 10, 11]))))))))
def f297 : SFunc := ⟨b297, []⟩

def b296 : SCode := (
.seq (.ops [o 3 (.box (.t 0))] none [1, 2, 3])
(.seq (.ops [o 5 (.fldAddr 0 (.t 3)), o 6 (.load none (.t 5)), o 7 (.bin .eql (.t 6) (k 1))] none [1, 2, 3, 7])
(.cond (.t 7)
(.ops [o 8 (.load none (.t 2)), o 9 (.fldAddr 1 (.t 3)), o 10 (.load none (.t 9)), m 11 1, o 12 (.bin .mul (.t 10) (.t 11)), o 13 (.bin .add (.t 8) (.t 12)), n (.store none (.t 2) (.t 13))] none [])
(.skip))))
def f296 : SFunc := ⟨b296, []⟩

def b235 : SCode := (
.seq (.ops [o 4 (.move (.c (.bool false)))] none [0, 1])
(.seq (.ops [m 5 0, m 6 1, o 7 (.call 238 [(.t 5), (.t 6)]), o 8 (.bin .geq (.t 7) (k 0)), m 4 8] none [4])
(.ret)))
def f235 : SFunc := ⟨b235, [.t 4]⟩

def b298 : SCode := (
.seq (.ops [o 2 (.box (.t 0)), o 3 (.move (.c (.bool false)))] none [1, 2])
(.seq (.ops [o 4 (.fldAddr 1 (.t 2)), o 5 (.load none (.t 4)), o 6 (.fldAddr 1 (.t 1)), o 7 (.load none (.t 6)), o 8 (.len .sl (.t 7)), o 9 (.bin .geq (.t 5) (.t 8)), m 3 9] none [3])
(.ret)))
def f298 : SFunc := ⟨b298, [.t 3]⟩

def b299 : SCode := (
.seq (.ops [o 2 (.move (k 0)), o 3 (.move (k 0))] none [0])
(.seq (.seq (.ops [m 4 0, o 5 (.bin .lss (.t 4) (.c (.int .i64 (-2147483648)))), m 6 5, ⟨some 7, .move (.t 0), (some (6, false)), []⟩, ⟨some 8, .bin .gtr (.t 7) (k 2147483647), (some (6, false)), []⟩, o 9 (.pick (.t 6) (.c (.bool true)) (.t 8))] none [0, 9])
(.cond (.t 9)
(.seq (.ops [o 2 (.move (k 0)), o 3 (.move (k 14))] none [2, 3])
(.ret))
(.skip)))
(.seq (.ops [m 10 0, m 2 10, o 3 (.move (k 0))] none [2, 3])
(.ret))))
def f299 : SFunc := ⟨b299, [.t 2, .t 3]⟩

def b229 : SCode := (
.seq (.ops [o 4 (.move (k 0))] none [0, 1])
(.seq (.seq (.ops [m 6 0, o 7 (.len .sl (.t 6)), o 8 (.move (k 0))] none [0, 1, 7, 8])
(.block 0 (.loop [0, 1, 7, 8] (.seq (.ops [o 9 (.bin .lss (.t 8) (.t 7))] none [0, 1, 7, 8, 9])
(.seq (.cond (.t 9)
(.skip)
(.exit 0))
(.seq (.block 1 (.seq (.ops [m 10 8, m 5 10] none [0, 1, 5, 7, 8])
(.seq (.ops [m 11 1, m 12 0, m 13 5, o 14 (.idxAddr 5 (.t 12) (.t 13)), o 15 (.load (some 5) (.t 14)), o 16 (.callv (.t 11) [(.t 15)])] none [0, 1, 5, 7, 8, 16])
(.cond (.t 16)
(.seq (.ops [m 17 5, m 4 17] none [4])
(.ret))
(.skip)))))
(.ops [o 18 (.bin .add (.t 8) (k 1)), m 8 18] none [0, 1, 7, 8])))))))
(.seq (.ops [o 4 (.move (.c (.int .i64 (-1))))] none [4])
(.ret))))
def f229 : SFunc := ⟨b229, [.t 4]⟩

def b228 : SCode := (
.seq (.ops [o 2 (.box (.t 0)), o 3 (.move (.c (.bool false)))] none [1, 2])
(.seq (.ops [o 4 (.fldAddr 0 (.t 2)), o 5 (.load none (.t 4)), o 6 (.load none (.t 1)), o 7 (.idxAddr 1 (.t 6) (k 0)), o 8 (.load none (.t 7)), o 9 (.bin .eql (.t 5) (.t 8)), m 10 9, ⟨some 11, .load none (.t 1), (some (10, true)), []⟩, ⟨some 12, .idxAddr 1 (.t 11) (k 0), (some (10, true)), []⟩, ⟨some 13, .load none (.t 12), (some (10, true)), []⟩, ⟨some 14, .bin .neq (.t 13) (.c (.str [])), (some (10, true)), []⟩, o 15 (.pick (.t 10) (.t 14) (.c (.bool false))), m 3 15] (some [(0, []), (1, [0]), (2, []), (3, [2]), (4, [3, 2]), (5, [1, 0, 4, 3, 2]), (6, [5, 1, 0, 4, 3, 2]), (7, [6, 5, 1, 0, 4, 3, 2]), (8, [7, 6, 5, 1, 0, 4, 3, 2]), (9, [8, 7, 6, 5, 1, 0, 4, 3, 2]), (10, [9, 8, 7, 6, 5, 1, 0, 4, 3, 2]), (11, [6, 5, 1, 0, 4, 3, 2, 10, 9, 8, 7]), (12, [11, 6, 5, 1, 0, 4, 3, 2, 10, 9, 8, 7])]) [3])
(.ret)))
def f228 : SFunc := ⟨b228, [.t 3]⟩

def b230 : SCode := (
.seq (.ops [o 4 (.move (.c (.bool false)))] none [0, 1])
(.seq (.seq (.ops [m 5 0] none [1, 5])
(.block 0 (.seq (.ops [o 7 (.bin .eql (.t 5) (k 4)), m 6 7] none [1, 5, 6])
(.cond (.t 6)
(.seq (.ops [m 8 1, o 9 (.len .sl (.t 8)), o 10 (.bin .eql (.t 9) (k 3)), m 4 10] none [4])
(.ret))
(.seq (.ops [o 12 (.bin .eql (.t 5) (k 5)), m 11 12] none [1, 5, 11])
(.cond (.t 11)
(.seq (.ops [m 13 1, o 14 (.len .sl (.t 13)), o 15 (.bin .eql (.t 14) (k 2)), m 4 15] none [4])
(.ret))
(.seq (.ops [o 17 (.bin .eql (.t 5) (k 7)), m 16 17] none [1, 5, 16])
(.cond (.t 16)
(.seq (.ops [m 18 1, o 19 (.len .sl (.t 18)), o 20 (.bin .geq (.t 19) (k 1)), m 21 20, ⟨some 22, .move (.t 1), (some (21, true)), []⟩, ⟨some 23, .slSl 1 (.t 22) (some (k 1)) none, (some (21, true)), []⟩, ⟨some 24, .call 236 [(.t 23)], (some (21, true)), []⟩, o 25 (.pick (.t 21) (.t 24) (.c (.bool false))), m 4 25] none [4])
(.ret))
(.seq (.ops [o 27 (.bin .eql (.t 5) (k 9)), m 26 27] none [1, 26])
(.cond (.t 26)
(.seq (.ops [m 28 1, o 29 (.len .sl (.t 28)), o 30 (.bin .eql (.t 29) (k 0)), m 4 30] none [4])
(.ret))
(.skip)))))))))))
(.seq (.ops [m 31 1, o 32 (.len .sl (.t 31)), o 33 (.bin .eql (.t 32) (k 1)), m 4 33] none [4])
(.ret))))
def f230 : SFunc := ⟨b230, [.t 4]⟩

def b231 : SCode := (
.seq (.ops [o 2 (.move (k 0))] none [0])
(.seq (.ops [m 6 0, o 7 (.call 237 [(.t 6)]), m 3 7] none [0, 3])
(.seq (.seq (.ops [m 8 0, o 9 (.nilck (.t 8)), o 10 (.fldAddr 1 (.t 9)), o 11 (.load none (.t 10)), o 12 (.bin .neq (.t 11) (k 0))] none [0, 3, 12])
(.cond (.t 12)
(.seq (.ops [o 2 (.move (k 0))] none [2])
(.ret))
(.skip)))
(.seq (.ops [m 14 3, o 15 (.call 94 [(.t 14)]), m 13 15, o 16 (.ext 0 (.t 13)), o 17 (.ext 1 (.t 13)), m 4 16, m 5 17] none [0, 4, 5])
(.seq (.ops [m 18 0, m 19 5, o 20 (.nilck (.t 18)), o 21 (.fldAddr 1 (.t 20)), n (.store none (.t 21) (.t 19))] none [4])
(.seq (.ops [m 22 4, m 2 22] none [2])
(.ret)))))))
def f231 : SFunc := ⟨b231, [.t 2]⟩

def b232 : SCode := (
.seq (.ops [o 2 (.move (k 0))] none [0])
(.seq (.seq (.ops [m 4 0, o 5 (.nilck (.t 4)), o 6 (.fldAddr 1 (.t 5)), o 7 (.load none (.t 6)), o 8 (.bin .neq (.t 7) (k 0))] none [0, 8])
(.cond (.t 8)
(.seq (.ops [m 9 0, o 10 (.call 237 [(.t 9)])] none [])
(.seq (.ops [o 2 (.move (k 0))] none [2])
(.ret)))
(.skip)))
(.seq (.seq (.ops [m 11 0, o 12 (.nilck (.t 11)), o 13 (.fldAddr 0 (.t 12)), o 14 (.load none (.t 13)), o 15 (.idxAddr 1 (.t 14) (k 0)), o 16 (.load none (.t 15)), o 17 (.bin .eql (.t 16) (.c (.str [45])))] none [0, 17])
(.cond (.t 17)
(.seq (.ops [m 18 0, o 19 (.call 237 [(.t 18)])] none [])
(.seq (.ops [o 2 (.move (.c (.int .i64 (-1))))] none [2])
(.ret)))
(.skip)))
(.seq (.ops [m 20 0, o 21 (.call 231 [(.t 20)]), m 3 21] none [0, 3])
(.seq (.seq (.ops [m 22 0, o 23 (.nilck (.t 22)), o 24 (.fldAddr 1 (.t 23)), o 25 (.load none (.t 24)), o 26 (.bin .eql (.t 25) (k 0)), m 27 26, ⟨some 28, .move (.t 3), (some (27, true)), []⟩, ⟨some 29, .bin .lss (.t 28) (k 0), (some (27, true)), []⟩, o 30 (.pick (.t 27) (.t 29) (.c (.bool false)))] none [0, 3, 30])
(.cond (.t 30)
(.ops [m 31 0, o 32 (.nilck (.t 31)), o 33 (.fldAddr 1 (.t 32)), n (.store none (.t 33) (k 2))] none [3])
(.skip)))
(.seq (.ops [m 34 3, m 2 34] none [2])
(.ret)))))))
def f232 : SFunc := ⟨b232, [.t 2]⟩

def b233 : SCode := (
.seq (.ops [o 2 (.alloc (.agg [(.bool false), (.int .i64 0), (.int .i64 0)]))] none [0, 2])
(.seq (.ops [m 5 0, o 6 (.call 237 [(.t 5)]), o 7 (.bin .eql (.t 6) (.c (.str [115, 101, 110, 100]))), o 8 (.build [(.bool false), (.int .i64 0), (.int .i64 0)] [(0, 1, (.t 7))]), o 3 (.alloc (.agg [(.bool false), (.int .i64 0), (.int .i64 0)])), n (.store (some 3) (.t 3) (.t 8))] none [0, 2, 3])
(.seq (.ops [m 9 0, o 10 (.call 231 [(.t 9)]), m 4 10] none [0, 2, 3, 4])
(.seq (.ops [m 11 4, o 12 (.mn [(.t 11), (k 8)]), o 13 (.mx [(.t 12), (.c (.int .i64 (-1)))]), o 14 (.fldAddr 1 (.t 3)), n (.store none (.t 14) (.t 13))] none [0, 2, 3])
(.seq (.seq (.ops [o 15 (.fldAddr 0 (.t 3)), o 16 (.load none (.t 15))] none [0, 2, 3, 16])
(.cond (.t 16)
(.ops [m 17 0, o 18 (.call 231 [(.t 17)]), o 19 (.fldAddr 2 (.t 3)), n (.store none (.t 19) (.t 18))] none [2, 3])
(.skip)))
(.seq (.ops [o 20 (.load (some 3) (.t 3)), n (.store (some 3) (.t 2) (.t 20))] none [2])
(.ret)))))))
def f233 : SFunc := ⟨b233, [.cell (some 3) 2]⟩

def b143 : SCode := (
.seq (.ops [o 4 (.move (.c (.str [])))] none [0, 1])
(.seq (.block 0 (.loop [0, 1] (.seq (.seq (.ops [m 5 0, o 6 (.len .str (.t 5)), o 7 (.bin .gtr (.t 6) (k 0)), m 8 7, ⟨some 9, .move (.t 0), (some (8, true)), []⟩, ⟨some 10, .idxStr (.t 9) (k 0), (some (8, true)), []⟩, ⟨some 11, .move (.t 1), (some (8, true)), []⟩, ⟨some 12, .bin .eql (.t 10) (.t 11), (some (8, true)), []⟩, o 13 (.pick (.t 8) (.t 12) (.c (.bool false)))] none [0, 1, 13])
(.cond (.t 13)
(.skip)
(.exit 0)))
(.block 1 (.ops [m 14 0, o 15 (.slStr (.t 14) (some (k 1)) none), m 0 15] none [0, 1])))))
(.seq (.ops [m 16 0, m 4 16] none [4])
(.ret))))
def f143 : SFunc := ⟨b143, [.t 4]⟩

def b142 : SCode := (
.seq (.ops [o 4 (.move (.c (.str [])))] none [0, 1])
(.seq (.block 0 (.loop [0, 1] (.seq (.seq (.ops [m 5 0, o 6 (.len .str (.t 5)), o 7 (.bin .gtr (.t 6) (k 0)), m 8 7, ⟨some 9, .move (.t 0), (some (8, true)), []⟩, ⟨some 10, .move (.t 0), (some (8, true)), []⟩, ⟨some 11, .len .str (.t 10), (some (8, true)), []⟩, ⟨some 12, .bin .sub (.t 11) (k 1), (some (8, true)), []⟩, ⟨some 13, .idxStr (.t 9) (.t 12), (some (8, true)), []⟩, ⟨some 14, .move (.t 1), (some (8, true)), []⟩, ⟨some 15, .bin .eql (.t 13) (.t 14), (some (8, true)), []⟩, o 16 (.pick (.t 8) (.t 15) (.c (.bool false)))] none [0, 1, 16])
(.cond (.t 16)
(.skip)
(.exit 0)))
(.block 1 (.ops [m 17 0, m 18 0, o 19 (.len .str (.t 18)), o 20 (.bin .sub (.t 19) (k 1)), o 21 (.slStr (.t 17) none (some (.t 20))), m 0 21] none [0, 1])))))
(.seq (.ops [m 22 0, m 4 22] none [4])
(.ret))))
def f142 : SFunc := ⟨b142, [.t 4]⟩

def b144 : SCode := (
.seq (.ops [o 2 (.alloc (.agg [(.bool false), (.bool false), (.bool false), (.bool false), (.bool false), (.bool false), (.bool false), (.bool false), (.bool false), (.bool false), (.bool false), (.bool false), (.bool false), (.bool false), (.bool false), (.bool false), (.bool false), (.bool false), (.bool false), (.bool false), (.bool false), (.bool false), (.bool false), (.bool false), (.bool false), (.bool false), (.bool false), (.bool false), (.bool false), (.bool false), (.bool false), (.bool false), (.bool false), (.bool false), (.bool false), (.bool false), (.bool false), (.bool false), (.bool false), (.bool false), (.bool false), (.bool false), (.bool false), (.bool false), (.bool false), (.bool false), (.bool false), (.bool false), (.bool false), (.bool false), (.bool false), (.bool false), (.bool false), (.bool false), (.bool false), (.bool false), (.bool false), (.bool false), (.bool false), (.bool false), (.bool false), (.bool false), (.bool false), (.bool false), (.bool false), (.bool false), (.bool false), (.bool false), (.bool false), (.bool false), (.bool false), (.bool false), (.bool false), (.bool false), (.bool false), (.bool false), (.bool false), (.bool false), (.bool false), (.bool false), (.bool false), (.bool false), (.bool false), (.bool false), (.bool false), (.bool false), (.bool false), (.bool false), (.bool false), (.bool false), (.bool false), (.bool false), (.bool false), (.bool false), (.bool false), (.bool false), (.bool false), (.bool false), (.bool false), (.bool false), (.bool false), (.bool false), (.bool false), (.bool false), (.bool false), (.bool false), (.bool false), (.bool false), (.bool false), (.bool false), (.bool false), (.bool false), (.bool false), (.bool false), (.bool false), (.bool false), (.bool false), (.bool false), (.bool false), (.bool false), (.bool false), (.bool false), (.bool false), (.bool false), (.bool false), (.bool false), (.bool false), (.bool false), (.bool false), (.bool false), (.bool false), (.bool false), (.bool false), (.bool false), (.bool false), (.bool false), (.bool false), (.bool false), (.bool false), (.bool false), (.bool false), (.bool false), (.bool false), (.bool false), (.bool false), (.bool false), (.bool false), (.bool false), (.bool false), (.bool false), (.bool false), (.bool false), (.bool false), (.bool false), (.bool false), (.bool false), (.bool false), (.bool false), (.bool false), (.bool false), (.bool false), (.bool false), (.bool false), (.bool false), (.bool false), (.bool false), (.bool false), (.bool false), (.bool false), (.bool false), (.bool false), (.bool false), (.bool false), (.bool false), (.bool false), (.bool false), (.bool false), (.bool false), (.bool false), (.bool false), (.bool false), (.bool false), (.bool false), (.bool false), (.bool false), (.bool false), (.bool false), (.bool false), (.bool false), (.bool false), (.bool false), (.bool false), (.bool false), (.bool false), (.bool false), (.bool false), (.bool false), (.bool false), (.bool false), (.bool false), (.bool false), (.bool false), (.bool false), (.bool false), (.bool false), (.bool false), (.bool false), (.bool false), (.bool false), (.bool false), (.bool false), (.bool false), (.bool false), (.bool false), (.bool false), (.bool false), (.bool false), (.bool false), (.bool false), (.bool false), (.bool false), (.bool false), (.bool false), (.bool false), (.bool false), (.bool false), (.bool false), (.bool false), (.bool false), (.bool false), (.bool false), (.bool false), (.bool false), (.bool false), (.bool false), (.bool false), (.bool false), (.bool false), (.bool false), (.bool false), (.bool false), (.bool false), (.bool false), (.bool false), (.bool false), (.bool false), (.bool false), (.bool false), (.bool false), (.bool false), (.bool false), (.bool false), (.bool false), (.bool false), (.bool false), (.bool false)])), o 3 (.move (.c (.bool false)))] none [0, 2])
(.seq (.seq (.ops [o 4 (.move (k 0))] none [0, 2, 4])
(.block 0 (.loop [0, 2, 4] (.seq (.seq (.ops [m 6 4, m 7 0, o 8 (.len .str (.t 7)), o 9 (.bin .lss (.t 6) (.t 8))] none [0, 2, 4, 9])
(.cond (.t 9)
(.skip)
(.exit 0)))
(.seq (.block 1 (.seq (.ops [m 12 0, m 13 4, o 14 (.idxStr (.t 12) (.t 13)), m 5 14] none [0, 2, 4, 5])
(.seq (.seq (.ops [m 15 5, o 16 (.bin .geq (.t 15) (.c (.int .u8 128)))] none [0, 2, 4, 5, 16])
(.cond (.t 16)
(.seq (.ops [o 17 (.load (some 256) (.t 2)), n (.store (some 256) (.t 2) (.t 17)), o 3 (.move (.c (.bool false)))] none [2, 3])
(.ret))
(.skip)))
(.ops [m 18 5, o 19 (.idxArrAddr 1 256 (.t 2) (.t 18)), n (.store none (.t 19) (.c (.bool true)))] none [0, 2, 4]))))
(.ops [m 10 4, o 11 (.bin .add (.t 10) (k 1)), m 4 11] none [0, 2, 4]))))))
(.seq (.ops [o 20 (.load (some 256) (.t 2)), n (.store (some 256) (.t 2) (.t 20)), o 3 (.move (.c (.bool true)))] none [2, 3])
(.ret))))
def f144 : SFunc := ⟨b144, [.cell (some 256) 2, .t 3]⟩

def b146 : SCode := (
.seq (.ops [o 4 (.move (.c (.str [])))] none [0, 1])
(.seq (.block 0 (.loop [0, 1] (.seq (.seq (.ops [m 5 0, o 6 (.len .str (.t 5)), o 7 (.bin .gtr (.t 6) (k 0))] none [0, 1, 7])
(.cond (.t 7)
(.skip)
(.exit 0)))
(.block 1 (.seq (.seq (.ops [m 8 1, m 9 0, o 10 (.idxStr (.t 9) (k 0)), o 11 (.call 158 [(.t 8), (.t 10)]), o 12 (.not (.t 11))] none [0, 1, 12])
(.cond (.t 12)
(.exit 0)
(.skip)))
(.ops [m 13 0, o 14 (.slStr (.t 13) (some (k 1)) none), m 0 14] none [0, 1]))))))
(.seq (.ops [m 15 0, m 4 15] none [4])
(.ret))))
def f146 : SFunc := ⟨b146, [.t 4]⟩

def b145 : SCode := (
.seq (.ops [o 4 (.move (.c (.str [])))] none [0, 1])
(.seq (.block 0 (.loop [0, 1] (.seq (.seq (.ops [m 5 0, o 6 (.len .str (.t 5)), o 7 (.bin .gtr (.t 6) (k 0))] none [0, 1, 7])
(.cond (.t 7)
(.skip)
(.exit 0)))
(.block 1 (.seq (.seq (.ops [m 8 1, m 9 0, m 10 0, o 11 (.len .str (.t 10)), o 12 (.bin .sub (.t 11) (k 1)), o 13 (.idxStr (.t 9) (.t 12)), o 14 (.call 158 [(.t 8), (.t 13)]), o 15 (.not (.t 14))] none [0, 1, 15])
(.cond (.t 15)
(.exit 0)
(.skip)))
(.ops [m 16 0, m 17 0, o 18 (.len .str (.t 17)), o 19 (.bin .sub (.t 18) (k 1)), o 20 (.slStr (.t 16) none (some (.t 19))), m 0 20] none [0, 1]))))))
(.seq (.ops [m 21 0, m 4 21] none [4])
(.ret))))
def f145 : SFunc := ⟨b145, [.t 4]⟩

def b225 : SCode := (
.seq (.ops [o 2 (.move (k 0))] none [0])
(.seq (.seq (.ops [m 5 0, o 6 (.len .sl (.t 5)), o 7 (.bin .lss (.t 6) (k 1)), m 8 7, ⟨some 9, .move (.t 0), (some (8, false)), []⟩, ⟨some 10, .len .sl (.t 9), (some (8, false)), []⟩, ⟨some 11, .bin .gtr (.t 10) (k 4), (some (8, false)), []⟩, o 12 (.pick (.t 8) (.c (.bool true)) (.t 11))] none [0, 12])
(.cond (.t 12)
(.seq (.ops [o 2 (.move (k 18))] none [2])
(.ret))
(.skip)))
(.seq (.seq (.ops [m 13 0, o 14 (.len .sl (.t 13)), o 15 (.move (k 0))] none [0, 13, 14, 15])
(.block 0 (.loop [0, 13, 14, 15] (.seq (.ops [o 16 (.bin .lss (.t 15) (.t 14))] none [0, 13, 14, 15, 16])
(.seq (.cond (.t 16)
(.skip)
(.exit 0))
(.seq (.block 1 (.seq (.ops [m 17 15, o 18 (.idxAddr 3 (.t 13) (.t 15)), o 19 (.load (some 3) (.t 18)), o 4 (.alloc (.agg [(.bool false), (.int .i64 0), (.int .i64 0)])), m 3 17, n (.store (some 3) (.t 4) (.t 19))] none [0, 3, 4, 13, 14, 15])
(.seq (.seq (.ops [o 20 (.fldAddr 1 (.t 4)), o 21 (.load none (.t 20)), o 22 (.bin .lss (.t 21) (k 0)), m 23 22, ⟨some 24, .fldAddr 1 (.t 4), (some (23, false)), []⟩, ⟨some 25, .load none (.t 24), (some (23, false)), []⟩, ⟨some 26, .bin .geq (.t 25) (k 8), (some (23, false)), []⟩, o 27 (.pick (.t 23) (.c (.bool true)) (.t 26)), m 28 27, ⟨some 29, .fldAddr 0 (.t 4), (some (28, false)), []⟩, ⟨some 30, .load none (.t 29), (some (28, false)), []⟩, ⟨some 31, .not (.t 30), (some (28, false)), []⟩, ⟨some 32, .move (.t 31), (some (28, false)), []⟩, ⟨some 33, .fldAddr 2 (.t 4), (some (32, true)), []⟩, ⟨some 34, .load none (.t 33), (some (32, true)), []⟩, ⟨some 35, .bin .neq (.t 34) (k 0), (some (32, true)), []⟩, ⟨some 36, .pick (.t 32) (.t 35) (.c (.bool false)), (some (28, false)), []⟩, o 37 (.pick (.t 28) (.c (.bool true)) (.t 36))] none [0, 3, 4, 13, 14, 15, 37])
(.cond (.t 37)
(.seq (.ops [o 2 (.move (k 1))] none [2])
(.ret))
(.skip)))
(.seq (.ops [m 38 0, m 39 3, o 40 (.slSl 3 (.t 38) none (some (.t 39))), o 41 (.mkfn 234 [(.t 4)]), o 42 (.call 235 [(.t 40), (.t 41)])] none [0, 13, 14, 15, 42])
(.cond (.t 42)
(.seq (.ops [o 2 (.move (k 6))] none [2])
(.ret))
(.skip))))))
(.ops [o 43 (.bin .add (.t 15) (k 1)), m 15 43] none [0, 13, 14, 15])))))))
(.seq (.ops [o 2 (.move (k 0))] none [2])
(.ret)))))
def f225 : SFunc := ⟨b225, [.t 2]⟩

def b55 : SCode := (
.seq (.ops [o 2 (.move (.c .nils))] none [0])
(.seq (.seq (.ops [m 3 0, o 4 (.eq false .s (.t 3) (.c .nils))] none [0, 4])
(.cond (.t 4)
(.seq (.ops [o 2 (.move (.c .nils))] none [2])
(.ret))
(.skip)))
(.seq (.ops [o 5 (.buildSl 0 [] []), m 6 0, o 7 (.append 1 (.t 5) (.t 6)), m 2 7] none [2])
(.ret))))
def f55 : SFunc := ⟨b55, [.t 2]⟩

def b61 : SCode := (
.seq (.ops [o 4 (.move (.c (.bool false)))] none [0, 1])
(.seq (.seq (.ops [m 6 0, o 7 (.len .sl (.t 6)), m 8 1, o 9 (.len .sl (.t 8)), o 10 (.bin .neq (.t 7) (.t 9))] none [0, 1, 10])
(.cond (.t 10)
(.seq (.ops [o 4 (.move (.c (.bool false)))] none [4])
(.ret))
(.skip)))
(.seq (.seq (.ops [m 11 0, o 12 (.len .sl (.t 11)), o 13 (.move (k 0))] none [0, 1, 12, 13])
(.block 0 (.loop [0, 1, 12, 13] (.seq (.ops [o 14 (.bin .lss (.t 13) (.t 12))] none [0, 1, 12, 13, 14])
(.seq (.cond (.t 14)
(.skip)
(.exit 0))
(.seq (.block 1 (.seq (.ops [m 15 13, m 5 15] none [0, 1, 5, 12, 13])
(.seq (.ops [m 16 0, m 17 5, o 18 (.idxAddr 1 (.t 16) (.t 17)), o 19 (.load none (.t 18)), m 20 1, m 21 5, o 22 (.idxAddr 1 (.t 20) (.t 21)), o 23 (.load none (.t 22)), o 24 (.bin .neq (.t 19) (.t 23))] (some [(0, []), (1, []), (2, [0, 1]), (3, [2, 0, 1]), (4, []), (5, []), (6, [4, 5]), (7, [6, 4, 5]), (8, [3, 2, 0, 1, 7, 6, 4, 5])]) [0, 1, 12, 13, 24])
(.cond (.t 24)
(.seq (.ops [o 4 (.move (.c (.bool false)))] none [4])
(.ret))
(.skip)))))
(.ops [o 25 (.bin .add (.t 13) (k 1)), m 13 25] none [0, 1, 12, 13])))))))
(.seq (.ops [o 4 (.move (.c (.bool true)))] none [4])
(.ret)))))
def f61 : SFunc := ⟨b61, [.t 4]⟩

def b223 : SCode := (
.seq (.ops [o 1 (.box (.t 0)), o 2 (.move (.c (.bool false)))] none [1])
(.seq (.ops [o 3 (.fldAddr 0 (.t 1)), o 4 (.load none (.t 3)), o 5 (.bin .eql (.t 4) (k 4)), m 6 5, ⟨some 7, .fldAddr 0 (.t 1), (some (6, false)), []⟩, ⟨some 8, .load none (.t 7), (some (6, false)), []⟩, ⟨some 9, .bin .eql (.t 8) (k 5), (some (6, false)), []⟩, o 10 (.pick (.t 6) (.c (.bool true)) (.t 9)), m 11 10, ⟨some 12, .fldAddr 0 (.t 1), (some (11, false)), []⟩, ⟨some 13, .load none (.t 12), (some (11, false)), []⟩, ⟨some 14, .bin .eql (.t 13) (k 7), (some (11, false)), []⟩, o 15 (.pick (.t 11) (.c (.bool true)) (.t 14)), m 16 15, ⟨some 17, .fldAddr 3 (.t 1), (some (16, true)), []⟩, ⟨some 18, .load none (.t 17), (some (16, true)), []⟩, ⟨some 19, .bin .neq (.t 18) (k 0), (some (16, true)), []⟩, o 20 (.pick (.t 16) (.t 19) (.c (.bool false))), m 2 20] none [2])
(.ret)))
def f223 : SFunc := ⟨b223, [.t 2]⟩

def b301 : SCode := (
.seq (.ops [o 3 (.box (.t 0))] none [1, 2])
(.ops [o 5 (.load none (.t 2)), m 6 1, o 7 (.bin .add (.t 5) (.t 6)), n (.store none (.t 2) (.t 7))] none []))
def f301 : SFunc := ⟨b301, []⟩

def b238 : SCode := (
.seq (.ops [o 4 (.move (k 0))] none [0, 1])
(.seq (.seq (.ops [m 6 0, o 7 (.len .sl (.t 6)), o 8 (.move (k 0))] none [0, 1, 7, 8])
(.block 0 (.loop [0, 1, 7, 8] (.seq (.ops [o 9 (.bin .lss (.t 8) (.t 7))] none [0, 1, 7, 8, 9])
(.seq (.cond (.t 9)
(.skip)
(.exit 0))
(.seq (.block 1 (.seq (.ops [m 10 8, m 5 10] none [0, 1, 5, 7, 8])
(.seq (.ops [m 11 1, m 12 0, m 13 5, o 14 (.idxAddr 3 (.t 12) (.t 13)), o 15 (.load (some 3) (.t 14)), o 16 (.callv (.t 11) [(.t 15)])] none [0, 1, 5, 7, 8, 16])
(.cond (.t 16)
(.seq (.ops [m 17 5, m 4 17] none [4])
(.ret))
(.skip)))))
(.ops [o 18 (.bin .add (.t 8) (k 1)), m 8 18] none [0, 1, 7, 8])))))))
(.seq (.ops [o 4 (.move (.c (.int .i64 (-1))))] none [4])
(.ret))))
def f238 : SFunc := ⟨b238, [.t 4]⟩

def b236 : SCode := (
.seq (.ops [o 2 (.move (.c (.bool false)))] none [0])
(.seq (.skip)
(.seq (.block 0 (.loop [0] (.seq (.seq (.ops [m 4 0, o 5 (.len .sl (.t 4)), o 6 (.bin .gtr (.t 5) (k 0))] none [0, 6])
(.cond (.t 6)
(.skip)
(.exit 0)))
(.block 1 (.seq (.ops [o 7 (.mkmap), n (.mapup .s (.t 7) (.c (.str [115, 101, 110, 100])) (k 3)), n (.mapup .s (.t 7) (.c (.str [114, 101, 99, 118])) (k 2)), m 8 7, m 9 0, o 10 (.idxAddr 1 (.t 9) (k 0)), o 11 (.load none (.t 10)), o 12 (.lookup false .s (.int .i64 0) (.t 8) (.t 11)), m 3 12] none [0, 3])
(.seq (.seq (.ops [m 13 3, o 14 (.bin .eql (.t 13) (k 0)), m 15 14, ⟨some 16, .move (.t 3), (some (15, false)), []⟩, ⟨some 17, .move (.t 0), (some (15, false)), []⟩, ⟨some 18, .len .sl (.t 17), (some (15, false)), []⟩, ⟨some 19, .bin .gtr (.t 16) (.t 18), (some (15, false)), []⟩, o 20 (.pick (.t 15) (.c (.bool true)) (.t 19))] none [0, 3, 20])
(.cond (.t 20)
(.seq (.ops [o 2 (.move (.c (.bool false)))] none [2])
(.ret))
(.skip)))
(.seq (.ops [m 21 0, m 22 3, o 23 (.slSl 1 (.t 21) (some (.t 22)) none), m 0 23] none [0])
(.exit 1))))))))
(.seq (.ops [o 2 (.move (.c (.bool true)))] none [2])
(.ret)))))
def f236 : SFunc := ⟨b236, [.t 2]⟩

def b237 : SCode := (
.seq (.ops [o 2 (.move (.c (.str [])))] none [0])
(.seq (.ops [m 4 0, o 5 (.nilck (.t 4)), o 6 (.fldAddr 0 (.t 5)), o 7 (.load none (.t 6)), o 8 (.idxAddr 1 (.t 7) (k 0)), o 9 (.load none (.t 8)), m 3 9] none [0, 3])
(.seq (.ops [m 10 0, m 11 0, o 12 (.nilck (.t 11)), o 13 (.fldAddr 0 (.t 12)), o 14 (.load none (.t 13)), o 15 (.slSl 1 (.t 14) (some (k 1)) none), o 16 (.nilck (.t 10)), o 17 (.fldAddr 0 (.t 16)), n (.store none (.t 17) (.t 15))] none [3])
(.seq (.ops [m 18 3, m 2 18] none [2])
(.ret)))))
def f237 : SFunc := ⟨b237, [.t 2]⟩

def b158 : SCode := (
.seq (.ops [o 4 (.move (.c (.bool false)))] none [0, 1])
(.seq (.ops [m 5 0, m 6 1, o 7 (.nilck (.t 5)), o 8 (.idxArrAddr 1 256 (.t 7) (.t 6)), o 9 (.load none (.t 8)), m 4 9] none [4])
(.ret)))
def f158 : SFunc := ⟨b158, [.t 4]⟩

def b234 : SCode := (
.seq (.ops [o 2 (.box (.t 0)), o 3 (.move (.c (.bool false)))] none [1, 2])
(.seq (.ops [o 4 (.fldAddr 1 (.t 2)), o 5 (.load none (.t 4)), o 6 (.fldAddr 1 (.t 1)), o 7 (.load none (.t 6)), o 8 (.bin .eql (.t 5) (.t 7)), m 3 8] none [3])
(.ret)))
def f234 : SFunc := ⟨b234, [.t 3]⟩

def lk {α : Type} : List (Nat × α) → Nat → Option α
| [], _ => none
| (k, v) :: r, i => match Nat.beq i k with | true => some v | false => lk r i

def pgl : List (Nat × SFunc) := [
(258, f258),
(247, f247),
(250, f250),
(252, f252),
(253, f253),
(10, f10),
(51, f51),
(259, f259),
(52, f52),
(265, f265),
(99, f99),
(266, f266),
(221, f221),
(90, f90),
(267, f267),
(63, f63),
(53, f53),
(66, f66),
(270, f270),
(272, f272),
(271, f271),
(273, f273),
(224, f224),
(226, f226),
(227, f227),
(92, f92),
(274, f274),
(275, f275),
(276, f276),
(278, f278),
(277, f277),
(279, f279),
(33, f33),
(32, f32),
(62, f62),
(97, f97),
(285, f285),
(286, f286),
(287, f287),
(288, f288),
(289, f289),
(290, f290),
(94, f94),
(291, f291),
(222, f222),
(124, f124),
(219, f219),
(294, f294),
(295, f295),
(297, f297),
(296, f296),
(235, f235),
(298, f298),
(299, f299),
(229, f229),
(228, f228),
(230, f230),
(231, f231),
(232, f232),
(233, f233),
(143, f143),
(142, f142),
(144, f144),
(146, f146),
(145, f145),
(225, f225),
(55, f55),
(61, f61),
(223, f223),
(301, f301),
(238, f238),
(236, f236),
(237, f237),
(158, f158),
(234, f234)]

def pg : Prog := lk pgl

theorem pg258 : pg 258 = some f258 := rfl
theorem pg247 : pg 247 = some f247 := rfl
theorem pg250 : pg 250 = some f250 := rfl
theorem pg252 : pg 252 = some f252 := rfl
theorem pg253 : pg 253 = some f253 := rfl
theorem pg10 : pg 10 = some f10 := rfl
theorem pg51 : pg 51 = some f51 := rfl
theorem pg259 : pg 259 = some f259 := rfl
theorem pg52 : pg 52 = some f52 := rfl
theorem pg265 : pg 265 = some f265 := rfl
theorem pg99 : pg 99 = some f99 := rfl
theorem pg266 : pg 266 = some f266 := rfl
theorem pg221 : pg 221 = some f221 := rfl
theorem pg90 : pg 90 = some f90 := rfl
theorem pg267 : pg 267 = some f267 := rfl
theorem pg63 : pg 63 = some f63 := rfl
theorem pg53 : pg 53 = some f53 := rfl
theorem pg66 : pg 66 = some f66 := rfl
theorem pg270 : pg 270 = some f270 := rfl
theorem pg272 : pg 272 = some f272 := rfl
theorem pg271 : pg 271 = some f271 := rfl
theorem pg273 : pg 273 = some f273 := rfl
theorem pg224 : pg 224 = some f224 := rfl
theorem pg226 : pg 226 = some f226 := rfl
theorem pg227 : pg 227 = some f227 := rfl
theorem pg92 : pg 92 = some f92 := rfl
theorem pg274 : pg 274 = some f274 := rfl
theorem pg275 : pg 275 = some f275 := rfl
theorem pg276 : pg 276 = some f276 := rfl
theorem pg278 : pg 278 = some f278 := rfl
theorem pg277 : pg 277 = some f277 := rfl
theorem pg279 : pg 279 = some f279 := rfl
theorem pg33 : pg 33 = some f33 := rfl
theorem pg32 : pg 32 = some f32 := rfl
theorem pg62 : pg 62 = some f62 := rfl
theorem pg97 : pg 97 = some f97 := rfl
theorem pg285 : pg 285 = some f285 := rfl
theorem pg286 : pg 286 = some f286 := rfl
theorem pg287 : pg 287 = some f287 := rfl
theorem pg288 : pg 288 = some f288 := rfl
theorem pg289 : pg 289 = some f289 := rfl
theorem pg290 : pg 290 = some f290 := rfl
theorem pg94 : pg 94 = some f94 := rfl
theorem pg291 : pg 291 = some f291 := rfl
theorem pg222 : pg 222 = some f222 := rfl
theorem pg124 : pg 124 = some f124 := rfl
theorem pg219 : pg 219 = some f219 := rfl
theorem pg294 : pg 294 = some f294 := rfl
theorem pg295 : pg 295 = some f295 := rfl
theorem pg297 : pg 297 = some f297 := rfl
theorem pg296 : pg 296 = some f296 := rfl
theorem pg235 : pg 235 = some f235 := rfl
theorem pg298 : pg 298 = some f298 := rfl
theorem pg299 : pg 299 = some f299 := rfl
theorem pg229 : pg 229 = some f229 := rfl
theorem pg228 : pg 228 = some f228 := rfl
theorem pg230 : pg 230 = some f230 := rfl
theorem pg231 : pg 231 = some f231 := rfl
theorem pg232 : pg 232 = some f232 := rfl
theorem pg233 : pg 233 = some f233 := rfl
theorem pg143 : pg 143 = some f143 := rfl
theorem pg142 : pg 142 = some f142 := rfl
theorem pg144 : pg 144 = some f144 := rfl
theorem pg146 : pg 146 = some f146 := rfl
theorem pg145 : pg 145 = some f145 := rfl
theorem pg225 : pg 225 = some f225 := rfl
theorem pg55 : pg 55 = some f55 := rfl
theorem pg61 : pg 61 = some f61 := rfl
theorem pg223 : pg 223 = some f223 := rfl
theorem pg301 : pg 301 = some f301 := rfl
theorem pg238 : pg 238 = some f238 := rfl
theorem pg236 : pg 236 = some f236 := rfl
theorem pg237 : pg 237 = some f237 := rfl
theorem pg158 : pg 158 = some f158 := rfl
theorem pg234 : pg 234 = some f234 := rfl

end Go.Cl.S
