/-
  The functions' clean texts, printed by a program out of the loaded ones.
-/
import Derived.Test.YtlndogibbgibgaaGreatDoorM1
namespace Go.Cl.S
open Go Go.Cl

def m (a b : Nat) : SOper := ⟨some a, .move (.t b), none, []⟩
def o (a : Nat) (x : SOp) : SOper := ⟨some a, x, none, []⟩
def n (x : SOp) : SOper := ⟨none, x, none, []⟩
def k (x : Int) : Opd := .c (.int .i64 x)
@[simp] theorem m_eq (a b : Nat) : m a b = ⟨some a, .move (.t b), none, []⟩ := rfl
@[simp] theorem o_eq (a : Nat) (x : SOp) : o a x = ⟨some a, x, none, []⟩ := rfl
@[simp] theorem n_eq (x : SOp) : n x = ⟨none, x, none, []⟩ := rfl
@[simp] theorem k_eq (x : Int) : k x = .c (.int .i64 x) := rfl

def b482 : SCode := (
.seq (.ops [m 10 1, m 11 10] none [0, 2, 3, 11])
(.block 0 (.loop [0, 2, 3, 11] (.seq (.ops [m 12 11, o 13 (.ext 0 (.t 12))] none [0, 2, 3, 11, 13])
(.seq (.cond (.t 13)
(.skip)
(.exit 0))
(.block 1 (.seq (.ops [m 14 11, o 15 (.ext 0 (.t 14)), o 16 (.ext 1 (.t 14)), m 8 15, m 9 16] none [0, 2, 3, 8, 9, 11])
(.block 2 (.seq (.ops [m 18 8, m 19 3, o 20 (.bin .eql (.t 18) (.t 19)), m 17 20] none [0, 2, 3, 8, 9, 11, 17])
(.cond (.t 17)
(.ops [m 21 0, m 22 9, o 23 (.idxAddr 7 (.t 21) (.t 22)), o 24 (.fldAddr 5 (.t 23)), o 25 (.load none (.t 24)), o 26 (.bin .add (.t 25) (k 1)), o 27 (.idxAddr 7 (.t 21) (.t 22)), o 28 (.fldAddr 5 (.t 27)), n (.store none (.t 28) (.t 26))] none [0, 2, 3, 11])
(.seq (.ops [m 30 2, m 31 3, o 32 (.idxAddr 1 (.t 30) (.t 31)), o 33 (.load none (.t 32)), m 34 2, m 35 8, o 36 (.idxAddr 1 (.t 34) (.t 35)), o 37 (.load none (.t 36)), o 38 (.bin .lss (.t 33) (.t 37)), m 29 38] (some [(0, []), (1, []), (2, [0, 1]), (3, [2, 0, 1]), (4, []), (5, []), (6, [4, 5]), (7, [6, 4, 5]), (8, [3, 2, 0, 1, 7, 6, 4, 5]), (9, [8, 3, 2, 0, 1, 7, 6, 4, 5])]) [0, 2, 3, 9, 11, 29])
(.cond (.t 29)
(.ops [m 39 0, m 40 9, o 41 (.idxAddr 7 (.t 39) (.t 40)), o 42 (.fldAddr 6 (.t 41)), o 43 (.load none (.t 42)), o 44 (.bin .add (.t 43) (k 1)), o 45 (.idxAddr 7 (.t 39) (.t 40)), o 46 (.fldAddr 6 (.t 45)), n (.store none (.t 46) (.t 44))] none [0, 2, 3, 11])
(.skip)))))))))))))
def f482 : SFunc := ⟨b482, []⟩

def b332 : SCode := (
.seq (.ops [o 3 (.box (.t 0)), o 4 (.box (.t 1)), o 5 (.box (.t 2)), o 6 (.move (.c .nils))] none [3, 4, 5, 10])
(.seq (.ops [o 11 (.load none (.t 3)), o 12 (.call 308 [(.t 11)]), o 7 (.alloc .nils), n (.store none (.t 7) (.t 12))] none [3, 4, 5, 7, 10])
(.seq (.ops [o 13 (.load none (.t 4)), o 14 (.load none (.t 5)), o 15 (.build [(.int .i64 0), (.int .i64 0), (.int .i64 0), (.int .i64 0), (.int .i64 0), (.int .i64 0), (.int .i64 0)] [(0, 1, (.t 13)), (1, 1, (k 7)), (2, 1, (.t 14))]), o 16 (.buildSl 1 [(.int .i64 0), (.int .i64 0), (.int .i64 0), (.int .i64 0), (.int .i64 0), (.int .i64 0), (.int .i64 0)] [(0, 7, (.t 15))]), o 8 (.alloc .nils), n (.store none (.t 8) (.t 16))] none [3, 4, 5, 7, 8, 10])
(.seq (.seq (.ops [o 17 (.load none (.t 3)), o 18 (.nilck (.t 17)), o 19 (.fldAddr 5 (.t 18)), o 20 (.load none (.t 19)), o 21 (.load none (.t 5)), o 22 (.idxAddr 10 (.t 20) (.t 21)), o 23 (.fldAddr 9 (.t 22)), o 24 (.load none (.t 23)), o 25 (.call 55 [(.t 24)]), o 26 (.call 377 [(.t 25)])] (some [(0, []), (1, [0]), (2, [1, 0]), (3, [2, 1, 0]), (4, []), (5, [3, 2, 1, 0, 4]), (6, [5, 3, 2, 1, 0, 4]), (7, [6, 5, 3, 2, 1, 0, 4]), (8, [7, 6, 5, 3, 2, 1, 0, 4]), (9, [8, 7, 6, 5, 3, 2, 1, 0, 4])]) [3, 4, 5, 7, 8, 10, 26])
(.block 0 (.block 1 (.ops [o 29 (.load none (.t 8)), o 30 (.load none (.t 3)), o 31 (.load none (.t 4)), o 32 (.load none (.t 5)), m 33 10, o 34 (.load none (.t 7)), ⟨some 35, .call 328 [(.t 30), (.t 31), (.t 32), (.t 33), (.t 34)], none, [0]⟩, o 36 (.append 7 (.t 29) (.t 35)), n (.store none (.t 8) (.t 36))] (some [(0, []), (1, []), (2, []), (3, []), (4, []), (5, []), (6, [1, 2, 3, 4, 5]), (7, [0, 6, 1, 2, 3, 4, 5]), (8, [7, 0, 6, 1, 2, 3, 4, 5])]) [3, 5, 8]))))
(.seq (.ops [o 37 (.load none (.t 3)), o 38 (.nilck (.t 37)), o 39 (.fldAddr 5 (.t 38)), o 40 (.load none (.t 39)), o 41 (.load none (.t 5)), o 42 (.build [(.bool false), .nils, (.int .i64 0), (.int .i64 0), (.int .i64 0), (.int .i64 0), (.int .i64 0), (.int .i64 0), (.bool false), .nils] []), o 43 (.idxAddr 10 (.t 40) (.t 41)), n (.store (some 10) (.t 43) (.t 42))] (some [(0, []), (1, [0]), (2, [1, 0]), (3, [2, 1, 0]), (4, []), (5, []), (6, [3, 2, 1, 0, 4, 5]), (7, [6, 3, 2, 1, 0, 4, 5])]) [8])
(.seq (.ops [o 44 (.load none (.t 8)), m 6 44] none [6])
(.ret)))))))
def f332 : SFunc := ⟨b332, [.t 6]⟩

def b475 : SCode := (
.seq (.ops [o 8 (.move (.c (.bool false)))] none [0, 1, 2, 3])
(.seq (.seq (.ops [o 24 (.call 476 []), o 25 (.not (.t 24))] none [0, 1, 2, 3, 25])
(.cond (.t 25)
(.seq (.ops [o 8 (.move (.c (.bool false)))] none [8])
(.ret))
(.skip)))
(.seq (.ops [m 26 0, o 27 (.bin .rem (.t 26) (.c (.int .u8 12))), o 28 (.conv .i64 (.t 27)), o 29 (.bin .add (k 1) (.t 28)), m 9 29] none [1, 2, 3, 9])
(.seq (.ops [m 30 1, o 31 (.bin .rem (.t 30) (.c (.int .u8 15))), o 32 (.conv .i64 (.t 31)), o 33 (.bin .add (k 1) (.t 32)), m 10 33] none [2, 3, 9, 10])
(.seq (.ops [m 34 9, m 35 10, o 36 (.mx [(.t 34), (.t 35)]), m 37 2, o 38 (.bin .rem (.t 37) (.c (.int .u8 9))), o 39 (.conv .i64 (.t 38)), o 40 (.bin .add (.t 36) (.t 39)), m 11 40] none [3, 9, 10, 11])
(.seq (.ops [m 41 11, m 42 11, m 43 10, m 44 9, o 45 (.build [(.int .i64 0), (.int .i64 0), (.int .i64 0), (.int .i64 0), .nils] [(0, 1, (k 1)), (1, 1, (.t 44))]), o 46 (.buildSl 1 [(.int .i64 0), (.int .i64 0), (.int .i64 0), (.int .i64 0), .nils] [(0, 5, (.t 45))]), o 47 (.build [(.str []), (.int .i64 0), (.int .i64 0), (.int .i64 0), .nils] [(0, 1, (.c (.str [97]))), (1, 1, (.t 41)), (2, 1, (.t 42)), (3, 1, (.t 43)), (4, 1, (.t 46))]), o 48 (.buildSl 1 [(.str []), (.int .i64 0), (.int .i64 0), (.int .i64 0), .nils] [(0, 5, (.t 47))]), o 49 (.build [(.int .i64 0), .nils, .nils] [(2, 1, (.t 48))]), o 12 (.alloc (.agg [(.int .i64 0), .nils, .nils])), n (.store (some 3) (.t 12) (.t 49))] none [3, 9, 10, 11, 12])
(.seq (.ops [m 50 3, o 51 (.conv .i64 (.t 50)), o 52 (.mksl [.nils] (.t 51) (.t 51)), m 13 52] none [3, 9, 10, 11, 12, 13])
(.seq (.seq (.ops [o 14 (.move (k 0))] none [3, 9, 10, 11, 12, 13, 14])
(.block 0 (.loop [3, 9, 10, 11, 12, 13, 14] (.seq (.seq (.ops [m 53 14, m 54 13, o 55 (.len .sl (.t 54)), o 56 (.bin .lss (.t 53) (.t 55))] none [3, 9, 10, 11, 12, 13, 14, 56])
(.cond (.t 56)
(.skip)
(.exit 0)))
(.seq (.block 1 (.ops [m 59 13, m 60 14, o 61 (.buildSl 1 [(.int .i64 0)] [(0, 1, (k 0))]), o 62 (.idxAddr 1 (.t 59) (.t 60)), n (.store none (.t 62) (.t 61))] none [3, 9, 10, 11, 12, 13, 14]))
(.ops [m 57 14, o 58 (.bin .add (.t 57) (k 1)), m 14 58] none [3, 9, 10, 11, 12, 13, 14]))))))
(.seq (.ops [o 64 (.load (some 3) (.t 12)), m 65 13, o 66 (.call 436 [(.t 64), (.t 65)]), m 63 66, o 67 (.ext 0 (.t 63)), o 68 (.ext 1 (.t 63)), m 15 67, m 16 68] none [3, 9, 10, 11, 12, 15, 16])
(.seq (.seq (.ops [m 69 16, o 70 (.bin .neq (.t 69) (k 0))] none [3, 9, 10, 11, 12, 15, 70])
(.cond (.t 70)
(.seq (.ops [o 8 (.move (.c (.bool false)))] none [8])
(.ret))
(.skip)))
(.seq (.ops [o 71 (.load (some 3) (.t 12)), m 72 15, o 73 (.call 477 [(.t 71), (.t 72)]), m 17 73] none [3, 9, 10, 11, 12, 17])
(.seq (.seq (.ops [m 74 17, o 75 (.len .sl (.t 74)), m 76 3, o 77 (.conv .i64 (.t 76)), m 78 11, o 79 (.bin .add (.t 77) (.t 78)), o 80 (.bin .sub (.t 79) (k 1)), m 81 11, o 82 (.bin .quo (.t 80) (.t 81)), o 83 (.bin .neq (.t 75) (.t 82))] none [3, 9, 10, 11, 12, 17, 83])
(.cond (.t 83)
(.seq (.ops [o 8 (.move (.c (.bool false)))] none [8])
(.ret))
(.skip)))
(.seq (.ops [m 84 9, m 85 10, o 86 (.mn [(.t 84), (.t 85)]), m 18 86] none [3, 9, 10, 11, 12, 17, 18])
(.seq (.seq (.ops [o 19 (.move (k 0))] none [3, 9, 10, 11, 12, 17, 18, 19])
(.block 2 (.loop [3, 9, 10, 11, 12, 17, 18, 19] (.seq (.seq (.ops [m 87 19, m 88 17, o 89 (.len .sl (.t 88)), o 90 (.bin .lss (.t 87) (.t 89))] none [3, 9, 10, 11, 12, 17, 18, 19, 90])
(.cond (.t 90)
(.skip)
(.exit 2)))
(.seq (.block 3 (.seq (.ops [m 93 17, m 94 19, o 95 (.idxAddr 7 (.t 93) (.t 94)), o 96 (.load (some 7) (.t 95)), o 20 (.alloc (.agg [(.int .i64 0), (.int .i64 0), (.int .i64 0), (.bool false), (.bool false), (.int .i64 0), (.int .i64 0)])), n (.store (some 7) (.t 20) (.t 96))] none [3, 9, 10, 11, 12, 17, 18, 19, 20])
(.seq (.ops [m 97 19, m 98 11, o 99 (.bin .mul (.t 97) (.t 98)), m 21 99] none [3, 9, 10, 11, 12, 17, 18, 19, 20, 21])
(.seq (.ops [m 100 3, o 101 (.conv .i64 (.t 100)), m 102 21, o 103 (.bin .sub (.t 101) (.t 102)), m 22 103] none [3, 9, 10, 11, 12, 17, 18, 19, 20, 21, 22])
(.seq (.seq (.ops [o 104 (.fldAddr 0 (.t 20)), o 105 (.load none (.t 104)), o 106 (.bin .neq (.t 105) (k 0)), m 107 106, ⟨some 108, .fldAddr 1 (.t 20), (some (107, false)), []⟩, ⟨some 109, .load none (.t 108), (some (107, false)), []⟩, ⟨some 110, .move (.t 21), (some (107, false)), []⟩, ⟨some 111, .bin .neq (.t 109) (.t 110), (some (107, false)), []⟩, o 112 (.pick (.t 107) (.c (.bool true)) (.t 111)), m 113 112, ⟨some 114, .fldAddr 6 (.t 20), (some (113, false)), []⟩, ⟨some 115, .load none (.t 114), (some (113, false)), []⟩, ⟨some 116, .bin .neq (.t 115) (k 0), (some (113, false)), []⟩, o 117 (.pick (.t 113) (.c (.bool true)) (.t 116)), m 118 117, ⟨some 119, .fldAddr 5 (.t 20), (some (118, false)), []⟩, ⟨some 120, .load none (.t 119), (some (118, false)), []⟩, ⟨some 121, .move (.t 18), (some (118, false)), []⟩, ⟨some 122, .move (.t 22), (some (118, false)), []⟩, ⟨some 123, .mn [(.t 121), (.t 122)], (some (118, false)), []⟩, ⟨some 124, .bin .neq (.t 120) (.t 123), (some (118, false)), []⟩, o 125 (.pick (.t 118) (.c (.bool true)) (.t 124)), m 126 125, ⟨some 127, .fldAddr 3 (.t 20), (some (126, false)), []⟩, ⟨some 128, .load none (.t 127), (some (126, false)), []⟩, ⟨some 129, .move (.t 22), (some (126, false)), []⟩, ⟨some 130, .move (.t 18), (some (126, false)), []⟩, ⟨some 131, .bin .geq (.t 129) (.t 130), (some (126, false)), []⟩, ⟨some 132, .eq true .b (.t 128) (.t 131), (some (126, false)), []⟩, o 133 (.pick (.t 126) (.c (.bool true)) (.t 132))] none [3, 9, 10, 11, 12, 17, 18, 19, 20, 21, 133])
(.cond (.t 133)
(.seq (.ops [o 8 (.move (.c (.bool false)))] none [8])
(.ret))
(.skip)))
(.seq (.ops [o 134 (.fldAddr 3 (.t 20)), o 135 (.load none (.t 134)), m 136 135, ⟨some 137, .fldAddr 2 (.t 20), (some (136, true)), []⟩, ⟨some 138, .load none (.t 137), (some (136, true)), []⟩, ⟨some 139, .move (.t 21), (some (136, true)), []⟩, ⟨some 140, .move (.t 18), (some (136, true)), []⟩, ⟨some 141, .bin .add (.t 139) (.t 140), (some (136, true)), []⟩, ⟨some 142, .bin .neq (.t 138) (.t 141), (some (136, true)), []⟩, ⟨some 143, .move (.t 142), (some (136, true)), []⟩, ⟨some 144, .fldAddr 4 (.t 20), (some (143, false)), []⟩, ⟨some 145, .load none (.t 144), (some (143, false)), []⟩, ⟨some 146, .move (.t 9), (some (143, false)), []⟩, ⟨some 147, .move (.t 10), (some (143, false)), []⟩, ⟨some 148, .bin .gtr (.t 146) (.t 147), (some (143, false)), []⟩, ⟨some 149, .eq true .b (.t 145) (.t 148), (some (143, false)), []⟩, ⟨some 150, .pick (.t 143) (.c (.bool true)) (.t 149), (some (136, true)), []⟩, o 151 (.pick (.t 136) (.t 150) (.c (.bool false))), m 152 151, ⟨some 153, .fldAddr 3 (.t 20), (some (152, false)), []⟩, ⟨some 154, .load none (.t 153), (some (152, false)), []⟩, ⟨some 155, .not (.t 154), (some (152, false)), []⟩, ⟨some 156, .move (.t 155), (some (152, false)), []⟩, ⟨some 157, .fldAddr 2 (.t 20), (some (156, true)), []⟩, ⟨some 158, .load none (.t 157), (some (156, true)), []⟩, ⟨some 159, .bin .neq (.t 158) (k 0), (some (156, true)), []⟩, ⟨some 160, .move (.t 159), (some (156, true)), []⟩, ⟨some 161, .fldAddr 4 (.t 20), (some (160, false)), []⟩, ⟨some 162, .load none (.t 161), (some (160, false)), []⟩, ⟨some 163, .pick (.t 160) (.c (.bool true)) (.t 162), (some (156, true)), []⟩, ⟨some 164, .pick (.t 156) (.t 163) (.c (.bool false)), (some (152, false)), []⟩, o 165 (.pick (.t 152) (.c (.bool true)) (.t 164))] none [3, 9, 10, 11, 12, 17, 18, 19, 165])
(.cond (.t 165)
(.seq (.ops [o 8 (.move (.c (.bool false)))] none [8])
(.ret))
(.skip))))))))
(.ops [m 91 19, o 92 (.bin .add (.t 91) (k 1)), m 19 92] none [3, 9, 10, 11, 12, 17, 18, 19]))))))
(.seq (.ops [o 166 (.load (some 3) (.t 12)), m 167 17, o 168 (.call 478 [(.t 166), (.t 167)]), m 23 168] none [3, 18, 23])
(.seq (.ops [m 169 23, o 170 (.len .sl (.t 169)), o 171 (.bin .eql (.t 170) (k 1)), m 172 171, ⟨some 173, .move (.t 23), (some (172, true)), []⟩, ⟨some 174, .idxAddr 1 (.t 173) (k 0), (some (172, true)), []⟩, ⟨some 175, .load none (.t 174), (some (172, true)), []⟩, ⟨some 176, .move (.t 18), (some (172, true)), []⟩, ⟨some 177, .bin .eql (.t 175) (.t 176), (some (172, true)), []⟩, ⟨some 178, .move (.t 177), (some (172, true)), []⟩, ⟨some 179, .move (.t 23), (some (178, false)), []⟩, ⟨some 180, .idxAddr 1 (.t 179) (k 0), (some (178, false)), []⟩, ⟨some 181, .load none (.t 180), (some (178, false)), []⟩, ⟨some 182, .bin .eql (.t 181) (k 0), (some (178, false)), []⟩, ⟨some 183, .move (.t 182), (some (178, false)), []⟩, ⟨some 184, .move (.t 3), (some (183, true)), []⟩, ⟨some 185, .conv .i64 (.t 184), (some (183, true)), []⟩, ⟨some 186, .move (.t 18), (some (183, true)), []⟩, ⟨some 187, .bin .lss (.t 185) (.t 186), (some (183, true)), []⟩, ⟨some 188, .pick (.t 183) (.t 187) (.c (.bool false)), (some (178, false)), []⟩, ⟨some 189, .pick (.t 178) (.c (.bool true)) (.t 188), (some (172, true)), []⟩, o 190 (.pick (.t 172) (.t 189) (.c (.bool false))), m 8 190] none [8])
(.ret)))))))))))))))))
def f475 : SFunc := ⟨b475, [.t 8]⟩

def b476 : SCode := (
.seq (.ops [o 0 (.move (.c (.bool false)))] none [])
(.seq (.ops [o 5 (.call 52 []), o 1 (.alloc (.agg [(.int .i64 0), .nils, .nils])), n (.store (some 3) (.t 1) (.t 5))] none [1])
(.seq (.ops [o 7 (.load (some 3) (.t 1)), o 8 (.buildSl 1 [(.int .i64 0)] [(0, 1, (k 1))]), o 9 (.buildSl 1 [(.int .i64 0)] [(0, 1, (k 0))]), o 10 (.buildSl 1 [(.int .i64 0)] [(0, 1, (k 0))]), o 11 (.buildSl 8 [.nils, .nils, .nils, .nils, .nils, .nils, .nils, .nils] [(0, 1, (.t 8)), (1, 1, (.t 9)), (2, 1, (.c .nils)), (3, 1, (.c .nils)), (4, 1, (.c .nils)), (5, 1, (.c .nils)), (6, 1, (.c .nils)), (7, 1, (.t 10))]), o 12 (.call 436 [(.t 7), (.t 11)]), m 6 12, o 13 (.ext 0 (.t 6)), o 14 (.ext 1 (.t 6)), m 2 13, m 3 14] none [1, 2, 3])
(.seq (.ops [o 15 (.load (some 3) (.t 1)), m 16 2, o 17 (.call 477 [(.t 15), (.t 16)]), m 4 17] none [1, 3, 4])
(.seq (.ops [m 18 3, o 19 (.bin .eql (.t 18) (k 0)), m 20 19, ⟨some 21, .move (.t 4), (some (20, true)), []⟩, ⟨some 22, .build [(.int .i64 0), (.int .i64 0), (.int .i64 0), (.bool false), (.bool false), (.int .i64 0), (.int .i64 0)] [(0, 1, (k 1)), (2, 1, (k 7)), (3, 1, (.c (.bool true))), (5, 1, (k 5))], (some (20, true)), []⟩, ⟨some 23, .build [(.int .i64 0), (.int .i64 0), (.int .i64 0), (.bool false), (.bool false), (.int .i64 0), (.int .i64 0)] [(0, 1, (k 0)), (1, 1, (k 1)), (2, 1, (k 6)), (3, 1, (.c (.bool true))), (5, 1, (k 2)), (6, 1, (k 3))], (some (20, true)), []⟩, ⟨some 24, .buildSl 2 [(.int .i64 0), (.int .i64 0), (.int .i64 0), (.bool false), (.bool false), (.int .i64 0), (.int .i64 0), (.int .i64 0), (.int .i64 0), (.int .i64 0), (.bool false), (.bool false), (.int .i64 0), (.int .i64 0)] [(0, 7, (.t 22)), (7, 7, (.t 23))], (some (20, true)), []⟩, ⟨some 25, .call 481 [(.t 21), (.t 24)], (some (20, true)), []⟩, o 26 (.pick (.t 20) (.t 25) (.c (.bool false))), m 27 26, ⟨some 28, .load (some 3) (.t 1), (some (27, true)), []⟩, ⟨some 29, .move (.t 4), (some (27, true)), []⟩, ⟨some 30, .call 478 [(.t 28), (.t 29)], (some (27, true)), []⟩, ⟨some 31, .buildSl 2 [(.int .i64 0), (.int .i64 0)] [(0, 1, (k 5)), (1, 1, (k 7))], (some (27, true)), []⟩, ⟨some 32, .call 434 [(.t 30), (.t 31)], (some (27, true)), []⟩, o 33 (.pick (.t 27) (.t 32) (.c (.bool false))), m 0 33] none [0])
(.ret))))))
def f476 : SFunc := ⟨b476, [.t 0]⟩

def b436 : SCode := (
.seq (.ops [o 2 (.box (.t 0)), o 4 (.move (.c .nils)), o 5 (.move (k 0))] none [1, 2])
(.seq (.seq (.ops [o 18 (.load (some 3) (.t 2)), o 19 (.call 265 [(.t 18)]), m 17 19, o 20 (.ext 0 (.t 17)), o 21 (.ext 1 (.t 17)), m 6 20, m 7 21] none [1, 2, 7])
(.seq (.ops [m 22 7, o 23 (.bin .neq (.t 22) (k 0))] none [1, 2, 7, 23])
(.cond (.t 23)
(.seq (.ops [m 24 7, o 4 (.move (.c .nils)), m 5 24] none [4, 5])
(.ret))
(.skip))))
(.seq (.seq (.ops [m 26 1, o 27 (.call 447 [(.t 26)]), m 25 27, o 28 (.ext 0 (.t 25)), o 29 (.ext 1 (.t 25)), m 8 28, m 9 29] none [1, 2, 9])
(.seq (.ops [m 30 9, o 31 (.bin .neq (.t 30) (k 0))] none [1, 2, 9, 31])
(.cond (.t 31)
(.seq (.ops [m 32 9, o 4 (.move (.c .nils)), m 5 32] none [4, 5])
(.ret))
(.skip))))
(.seq (.ops [o 34 (.load (some 3) (.t 2)), o 35 (.call 441 [(.t 34)]), m 33 35, o 36 (.ext 0 (.t 33)), o 37 (.ext 1 (.t 33)), m 10 36, m 11 37] none [1, 10, 11])
(.seq (.seq (.ops [m 38 11, o 39 (.bin .neq (.t 38) (k 0))] none [1, 10, 11, 39])
(.cond (.t 39)
(.seq (.ops [m 40 11, o 4 (.move (.c .nils)), m 5 40] none [4, 5])
(.ret))
(.skip)))
(.seq (.ops [o 12 (.move (.c .nils))] none [1, 10, 12])
(.seq (.seq (.ops [m 41 1, o 42 (.len .sl (.t 41)), o 43 (.move (k 0))] none [10, 12, 41, 42, 43])
(.block 0 (.loop [10, 12, 41, 42, 43] (.seq (.ops [o 44 (.bin .lss (.t 43) (.t 42))] none [10, 12, 41, 42, 43, 44])
(.seq (.cond (.t 44)
(.skip)
(.exit 0))
(.seq (.block 1 (.seq (.ops [o 45 (.idxAddr 1 (.t 41) (.t 43)), o 46 (.load none (.t 45)), m 14 46] none [10, 12, 14, 41, 42, 43])
(.seq (.ops [m 48 10, m 49 14, o 50 (.call 442 [(.t 48), (.t 49)]), m 47 50, o 51 (.ext 0 (.t 47)), o 52 (.ext 1 (.t 47)), m 15 51, m 16 52] none [10, 12, 15, 16, 41, 42, 43])
(.seq (.seq (.ops [m 53 16, o 54 (.bin .neq (.t 53) (k 0))] none [10, 12, 15, 16, 41, 42, 43, 54])
(.cond (.t 54)
(.seq (.ops [m 55 16, o 4 (.move (.c .nils)), m 5 55] none [4, 5])
(.ret))
(.skip)))
(.ops [m 56 12, m 57 15, o 58 (.append 7 (.t 56) (.t 57)), m 12 58] none [10, 12, 41, 42, 43])))))
(.ops [o 59 (.bin .add (.t 43) (k 1)), m 43 59] none [10, 12, 41, 42, 43])))))))
(.seq (.ops [m 60 12, m 4 60, o 5 (.move (k 0))] none [4, 5])
(.ret)))))))))
def f436 : SFunc := ⟨b436, [.t 4, .t 5]⟩

def b477 : SCode := (
.seq (.ops [o 2 (.box (.t 0)), o 4 (.move (.c .nils))] none [1, 2])
(.seq (.ops [o 12 (.load (some 3) (.t 2)), o 13 (.call 318 [(.t 12)]), m 5 13] none [1, 5])
(.seq (.ops [o 14 (.mkmap), m 6 14] none [1, 5, 6])
(.seq (.ops [o 7 (.move (.c .nils))] none [1, 5, 6, 7])
(.seq (.skip)
(.seq (.seq (.ops [m 15 1, o 16 (.len .sl (.t 15)), o 17 (.move (k 0))] none [5, 6, 7, 15, 16, 17])
(.block 0 (.loop [5, 6, 7, 15, 16, 17] (.seq (.ops [o 18 (.bin .lss (.t 17) (.t 16))] none [5, 6, 7, 15, 16, 17, 18])
(.seq (.cond (.t 18)
(.skip)
(.exit 0))
(.seq (.block 1 (.seq (.ops [o 19 (.idxAddr 7 (.t 15) (.t 17)), o 20 (.load (some 7) (.t 19)), o 9 (.alloc (.agg [(.int .i64 0), (.int .i64 0), (.int .i64 0), (.int .i64 0), (.int .i64 0), (.int .i64 0), (.int .i64 0)])), n (.store (some 7) (.t 9) (.t 20))] none [5, 6, 7, 9, 15, 16, 17])
(.seq (.seq (.ops [o 21 (.fldAddr 2 (.t 9)), o 22 (.load none (.t 21)), o 23 (.bin .lss (.t 22) (k 0)), m 24 23, ⟨some 25, .fldAddr 2 (.t 9), (some (24, false)), []⟩, ⟨some 26, .load none (.t 25), (some (24, false)), []⟩, ⟨some 27, .move (.t 5), (some (24, false)), []⟩, ⟨some 28, .len .sl (.t 27), (some (24, false)), []⟩, ⟨some 29, .bin .geq (.t 26) (.t 28), (some (24, false)), []⟩, o 30 (.pick (.t 24) (.c (.bool true)) (.t 29))] none [5, 6, 7, 9, 15, 16, 17, 30])
(.cond (.t 30)
(.exit 1)
(.skip)))
(.seq (.ops [o 31 (.fldAddr 1 (.t 9)), o 32 (.load none (.t 31))] none [5, 6, 7, 9, 15, 16, 17, 32])
(.block 2 (.seq (.ops [o 34 (.bin .eql (.t 32) (k 1)), m 33 34] none [5, 6, 7, 9, 15, 16, 17, 32, 33])
(.cond (.t 33)
(.seq (.ops [m 35 6, o 36 (.fldAddr 2 (.t 9)), o 37 (.load none (.t 36)), m 38 7, o 39 (.len .sl (.t 38)), n (.mapup .i (.t 35) (.t 37) (.t 39))] none [5, 6, 7, 9, 15, 16, 17])
(.ops [m 40 7, o 41 (.fldAddr 2 (.t 9)), o 42 (.load none (.t 41)), o 43 (.fldAddr 0 (.t 9)), o 44 (.load none (.t 43)), o 45 (.build [(.int .i64 0), (.int .i64 0), (.int .i64 0), (.bool false), (.bool false), (.int .i64 0), (.int .i64 0)] [(0, 1, (.t 42)), (1, 1, (.t 44))]), o 46 (.buildSl 1 [(.int .i64 0), (.int .i64 0), (.int .i64 0), (.bool false), (.bool false), (.int .i64 0), (.int .i64 0)] [(0, 7, (.t 45))]), o 47 (.append 7 (.t 40) (.t 46)), m 7 47] none [5, 6, 7, 15, 16, 17]))
(.seq (.ops [o 49 (.bin .eql (.t 32) (k 3)), m 48 49] none [5, 6, 7, 9, 15, 16, 17, 32, 48])
(.cond (.t 48)
(.ops [m 50 7, m 51 6, m 52 5, o 53 (.fldAddr 2 (.t 9)), o 54 (.load none (.t 53)), o 55 (.call 482 [(.t 50), (.t 51), (.t 52), (.t 54)])] none [5, 6, 7, 15, 16, 17])
(.seq (.seq (.ops [o 57 (.bin .eql (.t 32) (k 6)), m 56 57] none [5, 6, 7, 9, 15, 16, 17, 32, 56])
(.cond (.t 56)
(.skip)
(.ops [o 58 (.bin .eql (.t 32) (k 7)), m 56 58] none [5, 6, 7, 9, 15, 16, 17, 56])))
(.cond (.t 56)
(.seq (.ops [m 60 6, o 61 (.fldAddr 2 (.t 9)), o 62 (.load none (.t 61)), o 63 (.lookup true .i (.int .i64 0) (.t 60) (.t 62)), m 59 63, o 64 (.ext 0 (.t 59)), o 65 (.ext 1 (.t 59)), m 10 64, m 11 65] none [5, 6, 7, 9, 10, 11, 15, 16, 17])
(.seq (.seq (.ops [m 66 11, o 67 (.not (.t 66))] none [5, 6, 7, 9, 10, 15, 16, 17, 67])
(.cond (.t 67)
(.exit 1)
(.skip)))
(.seq (.ops [m 68 7, m 69 10, m 70 7, m 71 10, m 72 7, m 73 10, o 74 (.fldAddr 0 (.t 9)), o 75 (.load none (.t 74)), o 76 (.fldAddr 1 (.t 9)), o 77 (.load none (.t 76)), o 78 (.bin .eql (.t 77) (k 7)), o 79 (.idxAddr 7 (.t 68) (.t 69)), o 80 (.fldAddr 2 (.t 79)), ⟨none, .store none (.t 80) (.t 75), none, [9]⟩, o 81 (.idxAddr 7 (.t 70) (.t 71)), o 82 (.fldAddr 3 (.t 81)), ⟨none, .store none (.t 82) (.c (.bool true)), none, [9]⟩, o 83 (.idxAddr 7 (.t 72) (.t 73)), o 84 (.fldAddr 4 (.t 83)), n (.store none (.t 84) (.t 78))] (some [(0, []), (1, []), (2, []), (3, []), (4, []), (5, []), (6, []), (7, [6]), (8, []), (9, [8]), (10, [9, 8]), (11, [0, 1, 6, 7]), (12, [11, 0, 1, 6, 7]), (13, [12, 11, 0, 1, 6, 7]), (14, [2, 3, 0, 1, 6, 7, 11, 12, 13]), (15, [14, 2, 3, 0, 1, 6, 7, 11, 12, 13]), (16, [15, 14, 2, 3, 0, 1, 6, 7, 11, 12, 13]), (17, [4, 5, 0, 1, 2, 3, 6, 7, 8, 9, 10, 11, 12, 13, 14, 15, 16]), (18, [17, 4, 5, 0, 1, 2, 3, 6, 7, 8, 9, 10, 11, 12, 13, 14, 15, 16]), (19, [18, 17, 4, 5, 0, 1, 2, 3, 6, 7, 8, 9, 10, 11, 12, 13, 14, 15, 16])]) [5, 6, 7, 9, 15, 16, 17])
(.ops [m 85 6, o 86 (.fldAddr 2 (.t 9)), o 87 (.load none (.t 86)), n (.del .i (.t 85) (.t 87))] none [5, 6, 7, 15, 16, 17]))))
(.skip))))))))))))
(.ops [o 88 (.bin .add (.t 17) (k 1)), m 17 88] none [5, 6, 7, 15, 16, 17])))))))
(.seq (.ops [m 89 7, m 4 89] none [4])
(.ret))))))))
def f477 : SFunc := ⟨b477, [.t 4]⟩

def b478 : SCode := (
.seq (.ops [o 2 (.box (.t 0)), o 4 (.move (.c .nils))] none [1, 2])
(.seq (.ops [o 8 (.fldAddr 2 (.t 2)), o 9 (.load none (.t 8)), o 10 (.len .sl (.t 9)), o 11 (.mksl [(.int .i64 0)] (.t 10) (.t 10)), m 5 11] none [1, 5])
(.seq (.skip)
(.seq (.seq (.ops [m 12 1, o 13 (.len .sl (.t 12)), o 14 (.move (k 0))] none [5, 12, 13, 14])
(.block 0 (.loop [5, 12, 13, 14] (.seq (.ops [o 15 (.bin .lss (.t 14) (.t 13))] none [5, 12, 13, 14, 15])
(.seq (.cond (.t 15)
(.skip)
(.exit 0))
(.seq (.block 1 (.seq (.ops [o 16 (.idxAddr 7 (.t 12) (.t 14)), o 17 (.load (some 7) (.t 16)), o 7 (.alloc (.agg [(.int .i64 0), (.int .i64 0), (.int .i64 0), (.bool false), (.bool false), (.int .i64 0), (.int .i64 0)])), n (.store (some 7) (.t 7) (.t 17))] none [5, 7, 12, 13, 14])
(.seq (.seq (.ops [o 18 (.fldAddr 3 (.t 7)), o 19 (.load none (.t 18)), o 20 (.not (.t 19)), m 21 20, ⟨some 22, .fldAddr 0 (.t 7), (some (21, false)), []⟩, ⟨some 23, .load none (.t 22), (some (21, false)), []⟩, ⟨some 24, .bin .lss (.t 23) (k 0), (some (21, false)), []⟩, o 25 (.pick (.t 21) (.c (.bool true)) (.t 24)), m 26 25, ⟨some 27, .fldAddr 0 (.t 7), (some (26, false)), []⟩, ⟨some 28, .load none (.t 27), (some (26, false)), []⟩, ⟨some 29, .move (.t 5), (some (26, false)), []⟩, ⟨some 30, .len .sl (.t 29), (some (26, false)), []⟩, ⟨some 31, .bin .geq (.t 28) (.t 30), (some (26, false)), []⟩, o 32 (.pick (.t 26) (.c (.bool true)) (.t 31))] none [5, 7, 12, 13, 14, 32])
(.cond (.t 32)
(.exit 1)
(.skip)))
(.ops [m 33 5, o 34 (.fldAddr 0 (.t 7)), o 35 (.load none (.t 34)), m 36 5, o 37 (.fldAddr 0 (.t 7)), o 38 (.load none (.t 37)), o 39 (.idxAddr 1 (.t 36) (.t 38)), o 40 (.load none (.t 39)), o 41 (.fldAddr 2 (.t 7)), o 42 (.load none (.t 41)), o 43 (.fldAddr 1 (.t 7)), o 44 (.load none (.t 43)), o 45 (.bin .sub (.t 42) (.t 44)), o 46 (.mx [(.t 40), (.t 45)]), o 47 (.idxAddr 1 (.t 33) (.t 35)), n (.store none (.t 47) (.t 46))] (some [(0, []), (1, []), (2, [1]), (3, []), (4, []), (5, [4]), (6, [3, 5, 4]), (7, [6, 3, 5, 4]), (8, []), (9, [8]), (10, []), (11, [10]), (12, [9, 8, 11, 10]), (13, [7, 6, 3, 5, 4, 12, 9, 8, 11, 10]), (14, [0, 2, 1, 3, 4, 5, 6, 7, 8, 9, 10, 11, 12, 13]), (15, [14, 0, 2, 1, 3, 4, 5, 6, 7, 8, 9, 10, 11, 12, 13])]) [5, 12, 13, 14]))))
(.ops [o 48 (.bin .add (.t 14) (k 1)), m 14 48] none [5, 12, 13, 14])))))))
(.seq (.ops [m 49 5, m 4 49] none [4])
(.ret))))))
def f478 : SFunc := ⟨b478, [.t 4]⟩

def b441 : SCode := (
.seq (.ops [o 1 (.box (.t 0)), o 2 (.move (.c .nilp)), o 3 (.move (k 0))] none [1])
(.seq (.ops [o 7 (.load (some 3) (.t 1)), o 8 (.call 305 [(.t 7)]), m 6 8, o 9 (.ext 0 (.t 6)), o 10 (.ext 1 (.t 6)), m 4 9, m 5 10] none [4, 5])
(.seq (.seq (.ops [m 11 5, o 12 (.bin .neq (.t 11) (k 0))] none [4, 5, 12])
(.cond (.t 12)
(.seq (.ops [m 13 5, o 2 (.move (.c .nilp)), m 3 13] none [2, 3])
(.ret))
(.skip)))
(.seq (.ops [m 14 4, o 15 (.build [.nilp] [(0, 1, (.t 14))]), o 16 (.box (.t 15)), m 2 16, o 3 (.move (k 0))] none [2, 3])
(.ret)))))
def f441 : SFunc := ⟨b441, [.t 2, .t 3]⟩

def b442 : SCode := (
.seq (.ops [o 4 (.move (.c .nils)), o 5 (.move (k 0))] none [0, 1])
(.seq (.seq (.ops [m 13 0, o 14 (.nilck (.t 13)), o 15 (.fldAddr 0 (.t 14)), o 16 (.load none (.t 15)), o 17 (.call 444 [(.t 16)]), o 18 (.bin .geq (.t 17) (k 1099511627776))] none [0, 1, 18])
(.cond (.t 18)
(.seq (.ops [o 4 (.move (.c .nils)), o 5 (.move (k 1))] none [4, 5])
(.ret))
(.skip)))
(.seq (.seq (.ops [m 19 1, o 20 (.len .sl (.t 19)), o 21 (.bin .gtr (.t 20) (k 64))] none [0, 1, 21])
(.cond (.t 21)
(.seq (.ops [o 4 (.move (.c .nils)), o 5 (.move (k 18))] none [4, 5])
(.ret))
(.skip)))
(.seq (.ops [o 6 (.move (.c .nils))] none [0, 1, 6])
(.seq (.seq (.ops [m 22 1, o 23 (.len .sl (.t 22)), o 24 (.move (k 0))] none [0, 6, 22, 23, 24])
(.block 0 (.loop [0, 6, 22, 23, 24] (.seq (.ops [o 25 (.bin .lss (.t 24) (.t 23))] none [0, 6, 22, 23, 24, 25])
(.seq (.cond (.t 25)
(.skip)
(.exit 0))
(.seq (.block 1 (.seq (.ops [o 26 (.idxAddr 1 (.t 22) (.t 24)), o 27 (.load none (.t 26)), m 8 27] none [0, 6, 8, 22, 23, 24])
(.ops [m 28 6, m 29 0, o 30 (.nilck (.t 29)), o 31 (.fldAddr 0 (.t 30)), o 32 (.load none (.t 31)), m 33 8, o 34 (.call 306 [(.t 32), (.t 33)]), o 35 (.buildSl 1 [(.int .i64 0), (.int .i64 0), (.int .i64 0), (.int .i64 0), (.int .i64 0), (.int .i64 0), (.int .i64 0)] [(0, 7, (.t 34))]), o 36 (.append 7 (.t 28) (.t 35)), m 6 36] none [0, 6, 22, 23, 24])))
(.ops [o 37 (.bin .add (.t 24) (k 1)), m 24 37] none [0, 6, 22, 23, 24])))))))
(.seq (.ops [m 38 6, m 39 0, o 40 (.nilck (.t 39)), o 41 (.fldAddr 0 (.t 40)), o 42 (.load none (.t 41)), o 43 (.call 449 [(.t 42)]), o 44 (.append 7 (.t 38) (.t 43)), m 6 44] none [0, 6])
(.seq (.skip)
(.seq (.block 2 (.loop [0, 6] (.block 3 (.seq (.ops [m 46 0, o 47 (.nilck (.t 46)), o 48 (.fldAddr 0 (.t 47)), o 49 (.load none (.t 48)), o 50 (.call 309 [(.t 49)]), m 45 50, o 51 (.ext 0 (.t 45)), o 52 (.ext 1 (.t 45)), m 9 51, m 10 52] none [0, 6, 9, 10])
(.seq (.block 4 (.seq (.ops [m 54 10, o 55 (.not (.t 54)), m 53 55] none [0, 6, 9, 53])
(.cond (.t 53)
(.seq (.ops [m 56 6, m 57 0, o 58 (.nilck (.t 57)), o 59 (.fldAddr 0 (.t 58)), o 60 (.load none (.t 59)), o 61 (.call 444 [(.t 60)]), o 62 (.build [(.int .i64 0), (.int .i64 0), (.int .i64 0), (.int .i64 0), (.int .i64 0), (.int .i64 0), (.int .i64 0)] [(0, 1, (.t 61)), (1, 1, (k 8))]), o 63 (.buildSl 1 [(.int .i64 0), (.int .i64 0), (.int .i64 0), (.int .i64 0), (.int .i64 0), (.int .i64 0), (.int .i64 0)] [(0, 7, (.t 62))]), o 64 (.append 7 (.t 56) (.t 63)), m 6 64] none [0, 6])
(.exit 2))
(.seq (.ops [m 66 0, o 67 (.nilck (.t 66)), o 68 (.fldAddr 0 (.t 67)), o 69 (.load none (.t 68)), m 70 9, o 71 (.call 312 [(.t 69), (.t 70)]), o 72 (.fld 3 none (.t 71)), o 73 (.bin .neq (.t 72) (k 0)), m 65 73] none [0, 6, 9, 65])
(.cond (.t 65)
(.seq (.ops [m 74 6, m 75 0, o 76 (.nilck (.t 75)), o 77 (.fldAddr 0 (.t 76)), o 78 (.load none (.t 77)), m 79 9, o 80 (.call 310 [(.t 78), (.t 79)]), o 81 (.append 7 (.t 74) (.t 80)), m 6 81] none [0, 6])
(.seq (.ops [m 82 6, m 83 0, o 84 (.call 450 [(.t 83)]), o 85 (.append 7 (.t 82) (.t 84)), m 6 85] none [0, 6])
(.exit 2)))
(.skip))))))
(.seq (.ops [m 87 0, o 88 (.nilck (.t 87)), o 89 (.fldAddr 0 (.t 88)), o 90 (.load none (.t 89)), m 91 9, o 92 (.call 307 [(.t 90), (.t 91), (.c (.bool false))]), m 86 92, o 93 (.ext 0 (.t 86)), o 94 (.ext 1 (.t 86)), m 11 93, m 12 94] none [0, 6, 11])
(.ops [m 95 6, m 96 11, o 97 (.append 7 (.t 95) (.t 96)), m 6 97] none [0, 6])))))))
(.seq (.ops [m 98 0, o 99 (.nilck (.t 98)), o 100 (.fldAddr 0 (.t 99)), o 101 (.load none (.t 100)), o 102 (.call 316 [(.t 101)])] none [6])
(.seq (.ops [m 103 6, m 4 103, o 5 (.move (k 0))] none [4, 5])
(.ret)))))))))))
def f442 : SFunc := ⟨b442, [.t 4, .t 5]⟩

def b443 : SCode := (
.seq (.ops [o 2 (.move (.c .nilp))] none [0])
(.seq (.ops [m 3 0, o 4 (.nilck (.t 3)), o 5 (.fldAddr 0 (.t 4)), o 6 (.load none (.t 5)), m 2 6] none [2])
(.ret)))
def f443 : SFunc := ⟨b443, [.t 2]⟩

def b314 : SCode := (
.seq (.ops [o 4 (.move (.c .nilp))] none [0, 1])
(.seq (.seq (.ops [m 5 1, o 6 (.bin .lss (.t 5) (k 0)), m 7 6, ⟨some 8, .move (.t 1), (some (7, false)), []⟩, ⟨some 9, .move (.t 0), (some (7, false)), []⟩, ⟨some 10, .nilck (.t 9), (some (7, false)), []⟩, ⟨some 11, .fldAddr 7 (.t 10), (some (7, false)), []⟩, ⟨some 12, .load none (.t 11), (some (7, false)), []⟩, ⟨some 13, .len .sl (.t 12), (some (7, false)), []⟩, ⟨some 14, .bin .geq (.t 8) (.t 13), (some (7, false)), []⟩, o 15 (.pick (.t 7) (.c (.bool true)) (.t 14))] none [0, 1, 15])
(.cond (.t 15)
(.seq (.ops [o 4 (.move (.c .nilp))] none [4])
(.ret))
(.skip)))
(.seq (.ops [m 16 0, o 17 (.nilck (.t 16)), o 18 (.fldAddr 7 (.t 17)), o 19 (.load none (.t 18)), m 20 1, o 21 (.idxAddr 1 (.t 19) (.t 20)), o 22 (.load none (.t 21)), o 23 (.call 334 [(.t 22)]), m 4 23] none [4])
(.ret))))
def f314 : SFunc := ⟨b314, [.t 4]⟩

def b315 : SCode := (
.seq (.ops [o 2 (.move (k 0))] none [0])
(.seq (.ops [m 3 0, o 4 (.nilck (.t 3)), o 5 (.fldAddr 0 (.t 4)), o 6 (.load none (.t 5)), m 2 6] none [2])
(.ret)))
def f315 : SFunc := ⟨b315, [.t 2]⟩

def b52 : SCode := (
.seq (.ops [o 0 (.alloc (.agg [(.int .i64 0), .nils, .nils]))] none [0])
(.seq (.ops [o 3 (.build [(.int .i64 0), (.int .i64 0), (.int .i64 0), (.int .i64 0), .nils] [(0, 1, (k 1)), (1, 1, (k 1))]), o 4 (.build [(.int .i64 0), (.int .i64 0), (.int .i64 0), (.int .i64 0), .nils] [(0, 1, (k 2))]), o 5 (.build [(.int .i64 0), (.int .i64 0), (.int .i64 0), (.int .i64 0), .nils] [(0, 1, (k 1)), (1, 1, (k 1))]), o 6 (.build [(.int .i64 0), (.int .i64 0), (.int .i64 0), (.int .i64 0), .nils] [(0, 1, (k 3))]), o 7 (.buildSl 4 [(.int .i64 0), (.int .i64 0), (.int .i64 0), (.int .i64 0), .nils, (.int .i64 0), (.int .i64 0), (.int .i64 0), (.int .i64 0), .nils, (.int .i64 0), (.int .i64 0), (.int .i64 0), (.int .i64 0), .nils, (.int .i64 0), (.int .i64 0), (.int .i64 0), (.int .i64 0), .nils] [(0, 5, (.t 3)), (5, 5, (.t 4)), (10, 5, (.t 5)), (15, 5, (.t 6))]), o 8 (.build [(.str []), (.int .i64 0), (.int .i64 0), (.int .i64 0), .nils] [(0, 1, (.c (.str [102, 97, 115, 116]))), (1, 1, (k 10)), (2, 1, (k 8)), (3, 1, (k 3)), (4, 1, (.t 7))]), o 1 (.alloc (.agg [(.str []), (.int .i64 0), (.int .i64 0), (.int .i64 0), .nils])), n (.store (some 5) (.t 1) (.t 8))] none [0, 1])
(.seq (.ops [o 9 (.build [(.int .i64 0), (.int .i64 0), (.int .i64 0), (.int .i64 0), .nils] [(0, 1, (k 2))]), o 10 (.build [(.int .i64 0), (.int .i64 0), (.int .i64 0), (.int .i64 0), .nils] [(0, 1, (k 1)), (1, 1, (k 4))]), o 11 (.build [(.int .i64 0), (.int .i64 0), (.int .i64 0), (.int .i64 0), .nils] [(0, 1, (k 3))]), o 12 (.build [(.int .i64 0), (.int .i64 0), (.int .i64 0), (.int .i64 0), .nils] [(0, 1, (k 1)), (1, 1, (k 1))]), o 13 (.buildSl 4 [(.int .i64 0), (.int .i64 0), (.int .i64 0), (.int .i64 0), .nils, (.int .i64 0), (.int .i64 0), (.int .i64 0), (.int .i64 0), .nils, (.int .i64 0), (.int .i64 0), (.int .i64 0), (.int .i64 0), .nils, (.int .i64 0), (.int .i64 0), (.int .i64 0), (.int .i64 0), .nils] [(0, 5, (.t 9)), (5, 5, (.t 10)), (10, 5, (.t 11)), (15, 5, (.t 12))]), o 14 (.build [(.str []), (.int .i64 0), (.int .i64 0), (.int .i64 0), .nils] [(0, 1, (.c (.str [115, 108, 111, 119]))), (1, 1, (k 20)), (2, 1, (k 20)), (3, 1, (k 6)), (4, 1, (.t 13))]), o 2 (.alloc (.agg [(.str []), (.int .i64 0), (.int .i64 0), (.int .i64 0), .nils])), n (.store (some 5) (.t 2) (.t 14))] none [0, 1, 2])
(.seq (.ops [o 15 (.load (some 5) (.t 1)), o 16 (.load (some 5) (.t 2)), o 17 (.buildSl 2 [(.str []), (.int .i64 0), (.int .i64 0), (.int .i64 0), .nils, (.str []), (.int .i64 0), (.int .i64 0), (.int .i64 0), .nils] [(0, 5, (.t 15)), (5, 5, (.t 16))]), o 18 (.build [(.int .i64 0), .nils, .nils] [(0, 1, (k 1)), (2, 1, (.t 17))]), n (.store (some 3) (.t 0) (.t 18))] none [0])
(.ret)))))
def f52 : SFunc := ⟨b52, [.cell (some 3) 0]⟩

def b481 : SCode := (
.seq (.ops [o 4 (.move (.c (.bool false)))] none [0, 1])
(.seq (.seq (.ops [m 6 0, o 7 (.len .sl (.t 6)), m 8 1, o 9 (.len .sl (.t 8)), o 10 (.bin .neq (.t 7) (.t 9))] none [0, 1, 10])
(.cond (.t 10)
(.seq (.ops [o 4 (.move (.c (.bool false)))] none [4])
(.ret))
(.skip)))
(.seq (.seq (.ops [o 5 (.move (k 0))] none [0, 1, 5])
(.block 0 (.loop [0, 1, 5] (.seq (.seq (.ops [m 11 5, m 12 0, o 13 (.len .sl (.t 12)), o 14 (.bin .lss (.t 11) (.t 13))] none [0, 1, 5, 14])
(.cond (.t 14)
(.skip)
(.exit 0)))
(.seq (.block 1 (.seq (.ops [m 17 0, m 18 5, o 19 (.idxAddr 7 (.t 17) (.t 18)), o 20 (.load (some 7) (.t 19)), m 22 1, m 23 5, o 24 (.idxAddr 7 (.t 22) (.t 23)), o 25 (.load (some 7) (.t 24)), ⟨some 21, .call 483 [(.t 20)], none, [7]⟩, o 26 (.eq true (.st [.i, .i, .i, .b, .b, .i, .i]) (.t 21) (.t 25))] (some [(0, []), (1, []), (2, [0, 1]), (3, [2, 0, 1]), (5, []), (6, []), (7, [4, 5]), (8, [6, 4, 5]), (4, [3, 2, 0, 1]), (9, [8, 3, 2, 0, 1, 7, 6, 4, 5])]) [0, 1, 5, 26])
(.cond (.t 26)
(.seq (.ops [o 4 (.move (.c (.bool false)))] none [4])
(.ret))
(.skip))))
(.ops [m 15 5, o 16 (.bin .add (.t 15) (k 1)), m 5 16] none [0, 1, 5]))))))
(.seq (.ops [o 4 (.move (.c (.bool true)))] none [4])
(.ret)))))
def f481 : SFunc := ⟨b481, [.t 4]⟩

def b434 : SCode := (
.seq (.ops [o 4 (.move (.c (.bool false)))] none [0, 1])
(.seq (.seq (.ops [m 6 0, o 7 (.len .sl (.t 6)), m 8 1, o 9 (.len .sl (.t 8)), o 10 (.bin .neq (.t 7) (.t 9))] none [0, 1, 10])
(.cond (.t 10)
(.seq (.ops [o 4 (.move (.c (.bool false)))] none [4])
(.ret))
(.skip)))
(.seq (.seq (.ops [o 5 (.move (k 0))] none [0, 1, 5])
(.block 0 (.loop [0, 1, 5] (.seq (.seq (.ops [m 11 5, m 12 0, o 13 (.len .sl (.t 12)), o 14 (.bin .lss (.t 11) (.t 13))] none [0, 1, 5, 14])
(.cond (.t 14)
(.skip)
(.exit 0)))
(.seq (.block 1 (.seq (.ops [m 17 0, m 18 5, o 19 (.idxAddr 1 (.t 17) (.t 18)), o 20 (.load none (.t 19)), m 21 1, m 22 5, o 23 (.idxAddr 1 (.t 21) (.t 22)), o 24 (.load none (.t 23)), o 25 (.bin .neq (.t 20) (.t 24))] (some [(0, []), (1, []), (2, [0, 1]), (3, [2, 0, 1]), (4, []), (5, []), (6, [4, 5]), (7, [6, 4, 5]), (8, [3, 2, 0, 1, 7, 6, 4, 5])]) [0, 1, 5, 25])
(.cond (.t 25)
(.seq (.ops [o 4 (.move (.c (.bool false)))] none [4])
(.ret))
(.skip))))
(.ops [m 15 5, o 16 (.bin .add (.t 15) (k 1)), m 5 16] none [0, 1, 5]))))))
(.seq (.ops [o 4 (.move (.c (.bool true)))] none [4])
(.ret)))))
def f434 : SFunc := ⟨b434, [.t 4]⟩

def b265 : SCode := (
.seq (.ops [o 1 (.box (.t 0)), o 2 (.move (k 0)), o 3 (.move (k 0))] none [1])
(.seq (.seq (.ops [o 8 (.fldAddr 0 (.t 1)), o 9 (.load none (.t 8)), o 10 (.bin .lss (.t 9) (k 0)), m 11 10, ⟨some 12, .fldAddr 0 (.t 1), (some (11, false)), []⟩, ⟨some 13, .load none (.t 12), (some (11, false)), []⟩, ⟨some 14, .bin .gtr (.t 13) (k 8), (some (11, false)), []⟩, o 15 (.pick (.t 11) (.c (.bool true)) (.t 14))] none [1, 15])
(.cond (.t 15)
(.seq (.ops [o 2 (.move (k 0)), o 3 (.move (k 1))] none [2, 3])
(.ret))
(.skip)))
(.seq (.seq (.ops [o 16 (.fldAddr 1 (.t 1)), o 17 (.load none (.t 16)), o 18 (.len .sl (.t 17)), o 19 (.bin .gtr (.t 18) (k 8)), m 20 19, ⟨some 21, .fldAddr 2 (.t 1), (some (20, false)), []⟩, ⟨some 22, .load none (.t 21), (some (20, false)), []⟩, ⟨some 23, .len .sl (.t 22), (some (20, false)), []⟩, ⟨some 24, .bin .lss (.t 23) (k 1), (some (20, false)), []⟩, o 25 (.pick (.t 20) (.c (.bool true)) (.t 24)), m 26 25, ⟨some 27, .fldAddr 2 (.t 1), (some (26, false)), []⟩, ⟨some 28, .load none (.t 27), (some (26, false)), []⟩, ⟨some 29, .len .sl (.t 28), (some (26, false)), []⟩, ⟨some 30, .bin .gtr (.t 29) (k 12), (some (26, false)), []⟩, o 31 (.pick (.t 26) (.c (.bool true)) (.t 30))] none [1, 31])
(.cond (.t 31)
(.seq (.ops [o 2 (.move (k 0)), o 3 (.move (k 18))] none [2, 3])
(.ret))
(.skip)))
(.seq (.seq (.ops [o 32 (.fldAddr 1 (.t 1)), o 33 (.load none (.t 32)), o 34 (.len .sl (.t 33)), o 35 (.move (k 0))] none [1, 33, 34, 35])
(.block 0 (.loop [1, 33, 34, 35] (.seq (.ops [o 36 (.bin .lss (.t 35) (.t 34))] none [1, 33, 34, 35, 36])
(.seq (.cond (.t 36)
(.skip)
(.exit 0))
(.seq (.block 1 (.seq (.ops [o 37 (.idxAddr 2 (.t 33) (.t 35)), o 38 (.load (some 2) (.t 37)), o 5 (.alloc (.agg [(.int .i64 0), (.int .i64 0)])), n (.store (some 2) (.t 5) (.t 38))] none [1, 5, 33, 34, 35])
(.seq (.ops [o 39 (.fldAddr 0 (.t 5)), o 40 (.load none (.t 39)), o 41 (.bin .lss (.t 40) (k 0)), m 42 41, ⟨some 43, .fldAddr 0 (.t 5), (some (42, false)), []⟩, ⟨some 44, .load none (.t 43), (some (42, false)), []⟩, ⟨some 45, .bin .gtr (.t 44) (k 16), (some (42, false)), []⟩, o 46 (.pick (.t 42) (.c (.bool true)) (.t 45)), m 47 46, ⟨some 48, .fldAddr 1 (.t 5), (some (47, false)), []⟩, ⟨some 49, .load none (.t 48), (some (47, false)), []⟩, ⟨some 50, .bin .lss (.t 49) (.c (.int .i64 (-1))), (some (47, false)), []⟩, o 51 (.pick (.t 47) (.c (.bool true)) (.t 50)), m 52 51, ⟨some 53, .fldAddr 1 (.t 5), (some (52, false)), []⟩, ⟨some 54, .load none (.t 53), (some (52, false)), []⟩, ⟨some 55, .fldAddr 2 (.t 1), (some (52, false)), []⟩, ⟨some 56, .load none (.t 55), (some (52, false)), []⟩, ⟨some 57, .len .sl (.t 56), (some (52, false)), []⟩, ⟨some 58, .bin .geq (.t 54) (.t 57), (some (52, false)), []⟩, o 59 (.pick (.t 52) (.c (.bool true)) (.t 58))] none [1, 33, 34, 35, 59])
(.cond (.t 59)
(.seq (.ops [o 2 (.move (k 0)), o 3 (.move (k 1))] none [2, 3])
(.ret))
(.skip)))))
(.ops [o 60 (.bin .add (.t 35) (k 1)), m 35 60] none [1, 33, 34, 35])))))))
(.seq (.skip)
(.seq (.seq (.ops [o 61 (.fldAddr 2 (.t 1)), o 62 (.load none (.t 61)), o 63 (.len .sl (.t 62)), o 64 (.move (k 0))] none [1, 63, 64])
(.block 2 (.loop [1, 63, 64] (.seq (.ops [o 65 (.bin .lss (.t 64) (.t 63))] none [1, 63, 64, 65])
(.seq (.cond (.t 65)
(.skip)
(.exit 2))
(.seq (.block 3 (.seq (.ops [m 66 64, m 6 66] none [1, 6, 63, 64])
(.seq (.ops [o 67 (.load (some 3) (.t 1)), m 68 6, o 69 (.call 273 [(.t 67), (.t 68)]), m 7 69] none [1, 6, 7, 63, 64])
(.seq (.seq (.ops [m 70 7, o 71 (.bin .eql (.t 70) (k 0))] none [1, 6, 7, 63, 64, 71])
(.cond (.t 71)
(.exit 3)
(.skip)))
(.seq (.ops [m 72 6, m 73 7, m 2 72, m 3 73] none [2, 3])
(.ret))))))
(.ops [o 74 (.bin .add (.t 64) (k 1)), m 64 74] none [1, 63, 64])))))))
(.seq (.ops [o 2 (.move (k 0)), o 3 (.move (k 0))] none [2, 3])
(.ret))))))))
def f265 : SFunc := ⟨b265, [.t 2, .t 3]⟩

def b447 : SCode := (
.seq (.ops [o 2 (.move (k 0)), o 3 (.move (k 0))] none [0])
(.seq (.seq (.ops [m 6 0, o 7 (.len .sl (.t 6)), o 8 (.bin .gtr (.t 7) (k 4096))] none [0, 8])
(.cond (.t 8)
(.seq (.ops [o 2 (.move (k 0)), o 3 (.move (k 18))] none [2, 3])
(.ret))
(.skip)))
(.seq (.seq (.ops [m 9 0, o 10 (.len .sl (.t 9)), o 11 (.move (k 0))] none [9, 10, 11])
(.block 0 (.loop [9, 10, 11] (.seq (.ops [o 12 (.bin .lss (.t 11) (.t 10))] none [9, 10, 11, 12])
(.seq (.cond (.t 12)
(.skip)
(.exit 0))
(.seq (.block 1 (.seq (.ops [m 13 11, o 14 (.idxAddr 1 (.t 9) (.t 11)), o 15 (.load none (.t 14)), m 4 13, m 5 15] none [4, 5, 9, 10, 11])
(.seq (.seq (.ops [m 16 5, o 17 (.len .sl (.t 16)), o 18 (.bin .gtr (.t 17) (k 64))] none [4, 5, 9, 10, 11, 18])
(.cond (.t 18)
(.seq (.ops [m 19 4, m 2 19, o 3 (.move (k 18))] none [2, 3])
(.ret))
(.skip)))
(.seq (.ops [m 20 5, o 21 (.call 452 [(.t 20), (.c (.fn 451 []))])] none [4, 9, 10, 11, 21])
(.cond (.t 21)
(.seq (.ops [m 22 4, m 2 22, o 3 (.move (k 1))] none [2, 3])
(.ret))
(.skip))))))
(.ops [o 23 (.bin .add (.t 11) (k 1)), m 11 23] none [9, 10, 11])))))))
(.seq (.ops [o 2 (.move (k 0)), o 3 (.move (k 0))] none [2, 3])
(.ret)))))
def f447 : SFunc := ⟨b447, [.t 2, .t 3]⟩

def b318 : SCode := (
.seq (.ops [o 1 (.box (.t 0)), o 2 (.move (.c .nils))] none [1])
(.seq (.ops [o 3 (.move (.c .nils))] none [1, 3])
(.seq (.seq (.ops [o 8 (.fldAddr 2 (.t 1)), o 9 (.load none (.t 8)), o 10 (.len .sl (.t 9)), o 11 (.move (k 0))] none [1, 3, 10, 11])
(.block 0 (.loop [1, 3, 10, 11] (.seq (.ops [o 12 (.bin .lss (.t 11) (.t 10))] none [1, 3, 10, 11, 12])
(.seq (.cond (.t 12)
(.skip)
(.exit 0))
(.seq (.block 1 (.seq (.ops [m 13 11, m 4 13] none [1, 3, 4, 10, 11])
(.ops [m 14 3, m 15 4, o 16 (.buildSl 1 [(.int .i64 0)] [(0, 1, (.t 15))]), o 17 (.append 1 (.t 14) (.t 16)), m 3 17] none [1, 3, 10, 11])))
(.ops [o 18 (.bin .add (.t 11) (k 1)), m 11 18] none [1, 3, 10, 11])))))))
(.seq (.ops [m 19 3, o 20 (.mkfn 337 [(.t 1)]), o 21 (.call 338 [(.t 19), (.t 20)])] none [3])
(.seq (.ops [m 22 3, o 23 (.len .sl (.t 22)), o 24 (.mksl [(.int .i64 0)] (.t 23) (.t 23)), m 5 24] none [3, 5])
(.seq (.seq (.ops [m 25 3, o 26 (.len .sl (.t 25)), o 27 (.move (k 0))] none [3, 5, 25, 26, 27])
(.block 2 (.loop [3, 5, 25, 26, 27] (.seq (.ops [o 28 (.bin .lss (.t 27) (.t 26))] none [3, 5, 25, 26, 27, 28])
(.seq (.cond (.t 28)
(.skip)
(.exit 2))
(.seq (.block 3 (.seq (.ops [m 29 27, o 30 (.idxAddr 1 (.t 25) (.t 27)), o 31 (.load none (.t 30)), m 6 29, m 7 31] none [3, 5, 6, 7, 25, 26, 27])
(.ops [m 32 5, m 33 7, m 34 3, o 35 (.len .sl (.t 34)), m 36 6, o 37 (.bin .sub (.t 35) (.t 36)), o 38 (.idxAddr 1 (.t 32) (.t 33)), n (.store none (.t 38) (.t 37))] none [3, 5, 25, 26, 27])))
(.ops [o 39 (.bin .add (.t 27) (k 1)), m 27 39] none [3, 5, 25, 26, 27])))))))
(.seq (.ops [m 40 5, m 2 40] none [2])
(.ret))))))))
def f318 : SFunc := ⟨b318, [.t 2]⟩

def b305 : SCode := (
.seq (.ops [o 1 (.box (.t 0)), o 2 (.move (.c .nilp)), o 3 (.move (k 0))] none [1])
(.seq (.seq (.ops [o 12 (.load (some 3) (.t 1)), o 13 (.call 265 [(.t 12)]), m 11 13, o 14 (.ext 0 (.t 11)), o 15 (.ext 1 (.t 11)), m 4 14, m 5 15] none [1, 5])
(.seq (.ops [m 16 5, o 17 (.bin .neq (.t 16) (k 0))] none [1, 5, 17])
(.cond (.t 17)
(.seq (.ops [m 18 5, o 2 (.move (.c .nilp)), m 3 18] none [2, 3])
(.ret))
(.skip))))
(.seq (.ops [o 19 (.load (some 3) (.t 1)), o 20 (.call 317 [(.t 19)]), n (.store (some 3) (.t 1) (.t 20))] none [1])
(.seq (.ops [o 21 (.load (some 3) (.t 1)), o 22 (.load (some 3) (.t 1)), o 24 (.load (some 3) (.t 1)), o 26 (.fldAddr 2 (.t 1)), o 27 (.load none (.t 26)), o 28 (.len .sl (.t 27)), o 29 (.mksl [(.bool false), .nils, (.int .i64 0), (.int .i64 0), (.int .i64 0), (.int .i64 0), (.int .i64 0), (.int .i64 0), (.bool false), .nils] (.t 28) (.t 28)), o 30 (.load (some 3) (.t 1)), ⟨some 23, .call 318 [(.t 22)], none, [0, 2, 4, 5, 7]⟩, ⟨some 25, .call 319 [(.t 24)], none, [0, 4, 5, 7]⟩, ⟨some 31, .call 5 [(.t 30)], none, [0, 4, 5]⟩, ⟨some 32, .call 320 [], none, [0, 4, 5]⟩, o 33 (.build [(.int .i64 0), .nils, .nils, .nils, .nils, .nils, .nils, .nils, .nilp, .nilp, (.int .i64 0), (.int .i64 0)] [(0, 3, (.t 21)), (3, 1, (.t 23)), (4, 1, (.t 25)), (5, 1, (.t 29)), (8, 1, (.t 31)), (9, 1, (.t 32))]), o 34 (.box (.t 33)), m 6 34] (some [(0, []), (1, []), (3, []), (5, []), (6, [3]), (7, [4, 3]), (8, [5, 4, 3]), (9, []), (2, [1]), (4, [2, 8, 1]), (10, [7, 9, 2, 8, 1]), (11, [10, 7, 9, 2, 8, 1]), (12, [0, 8, 1, 9, 2, 6, 5, 4, 3, 10, 7, 11]), (13, [12, 0, 8, 1, 9, 2, 6, 5, 4, 3, 10, 7, 11]), (14, [13, 12, 0, 8, 1, 9, 2, 6, 5, 4, 3, 10, 7, 11])]) [1, 6])
(.seq (.seq (.ops [o 35 (.fldAddr 1 (.t 1)), o 36 (.load none (.t 35)), o 37 (.len .sl (.t 36)), o 38 (.move (k 0))] none [1, 6, 36, 37, 38])
(.block 0 (.loop [1, 6, 36, 37, 38] (.seq (.ops [o 39 (.bin .lss (.t 38) (.t 37))] none [1, 6, 36, 37, 38, 39])
(.seq (.cond (.t 39)
(.skip)
(.exit 0))
(.seq (.block 1 (.seq (.ops [o 40 (.idxAddr 2 (.t 36) (.t 38)), o 41 (.load (some 2) (.t 40)), o 8 (.alloc (.agg [(.int .i64 0), (.int .i64 0)])), n (.store (some 2) (.t 8) (.t 41))] none [1, 6, 8, 36, 37, 38])
(.seq (.ops [o 43 (.fldAddr 0 (.t 8)), o 44 (.load none (.t 43)), o 45 (.call 321 [(.t 44)]), m 42 45, o 46 (.ext 0 (.t 42)), o 47 (.ext 1 (.t 42)), m 9 46, m 10 47] none [1, 6, 9, 36, 37, 38])
(.ops [m 48 6, m 49 6, o 50 (.nilck (.t 49)), o 51 (.fldAddr 6 (.t 50)), o 52 (.load none (.t 51)), m 53 9, o 54 (.buildSl 1 [.nilp] [(0, 1, (.t 53))]), o 55 (.append 1 (.t 52) (.t 54)), o 56 (.nilck (.t 48)), o 57 (.fldAddr 6 (.t 56)), n (.store none (.t 57) (.t 55))] none [1, 6, 36, 37, 38]))))
(.ops [o 58 (.bin .add (.t 38) (k 1)), m 38 58] none [1, 6, 36, 37, 38])))))))
(.seq (.seq (.ops [o 59 (.fldAddr 0 (.t 1)), o 60 (.load none (.t 59)), o 61 (.move (k 0))] none [6, 60, 61])
(.block 2 (.loop [6, 60, 61] (.seq (.ops [o 62 (.bin .lss (.t 61) (.t 60))] none [6, 60, 61, 62])
(.seq (.cond (.t 62)
(.skip)
(.exit 2))
(.seq (.block 3 (.ops [m 63 6, m 64 6, o 65 (.nilck (.t 64)), o 66 (.fldAddr 7 (.t 65)), o 67 (.load none (.t 66)), ⟨some 68, .call 322 [], none, [4]⟩, o 69 (.buildSl 1 [.nilp] [(0, 1, (.t 68))]), o 70 (.append 1 (.t 67) (.t 69)), o 71 (.nilck (.t 63)), o 72 (.fldAddr 7 (.t 71)), n (.store none (.t 72) (.t 70))] (some [(0, []), (1, []), (2, [1]), (3, [2, 1]), (4, [3, 2, 1]), (5, []), (6, [5]), (7, [4, 3, 2, 1, 6, 5]), (8, [0, 1, 2, 3, 4, 5, 6, 7]), (9, [8, 0, 1, 2, 3, 4, 5, 6, 7]), (10, [9, 8, 0, 1, 2, 3, 4, 5, 6, 7])]) [6, 60, 61]))
(.ops [o 73 (.bin .add (.t 61) (k 1)), m 61 73] none [6, 60, 61])))))))
(.seq (.ops [m 74 6, m 2 74, o 3 (.move (k 0))] none [2, 3])
(.ret))))))))
def f305 : SFunc := ⟨b305, [.t 2, .t 3]⟩

def b444 : SCode := (
.seq (.ops [o 2 (.move (k 0))] none [0])
(.seq (.ops [m 3 0, o 4 (.nilck (.t 3)), o 5 (.fldAddr 10 (.t 4)), o 6 (.load none (.t 5)), m 2 6] none [2])
(.ret)))
def f444 : SFunc := ⟨b444, [.t 2]⟩

def b306 : SCode := (
.seq (.ops [o 4 (.alloc (.agg [(.int .i64 0), (.int .i64 0), (.int .i64 0), (.int .i64 0), (.int .i64 0), (.int .i64 0), (.int .i64 0)]))] none [0, 1, 4])
(.seq (.ops [m 8 0, m 9 1, o 10 (.call 323 [(.t 8), (.t 9)]), m 11 10, ⟨some 12, .move (.t 0), (some (11, true)), []⟩, ⟨some 13, .nilck (.t 12), (some (11, true)), []⟩, ⟨some 14, .fldAddr 5 (.t 13), (some (11, true)), []⟩, ⟨some 15, .load none (.t 14), (some (11, true)), []⟩, ⟨some 16, .move (.t 1), (some (11, true)), []⟩, ⟨some 17, .idxAddr 10 (.t 15) (.t 16), (some (11, true)), []⟩, ⟨some 18, .fldAddr 0 (.t 17), (some (11, true)), []⟩, ⟨some 19, .load none (.t 18), (some (11, true)), []⟩, o 20 (.pick (.t 11) (.t 19) (.c (.bool false))), m 5 20] none [0, 1, 4, 5])
(.seq (.seq (.ops [m 21 0, o 22 (.nilck (.t 21)), o 23 (.fldAddr 8 (.t 22)), o 24 (.load none (.t 23)), m 25 1, m 26 0, o 27 (.nilck (.t 26)), o 28 (.fldAddr 10 (.t 27)), o 29 (.load none (.t 28)), m 30 5, o 31 (.call 6 [(.t 24), (.t 25), (.t 29), (.t 30)]), m 6 31] (some [(0, []), (1, [0]), (2, [1, 0]), (3, [2, 1, 0]), (4, []), (5, []), (6, [5]), (7, [6, 5]), (8, [7, 6, 5]), (9, []), (10, [3, 2, 1, 0, 4, 8, 7, 6, 5, 9]), (11, [10, 3, 2, 1, 0, 4, 8, 7, 6, 5, 9])]) [0, 1, 4, 6])
(.seq (.ops [m 32 6, o 33 (.bin .neq (.t 32) (k 0))] none [0, 1, 4, 6, 33])
(.cond (.t 33)
(.seq (.ops [m 34 0, o 35 (.nilck (.t 34)), o 36 (.fldAddr 10 (.t 35)), o 37 (.load none (.t 36)), m 38 1, m 39 6, o 40 (.build [(.int .i64 0), (.int .i64 0), (.int .i64 0), (.int .i64 0), (.int .i64 0), (.int .i64 0), (.int .i64 0)] [(0, 1, (.t 37)), (1, 1, (k 2)), (2, 1, (.t 38)), (4, 1, (.t 39))]), n (.store (some 7) (.t 4) (.t 40))] none [4])
(.ret))
(.skip))))
(.seq (.ops [m 41 0, o 42 (.nilck (.t 41)), o 43 (.fldAddr 0 (.t 42)), o 44 (.fldAddr 2 (.t 43)), o 45 (.load none (.t 44)), m 46 1, o 47 (.idxAddr 5 (.t 45) (.t 46)), o 48 (.load (some 5) (.t 47)), o 7 (.alloc (.agg [(.str []), (.int .i64 0), (.int .i64 0), (.int .i64 0), .nils])), n (.store (some 5) (.t 7) (.t 48))] none [0, 1, 4, 7])
(.seq (.ops [m 49 0, o 50 (.nilck (.t 49)), o 51 (.fldAddr 5 (.t 50)), o 52 (.load none (.t 51)), m 53 1, o 54 (.fldAddr 4 (.t 7)), o 55 (.load none (.t 54)), o 56 (.fldAddr 3 (.t 7)), o 57 (.load none (.t 56)), m 58 0, o 59 (.nilck (.t 58)), o 60 (.fldAddr 10 (.t 59)), o 61 (.load none (.t 60)), m 62 0, ⟨some 63, .call 324 [(.t 62)], none, [3, 6, 8, 12]⟩, ⟨some 64, .call 48 [(.t 55), (.t 57), (.t 61), (.t 63)], none, [3]⟩, o 65 (.idxAddr 10 (.t 52) (.t 53)), n (.store (some 10) (.t 65) (.t 64))] (some [(0, []), (1, [0]), (2, [1, 0]), (3, [2, 1, 0]), (4, []), (5, []), (6, [5]), (7, []), (8, [7]), (9, []), (10, [9]), (11, [10, 9]), (12, [11, 10, 9]), (13, []), (14, [13]), (15, [6, 5, 8, 7, 12, 11, 10, 9, 14, 13]), (16, [3, 2, 1, 0, 4, 5, 6, 7, 8, 9, 10, 11, 12, 13, 14, 15]), (17, [16, 3, 2, 1, 0, 4, 5, 6, 7, 8, 9, 10, 11, 12, 13, 14, 15])]) [0, 1, 4])
(.seq (.ops [m 66 0, o 67 (.nilck (.t 66)), o 68 (.fldAddr 10 (.t 67)), o 69 (.load none (.t 68)), m 70 1, o 71 (.build [(.int .i64 0), (.int .i64 0), (.int .i64 0), (.int .i64 0), (.int .i64 0), (.int .i64 0), (.int .i64 0)] [(0, 1, (.t 69)), (1, 1, (k 1)), (2, 1, (.t 70))]), n (.store (some 7) (.t 4) (.t 71))] none [4])
(.ret)))))))
def f306 : SFunc := ⟨b306, [.cell (some 7) 4]⟩

def b449 : SCode := (
.seq (.ops [o 2 (.move (.c .nils))] none [0])
(.seq (.ops [o 3 (.move (.c .nils))] none [0, 3])
(.seq (.seq (.ops [m 6 0, o 7 (.nilck (.t 6)), o 8 (.fldAddr 9 (.t 7)), o 9 (.load none (.t 8)), o 10 (.call 454 [(.t 9)]), o 11 (.len .sl (.t 10)), o 12 (.move (k 0))] none [0, 3, 10, 11, 12])
(.block 0 (.loop [0, 3, 10, 11, 12] (.seq (.ops [o 13 (.bin .lss (.t 12) (.t 11))] none [0, 3, 10, 11, 12, 13])
(.seq (.cond (.t 13)
(.skip)
(.exit 0))
(.seq (.block 1 (.seq (.ops [o 14 (.idxAddr 1 (.t 10) (.t 12)), o 15 (.load none (.t 14)), m 5 15] none [0, 3, 5, 10, 11, 12])
(.ops [m 16 3, m 17 0, m 18 0, o 19 (.nilck (.t 18)), o 20 (.fldAddr 10 (.t 19)), o 21 (.load none (.t 20)), m 22 5, o 23 (.build [(.int .i64 0), (.int .i64 0), (.int .i64 0), (.int .i64 0)] [(0, 1, (.t 22)), (1, 1, (.c (.int .i64 (-1)))), (3, 1, (k 17))]), o 24 (.call 345 [(.t 17), (.t 21), (.t 23)]), o 25 (.buildSl 1 [(.int .i64 0), (.int .i64 0), (.int .i64 0), (.int .i64 0), (.int .i64 0), (.int .i64 0), (.int .i64 0)] [(0, 7, (.t 24))]), o 26 (.append 7 (.t 16) (.t 25)), m 3 26] none [0, 3, 10, 11, 12])))
(.ops [o 27 (.bin .add (.t 12) (k 1)), m 12 27] none [0, 3, 10, 11, 12])))))))
(.seq (.ops [m 28 3, m 2 28] none [2])
(.ret)))))
def f449 : SFunc := ⟨b449, [.t 2]⟩

def b309 : SCode := (
.seq (.ops [o 2 (.move (k 0)), o 3 (.move (.c (.bool false)))] none [0])
(.seq (.ops [m 8 0, o 9 (.call 308 [(.t 8)]), m 4 9] none [0, 4])
(.seq (.ops [o 5 (.move (.c (.int .i64 (-1))))] none [0, 4, 5])
(.seq (.seq (.ops [m 10 0, o 11 (.nilck (.t 10)), o 12 (.fldAddr 5 (.t 11)), o 13 (.load none (.t 12)), o 14 (.len .sl (.t 13)), o 15 (.move (k 0))] none [0, 4, 5, 13, 14, 15])
(.block 0 (.loop [0, 4, 5, 13, 14, 15] (.seq (.ops [o 16 (.bin .lss (.t 15) (.t 14))] none [0, 4, 5, 13, 14, 15, 16])
(.seq (.cond (.t 16)
(.skip)
(.exit 0))
(.seq (.block 1 (.seq (.ops [m 17 15, o 18 (.idxAddr 10 (.t 13) (.t 15)), o 19 (.load (some 10) (.t 18)), o 7 (.alloc (.agg [(.bool false), .nils, (.int .i64 0), (.int .i64 0), (.int .i64 0), (.int .i64 0), (.int .i64 0), (.int .i64 0), (.bool false), .nils])), m 6 17, n (.store (some 10) (.t 7) (.t 19))] none [0, 4, 5, 6, 7, 13, 14, 15])
(.seq (.seq (.ops [o 20 (.fldAddr 0 (.t 7)), o 21 (.load none (.t 20)), o 22 (.not (.t 21)), m 23 22, ⟨some 24, .fldAddr 8 (.t 7), (some (23, false)), []⟩, ⟨some 25, .load none (.t 24), (some (23, false)), []⟩, o 26 (.pick (.t 23) (.c (.bool true)) (.t 25))] none [0, 4, 5, 6, 7, 13, 14, 15, 26])
(.cond (.t 26)
(.exit 1)
(.skip)))
(.seq (.ops [m 27 5, o 28 (.bin .lss (.t 27) (k 0)), m 29 28, ⟨some 30, .move (.t 4), (some (29, false)), []⟩, ⟨some 31, .move (.t 6), (some (29, false)), []⟩, ⟨some 32, .idxAddr 1 (.t 30) (.t 31), (some (29, false)), []⟩, ⟨some 33, .load none (.t 32), (some (29, false)), []⟩, ⟨some 34, .move (.t 4), (some (29, false)), []⟩, ⟨some 35, .move (.t 5), (some (29, false)), []⟩, ⟨some 36, .idxAddr 1 (.t 34) (.t 35), (some (29, false)), []⟩, ⟨some 37, .load none (.t 36), (some (29, false)), []⟩, ⟨some 38, .bin .gtr (.t 33) (.t 37), (some (29, false)), []⟩, o 39 (.pick (.t 29) (.c (.bool true)) (.t 38)), m 40 39, ⟨some 41, .move (.t 4), (some (40, false)), []⟩, ⟨some 42, .move (.t 6), (some (40, false)), []⟩, ⟨some 43, .idxAddr 1 (.t 41) (.t 42), (some (40, false)), []⟩, ⟨some 44, .load none (.t 43), (some (40, false)), []⟩, ⟨some 45, .move (.t 4), (some (40, false)), []⟩, ⟨some 46, .move (.t 5), (some (40, false)), []⟩, ⟨some 47, .idxAddr 1 (.t 45) (.t 46), (some (40, false)), []⟩, ⟨some 48, .load none (.t 47), (some (40, false)), []⟩, ⟨some 49, .bin .eql (.t 44) (.t 48), (some (40, false)), []⟩, ⟨some 50, .move (.t 49), (some (40, false)), []⟩, ⟨some 51, .fldAddr 7 (.t 7), (some (50, true)), []⟩, ⟨some 52, .load none (.t 51), (some (50, true)), []⟩, ⟨some 53, .move (.t 0), (some (50, true)), []⟩, ⟨some 54, .nilck (.t 53), (some (50, true)), []⟩, ⟨some 55, .fldAddr 5 (.t 54), (some (50, true)), []⟩, ⟨some 56, .load none (.t 55), (some (50, true)), []⟩, ⟨some 57, .move (.t 5), (some (50, true)), []⟩, ⟨some 58, .idxAddr 10 (.t 56) (.t 57), (some (50, true)), []⟩, ⟨some 59, .fldAddr 7 (.t 58), (some (50, true)), []⟩, ⟨some 60, .load none (.t 59), (some (50, true)), []⟩, ⟨some 61, .bin .lss (.t 52) (.t 60), (some (50, true)), []⟩, ⟨some 62, .pick (.t 50) (.t 61) (.c (.bool false)), (some (40, false)), []⟩, o 63 (.pick (.t 40) (.c (.bool true)) (.t 62))] (some [(0, []), (1, [0]), (2, [1, 0]), (3, [2, 1, 0]), (4, [2, 1, 0]), (5, [3, 2, 1, 0, 4]), (6, [5, 3, 2, 1, 0, 4]), (7, [2, 1, 0]), (8, [2, 1, 0]), (9, [7, 2, 1, 0, 8]), (10, [9, 7, 2, 1, 0, 8]), (11, [6, 5, 3, 2, 1, 0, 4, 10, 9, 7, 8]), (12, [2, 1, 0, 11, 6, 5, 3, 4, 10, 9, 7, 8]), (13, [12, 2, 1, 0, 11, 6, 5, 3, 4, 10, 9, 7, 8]), (14, [13, 12, 2, 1, 0, 11, 6, 5, 3, 4, 10, 9, 7, 8]), (15, [13, 12, 2, 1, 0, 11, 6, 5, 3, 4, 10, 9, 7, 8]), (16, [14, 13, 12, 2, 1, 0, 11, 6, 5, 3, 4, 10, 9, 7, 8, 15]), (17, [16, 14, 13, 12, 2, 1, 0, 11, 6, 5, 3, 4, 10, 9, 7, 8, 15]), (18, [13, 12, 2, 1, 0, 11, 6, 5, 3, 4, 10, 9, 7, 8]), (19, [13, 12, 2, 1, 0, 11, 6, 5, 3, 4, 10, 9, 7, 8]), (20, [18, 13, 12, 2, 1, 0, 11, 6, 5, 3, 4, 10, 9, 7, 8, 19]), (21, [20, 18, 13, 12, 2, 1, 0, 11, 6, 5, 3, 4, 10, 9, 7, 8, 19]), (22, [17, 16, 14, 13, 12, 2, 1, 0, 11, 6, 5, 3, 4, 10, 9, 7, 8, 15, 21, 20, 18, 19]), (23, [22, 17, 16, 14, 13, 12, 2, 1, 0, 11, 6, 5, 3, 4, 10, 9, 7, 8, 15, 21, 20, 18, 19]), (24, [23, 22, 17, 16, 14, 13, 12, 2, 1, 0, 11, 6, 5, 3, 4, 10, 9, 7, 8, 15, 21, 20, 18, 19]), (25, [24, 23, 22, 17, 16, 14, 13, 12, 2, 1, 0, 11, 6, 5, 3, 4, 10, 9, 7, 8, 15, 21, 20, 18, 19]), (26, [23, 22, 17, 16, 14, 13, 12, 2, 1, 0, 11, 6, 5, 3, 4, 10, 9, 7, 8, 15, 21, 20, 18, 19]), (27, [26, 23, 22, 17, 16, 14, 13, 12, 2, 1, 0, 11, 6, 5, 3, 4, 10, 9, 7, 8, 15, 21, 20, 18, 19]), (28, [27, 26, 23, 22, 17, 16, 14, 13, 12, 2, 1, 0, 11, 6, 5, 3, 4, 10, 9, 7, 8, 15, 21, 20, 18, 19]), (29, [28, 27, 26, 23, 22, 17, 16, 14, 13, 12, 2, 1, 0, 11, 6, 5, 3, 4, 10, 9, 7, 8, 15, 21, 20, 18, 19]), (30, [23, 22, 17, 16, 14, 13, 12, 2, 1, 0, 11, 6, 5, 3, 4, 10, 9, 7, 8, 15, 21, 20, 18, 19]), (31, [29, 28, 27, 26, 23, 22, 17, 16, 14, 13, 12, 2, 1, 0, 11, 6, 5, 3, 4, 10, 9, 7, 8, 15, 21, 20, 18, 19, 30]), (32, [31, 29, 28, 27, 26, 23, 22, 17, 16, 14, 13, 12, 2, 1, 0, 11, 6, 5, 3, 4, 10, 9, 7, 8, 15, 21, 20, 18, 19, 30]), (33, [32, 31, 29, 28, 27, 26, 23, 22, 17, 16, 14, 13, 12, 2, 1, 0, 11, 6, 5, 3, 4, 10, 9, 7, 8, 15, 21, 20, 18, 19, 30]), (34, [25, 24, 23, 22, 17, 16, 14, 13, 12, 2, 1, 0, 11, 6, 5, 3, 4, 10, 9, 7, 8, 15, 21, 20, 18, 19, 33, 32, 31, 29, 28, 27, 26, 30]), (35, [23, 22, 17, 16, 14, 13, 12, 2, 1, 0, 11, 6, 5, 3, 4, 10, 9, 7, 8, 15, 21, 20, 18, 19, 34, 25, 24, 33, 32, 31, 29, 28, 27, 26, 30]), (36, [13, 12, 2, 1, 0, 11, 6, 5, 3, 4, 10, 9, 7, 8, 35, 23, 22, 17, 16, 14, 15, 21, 20, 18, 19, 34, 25, 24, 33, 32, 31, 29, 28, 27, 26, 30])]) [0, 4, 5, 6, 13, 14, 15, 63])
(.cond (.t 63)
(.ops [m 64 6, m 5 64] none [0, 4, 5, 13, 14, 15])
(.skip))))))
(.ops [o 65 (.bin .add (.t 15) (k 1)), m 15 65] none [0, 4, 5, 13, 14, 15])))))))
(.seq (.ops [m 66 5, o 67 (.mx [(.t 66), (k 0)]), m 68 5, o 69 (.bin .geq (.t 68) (k 0)), m 2 67, m 3 69] none [2, 3])
(.ret))))))
def f309 : SFunc := ⟨b309, [.t 2, .t 3]⟩

def b312 : SCode := (
.seq (.ops [o 4 (.alloc (.agg [(.bool false), .nils, (.int .i64 0), (.int .i64 0), (.int .i64 0), (.int .i64 0), (.int .i64 0), (.int .i64 0), (.bool false), .nils]))] none [0, 1, 4])
(.seq (.seq (.ops [m 6 0, m 7 1, o 8 (.call 323 [(.t 6), (.t 7)]), o 9 (.not (.t 8))] none [0, 1, 4, 9])
(.cond (.t 9)
(.seq (.ops [o 10 (.build [(.bool false), .nils, (.int .i64 0), (.int .i64 0), (.int .i64 0), (.int .i64 0), (.int .i64 0), (.int .i64 0), (.bool false), .nils] []), n (.store (some 10) (.t 4) (.t 10))] none [4])
(.ret))
(.skip)))
(.seq (.ops [m 11 0, o 12 (.nilck (.t 11)), o 13 (.fldAddr 5 (.t 12)), o 14 (.load none (.t 13)), m 15 1, o 16 (.idxAddr 10 (.t 14) (.t 15)), o 17 (.load (some 10) (.t 16)), o 5 (.alloc (.agg [(.bool false), .nils, (.int .i64 0), (.int .i64 0), (.int .i64 0), (.int .i64 0), (.int .i64 0), (.int .i64 0), (.bool false), .nils])), n (.store (some 10) (.t 5) (.t 17))] none [4, 5])
(.seq (.ops [o 18 (.fldAddr 1 (.t 5)), o 19 (.load none (.t 18)), o 21 (.fldAddr 9 (.t 5)), o 22 (.load none (.t 21)), ⟨some 20, .call 333 [(.t 19)], none, [3]⟩, o 24 (.fldAddr 1 (.t 5)), o 23 (.call 55 [(.t 22)]), n (.store none (.t 24) (.t 20)), o 25 (.fldAddr 9 (.t 5)), n (.store none (.t 25) (.t 23))] (some [(0, []), (1, [0]), (3, []), (4, [2]), (2, [1, 0]), (6, [0, 1, 4, 2, 3]), (5, [3, 2, 4, 1, 0]), (7, [5, 0, 1, 4, 2, 3, 6]), (8, [0, 1, 4, 2, 3, 6, 5, 7]), (9, [8, 0, 1, 4, 2, 3, 6, 5, 7])]) [4, 5])
(.seq (.ops [o 26 (.load (some 10) (.t 5)), n (.store (some 10) (.t 4) (.t 26))] none [4])
(.ret))))))
def f312 : SFunc := ⟨b312, [.cell (some 10) 4]⟩

def b310 : SCode := (
.seq (.ops [o 4 (.move (.c .nils))] none [0, 1])
(.seq (.seq (.ops [m 8 0, m 9 1, o 10 (.call 323 [(.t 8), (.t 9)]), o 11 (.not (.t 10)), m 12 11, ⟨some 13, .move (.t 0), (some (12, false)), []⟩, ⟨some 14, .nilck (.t 13), (some (12, false)), []⟩, ⟨some 15, .fldAddr 5 (.t 14), (some (12, false)), []⟩, ⟨some 16, .load none (.t 15), (some (12, false)), []⟩, ⟨some 17, .move (.t 1), (some (12, false)), []⟩, ⟨some 18, .idxAddr 10 (.t 16) (.t 17), (some (12, false)), []⟩, ⟨some 19, .fldAddr 0 (.t 18), (some (12, false)), []⟩, ⟨some 20, .load none (.t 19), (some (12, false)), []⟩, ⟨some 21, .not (.t 20), (some (12, false)), []⟩, o 22 (.pick (.t 12) (.c (.bool true)) (.t 21)), m 23 22, ⟨some 24, .move (.t 0), (some (23, false)), []⟩, ⟨some 25, .nilck (.t 24), (some (23, false)), []⟩, ⟨some 26, .fldAddr 5 (.t 25), (some (23, false)), []⟩, ⟨some 27, .load none (.t 26), (some (23, false)), []⟩, ⟨some 28, .move (.t 1), (some (23, false)), []⟩, ⟨some 29, .idxAddr 10 (.t 27) (.t 28), (some (23, false)), []⟩, ⟨some 30, .fldAddr 8 (.t 29), (some (23, false)), []⟩, ⟨some 31, .load none (.t 30), (some (23, false)), []⟩, o 32 (.pick (.t 23) (.c (.bool true)) (.t 31)), m 33 32, ⟨some 34, .move (.t 0), (some (33, false)), []⟩, ⟨some 35, .nilck (.t 34), (some (33, false)), []⟩, ⟨some 36, .fldAddr 5 (.t 35), (some (33, false)), []⟩, ⟨some 37, .load none (.t 36), (some (33, false)), []⟩, ⟨some 38, .move (.t 1), (some (33, false)), []⟩, ⟨some 39, .idxAddr 10 (.t 37) (.t 38), (some (33, false)), []⟩, ⟨some 40, .fldAddr 3 (.t 39), (some (33, false)), []⟩, ⟨some 41, .load none (.t 40), (some (33, false)), []⟩, ⟨some 42, .bin .eql (.t 41) (k 0), (some (33, false)), []⟩, o 43 (.pick (.t 33) (.c (.bool true)) (.t 42))] none [0, 1, 43])
(.cond (.t 43)
(.seq (.ops [o 4 (.move (.c .nils))] none [4])
(.ret))
(.skip)))
(.seq (.ops [m 44 0, o 45 (.nilck (.t 44)), o 46 (.fldAddr 10 (.t 45)), o 47 (.load none (.t 46)), m 48 1, o 49 (.build [(.int .i64 0), (.int .i64 0), (.int .i64 0), (.int .i64 0), (.int .i64 0), (.int .i64 0), (.int .i64 0)] [(0, 1, (.t 47)), (1, 1, (k 3)), (2, 1, (.t 48))]), o 50 (.buildSl 1 [(.int .i64 0), (.int .i64 0), (.int .i64 0), (.int .i64 0), (.int .i64 0), (.int .i64 0), (.int .i64 0)] [(0, 7, (.t 49))]), m 5 50] none [0, 1, 5])
(.seq (.ops [m 52 0, o 53 (.nilck (.t 52)), o 54 (.fldAddr 5 (.t 53)), o 55 (.load none (.t 54)), m 56 1, o 57 (.idxAddr 10 (.t 55) (.t 56)), o 58 (.load (some 10) (.t 57)), o 59 (.call 39 [(.t 58)]), m 51 59, o 60 (.ext 0 (.t 51)), o 61 (.ext 1 (.t 51)), o 6 (.alloc (.agg [(.bool false), .nils, (.int .i64 0), (.int .i64 0), (.int .i64 0), (.int .i64 0), (.int .i64 0), (.int .i64 0), (.bool false), .nils])), n (.store (some 10) (.t 6) (.t 60)), m 7 61] none [0, 1, 5, 6, 7])
(.seq (.ops [m 62 0, o 63 (.nilck (.t 62)), o 64 (.fldAddr 5 (.t 63)), o 65 (.load none (.t 64)), m 66 1, o 67 (.load (some 10) (.t 6)), o 68 (.idxAddr 10 (.t 65) (.t 66)), n (.store (some 10) (.t 68) (.t 67))] (some [(0, []), (1, [0]), (2, [1, 0]), (3, [2, 1, 0]), (4, []), (5, []), (6, [3, 2, 1, 0, 4, 5]), (7, [6, 3, 2, 1, 0, 4, 5])]) [0, 1, 5, 7])
(.seq (.seq (.ops [m 69 7] none [0, 1, 5, 69])
(.cond (.t 69)
(.ops [m 70 5, m 71 0, m 72 0, o 73 (.nilck (.t 72)), o 74 (.fldAddr 10 (.t 73)), o 75 (.load none (.t 74)), o 76 (.bin .add (.t 75) (k 1)), m 77 1, o 78 (.call 332 [(.t 71), (.t 76), (.t 77)]), o 79 (.append 7 (.t 70) (.t 78)), m 5 79] none [5])
(.skip)))
(.seq (.ops [m 80 5, m 4 80] none [4])
(.ret))))))))
def f310 : SFunc := ⟨b310, [.t 4]⟩

def b450 : SCode := (
.seq (.ops [o 2 (.move (.c .nils))] none [0])
(.seq (.ops [o 3 (.move (.c .nils))] none [0, 3])
(.block 0 (.loop [0, 3] (.block 1 (.seq (.ops [m 9 0, o 10 (.nilck (.t 9)), o 11 (.fldAddr 0 (.t 10)), o 12 (.load none (.t 11)), o 13 (.call 309 [(.t 12)]), m 8 13, o 14 (.ext 0 (.t 8)), o 15 (.ext 1 (.t 8)), m 4 14, m 5 15] none [0, 3, 4, 5])
(.seq (.seq (.ops [m 16 5, o 17 (.not (.t 16)), m 18 17, ⟨some 19, .move (.t 0), (some (18, false)), []⟩, ⟨some 20, .nilck (.t 19), (some (18, false)), []⟩, ⟨some 21, .fldAddr 0 (.t 20), (some (18, false)), []⟩, ⟨some 22, .load none (.t 21), (some (18, false)), []⟩, ⟨some 23, .move (.t 4), (some (18, false)), []⟩, ⟨some 24, .call 312 [(.t 22), (.t 23)], (some (18, false)), []⟩, ⟨some 25, .fld 3 none (.t 24), (some (18, false)), []⟩, ⟨some 26, .bin .neq (.t 25) (k 0), (some (18, false)), []⟩, o 27 (.pick (.t 18) (.c (.bool true)) (.t 26))] none [0, 3, 4, 27])
(.cond (.t 27)
(.seq (.ops [m 28 3, m 2 28] none [2])
(.ret))
(.skip)))
(.seq (.ops [m 30 0, o 31 (.nilck (.t 30)), o 32 (.fldAddr 0 (.t 31)), o 33 (.load none (.t 32)), m 34 4, o 35 (.call 307 [(.t 33), (.t 34), (.c (.bool true))]), m 29 35, o 36 (.ext 0 (.t 29)), o 37 (.ext 1 (.t 29)), m 6 36, m 7 37] none [0, 3, 6])
(.ops [m 38 3, m 39 6, o 40 (.append 7 (.t 38) (.t 39)), m 3 40] none [0, 3])))))))))
def f450 : SFunc := ⟨b450, [.t 2]⟩

def b307 : SCode := (
.seq (.ops [o 6 (.move (.c .nils)), o 7 (.move (.c (.bool false)))] none [0, 1, 2])
(.seq (.seq (.ops [m 14 0, m 15 1, o 16 (.call 323 [(.t 14), (.t 15)]), o 17 (.not (.t 16)), m 18 17, ⟨some 19, .move (.t 0), (some (18, false)), []⟩, ⟨some 20, .nilck (.t 19), (some (18, false)), []⟩, ⟨some 21, .fldAddr 5 (.t 20), (some (18, false)), []⟩, ⟨some 22, .load none (.t 21), (some (18, false)), []⟩, ⟨some 23, .move (.t 1), (some (18, false)), []⟩, ⟨some 24, .idxAddr 10 (.t 22) (.t 23), (some (18, false)), []⟩, ⟨some 25, .fldAddr 0 (.t 24), (some (18, false)), []⟩, ⟨some 26, .load none (.t 25), (some (18, false)), []⟩, ⟨some 27, .not (.t 26), (some (18, false)), []⟩, o 28 (.pick (.t 18) (.c (.bool true)) (.t 27)), m 29 28, ⟨some 30, .move (.t 0), (some (29, false)), []⟩, ⟨some 31, .nilck (.t 30), (some (29, false)), []⟩, ⟨some 32, .fldAddr 5 (.t 31), (some (29, false)), []⟩, ⟨some 33, .load none (.t 32), (some (29, false)), []⟩, ⟨some 34, .move (.t 1), (some (29, false)), []⟩, ⟨some 35, .idxAddr 10 (.t 33) (.t 34), (some (29, false)), []⟩, ⟨some 36, .fldAddr 8 (.t 35), (some (29, false)), []⟩, ⟨some 37, .load none (.t 36), (some (29, false)), []⟩, o 38 (.pick (.t 29) (.c (.bool true)) (.t 37)), m 39 38, ⟨some 40, .move (.t 0), (some (39, false)), []⟩, ⟨some 41, .nilck (.t 40), (some (39, false)), []⟩, ⟨some 42, .fldAddr 5 (.t 41), (some (39, false)), []⟩, ⟨some 43, .load none (.t 42), (some (39, false)), []⟩, ⟨some 44, .move (.t 1), (some (39, false)), []⟩, ⟨some 45, .idxAddr 10 (.t 43) (.t 44), (some (39, false)), []⟩, ⟨some 46, .fldAddr 3 (.t 45), (some (39, false)), []⟩, ⟨some 47, .load none (.t 46), (some (39, false)), []⟩, ⟨some 48, .bin .neq (.t 47) (k 0), (some (39, false)), []⟩, o 49 (.pick (.t 39) (.c (.bool true)) (.t 48))] none [0, 1, 2, 49])
(.cond (.t 49)
(.seq (.ops [o 6 (.move (.c .nils)), o 7 (.move (.c (.bool false)))] none [6, 7])
(.ret))
(.skip)))
(.seq (.ops [m 50 0, o 51 (.nilck (.t 50)), o 52 (.fldAddr 10 (.t 51)), o 53 (.load none (.t 52)), m 8 53] none [0, 1, 2, 8])
(.seq (.seq (.ops [m 54 2] none [0, 1, 8, 54])
(.cond (.t 54)
(.ops [m 55 8, o 56 (.bin .add (.t 55) (k 1)), m 8 56] none [0, 1, 8])
(.skip)))
(.seq (.ops [m 58 0, o 59 (.nilck (.t 58)), o 60 (.fldAddr 5 (.t 59)), o 61 (.load none (.t 60)), m 62 1, o 63 (.idxAddr 10 (.t 61) (.t 62)), o 64 (.load (some 10) (.t 63)), o 65 (.call 30 [(.t 64)]), m 57 65, o 66 (.ext 0 (.t 57)), o 67 (.ext 1 (.t 57)), o 9 (.alloc (.agg [(.int .i64 0), (.int .i64 0), (.int .i64 0), (.int .i64 0), .nils])), n (.store (some 5) (.t 9) (.t 66)), m 10 67] none [0, 1, 8, 9, 10])
(.seq (.ops [o 11 (.move (.c .nils))] none [0, 1, 8, 9, 10])
(.seq (.skip)
(.seq (.block 0 (.seq (.ops [m 74 10, o 75 (.not (.t 74)), m 73 75] none [0, 1, 8, 9, 73])
(.cond (.t 73)
(.seq (.ops [m 76 0, o 77 (.nilck (.t 76)), o 78 (.fldAddr 5 (.t 77)), o 79 (.load none (.t 78)), m 80 1, o 81 (.build [(.bool false), .nils, (.int .i64 0), (.int .i64 0), (.int .i64 0), (.int .i64 0), (.int .i64 0), (.int .i64 0), (.bool false), .nils] []), o 82 (.idxAddr 10 (.t 79) (.t 80)), n (.store (some 10) (.t 82) (.t 81))] none [1, 8])
(.seq (.ops [m 83 8, m 84 1, o 85 (.build [(.int .i64 0), (.int .i64 0), (.int .i64 0), (.int .i64 0), (.int .i64 0), (.int .i64 0), (.int .i64 0)] [(0, 1, (.t 83)), (1, 1, (k 6)), (2, 1, (.t 84))]), o 86 (.buildSl 1 [(.int .i64 0), (.int .i64 0), (.int .i64 0), (.int .i64 0), (.int .i64 0), (.int .i64 0), (.int .i64 0)] [(0, 7, (.t 85))]), m 11 86] none [11])
(.exit 0)))
(.seq (.ops [o 88 (.fldAddr 0 (.t 9)), o 89 (.load none (.t 88)), o 90 (.bin .eql (.t 89) (k 1)), m 87 90] none [0, 1, 8, 9, 87])
(.cond (.t 87)
(.ops [m 91 0, m 92 8, m 93 1, o 94 (.call 325 [(.t 91), (.t 92), (.t 93)]), m 11 94] none [11])
(.seq (.ops [o 96 (.fldAddr 0 (.t 9)), o 97 (.load none (.t 96)), o 98 (.bin .eql (.t 97) (k 2)), m 95 98] none [0, 1, 8, 9, 95])
(.cond (.t 95)
(.ops [m 99 0, m 100 8, m 101 1, o 102 (.load (some 5) (.t 9)), o 103 (.call 326 [(.t 99), (.t 100), (.t 101), (.t 102)]), m 11 103] none [11])
(.seq (.ops [o 105 (.fldAddr 0 (.t 9)), o 106 (.load none (.t 105)), o 107 (.bin .eql (.t 106) (k 3)), m 104 107] none [0, 1, 8, 9, 104])
(.cond (.t 104)
(.seq (.ops [m 108 0, o 109 (.call 308 [(.t 108)]), m 12 109] none [0, 1, 8, 9, 12])
(.seq (.ops [m 110 0, m 111 8, m 112 1, o 113 (.call 327 [(.t 110), (.t 111), (.t 112), (k 0), (k 0), (k 0)]), o 13 (.alloc (.agg [(.int .i64 0), (.int .i64 0), (.int .i64 0), (.int .i64 0), (.int .i64 0), (.int .i64 0), (.int .i64 0)])), n (.store (some 7) (.t 13) (.t 113))] none [0, 1, 8, 9, 12, 13])
(.ops [o 114 (.load (some 7) (.t 13)), o 115 (.buildSl 1 [(.int .i64 0), (.int .i64 0), (.int .i64 0), (.int .i64 0), (.int .i64 0), (.int .i64 0), (.int .i64 0)] [(0, 7, (.t 114))]), m 116 0, m 117 8, m 118 1, o 119 (.fldAddr 1 (.t 9)), o 120 (.load none (.t 119)), m 121 12, ⟨some 122, .call 328 [(.t 116), (.t 117), (.t 118), (.t 120), (.t 121)], none, [0]⟩, o 123 (.append 7 (.t 115) (.t 122)), m 11 123] (some [(0, []), (1, [0]), (2, []), (3, []), (4, []), (5, []), (6, [5]), (7, []), (8, [2, 3, 4, 6, 5, 7]), (9, [1, 0, 8, 2, 3, 4, 6, 5, 7]), (10, [9, 1, 0, 8, 2, 3, 4, 6, 5, 7])]) [11])))
(.seq (.ops [o 125 (.fldAddr 0 (.t 9)), o 126 (.load none (.t 125)), o 127 (.bin .eql (.t 126) (k 6)), m 124 127] none [0, 1, 8, 9, 124])
(.cond (.t 124)
(.ops [m 128 0, m 129 8, m 130 1, o 131 (.load (some 5) (.t 9)), o 132 (.call 329 [(.t 128), (.t 129), (.t 130), (.t 131)]), m 11 132] none [11])
(.ops [m 68 0, m 69 8, m 70 1, o 71 (.load (some 5) (.t 9)), o 72 (.call 330 [(.t 68), (.t 69), (.t 70), (.t 71)]), m 11 72] none [11]))))))))))))
(.seq (.ops [m 133 11, m 6 133, o 7 (.move (.c (.bool true)))] none [6, 7])
(.ret))))))))))
def f307 : SFunc := ⟨b307, [.t 6, .t 7]⟩

def b316 : SCode := (
.ops [m 2 0, o 3 (.nilck (.t 2)), o 4 (.fldAddr 10 (.t 3)), o 5 (.load none (.t 4)), o 6 (.bin .add (.t 5) (k 1)), o 7 (.nilck (.t 2)), o 8 (.fldAddr 10 (.t 7)), n (.store none (.t 8) (.t 6))] none [])
def f316 : SFunc := ⟨b316, []⟩

def b334 : SCode := (
.seq (.ops [o 2 (.move (.c .nilp))] none [0])
(.seq (.ops [m 3 0, o 4 (.nilck (.t 3)), o 5 (.fldAddr 0 (.t 4)), o 6 (.load none (.t 5)), m 7 0, o 8 (.nilck (.t 7)), o 9 (.fldAddr 1 (.t 8)), o 10 (.load none (.t 9)), ⟨some 11, .call 356 [(.t 10)], none, [3]⟩, o 12 (.build [(.int .i64 0), .nils] [(0, 1, (.t 6)), (1, 1, (.t 11))]), o 13 (.box (.t 12)), m 2 13] (some [(0, []), (1, [0]), (2, [1, 0]), (3, [2, 1, 0]), (4, []), (5, [4]), (6, [5, 4]), (7, [6, 5, 4]), (8, [7, 6, 5, 4]), (9, [3, 2, 1, 0, 8, 7, 6, 5, 4]), (10, [9, 3, 2, 1, 0, 8, 7, 6, 5, 4]), (11, [10, 9, 3, 2, 1, 0, 8, 7, 6, 5, 4])]) [2])
(.ret)))
def f334 : SFunc := ⟨b334, [.t 2]⟩

def b483 : SCode := (
.seq (.ops [o 1 (.box (.t 0)), o 2 (.alloc (.agg [(.int .i64 0), (.int .i64 0), (.int .i64 0), (.bool false), (.bool false), (.int .i64 0), (.int .i64 0)]))] none [1, 2])
(.seq (.ops [o 3 (.fldAddr 0 (.t 1)), o 4 (.load none (.t 3)), o 5 (.fldAddr 1 (.t 1)), o 6 (.load none (.t 5)), o 7 (.fldAddr 2 (.t 1)), o 8 (.load none (.t 7)), o 9 (.fldAddr 3 (.t 1)), o 10 (.load none (.t 9)), o 11 (.fldAddr 4 (.t 1)), o 12 (.load none (.t 11)), o 13 (.fldAddr 5 (.t 1)), o 14 (.load none (.t 13)), o 15 (.fldAddr 6 (.t 1)), o 16 (.load none (.t 15)), o 17 (.build [(.int .i64 0), (.int .i64 0), (.int .i64 0), (.bool false), (.bool false), (.int .i64 0), (.int .i64 0)] [(0, 1, (.t 4)), (1, 1, (.t 6)), (2, 1, (.t 8)), (3, 1, (.t 10)), (4, 1, (.t 12)), (5, 1, (.t 14)), (6, 1, (.t 16))]), n (.store (some 7) (.t 2) (.t 17))] none [2])
(.ret)))
def f483 : SFunc := ⟨b483, [.cell (some 7) 2]⟩

def b273 : SCode := (
.seq (.ops [o 2 (.box (.t 0)), o 4 (.move (k 0))] none [1, 2])
(.seq (.ops [o 12 (.fldAddr 2 (.t 2)), o 13 (.load none (.t 12)), m 14 1, o 15 (.idxAddr 5 (.t 13) (.t 14)), o 16 (.load (some 5) (.t 15)), o 5 (.alloc (.agg [(.str []), (.int .i64 0), (.int .i64 0), (.int .i64 0), .nils])), n (.store (some 5) (.t 5) (.t 16))] none [1, 2, 5])
(.seq (.seq (.ops [o 17 (.fldAddr 0 (.t 5)), o 18 (.load none (.t 17)), o 19 (.call 97 [(.t 18)]), o 20 (.not (.t 19))] none [1, 2, 5, 20])
(.cond (.t 20)
(.seq (.ops [o 4 (.move (k 3))] none [4])
(.ret))
(.skip)))
(.seq (.seq (.ops [o 22 (.load (some 3) (.t 2)), o 23 (.fldAddr 0 (.t 5)), o 24 (.load none (.t 23)), o 25 (.call 285 [(.t 22), (.t 24)]), m 21 25, o 26 (.ext 0 (.t 21)), o 27 (.ext 1 (.t 21)), m 6 26, m 7 27] none [1, 2, 5, 6])
(.seq (.ops [m 28 6, m 29 1, o 30 (.bin .lss (.t 28) (.t 29))] none [2, 5, 30])
(.cond (.t 30)
(.seq (.ops [o 4 (.move (k 6))] none [4])
(.ret))
(.skip))))
(.seq (.seq (.ops [o 31 (.fldAddr 1 (.t 5)), o 32 (.load none (.t 31)), o 33 (.bin .lss (.t 32) (k 1)), m 34 33, ⟨some 35, .fldAddr 1 (.t 5), (some (34, false)), []⟩, ⟨some 36, .load none (.t 35), (some (34, false)), []⟩, ⟨some 37, .bin .gtr (.t 36) (k 1099511627776), (some (34, false)), []⟩, o 38 (.pick (.t 34) (.c (.bool true)) (.t 37)), m 39 38, ⟨some 40, .fldAddr 2 (.t 5), (some (39, false)), []⟩, ⟨some 41, .load none (.t 40), (some (39, false)), []⟩, ⟨some 42, .bin .lss (.t 41) (k 1), (some (39, false)), []⟩, o 43 (.pick (.t 39) (.c (.bool true)) (.t 42)), m 44 43, ⟨some 45, .fldAddr 2 (.t 5), (some (44, false)), []⟩, ⟨some 46, .load none (.t 45), (some (44, false)), []⟩, ⟨some 47, .fldAddr 1 (.t 5), (some (44, false)), []⟩, ⟨some 48, .load none (.t 47), (some (44, false)), []⟩, ⟨some 49, .bin .gtr (.t 46) (.t 48), (some (44, false)), []⟩, o 50 (.pick (.t 44) (.c (.bool true)) (.t 49)), m 51 50, ⟨some 52, .fldAddr 3 (.t 5), (some (51, false)), []⟩, ⟨some 53, .load none (.t 52), (some (51, false)), []⟩, ⟨some 54, .bin .lss (.t 53) (k 1), (some (51, false)), []⟩, o 55 (.pick (.t 51) (.c (.bool true)) (.t 54)), m 56 55, ⟨some 57, .fldAddr 3 (.t 5), (some (56, false)), []⟩, ⟨some 58, .load none (.t 57), (some (56, false)), []⟩, ⟨some 59, .fldAddr 2 (.t 5), (some (56, false)), []⟩, ⟨some 60, .load none (.t 59), (some (56, false)), []⟩, ⟨some 61, .bin .gtr (.t 58) (.t 60), (some (56, false)), []⟩, o 62 (.pick (.t 56) (.c (.bool true)) (.t 61))] none [2, 5, 62])
(.cond (.t 62)
(.seq (.ops [o 4 (.move (k 1))] none [4])
(.ret))
(.skip)))
(.seq (.seq (.ops [o 64 (.fldAddr 4 (.t 5)), o 65 (.load none (.t 64)), o 66 (.call 286 [(.t 65)]), m 63 66, o 67 (.ext 0 (.t 63)), o 68 (.ext 1 (.t 63)), m 8 67, m 9 68] none [2, 5, 9])
(.seq (.ops [m 69 9, o 70 (.bin .neq (.t 69) (k 0))] none [2, 5, 9, 70])
(.cond (.t 70)
(.seq (.ops [m 71 9, m 4 71] none [4])
(.ret))
(.skip))))
(.seq (.seq (.ops [o 72 (.fldAddr 4 (.t 5)), o 73 (.load none (.t 72)), o 74 (.call 287 [(.t 73)]), o 75 (.bin .eql (.t 74) (k 0))] none [2, 5, 75])
(.cond (.t 75)
(.seq (.ops [o 4 (.move (k 5))] none [4])
(.ret))
(.skip)))
(.seq (.seq (.ops [o 76 (.fldAddr 4 (.t 5)), o 77 (.load none (.t 76)), o 78 (.len .sl (.t 77)), o 79 (.move (k 0))] none [2, 77, 78, 79])
(.block 0 (.loop [2, 77, 78, 79] (.seq (.ops [o 80 (.bin .lss (.t 79) (.t 78))] none [2, 77, 78, 79, 80])
(.seq (.cond (.t 80)
(.skip)
(.exit 0))
(.seq (.block 1 (.seq (.ops [o 81 (.idxAddr 5 (.t 77) (.t 79)), o 82 (.load (some 5) (.t 81)), o 11 (.alloc (.agg [(.int .i64 0), (.int .i64 0), (.int .i64 0), (.int .i64 0), .nils])), n (.store (some 5) (.t 11) (.t 82))] none [2, 11, 77, 78, 79])
(.seq (.ops [o 83 (.load (some 3) (.t 2)), o 84 (.load (some 5) (.t 11)), o 85 (.call 288 [(.t 83), (.t 84)]), o 86 (.not (.t 85))] none [2, 77, 78, 79, 86])
(.cond (.t 86)
(.seq (.ops [o 4 (.move (k 3))] none [4])
(.ret))
(.skip)))))
(.ops [o 87 (.bin .add (.t 79) (k 1)), m 79 87] none [2, 77, 78, 79])))))))
(.seq (.ops [o 4 (.move (k 0))] none [4])
(.ret))))))))))
def f273 : SFunc := ⟨b273, [.t 4]⟩

def b452 : SCode := (
.seq (.ops [o 4 (.move (.c (.bool false)))] none [0, 1])
(.seq (.ops [m 5 0, m 6 1, o 7 (.call 455 [(.t 5), (.t 6)]), o 8 (.bin .geq (.t 7) (k 0)), m 4 8] none [4])
(.ret)))
def f452 : SFunc := ⟨b452, [.t 4]⟩

def b451 : SCode := (
.seq (.ops [o 2 (.move (.c (.bool false)))] none [0])
(.seq (.ops [m 3 0, o 4 (.bin .lss (.t 3) (.c (.int .i64 (-1)))), m 5 4, ⟨some 6, .move (.t 0), (some (5, false)), []⟩, ⟨some 7, .bin .gtr (.t 6) (k 12), (some (5, false)), []⟩, o 8 (.pick (.t 5) (.c (.bool true)) (.t 7)), m 2 8] none [2])
(.ret)))
def f451 : SFunc := ⟨b451, [.t 2]⟩

def b338 : SCode := (
.ops [m 4 0, m 5 0, o 6 (.len .sl (.t 5)), m 7 1, o 8 (.call 357 [(.t 4), (.t 6), (.t 7)])] none [])
def f338 : SFunc := ⟨b338, []⟩

def b337 : SCode := (
.seq (.ops [o 5 (.move (k 0))] none [0, 1, 2])
(.seq (.ops [o 6 (.fldAddr 2 (.t 2)), o 7 (.load none (.t 6)), m 8 0, o 9 (.idxAddr 5 (.t 7) (.t 8)), o 10 (.fldAddr 2 (.t 9)), o 11 (.load none (.t 10)), o 12 (.fldAddr 2 (.t 2)), o 13 (.load none (.t 12)), m 14 1, o 15 (.idxAddr 5 (.t 13) (.t 14)), o 16 (.fldAddr 2 (.t 15)), o 17 (.load none (.t 16)), o 18 (.call 358 [(.t 11), (.t 17)]), m 5 18] (some [(0, []), (1, [0]), (2, []), (3, [1, 0, 2]), (4, [3, 1, 0, 2]), (5, [4, 3, 1, 0, 2]), (6, []), (7, [6]), (8, []), (9, [7, 6, 8]), (10, [9, 7, 6, 8]), (11, [10, 9, 7, 6, 8]), (12, [5, 4, 3, 1, 0, 2, 11, 10, 9, 7, 6, 8]), (13, [12, 5, 4, 3, 1, 0, 2, 11, 10, 9, 7, 6, 8])]) [5])
(.ret)))
def f337 : SFunc := ⟨b337, [.t 5]⟩

def b358 : SCode := (
.seq (.ops [o 4 (.move (k 0))] none [0, 1])
(.seq (.ops [m 7 0, o 8 (.call 359 [(.t 7)]), m 5 8] none [0, 1, 5])
(.seq (.ops [m 9 1, o 10 (.call 359 [(.t 9)]), m 6 10] none [0, 1, 5, 6])
(.seq (.seq (.ops [m 11 5] none [0, 1, 6, 11])
(.cond (.t 11)
(.seq (.seq (.ops [m 12 6] none [12])
(.cond (.t 12)
(.seq (.ops [o 4 (.move (k 0))] none [4])
(.ret))
(.skip)))
(.seq (.ops [o 4 (.move (.c (.int .i64 (-1))))] none [4])
(.ret)))
(.skip)))
(.seq (.seq (.ops [m 13 6] none [0, 1, 13])
(.cond (.t 13)
(.seq (.ops [o 4 (.move (k 1))] none [4])
(.ret))
(.skip)))
(.seq (.seq (.ops [m 14 0, m 15 1, o 16 (.bin .lss (.t 14) (.t 15))] none [0, 1, 16])
(.cond (.t 16)
(.seq (.ops [o 4 (.move (.c (.int .i64 (-1))))] none [4])
(.ret))
(.skip)))
(.seq (.seq (.ops [m 17 0, m 18 1, o 19 (.bin .gtr (.t 17) (.t 18))] none [19])
(.cond (.t 19)
(.seq (.ops [o 4 (.move (k 1))] none [4])
(.ret))
(.skip)))
(.seq (.ops [o 4 (.move (k 0))] none [4])
(.ret)))))))))
def f358 : SFunc := ⟨b358, [.t 4]⟩

def b317 : SCode := (
.seq (.ops [o 1 (.box (.t 0)), o 2 (.alloc (.agg [(.int .i64 0), .nils, .nils]))] none [1, 2])
(.seq (.ops [o 4 (.fldAddr 1 (.t 1)), o 5 (.load none (.t 4)), o 6 (.call 335 [(.t 5)]), o 7 (.fldAddr 1 (.t 1)), n (.store none (.t 7) (.t 6))] none [1, 2])
(.seq (.ops [o 8 (.fldAddr 2 (.t 1)), o 9 (.load none (.t 8)), o 10 (.call 336 [(.t 9)]), o 11 (.fldAddr 2 (.t 1)), n (.store none (.t 11) (.t 10))] none [1, 2])
(.seq (.seq (.ops [o 12 (.fldAddr 2 (.t 1)), o 13 (.load none (.t 12)), o 14 (.len .sl (.t 13)), o 15 (.move (k 0))] none [1, 2, 14, 15])
(.block 0 (.loop [1, 2, 14, 15] (.seq (.ops [o 16 (.bin .lss (.t 15) (.t 14))] none [1, 2, 14, 15, 16])
(.seq (.cond (.t 16)
(.skip)
(.exit 0))
(.seq (.block 1 (.seq (.ops [m 17 15, m 3 17] none [1, 2, 3, 14, 15])
(.ops [o 18 (.fldAddr 2 (.t 1)), o 19 (.load none (.t 18)), m 20 3, o 21 (.fldAddr 2 (.t 1)), o 22 (.load none (.t 21)), m 23 3, o 24 (.idxAddr 5 (.t 22) (.t 23)), o 25 (.fldAddr 4 (.t 24)), o 26 (.load none (.t 25)), ⟨some 27, .call 333 [(.t 26)], none, [1]⟩, o 28 (.idxAddr 5 (.t 19) (.t 20)), o 29 (.fldAddr 4 (.t 28)), n (.store none (.t 29) (.t 27))] (some [(0, []), (1, [0]), (2, []), (3, []), (4, [3]), (5, []), (6, [4, 3, 5]), (7, [6, 4, 3, 5]), (8, [7, 6, 4, 3, 5]), (9, [8, 7, 6, 4, 3, 5]), (10, [1, 0, 2, 3, 4, 5, 6, 7, 8, 9]), (11, [10, 1, 0, 2, 3, 4, 5, 6, 7, 8, 9]), (12, [11, 10, 1, 0, 2, 3, 4, 5, 6, 7, 8, 9])]) [1, 2, 14, 15])))
(.ops [o 30 (.bin .add (.t 15) (k 1)), m 15 30] none [1, 2, 14, 15])))))))
(.seq (.ops [o 31 (.load (some 3) (.t 1)), n (.store (some 3) (.t 2) (.t 31))] none [2])
(.ret))))))
def f317 : SFunc := ⟨b317, [.cell (some 3) 2]⟩

def b319 : SCode := (
.seq (.ops [o 1 (.box (.t 0)), o 2 (.move (.c .nils))] none [1])
(.seq (.ops [o 8 (.load (some 3) (.t 1)), o 9 (.call 318 [(.t 8)]), m 3 9] none [1, 3])
(.seq (.ops [o 10 (.fldAddr 0 (.t 1)), o 11 (.load none (.t 10)), o 12 (.mx [(.t 11), (k 0)]), o 13 (.mksl [(.int .i64 0)] (.t 12) (.t 12)), m 4 13] none [1, 3, 4])
(.seq (.skip)
(.seq (.seq (.ops [m 14 4, o 15 (.len .sl (.t 14)), o 16 (.move (k 0))] none [1, 3, 4, 15, 16])
(.block 0 (.loop [1, 3, 4, 15, 16] (.seq (.ops [o 17 (.bin .lss (.t 16) (.t 15))] none [1, 3, 4, 15, 16, 17])
(.seq (.cond (.t 17)
(.skip)
(.exit 0))
(.seq (.block 1 (.seq (.ops [m 18 16, m 5 18] none [1, 3, 4, 5, 15, 16])
(.seq (.ops [o 19 (.fldAddr 2 (.t 1)), o 20 (.load none (.t 19)), o 21 (.len .sl (.t 20)), o 22 (.move (k 0))] none [1, 3, 4, 5, 15, 16, 20, 21, 22])
(.block 2 (.loop [1, 3, 4, 5, 15, 16, 20, 21, 22] (.seq (.ops [o 23 (.bin .lss (.t 22) (.t 21))] none [1, 3, 4, 5, 15, 16, 20, 21, 22, 23])
(.seq (.cond (.t 23)
(.skip)
(.exit 2))
(.seq (.block 3 (.seq (.ops [m 24 22, o 25 (.idxAddr 5 (.t 20) (.t 22)), o 26 (.load (some 5) (.t 25)), o 7 (.alloc (.agg [(.str []), (.int .i64 0), (.int .i64 0), (.int .i64 0), .nils])), m 6 24, n (.store (some 5) (.t 7) (.t 26))] none [1, 3, 4, 5, 6, 7, 15, 16, 20, 21, 22])
(.seq (.seq (.ops [o 27 (.fldAddr 4 (.t 7)), o 28 (.load none (.t 27)), o 29 (.call 339 [(.t 28)]), m 30 5, o 31 (.call 340 [(.t 29), (.t 30)]), o 32 (.not (.t 31))] none [1, 3, 4, 5, 6, 15, 16, 20, 21, 22, 32])
(.cond (.t 32)
(.exit 3)
(.skip)))
(.seq (.ops [m 33 4, m 34 5, m 35 4, m 36 5, o 37 (.idxAddr 1 (.t 35) (.t 36)), o 38 (.load none (.t 37)), m 39 3, m 40 6, o 41 (.idxAddr 1 (.t 39) (.t 40)), o 42 (.load none (.t 41)), o 43 (.mx [(.t 38), (.t 42)]), o 44 (.idxAddr 1 (.t 33) (.t 34)), n (.store none (.t 44) (.t 43))] (some [(0, []), (1, []), (2, []), (3, []), (4, [2, 3]), (5, [4, 2, 3]), (6, []), (7, []), (8, [6, 7]), (9, [8, 6, 7]), (10, [5, 4, 2, 3, 9, 8, 6, 7]), (11, [0, 1, 2, 3, 4, 5, 6, 7, 8, 9, 10]), (12, [11, 0, 1, 2, 3, 4, 5, 6, 7, 8, 9, 10])]) [1, 3, 4, 5, 15, 16, 20, 21, 22])
(.seq (.ops [m 45 4, m 46 5, o 47 (.idxAddr 1 (.t 45) (.t 46)), o 48 (.load none (.t 47)), m 49 3, o 50 (.len .sl (.t 49)), o 51 (.bin .eql (.t 48) (.t 50))] none [1, 3, 4, 5, 15, 16, 20, 21, 22, 51])
(.cond (.t 51)
(.exit 1)
(.skip)))))))
(.ops [o 52 (.bin .add (.t 22) (k 1)), m 22 52] none [1, 3, 4, 5, 15, 16, 20, 21, 22])))))))))
(.ops [o 53 (.bin .add (.t 16) (k 1)), m 16 53] none [1, 3, 4, 15, 16])))))))
(.seq (.ops [m 54 4, m 2 54] none [2])
(.ret)))))))
def f319 : SFunc := ⟨b319, [.t 2]⟩

def b5 : SCode := (
.seq (.ops [o 1 (.box (.t 0)), o 2 (.move (.c .nilp))] none [1])
(.seq (.ops [o 5 (.mkmap), o 6 (.build [.nils, .nilm, (.int .i64 0)] [(1, 1, (.t 5))]), o 7 (.box (.t 6)), m 3 7] none [1, 3])
(.seq (.skip)
(.seq (.block 0 (.loop [1, 3] (.block 1 (.seq (.ops [m 8 3, o 9 (.nilck (.t 8)), o 10 (.fldAddr 0 (.t 9)), o 11 (.load none (.t 10)), o 12 (.len .sl (.t 11)), m 4 12] none [1, 3, 4])
(.seq (.seq (.ops [m 13 4, o 14 (.fldAddr 2 (.t 1)), o 15 (.load none (.t 14)), o 16 (.len .sl (.t 15)), o 17 (.bin .eql (.t 13) (.t 16))] none [1, 3, 4, 17])
(.cond (.t 17)
(.exit 0)
(.skip)))
(.ops [m 18 3, m 19 3, o 20 (.nilck (.t 19)), o 21 (.fldAddr 0 (.t 20)), o 22 (.load none (.t 21)), o 23 (.fldAddr 2 (.t 1)), o 24 (.load none (.t 23)), m 25 4, o 26 (.idxAddr 5 (.t 24) (.t 25)), o 27 (.fldAddr 1 (.t 26)), o 28 (.load none (.t 27)), o 29 (.buildSl 1 [(.int .i64 0)] [(0, 1, (.t 28))]), o 30 (.append 1 (.t 22) (.t 29)), o 31 (.nilck (.t 18)), o 32 (.fldAddr 0 (.t 31)), n (.store none (.t 32) (.t 30))] (some [(0, []), (1, []), (2, [1]), (3, [2, 1]), (4, [3, 2, 1]), (5, []), (6, [5]), (7, []), (8, [6, 5, 7]), (9, [8, 6, 5, 7]), (10, [9, 8, 6, 5, 7]), (11, [10, 9, 8, 6, 5, 7]), (12, [4, 3, 2, 1, 11, 10, 9, 8, 6, 5, 7]), (13, [0, 1, 2, 3, 4, 5, 6, 7, 8, 9, 10, 11, 12]), (14, [13, 0, 1, 2, 3, 4, 5, 6, 7, 8, 9, 10, 11, 12]), (15, [14, 13, 0, 1, 2, 3, 4, 5, 6, 7, 8, 9, 10, 11, 12])]) [1, 3]))))))
(.seq (.ops [m 33 3, m 2 33] none [2])
(.ret))))))
def f5 : SFunc := ⟨b5, [.t 2]⟩

def b320 : SCode := (
.seq (.ops [o 0 (.move (.c .nilp))] none [])
(.seq (.ops [o 1 (.build [.nils] []), o 2 (.box (.t 1)), m 0 2] none [0])
(.ret)))
def f320 : SFunc := ⟨b320, [.t 0]⟩

def b322 : SCode := (
.seq (.ops [o 0 (.move (.c .nilp))] none [])
(.seq (.ops [o 1 (.build [(.int .i64 0), .nils] [(0, 1, (.c (.int .i64 (-1))))]), o 2 (.box (.t 1)), m 0 2] none [0])
(.ret)))
def f322 : SFunc := ⟨b322, [.t 0]⟩

def b323 : SCode := (
.seq (.ops [o 4 (.move (.c (.bool false)))] none [0, 1])
(.seq (.ops [m 5 1, o 6 (.bin .geq (.t 5) (k 0)), m 7 6, ⟨some 8, .move (.t 1), (some (7, true)), []⟩, ⟨some 9, .move (.t 0), (some (7, true)), []⟩, ⟨some 10, .nilck (.t 9), (some (7, true)), []⟩, ⟨some 11, .fldAddr 5 (.t 10), (some (7, true)), []⟩, ⟨some 12, .load none (.t 11), (some (7, true)), []⟩, ⟨some 13, .len .sl (.t 12), (some (7, true)), []⟩, ⟨some 14, .bin .lss (.t 8) (.t 13), (some (7, true)), []⟩, o 15 (.pick (.t 7) (.t 14) (.c (.bool false))), m 4 15] none [4])
(.ret)))
def f323 : SFunc := ⟨b323, [.t 4]⟩

def b6 : SCode := (
.seq (.ops [o 8 (.move (k 0))] none [0, 1, 2, 3])
(.seq (.seq (.ops [m 11 1, o 12 (.bin .lss (.t 11) (k 0)), m 13 12, ⟨some 14, .move (.t 1), (some (13, false)), []⟩, ⟨some 15, .move (.t 0), (some (13, false)), []⟩, ⟨some 16, .nilck (.t 15), (some (13, false)), []⟩, ⟨some 17, .fldAddr 0 (.t 16), (some (13, false)), []⟩, ⟨some 18, .load none (.t 17), (some (13, false)), []⟩, ⟨some 19, .len .sl (.t 18), (some (13, false)), []⟩, ⟨some 20, .bin .geq (.t 14) (.t 19), (some (13, false)), []⟩, o 21 (.pick (.t 13) (.c (.bool true)) (.t 20))] none [0, 1, 2, 3, 21])
(.cond (.t 21)
(.seq (.ops [o 8 (.move (k 3))] none [8])
(.ret))
(.skip)))
(.seq (.seq (.ops [m 22 2, m 23 0, o 24 (.nilck (.t 23)), o 25 (.fldAddr 2 (.t 24)), o 26 (.load none (.t 25)), o 27 (.bin .lss (.t 22) (.t 26)), m 28 27, ⟨some 29, .move (.t 2), (some (28, false)), []⟩, ⟨some 30, .bin .lss (.t 29) (k 0), (some (28, false)), []⟩, o 31 (.pick (.t 28) (.c (.bool true)) (.t 30)), m 32 31, ⟨some 33, .move (.t 2), (some (32, false)), []⟩, ⟨some 34, .bin .gtr (.t 33) (k 1099511627776), (some (32, false)), []⟩, o 35 (.pick (.t 32) (.c (.bool true)) (.t 34))] none [0, 1, 2, 3, 35])
(.cond (.t 35)
(.seq (.ops [o 8 (.move (k 1))] none [8])
(.ret))
(.skip)))
(.seq (.ops [m 37 0, o 38 (.nilck (.t 37)), o 39 (.fldAddr 1 (.t 38)), o 40 (.load none (.t 39)), m 41 1, o 42 (.lookup true .i (.int .i64 0) (.t 40) (.t 41)), m 36 42, o 43 (.ext 0 (.t 36)), o 44 (.ext 1 (.t 36)), m 9 43, m 10 44] none [0, 1, 2, 3, 9, 10])
(.seq (.block 0 (.seq (.ops [m 46 10, m 47 46, ⟨some 48, .move (.t 2), (some (47, true)), []⟩, ⟨some 49, .move (.t 9), (some (47, true)), []⟩, ⟨some 50, .bin .sub (.t 48) (.t 49), (some (47, true)), []⟩, ⟨some 51, .move (.t 0), (some (47, true)), []⟩, ⟨some 52, .nilck (.t 51), (some (47, true)), []⟩, ⟨some 53, .fldAddr 0 (.t 52), (some (47, true)), []⟩, ⟨some 54, .load none (.t 53), (some (47, true)), []⟩, ⟨some 55, .move (.t 1), (some (47, true)), []⟩, ⟨some 56, .idxAddr 1 (.t 54) (.t 55), (some (47, true)), []⟩, ⟨some 57, .load none (.t 56), (some (47, true)), []⟩, ⟨some 58, .bin .lss (.t 50) (.t 57), (some (47, true)), []⟩, o 59 (.pick (.t 47) (.t 58) (.c (.bool false))), m 45 59] none [0, 1, 2, 3, 45])
(.cond (.t 45)
(.seq (.ops [o 8 (.move (k 12))] none [8])
(.ret))
(.seq (.ops [m 61 3, m 60 61] none [0, 1, 2, 60])
(.cond (.t 60)
(.seq (.ops [o 8 (.move (k 10))] none [8])
(.ret))
(.skip))))))
(.seq (.ops [m 62 0, o 63 (.nilck (.t 62)), o 64 (.fldAddr 1 (.t 63)), o 65 (.load none (.t 64)), m 66 1, m 67 0, m 68 2, m 69 2, o 70 (.mapent .i (.int .i64 0) (.t 65) (.t 66)), o 71 (.ext 1 (.t 70)), n (.entst (.t 65) (.t 71) (.t 68)), o 72 (.nilck (.t 67)), o 73 (.fldAddr 2 (.t 72)), n (.store none (.t 73) (.t 69))] none [])
(.seq (.ops [o 8 (.move (k 0))] none [8])
(.ret))))))))
def f6 : SFunc := ⟨b6, [.t 8]⟩

def b48 : SCode := (
.seq (.ops [o 8 (.alloc (.agg [(.bool false), .nils, (.int .i64 0), (.int .i64 0), (.int .i64 0), (.int .i64 0), (.int .i64 0), (.int .i64 0), (.bool false), .nils]))] none [0, 1, 2, 3, 8])
(.seq (.ops [m 9 0, o 10 (.call 65 [(.t 9)]), m 11 1, m 12 2, m 13 3, o 14 (.build [(.bool false), .nils, (.int .i64 0), (.int .i64 0), (.int .i64 0), (.int .i64 0), (.int .i64 0), (.int .i64 0), (.bool false), .nils] [(0, 1, (.c (.bool true))), (1, 1, (.t 10)), (5, 1, (.t 11)), (6, 1, (.t 12)), (7, 1, (.t 13))]), n (.store (some 10) (.t 8) (.t 14))] none [8])
(.ret)))
def f48 : SFunc := ⟨b48, [.cell (some 10) 8]⟩

def b324 : SCode := (
.seq (.ops [o 2 (.move (k 0))] none [0])
(.seq (.ops [m 3 0, o 4 (.nilck (.t 3)), o 5 (.fldAddr 11 (.t 4)), o 6 (.load none (.t 5)), o 7 (.bin .add (.t 6) (k 1)), o 8 (.nilck (.t 3)), o 9 (.fldAddr 11 (.t 8)), n (.store none (.t 9) (.t 7))] none [0])
(.seq (.ops [m 10 0, o 11 (.nilck (.t 10)), o 12 (.fldAddr 11 (.t 11)), o 13 (.load none (.t 12)), m 2 13] none [2])
(.ret))))
def f324 : SFunc := ⟨b324, [.t 2]⟩

def b454 : SCode := (
.seq (.ops [o 2 (.move (.c .nils))] none [0])
(.seq (.ops [o 3 (.move (.c .nils))] none [0, 3])
(.seq (.seq (.ops [m 4 0, o 5 (.nilck (.t 4)), o 6 (.fldAddr 0 (.t 5)), o 7 (.load none (.t 6)), o 8 (.len .sl (.t 7)), o 9 (.bin .gtr (.t 8) (k 0))] none [0, 3, 9])
(.cond (.t 9)
(.ops [m 10 0, o 11 (.nilck (.t 10)), o 12 (.fldAddr 0 (.t 11)), o 13 (.load none (.t 12)), o 14 (.idxAddr 2 (.t 13) (k 0)), o 15 (.fldAddr 1 (.t 14)), o 16 (.load none (.t 15)), o 17 (.bin .sub (.t 16) (k 1)), o 18 (.idxAddr 2 (.t 13) (k 0)), o 19 (.fldAddr 1 (.t 18)), n (.store none (.t 19) (.t 17))] none [0, 3])
(.skip)))
(.seq (.block 0 (.loop [0, 3] (.seq (.seq (.ops [m 20 0, o 21 (.nilck (.t 20)), o 22 (.fldAddr 0 (.t 21)), o 23 (.load none (.t 22)), o 24 (.len .sl (.t 23)), o 25 (.bin .gtr (.t 24) (k 0)), m 26 25, ⟨some 27, .move (.t 0), (some (26, true)), []⟩, ⟨some 28, .nilck (.t 27), (some (26, true)), []⟩, ⟨some 29, .fldAddr 0 (.t 28), (some (26, true)), []⟩, ⟨some 30, .load none (.t 29), (some (26, true)), []⟩, ⟨some 31, .idxAddr 2 (.t 30) (k 0), (some (26, true)), []⟩, ⟨some 32, .fldAddr 1 (.t 31), (some (26, true)), []⟩, ⟨some 33, .load none (.t 32), (some (26, true)), []⟩, ⟨some 34, .bin .eql (.t 33) (k 0), (some (26, true)), []⟩, o 35 (.pick (.t 26) (.t 34) (.c (.bool false)))] none [0, 3, 35])
(.cond (.t 35)
(.skip)
(.exit 0)))
(.block 1 (.seq (.ops [m 36 3, m 37 0, o 38 (.nilck (.t 37)), o 39 (.fldAddr 0 (.t 38)), o 40 (.load none (.t 39)), o 41 (.idxAddr 2 (.t 40) (k 0)), o 42 (.fldAddr 0 (.t 41)), o 43 (.load none (.t 42)), o 44 (.buildSl 1 [(.int .i64 0)] [(0, 1, (.t 43))]), o 45 (.append 1 (.t 36) (.t 44)), m 3 45] none [0, 3])
(.ops [m 46 0, m 47 0, o 48 (.nilck (.t 47)), o 49 (.fldAddr 0 (.t 48)), o 50 (.load none (.t 49)), o 51 (.call 389 [(.t 50), (k 0), (k 1)]), o 52 (.nilck (.t 46)), o 53 (.fldAddr 0 (.t 52)), n (.store none (.t 53) (.t 51))] none [0, 3]))))))
(.seq (.ops [m 54 3, m 2 54] none [2])
(.ret))))))
def f454 : SFunc := ⟨b454, [.t 2]⟩

def b308 : SCode := (
.seq (.ops [o 2 (.move (.c .nils))] none [0])
(.seq (.ops [m 9 0, o 10 (.nilck (.t 9)), o 11 (.fldAddr 5 (.t 10)), o 12 (.load none (.t 11)), o 13 (.len .sl (.t 12)), o 14 (.mksl [(.int .i64 0)] (.t 13) (.t 13)), m 15 0, o 16 (.nilck (.t 15)), o 17 (.fldAddr 5 (.t 16)), o 18 (.load none (.t 17)), o 19 (.len .sl (.t 18)), o 20 (.mksl [(.int .i64 0)] (.t 19) (.t 19)), m 3 14, m 4 20] (some [(0, []), (1, [0]), (2, [1, 0]), (3, [2, 1, 0]), (4, [3, 2, 1, 0]), (5, [4, 3, 2, 1, 0]), (6, []), (7, [6]), (8, [7, 6]), (9, [8, 7, 6]), (10, [9, 8, 7, 6]), (11, [10, 9, 8, 7, 6]), (12, [5, 4, 3, 2, 1, 0]), (13, [11, 10, 9, 8, 7, 6, 12, 5, 4, 3, 2, 1, 0])]) [0, 3, 4])
(.seq (.seq (.ops [m 21 0, o 22 (.nilck (.t 21)), o 23 (.fldAddr 5 (.t 22)), o 24 (.load none (.t 23)), o 25 (.len .sl (.t 24)), o 26 (.move (k 0))] none [0, 3, 4, 24, 25, 26])
(.block 0 (.loop [0, 3, 4, 24, 25, 26] (.seq (.ops [o 27 (.bin .lss (.t 26) (.t 25))] none [0, 3, 4, 24, 25, 26, 27])
(.seq (.cond (.t 27)
(.skip)
(.exit 0))
(.seq (.block 1 (.seq (.ops [m 28 26, o 29 (.idxAddr 10 (.t 24) (.t 26)), o 30 (.load (some 10) (.t 29)), o 6 (.alloc (.agg [(.bool false), .nils, (.int .i64 0), (.int .i64 0), (.int .i64 0), (.int .i64 0), (.int .i64 0), (.int .i64 0), (.bool false), .nils])), m 5 28, n (.store (some 10) (.t 6) (.t 30))] none [0, 3, 4, 5, 6, 24, 25, 26])
(.seq (.seq (.ops [o 31 (.fldAddr 0 (.t 6)), o 32 (.load none (.t 31)), o 33 (.not (.t 32))] none [0, 3, 4, 5, 6, 24, 25, 26, 33])
(.cond (.t 33)
(.exit 1)
(.skip)))
(.seq (.ops [m 34 3, m 35 5, m 36 0, o 37 (.nilck (.t 36)), o 38 (.fldAddr 3 (.t 37)), o 39 (.load none (.t 38)), m 40 5, o 41 (.idxAddr 1 (.t 39) (.t 40)), o 42 (.load none (.t 41)), o 43 (.idxAddr 1 (.t 34) (.t 35)), n (.store none (.t 43) (.t 42))] none [0, 3, 4, 5, 6, 24, 25, 26])
(.seq (.ops [o 44 (.fldAddr 9 (.t 6)), o 45 (.load none (.t 44)), o 46 (.len .sl (.t 45)), o 47 (.move (k 0))] none [0, 3, 4, 5, 24, 25, 26, 45, 46, 47])
(.block 2 (.loop [0, 3, 4, 5, 24, 25, 26, 45, 46, 47] (.seq (.ops [o 48 (.bin .lss (.t 47) (.t 46))] none [0, 3, 4, 5, 24, 25, 26, 45, 46, 47, 48])
(.seq (.cond (.t 48)
(.skip)
(.exit 2))
(.seq (.block 3 (.seq (.ops [o 49 (.idxAddr 1 (.t 45) (.t 47)), o 50 (.load none (.t 49)), m 8 50] none [0, 3, 4, 5, 8, 24, 25, 26, 45, 46, 47])
(.ops [m 51 4, m 52 5, m 53 4, m 54 5, o 55 (.idxAddr 1 (.t 53) (.t 54)), o 56 (.load none (.t 55)), m 57 0, o 58 (.nilck (.t 57)), o 59 (.fldAddr 4 (.t 58)), o 60 (.load none (.t 59)), m 61 8, o 62 (.idxAddr 1 (.t 60) (.t 61)), o 63 (.load none (.t 62)), o 64 (.mx [(.t 56), (.t 63)]), o 65 (.idxAddr 1 (.t 51) (.t 52)), n (.store none (.t 65) (.t 64))] (some [(0, []), (1, []), (2, []), (3, []), (4, [2, 3]), (5, [4, 2, 3]), (6, []), (7, [6]), (8, [7, 6]), (9, [8, 7, 6]), (10, []), (11, [9, 8, 7, 6, 10]), (12, [11, 9, 8, 7, 6, 10]), (13, [5, 4, 2, 3, 12, 11, 9, 8, 7, 6, 10]), (14, [0, 1, 2, 3, 4, 5, 6, 7, 8, 9, 10, 11, 12, 13]), (15, [14, 0, 1, 2, 3, 4, 5, 6, 7, 8, 9, 10, 11, 12, 13])]) [0, 3, 4, 5, 24, 25, 26, 45, 46, 47])))
(.ops [o 66 (.bin .add (.t 47) (k 1)), m 47 66] none [0, 3, 4, 5, 24, 25, 26, 45, 46, 47])))))))))))
(.ops [o 67 (.bin .add (.t 26) (k 1)), m 26 67] none [0, 3, 4, 24, 25, 26])))))))
(.seq (.ops [m 68 3, m 69 4, m 70 0, o 71 (.call 331 [(.t 70)]), o 72 (.call 17 [(.t 68), (.t 69), (.t 71)]), m 2 72] none [2])
(.ret)))))
def f308 : SFunc := ⟨b308, [.t 2]⟩

def b333 : SCode := (
.seq (.ops [o 2 (.move (.c .nils))] none [0])
(.seq (.seq (.ops [m 3 0, o 4 (.eq false .s (.t 3) (.c .nils))] none [0, 4])
(.cond (.t 4)
(.seq (.ops [o 2 (.move (.c .nils))] none [2])
(.ret))
(.skip)))
(.seq (.ops [o 5 (.buildSl 0 [] []), m 6 0, o 7 (.append 5 (.t 5) (.t 6)), m 2 7] none [2])
(.ret))))
def f333 : SFunc := ⟨b333, [.t 2]⟩

def b55 : SCode := (
.seq (.ops [o 2 (.move (.c .nils))] none [0])
(.seq (.seq (.ops [m 3 0, o 4 (.eq false .s (.t 3) (.c .nils))] none [0, 4])
(.cond (.t 4)
(.seq (.ops [o 2 (.move (.c .nils))] none [2])
(.ret))
(.skip)))
(.seq (.ops [o 5 (.buildSl 0 [] []), m 6 0, o 7 (.append 1 (.t 5) (.t 6)), m 2 7] none [2])
(.ret))))
def f55 : SFunc := ⟨b55, [.t 2]⟩

def b39 : SCode := (
.seq (.ops [o 1 (.box (.t 0)), o 2 (.alloc (.agg [(.bool false), .nils, (.int .i64 0), (.int .i64 0), (.int .i64 0), (.int .i64 0), (.int .i64 0), (.int .i64 0), (.bool false), .nils])), o 3 (.move (.c (.bool false)))] none [1, 2])
(.seq (.seq (.ops [o 4 (.fldAddr 0 (.t 1)), o 5 (.load none (.t 4)), o 6 (.not (.t 5)), m 7 6, ⟨some 8, .fldAddr 3 (.t 1), (some (7, false)), []⟩, ⟨some 9, .load none (.t 8), (some (7, false)), []⟩, ⟨some 10, .bin .eql (.t 9) (k 0), (some (7, false)), []⟩, o 11 (.pick (.t 7) (.c (.bool true)) (.t 10))] none [1, 2, 11])
(.cond (.t 11)
(.seq (.ops [o 12 (.load (some 10) (.t 1)), n (.store (some 10) (.t 2) (.t 12)), o 3 (.move (.c (.bool false)))] none [2, 3])
(.ret))
(.skip)))
(.seq (.ops [o 13 (.fldAddr 3 (.t 1)), o 14 (.load none (.t 13)), o 15 (.bin .sub (.t 14) (k 1)), o 16 (.fldAddr 3 (.t 1)), n (.store none (.t 16) (.t 15))] none [1, 2])
(.seq (.ops [o 17 (.fldAddr 4 (.t 1)), o 18 (.load none (.t 17)), o 19 (.bin .add (.t 18) (k 1)), o 20 (.fldAddr 4 (.t 1)), n (.store none (.t 20) (.t 19))] none [1, 2])
(.seq (.seq (.ops [o 21 (.fldAddr 3 (.t 1)), o 22 (.load none (.t 21)), o 23 (.bin .eql (.t 22) (k 0))] none [1, 2, 23])
(.cond (.t 23)
(.seq (.ops [o 24 (.fldAddr 2 (.t 1)), o 25 (.load none (.t 24)), o 26 (.bin .add (.t 25) (k 1)), o 27 (.fldAddr 2 (.t 1)), n (.store none (.t 27) (.t 26))] none [1, 2])
(.seq (.ops [o 28 (.load (some 10) (.t 1)), n (.store (some 10) (.t 2) (.t 28)), o 3 (.move (.c (.bool false)))] none [2, 3])
(.ret)))
(.skip)))
(.seq (.ops [o 29 (.load (some 10) (.t 1)), o 30 (.fldAddr 4 (.t 1)), o 31 (.load none (.t 30)), o 32 (.fldAddr 5 (.t 1)), o 33 (.load none (.t 32)), o 34 (.bin .eql (.t 31) (.t 33)), ⟨none, .store (some 10) (.t 2) (.t 29), none, [2, 4]⟩, m 3 34] (some [(0, []), (1, []), (2, [1]), (3, []), (4, [3]), (5, [2, 1, 4, 3]), (6, [0]), (7, [5, 2, 1, 4, 3, 6, 0])]) [2, 3])
(.ret)))))))
def f39 : SFunc := ⟨b39, [.cell (some 10) 2, .t 3]⟩

def b30 : SCode := (
.seq (.ops [o 1 (.box (.t 0)), o 2 (.alloc (.agg [(.int .i64 0), (.int .i64 0), (.int .i64 0), (.int .i64 0), .nils])), o 3 (.move (.c (.bool false)))] none [1, 2])
(.seq (.seq (.ops [o 4 (.fldAddr 0 (.t 1)), o 5 (.load none (.t 4)), o 6 (.not (.t 5)), m 7 6, ⟨some 8, .fldAddr 2 (.t 1), (some (7, false)), []⟩, ⟨some 9, .load none (.t 8), (some (7, false)), []⟩, ⟨some 10, .bin .lss (.t 9) (k 0), (some (7, false)), []⟩, o 11 (.pick (.t 7) (.c (.bool true)) (.t 10)), m 12 11, ⟨some 13, .fldAddr 2 (.t 1), (some (12, false)), []⟩, ⟨some 14, .load none (.t 13), (some (12, false)), []⟩, ⟨some 15, .fldAddr 1 (.t 1), (some (12, false)), []⟩, ⟨some 16, .load none (.t 15), (some (12, false)), []⟩, ⟨some 17, .len .sl (.t 16), (some (12, false)), []⟩, ⟨some 18, .bin .geq (.t 14) (.t 17), (some (12, false)), []⟩, o 19 (.pick (.t 12) (.c (.bool true)) (.t 18))] none [1, 2, 19])
(.cond (.t 19)
(.seq (.ops [o 20 (.build [(.int .i64 0), (.int .i64 0), (.int .i64 0), (.int .i64 0), .nils] []), n (.store (some 5) (.t 2) (.t 20)), o 3 (.move (.c (.bool false)))] none [2, 3])
(.ret))
(.skip)))
(.seq (.ops [o 21 (.fldAddr 1 (.t 1)), o 22 (.load none (.t 21)), o 23 (.fldAddr 2 (.t 1)), o 24 (.load none (.t 23)), o 25 (.idxAddr 5 (.t 22) (.t 24)), o 26 (.load (some 5) (.t 25)), n (.store (some 5) (.t 2) (.t 26)), o 3 (.move (.c (.bool true)))] none [2, 3])
(.ret))))
def f30 : SFunc := ⟨b30, [.cell (some 5) 2, .t 3]⟩

def b325 : SCode := (
.seq (.ops [o 6 (.move (.c .nils))] none [0, 1, 2])
(.seq (.ops [m 10 0, o 11 (.nilck (.t 10)), o 12 (.fldAddr 5 (.t 11)), o 13 (.load none (.t 12)), m 14 2, o 15 (.idxAddr 10 (.t 13) (.t 14)), o 16 (.load (some 10) (.t 15)), o 17 (.call 36 [(.t 16)]), m 9 17, o 18 (.ext 0 (.t 9)), o 19 (.ext 1 (.t 9)), o 7 (.alloc (.agg [(.bool false), .nils, (.int .i64 0), (.int .i64 0), (.int .i64 0), (.int .i64 0), (.int .i64 0), (.int .i64 0), (.bool false), .nils])), n (.store (some 10) (.t 7) (.t 18)), m 8 19] none [0, 1, 2, 7, 8])
(.seq (.seq (.ops [m 20 8, o 21 (.not (.t 20))] none [0, 1, 2, 7, 21])
(.cond (.t 21)
(.seq (.ops [m 22 0, m 23 1, m 24 2, o 25 (.call 332 [(.t 22), (.t 23), (.t 24)]), m 6 25] none [6])
(.ret))
(.skip)))
(.seq (.ops [m 26 0, o 27 (.nilck (.t 26)), o 28 (.fldAddr 5 (.t 27)), o 29 (.load none (.t 28)), m 30 2, o 31 (.load (some 10) (.t 7)), o 32 (.idxAddr 10 (.t 29) (.t 30)), n (.store (some 10) (.t 32) (.t 31))] (some [(0, []), (1, [0]), (2, [1, 0]), (3, [2, 1, 0]), (4, []), (5, []), (6, [3, 2, 1, 0, 4, 5]), (7, [6, 3, 2, 1, 0, 4, 5])]) [])
(.seq (.ops [o 6 (.move (.c .nils))] none [6])
(.ret))))))
def f325 : SFunc := ⟨b325, [.t 6]⟩

def b326 : SCode := (
.seq (.ops [o 7 (.box (.t 3)), o 8 (.move (.c .nils))] none [0, 1, 2, 7])
(.seq (.ops [m 12 0, o 13 (.nilck (.t 12)), o 14 (.fldAddr 7 (.t 13)), o 15 (.load none (.t 14)), o 16 (.fldAddr 1 (.t 7)), o 17 (.load none (.t 16)), o 18 (.idxAddr 1 (.t 15) (.t 17)), o 19 (.load none (.t 18)), m 20 2, m 21 0, o 22 (.nilck (.t 21)), o 23 (.fldAddr 11 (.t 22)), o 24 (.load none (.t 23)), o 25 (.bin .add (.t 24) (k 1)), o 26 (.call 342 [(.t 19), (.t 20), (.t 25)]), m 11 26, o 27 (.ext 0 (.t 11)), o 28 (.ext 1 (.t 11)), m 9 27, m 10 28] (some [(0, []), (1, [0]), (2, [1, 0]), (3, [2, 1, 0]), (4, []), (5, [4]), (6, [3, 2, 1, 0, 5, 4]), (7, [6, 3, 2, 1, 0, 5, 4]), (8, []), (9, []), (10, [9]), (11, [10, 9]), (12, [11, 10, 9]), (13, [12, 11, 10, 9]), (14, [7, 6, 3, 2, 1, 0, 5, 4, 8, 13, 12, 11, 10, 9]), (15, [14, 7, 6, 3, 2, 1, 0, 5, 4, 8, 13, 12, 11, 10, 9]), (16, [15, 14, 7, 6, 3, 2, 1, 0, 5, 4, 8, 13, 12, 11, 10, 9]), (17, [15, 14, 7, 6, 3, 2, 1, 0, 5, 4, 8, 13, 12, 11, 10, 9]), (18, [16, 15, 14, 7, 6, 3, 2, 1, 0, 5, 4, 8, 13, 12, 11, 10, 9]), (19, [17, 15, 14, 7, 6, 3, 2, 1, 0, 5, 4, 8, 13, 12, 11, 10, 9, 18, 16])]) [0, 1, 2, 7, 9])
(.seq (.seq (.ops [m 29 9, o 30 (.not (.t 29))] none [0, 1, 2, 7, 30])
(.cond (.t 30)
(.seq (.ops [m 31 0, o 32 (.call 324 [(.t 31)])] none [0, 1, 2])
(.seq (.ops [m 33 0, m 34 1, m 35 2, o 36 (.call 343 [(.t 33), (.t 34), (.t 35)]), m 8 36] none [8])
(.ret)))
(.skip)))
(.seq (.ops [m 37 0, o 38 (.nilck (.t 37)), o 39 (.fldAddr 5 (.t 38)), o 40 (.load none (.t 39)), m 41 2, m 42 0, o 43 (.nilck (.t 42)), o 44 (.fldAddr 5 (.t 43)), o 45 (.load none (.t 44)), m 46 2, o 47 (.idxAddr 10 (.t 45) (.t 46)), o 48 (.load (some 10) (.t 47)), o 49 (.fldAddr 1 (.t 7)), o 50 (.load none (.t 49)), ⟨some 51, .call 43 [(.t 48), (.t 50)], none, [3]⟩, o 52 (.idxAddr 10 (.t 40) (.t 41)), n (.store (some 10) (.t 52) (.t 51))] (some [(0, []), (1, [0]), (2, [1, 0]), (3, [2, 1, 0]), (4, []), (5, []), (6, [5]), (7, [6, 5]), (8, [7, 6, 5]), (9, []), (10, [8, 7, 6, 5, 9]), (11, [10, 8, 7, 6, 5, 9]), (12, []), (13, [12]), (14, [11, 10, 8, 7, 6, 5, 9, 13, 12]), (15, [3, 2, 1, 0, 4, 5, 6, 7, 8, 9, 10, 11, 12, 13, 14]), (16, [15, 3, 2, 1, 0, 4, 5, 6, 7, 8, 9, 10, 11, 12, 13, 14])]) [0, 1, 2])
(.seq (.ops [m 53 0, m 54 1, m 55 2, o 56 (.call 327 [(.t 53), (.t 54), (.t 55), (k 0), (k 0), (k 0)]), o 57 (.buildSl 1 [(.int .i64 0), (.int .i64 0), (.int .i64 0), (.int .i64 0), (.int .i64 0), (.int .i64 0), (.int .i64 0)] [(0, 7, (.t 56))]), m 8 57] none [8])
(.ret))))))
def f326 : SFunc := ⟨b326, [.t 8]⟩

def b327 : SCode := (
.seq (.ops [o 12 (.alloc (.agg [(.int .i64 0), (.int .i64 0), (.int .i64 0), (.int .i64 0), (.int .i64 0), (.int .i64 0), (.int .i64 0)]))] none [0, 1, 2, 3, 4, 5, 12])
(.seq (.ops [m 14 0, o 15 (.nilck (.t 14)), o 16 (.fldAddr 5 (.t 15)), o 17 (.load none (.t 16)), m 18 2, o 19 (.idxAddr 10 (.t 17) (.t 18)), o 20 (.load (some 10) (.t 19)), o 13 (.alloc (.agg [(.bool false), .nils, (.int .i64 0), (.int .i64 0), (.int .i64 0), (.int .i64 0), (.int .i64 0), (.int .i64 0), (.bool false), .nils])), n (.store (some 10) (.t 13) (.t 20))] none [0, 1, 2, 3, 4, 5, 12, 13])
(.seq (.ops [m 21 0, o 22 (.nilck (.t 21)), o 23 (.fldAddr 5 (.t 22)), o 24 (.load none (.t 23)), m 25 2, o 26 (.load (some 10) (.t 13)), ⟨some 27, .call 41 [(.t 26)], none, [3]⟩, o 28 (.idxAddr 10 (.t 24) (.t 25)), n (.store (some 10) (.t 28) (.t 27))] (some [(0, []), (1, [0]), (2, [1, 0]), (3, [2, 1, 0]), (4, []), (5, []), (6, [5]), (7, [3, 2, 1, 0, 4, 5, 6]), (8, [7, 3, 2, 1, 0, 4, 5, 6])]) [1, 2, 3, 4, 5, 12, 13])
(.seq (.ops [m 29 1, m 30 2, o 31 (.fldAddr 2 (.t 13)), o 32 (.load none (.t 31)), m 33 5, m 34 3, m 35 4, o 36 (.build [(.int .i64 0), (.int .i64 0), (.int .i64 0), (.int .i64 0), (.int .i64 0), (.int .i64 0), (.int .i64 0)] [(0, 1, (.t 29)), (1, 1, (k 4)), (2, 1, (.t 30)), (3, 1, (.t 32)), (4, 1, (.t 33)), (5, 1, (.t 34)), (6, 1, (.t 35))]), n (.store (some 7) (.t 12) (.t 36))] none [12])
(.ret)))))
def f327 : SFunc := ⟨b327, [.cell (some 7) 12]⟩

def b328 : SCode := (
.seq (.ops [o 10 (.move (.c .nils))] none [0, 1, 2, 3, 4])
(.seq (.ops [m 14 0, o 15 (.nilck (.t 14)), o 16 (.fldAddr 5 (.t 15)), o 17 (.load none (.t 16)), m 18 2, m 19 0, o 20 (.nilck (.t 19)), o 21 (.fldAddr 5 (.t 20)), o 22 (.load none (.t 21)), m 23 2, o 24 (.idxAddr 10 (.t 22) (.t 23)), o 25 (.load (some 10) (.t 24)), m 26 3, ⟨some 27, .call 45 [(.t 25), (.t 26)], none, [3]⟩, o 28 (.idxAddr 10 (.t 17) (.t 18)), n (.store (some 10) (.t 28) (.t 27))] (some [(0, []), (1, [0]), (2, [1, 0]), (3, [2, 1, 0]), (4, []), (5, []), (6, [5]), (7, [6, 5]), (8, [7, 6, 5]), (9, []), (10, [8, 7, 6, 5, 9]), (11, [10, 8, 7, 6, 5, 9]), (12, []), (13, [11, 10, 8, 7, 6, 5, 9, 12]), (14, [3, 2, 1, 0, 4, 5, 6, 7, 8, 9, 10, 11, 12, 13]), (15, [14, 3, 2, 1, 0, 4, 5, 6, 7, 8, 9, 10, 11, 12, 13])]) [0, 1, 2, 3, 4])
(.seq (.ops [m 30 0, o 31 (.nilck (.t 30)), o 32 (.fldAddr 7 (.t 31)), o 33 (.load none (.t 32)), m 34 3, o 35 (.idxAddr 1 (.t 33) (.t 34)), o 36 (.load none (.t 35)), m 37 2, m 38 4, o 39 (.call 344 [(.t 36), (.t 37), (.t 38)]), m 29 39, o 40 (.ext 0 (.t 29)), o 41 (.ext 1 (.t 29)), m 11 40, m 12 41] none [0, 1, 3, 11, 12])
(.seq (.seq (.ops [m 42 12, o 43 (.bin .neq (.t 42) (k 0)), m 44 43, ⟨some 45, .move (.t 11), (some (44, false)), []⟩, ⟨some 46, .bin .lss (.t 45) (k 0), (some (44, false)), []⟩, o 47 (.pick (.t 44) (.c (.bool true)) (.t 46))] none [0, 1, 3, 11, 47])
(.cond (.t 47)
(.seq (.ops [o 10 (.move (.c .nils))] none [10])
(.ret))
(.skip)))
(.seq (.ops [m 48 0, m 49 1, m 50 11, o 51 (.build [(.int .i64 0), (.int .i64 0), (.int .i64 0), (.int .i64 0)] [(0, 1, (.t 50))]), o 52 (.call 345 [(.t 48), (.t 49), (.t 51)]), o 13 (.alloc (.agg [(.int .i64 0), (.int .i64 0), (.int .i64 0), (.int .i64 0), (.int .i64 0), (.int .i64 0), (.int .i64 0)])), n (.store (some 7) (.t 13) (.t 52))] none [0, 3, 11, 13])
(.seq (.ops [m 53 0, o 54 (.nilck (.t 53)), o 55 (.fldAddr 5 (.t 54)), o 56 (.load none (.t 55)), m 57 11, m 58 0, o 59 (.nilck (.t 58)), o 60 (.fldAddr 5 (.t 59)), o 61 (.load none (.t 60)), m 62 11, o 63 (.idxAddr 10 (.t 61) (.t 62)), o 64 (.load (some 10) (.t 63)), m 65 3, ⟨some 66, .call 43 [(.t 64), (.t 65)], none, [3]⟩, o 67 (.idxAddr 10 (.t 56) (.t 57)), n (.store (some 10) (.t 67) (.t 66))] (some [(0, []), (1, [0]), (2, [1, 0]), (3, [2, 1, 0]), (4, []), (5, []), (6, [5]), (7, [6, 5]), (8, [7, 6, 5]), (9, []), (10, [8, 7, 6, 5, 9]), (11, [10, 8, 7, 6, 5, 9]), (12, []), (13, [11, 10, 8, 7, 6, 5, 9, 12]), (14, [3, 2, 1, 0, 4, 5, 6, 7, 8, 9, 10, 11, 12, 13]), (15, [14, 3, 2, 1, 0, 4, 5, 6, 7, 8, 9, 10, 11, 12, 13])]) [13])
(.seq (.ops [o 68 (.load (some 7) (.t 13)), o 69 (.buildSl 1 [(.int .i64 0), (.int .i64 0), (.int .i64 0), (.int .i64 0), (.int .i64 0), (.int .i64 0), (.int .i64 0)] [(0, 7, (.t 68))]), m 10 69] none [10])
(.ret))))))))
def f328 : SFunc := ⟨b328, [.t 10]⟩

def b356 : SCode := (
.seq (.ops [o 2 (.move (.c .nils))] none [0])
(.seq (.seq (.ops [m 3 0, o 4 (.eq false .s (.t 3) (.c .nils))] none [0, 4])
(.cond (.t 4)
(.seq (.ops [o 2 (.move (.c .nils))] none [2])
(.ret))
(.skip)))
(.seq (.ops [o 5 (.buildSl 0 [] []), m 6 0, o 7 (.append 4 (.t 5) (.t 6)), m 2 7] none [2])
(.ret))))
def f356 : SFunc := ⟨b356, [.t 2]⟩

def b97 : SCode := (
.seq (.ops [o 2 (.move (.c (.bool false)))] none [0])
(.seq (.ops [m 3 0, o 4 (.len .str (.t 3)), o 5 (.bin .geq (.t 4) (k 1)), m 6 5, ⟨some 7, .move (.t 0), (some (6, true)), []⟩, ⟨some 8, .len .str (.t 7), (some (6, true)), []⟩, ⟨some 9, .bin .leq (.t 8) (k 8), (some (6, true)), []⟩, o 10 (.pick (.t 6) (.t 9) (.c (.bool false))), m 11 10, ⟨some 12, .move (.t 0), (some (11, true)), []⟩, ⟨some 13, .call 124 [(.t 12), (.c (.str [97, 98, 99, 100, 101, 102, 103, 104, 105, 106, 107, 108, 109, 110, 111, 112, 113, 114, 115, 116, 117, 118, 119, 120, 121, 122]))], (some (11, true)), []⟩, ⟨some 14, .bin .eql (.t 13) (.c (.str [])), (some (11, true)), []⟩, o 15 (.pick (.t 11) (.t 14) (.c (.bool false))), m 2 15] none [2])
(.ret)))
def f97 : SFunc := ⟨b97, [.t 2]⟩

def b285 : SCode := (
.seq (.ops [o 2 (.box (.t 0)), o 4 (.move (k 0)), o 5 (.move (.c (.bool false)))] none [1, 2])
(.seq (.seq (.ops [o 8 (.fldAddr 2 (.t 2)), o 9 (.load none (.t 8)), o 10 (.len .sl (.t 9)), o 11 (.move (k 0))] none [1, 9, 10, 11])
(.block 0 (.loop [1, 9, 10, 11] (.seq (.ops [o 12 (.bin .lss (.t 11) (.t 10))] none [1, 9, 10, 11, 12])
(.seq (.cond (.t 12)
(.skip)
(.exit 0))
(.seq (.block 1 (.seq (.ops [m 13 11, o 14 (.idxAddr 5 (.t 9) (.t 11)), o 15 (.load (some 5) (.t 14)), o 7 (.alloc (.agg [(.str []), (.int .i64 0), (.int .i64 0), (.int .i64 0), .nils])), m 6 13, n (.store (some 5) (.t 7) (.t 15))] none [1, 6, 7, 9, 10, 11])
(.seq (.ops [o 16 (.fldAddr 0 (.t 7)), o 17 (.load none (.t 16)), m 18 1, o 19 (.bin .eql (.t 17) (.t 18))] none [1, 6, 9, 10, 11, 19])
(.cond (.t 19)
(.seq (.ops [m 20 6, m 4 20, o 5 (.move (.c (.bool true)))] none [4, 5])
(.ret))
(.skip)))))
(.ops [o 21 (.bin .add (.t 11) (k 1)), m 11 21] none [1, 9, 10, 11])))))))
(.seq (.ops [o 4 (.move (k 0)), o 5 (.move (.c (.bool false)))] none [4, 5])
(.ret))))
def f285 : SFunc := ⟨b285, [.t 4, .t 5]⟩

def b286 : SCode := (
.seq (.ops [o 2 (.move (k 0)), o 3 (.move (k 0))] none [0])
(.seq (.seq (.ops [m 10 0, o 11 (.len .sl (.t 10)), o 12 (.bin .gtr (.t 11) (k 48))] none [0, 12])
(.cond (.t 12)
(.seq (.ops [o 2 (.move (k 0)), o 3 (.move (k 18))] none [2, 3])
(.ret))
(.skip)))
(.seq (.seq (.ops [m 13 0, o 14 (.len .sl (.t 13)), o 15 (.move (k 0))] none [0, 13, 14, 15])
(.block 0 (.loop [0, 13, 14, 15] (.seq (.ops [o 16 (.bin .lss (.t 15) (.t 14))] none [0, 13, 14, 15, 16])
(.seq (.cond (.t 16)
(.skip)
(.exit 0))
(.seq (.block 1 (.seq (.ops [m 17 15, o 18 (.idxAddr 5 (.t 13) (.t 15)), o 19 (.load (some 5) (.t 18)), o 5 (.alloc (.agg [(.int .i64 0), (.int .i64 0), (.int .i64 0), (.int .i64 0), .nils])), m 4 17, n (.store (some 5) (.t 5) (.t 19))] none [0, 4, 5, 13, 14, 15])
(.seq (.ops [o 20 (.load (some 5) (.t 5)), o 21 (.call 219 [(.t 20)]), m 6 21] none [0, 4, 6, 13, 14, 15])
(.seq (.ops [m 22 6, o 23 (.bin .neq (.t 22) (k 0))] none [0, 4, 6, 13, 14, 15, 23])
(.cond (.t 23)
(.seq (.ops [m 24 4, m 25 6, m 2 24, m 3 25] none [2, 3])
(.ret))
(.skip))))))
(.ops [o 26 (.bin .add (.t 15) (k 1)), m 15 26] none [0, 13, 14, 15])))))))
(.seq (.ops [o 27 (.build [.nils, .nils] []), o 28 (.box (.t 27)), m 7 28] none [0, 7])
(.seq (.skip)
(.seq (.seq (.ops [m 29 0, o 30 (.len .sl (.t 29)), o 31 (.move (k 0))] none [0, 7, 29, 30, 31])
(.block 2 (.loop [0, 7, 29, 30, 31] (.seq (.ops [o 32 (.bin .lss (.t 31) (.t 30))] none [0, 7, 29, 30, 31, 32])
(.seq (.cond (.t 32)
(.skip)
(.exit 2))
(.seq (.block 3 (.seq (.ops [m 33 31, o 34 (.idxAddr 5 (.t 29) (.t 31)), o 35 (.load (some 5) (.t 34)), o 9 (.alloc (.agg [(.int .i64 0), (.int .i64 0), (.int .i64 0), (.int .i64 0), .nils])), m 8 33, n (.store (some 5) (.t 9) (.t 35))] none [0, 7, 8, 9, 29, 30, 31])
(.seq (.seq (.ops [m 36 7, o 37 (.load (some 5) (.t 9)), o 38 (.call 294 [(.t 36), (.t 37)])] none [0, 7, 8, 29, 30, 31, 38])
(.cond (.t 38)
(.exit 3)
(.skip)))
(.seq (.ops [m 39 8, m 2 39, o 3 (.move (k 11))] none [2, 3])
(.ret)))))
(.ops [o 40 (.bin .add (.t 31) (k 1)), m 31 40] none [0, 7, 29, 30, 31])))))))
(.seq (.seq (.ops [m 41 7, o 42 (.nilck (.t 41)), o 43 (.fldAddr 1 (.t 42)), o 44 (.load none (.t 43)), o 45 (.len .sl (.t 44)), o 46 (.bin .gtr (.t 45) (k 0)), m 47 46, ⟨some 48, .move (.t 7), (some (47, false)), []⟩, ⟨some 49, .nilck (.t 48), (some (47, false)), []⟩, ⟨some 50, .fldAddr 0 (.t 49), (some (47, false)), []⟩, ⟨some 51, .load none (.t 50), (some (47, false)), []⟩, ⟨some 52, .len .sl (.t 51), (some (47, false)), []⟩, ⟨some 53, .bin .gtr (.t 52) (k 0), (some (47, false)), []⟩, o 54 (.pick (.t 47) (.c (.bool true)) (.t 53))] none [0, 54])
(.cond (.t 54)
(.seq (.ops [m 55 0, o 56 (.len .sl (.t 55)), o 57 (.bin .sub (.t 56) (k 1)), m 2 57, o 3 (.move (k 11))] none [2, 3])
(.ret))
(.skip)))
(.seq (.seq (.ops [m 58 0, o 59 (.call 295 [(.t 58)]), o 60 (.bin .gtr (.t 59) (k 512))] none [60])
(.cond (.t 60)
(.seq (.ops [o 2 (.move (k 0)), o 3 (.move (k 4))] none [2, 3])
(.ret))
(.skip)))
(.seq (.ops [o 2 (.move (k 0)), o 3 (.move (k 0))] none [2, 3])
(.ret))))))))))
def f286 : SFunc := ⟨b286, [.t 2, .t 3]⟩

def b287 : SCode := (
.seq (.ops [o 2 (.move (k 0))] none [0])
(.seq (.ops [o 3 (.alloc (.int .i64 0)), n (.store none (.t 3) (k 0))] none [0, 3])
(.seq (.ops [m 4 0, o 5 (.mkfn 296 [(.t 3)]), o 6 (.call 297 [(.t 4), (.t 5)])] none [3])
(.seq (.ops [o 7 (.load none (.t 3)), m 2 7] none [2])
(.ret)))))
def f287 : SFunc := ⟨b287, [.t 2]⟩

def b288 : SCode := (
.seq (.ops [o 2 (.box (.t 0)), o 3 (.box (.t 1)), o 4 (.move (.c (.bool false)))] none [2, 3])
(.seq (.seq (.ops [o 5 (.fldAddr 0 (.t 3)), o 6 (.load none (.t 5))] none [2, 3, 6])
(.block 0 (.seq (.seq (.ops [o 8 (.bin .eql (.t 6) (k 2)), m 7 8] none [2, 3, 6, 7])
(.cond (.t 7)
(.skip)
(.ops [o 9 (.bin .eql (.t 6) (k 3)), m 7 9] none [2, 3, 6, 7])))
(.cond (.t 7)
(.seq (.ops [o 10 (.fldAddr 1 (.t 3)), o 11 (.load none (.t 10)), o 12 (.fldAddr 0 (.t 2)), o 13 (.load none (.t 12)), o 14 (.bin .lss (.t 11) (.t 13)), m 4 14] none [4])
(.ret))
(.seq (.seq (.ops [o 16 (.bin .eql (.t 6) (k 4)), m 15 16] none [2, 3, 6, 15])
(.cond (.t 15)
(.skip)
(.seq (.ops [o 17 (.bin .eql (.t 6) (k 5)), m 15 17] none [2, 3, 6, 15])
(.cond (.t 15)
(.skip)
(.ops [o 18 (.bin .eql (.t 6) (k 6)), m 15 18] none [2, 3, 15])))))
(.cond (.t 15)
(.seq (.ops [o 19 (.fldAddr 1 (.t 3)), o 20 (.load none (.t 19)), o 21 (.fldAddr 1 (.t 2)), o 22 (.load none (.t 21)), o 23 (.len .sl (.t 22)), o 24 (.bin .lss (.t 20) (.t 23)), m 4 24] none [4])
(.ret))
(.skip)))))))
(.seq (.ops [o 25 (.fldAddr 4 (.t 3)), o 26 (.load none (.t 25)), o 27 (.mkfn 298 [(.t 2)]), o 28 (.call 235 [(.t 26), (.t 27)]), o 29 (.not (.t 28)), m 4 29] none [4])
(.ret))))
def f288 : SFunc := ⟨b288, [.t 4]⟩

def b455 : SCode := (
.seq (.ops [o 4 (.move (k 0))] none [0, 1])
(.seq (.seq (.ops [m 6 0, o 7 (.len .sl (.t 6)), o 8 (.move (k 0))] none [0, 1, 7, 8])
(.block 0 (.loop [0, 1, 7, 8] (.seq (.ops [o 9 (.bin .lss (.t 8) (.t 7))] none [0, 1, 7, 8, 9])
(.seq (.cond (.t 9)
(.skip)
(.exit 0))
(.seq (.block 1 (.seq (.ops [m 10 8, m 5 10] none [0, 1, 5, 7, 8])
(.seq (.ops [m 11 1, m 12 0, m 13 5, o 14 (.idxAddr 1 (.t 12) (.t 13)), o 15 (.load none (.t 14)), o 16 (.callv (.t 11) [(.t 15)])] none [0, 1, 5, 7, 8, 16])
(.cond (.t 16)
(.seq (.ops [m 17 5, m 4 17] none [4])
(.ret))
(.skip)))))
(.ops [o 18 (.bin .add (.t 8) (k 1)), m 8 18] none [0, 1, 7, 8])))))))
(.seq (.ops [o 4 (.move (.c (.int .i64 (-1))))] none [4])
(.ret))))
def f455 : SFunc := ⟨b455, [.t 4]⟩

def b357 : SCode := (
.seq (.ops [o 6 (.move (k 20))] none [0, 1, 2, 6])
(.seq (.ops [m 10 6, o 7 (.move (k 0)), m 8 10] none [0, 1, 2, 6, 7, 8])
(.seq (.block 0 (.loop [0, 1, 2, 6, 7, 8] (.seq (.seq (.ops [m 11 8, m 12 1, o 13 (.bin .leq (.t 11) (.t 12))] none [0, 1, 2, 6, 7, 8, 13])
(.cond (.t 13)
(.skip)
(.exit 0)))
(.block 1 (.seq (.ops [m 14 0, m 15 7, m 16 8, m 17 2, o 18 (.call 379 [(.t 14), (.t 15), (.t 16), (.t 17)])] none [0, 1, 2, 6, 8])
(.seq (.ops [m 19 8, m 7 19] none [0, 1, 2, 6, 7, 8])
(.ops [m 20 8, m 21 6, o 22 (.bin .add (.t 20) (.t 21)), m 8 22] none [0, 1, 2, 6, 7, 8])))))))
(.seq (.ops [m 23 0, m 24 7, m 25 1, m 26 2, o 27 (.call 379 [(.t 23), (.t 24), (.t 25), (.t 26)])] none [0, 1, 2, 6])
(.block 2 (.loop [0, 1, 2, 6] (.seq (.seq (.ops [m 28 6, m 29 1, o 30 (.bin .lss (.t 28) (.t 29))] none [0, 1, 2, 6, 30])
(.cond (.t 30)
(.skip)
(.exit 2)))
(.block 3 (.seq (.ops [m 31 6, o 32 (.bin .mul (k 2) (.t 31)), o 7 (.move (k 0)), m 8 32] none [0, 1, 2, 6, 7, 8])
(.seq (.block 4 (.loop [0, 1, 2, 6, 7, 8] (.seq (.seq (.ops [m 33 8, m 34 1, o 35 (.bin .leq (.t 33) (.t 34))] none [0, 1, 2, 6, 7, 8, 35])
(.cond (.t 35)
(.skip)
(.exit 4)))
(.block 5 (.seq (.ops [m 36 0, m 37 7, m 38 7, m 39 6, o 40 (.bin .add (.t 38) (.t 39)), m 41 8, m 42 2, o 43 (.call 380 [(.t 36), (.t 37), (.t 40), (.t 41), (.t 42)])] none [0, 1, 2, 6, 8])
(.seq (.ops [m 44 8, m 7 44] none [0, 1, 2, 6, 7, 8])
(.ops [m 45 8, m 46 6, o 47 (.bin .mul (k 2) (.t 46)), o 48 (.bin .add (.t 45) (.t 47)), m 8 48] none [0, 1, 2, 6, 7, 8])))))))
(.seq (.seq (.ops [m 49 7, m 50 6, o 51 (.bin .add (.t 49) (.t 50)), m 9 51] none [0, 1, 2, 6, 7, 9])
(.seq (.ops [m 52 9, m 53 1, o 54 (.bin .lss (.t 52) (.t 53))] none [0, 1, 2, 6, 7, 9, 54])
(.cond (.t 54)
(.ops [m 55 0, m 56 7, m 57 9, m 58 1, m 59 2, o 60 (.call 380 [(.t 55), (.t 56), (.t 57), (.t 58), (.t 59)])] none [0, 1, 2, 6])
(.skip))))
(.ops [m 61 6, o 62 (.bin .mul (.t 61) (k 2)), m 6 62] none [0, 1, 2, 6]))))))))))))
def f357 : SFunc := ⟨b357, []⟩

def b359 : SCode := (
.seq (.ops [o 2 (.move (.c (.bool false)))] none [0])
(.seq (.ops [m 3 0, m 4 0, o 5 (.bin .neq (.t 3) (.t 4)), m 2 5] none [2])
(.ret)))
def f359 : SFunc := ⟨b359, [.t 2]⟩

def b335 : SCode := (
.seq (.ops [o 2 (.move (.c .nils))] none [0])
(.seq (.seq (.ops [m 3 0, o 4 (.eq false .s (.t 3) (.c .nils))] none [0, 4])
(.cond (.t 4)
(.seq (.ops [o 2 (.move (.c .nils))] none [2])
(.ret))
(.skip)))
(.seq (.ops [o 5 (.buildSl 0 [] []), m 6 0, o 7 (.append 2 (.t 5) (.t 6)), m 2 7] none [2])
(.ret))))
def f335 : SFunc := ⟨b335, [.t 2]⟩

def b336 : SCode := (
.seq (.ops [o 2 (.move (.c .nils))] none [0])
(.seq (.seq (.ops [m 3 0, o 4 (.eq false .s (.t 3) (.c .nils))] none [0, 4])
(.cond (.t 4)
(.seq (.ops [o 2 (.move (.c .nils))] none [2])
(.ret))
(.skip)))
(.seq (.ops [o 5 (.buildSl 0 [] []), m 6 0, o 7 (.append 5 (.t 5) (.t 6)), m 2 7] none [2])
(.ret))))
def f336 : SFunc := ⟨b336, [.t 2]⟩

def b340 : SCode := (
.seq (.ops [o 4 (.move (.c (.bool false)))] none [0, 1])
(.seq (.ops [m 5 0, m 6 1, o 7 (.call 360 [(.t 5), (.t 6)]), o 8 (.bin .geq (.t 7) (k 0)), m 4 8] none [4])
(.ret)))
def f340 : SFunc := ⟨b340, [.t 4]⟩

def b339 : SCode := (
.seq (.ops [o 2 (.move (.c .nils))] none [0])
(.seq (.ops [o 3 (.move (.c .nils))] none [0, 3])
(.seq (.seq (.ops [m 6 0, o 7 (.len .sl (.t 6)), o 8 (.move (k 0))] none [3, 6, 7, 8])
(.block 0 (.loop [3, 6, 7, 8] (.seq (.ops [o 9 (.bin .lss (.t 8) (.t 7))] none [3, 6, 7, 8, 9])
(.seq (.cond (.t 9)
(.skip)
(.exit 0))
(.seq (.block 1 (.seq (.ops [o 10 (.idxAddr 5 (.t 6) (.t 8)), o 11 (.load (some 5) (.t 10)), o 5 (.alloc (.agg [(.int .i64 0), (.int .i64 0), (.int .i64 0), (.int .i64 0), .nils])), n (.store (some 5) (.t 5) (.t 11))] none [3, 5, 6, 7, 8])
(.seq (.ops [o 12 (.fldAddr 0 (.t 5)), o 13 (.load none (.t 12)), o 14 (.bin .eql (.t 13) (k 2))] none [3, 5, 6, 7, 8, 14])
(.cond (.t 14)
(.ops [m 15 3, o 16 (.fldAddr 1 (.t 5)), o 17 (.load none (.t 16)), o 18 (.buildSl 1 [(.int .i64 0)] [(0, 1, (.t 17))]), o 19 (.append 1 (.t 15) (.t 18)), m 3 19] none [3, 6, 7, 8])
(.skip)))))
(.ops [o 20 (.bin .add (.t 8) (k 1)), m 8 20] none [3, 6, 7, 8])))))))
(.seq (.ops [m 21 3, o 22 (.call 361 [(.t 21)])] none [3])
(.seq (.ops [m 23 3, o 24 (.call 362 [(.t 23)]), m 2 24] none [2])
(.ret))))))
def f339 : SFunc := ⟨b339, [.t 2]⟩

def b65 : SCode := (
.seq (.ops [o 2 (.move (.c .nils))] none [0])
(.seq (.ops [o 3 (.move (.c .nils))] none [0, 3])
(.seq (.seq (.ops [o 4 (.move (k 0))] none [0, 3, 4])
(.block 0 (.loop [0, 3, 4] (.seq (.seq (.ops [m 7 4, m 8 0, o 9 (.len .sl (.t 8)), o 10 (.bin .lss (.t 7) (.t 9))] none [0, 3, 4, 10])
(.cond (.t 10)
(.skip)
(.exit 0)))
(.seq (.block 1 (.seq (.seq (.ops [m 13 0, m 14 4, o 15 (.idxAddr 5 (.t 13) (.t 14)), o 16 (.fldAddr 0 (.t 15)), o 17 (.load none (.t 16)), o 18 (.bin .neq (.t 17) (k 8))] none [0, 3, 4, 18])
(.cond (.t 18)
(.seq (.ops [m 19 3, m 20 0, m 21 4, o 22 (.idxAddr 5 (.t 20) (.t 21)), o 23 (.load (some 5) (.t 22)), o 24 (.buildSl 1 [(.int .i64 0), (.int .i64 0), (.int .i64 0), (.int .i64 0), .nils] [(0, 5, (.t 23))]), o 25 (.append 5 (.t 19) (.t 24)), m 3 25] none [0, 3, 4])
(.exit 1))
(.skip)))
(.seq (.ops [m 26 0, m 27 4, o 28 (.call 69 [(.t 26), (.t 27)]), m 5 28] none [0, 3, 4, 5])
(.seq (.seq (.ops [m 29 5, o 30 (.bin .lss (.t 29) (k 0))] none [0, 3, 4, 5, 30])
(.cond (.t 30)
(.exit 0)
(.skip)))
(.seq (.ops [m 31 0, m 32 4, o 33 (.bin .add (.t 32) (k 1)), m 34 5, o 35 (.slSl 5 (.t 31) (some (.t 33)) (some (.t 34))), o 36 (.call 65 [(.t 35)]), m 6 36] none [0, 3, 4, 5, 6])
(.seq (.seq (.ops [m 37 0, m 38 4, o 39 (.idxAddr 5 (.t 37) (.t 38)), o 40 (.fldAddr 1 (.t 39)), o 41 (.load none (.t 40)), o 42 (.move (k 0))] none [0, 3, 5, 6, 41, 42])
(.block 2 (.loop [0, 3, 5, 6, 41, 42] (.seq (.ops [o 43 (.bin .lss (.t 42) (.t 41))] none [0, 3, 5, 6, 41, 42, 43])
(.seq (.cond (.t 43)
(.skip)
(.exit 2))
(.seq (.block 3 (.ops [m 44 3, m 45 6, o 46 (.append 5 (.t 44) (.t 45)), m 3 46] none [0, 3, 5, 6, 41, 42]))
(.ops [o 47 (.bin .add (.t 42) (k 1)), m 42 47] none [0, 3, 5, 6, 41, 42])))))))
(.ops [m 48 5, m 4 48] none [0, 3, 4])))))))
(.ops [m 11 4, o 12 (.bin .add (.t 11) (k 1)), m 4 12] none [0, 3, 4]))))))
(.seq (.ops [m 49 3, m 2 49] none [2])
(.ret)))))
def f65 : SFunc := ⟨b65, [.t 2]⟩

def b17 : SCode := (
.seq (.ops [o 6 (.move (.c .nils))] none [0, 1, 2])
(.seq (.ops [m 12 0, o 13 (.call 55 [(.t 12)]), m 7 13] none [1, 2, 7])
(.seq (.seq (.ops [m 14 7, o 15 (.len .sl (.t 14)), o 16 (.move (k 0))] none [1, 2, 7, 15, 16])
(.block 0 (.loop [1, 2, 7, 15, 16] (.seq (.ops [o 17 (.bin .lss (.t 16) (.t 15))] none [1, 2, 7, 15, 16, 17])
(.seq (.cond (.t 17)
(.skip)
(.exit 0))
(.seq (.block 1 (.seq (.ops [m 18 16, m 8 18] none [1, 2, 7, 8, 15, 16])
(.seq (.ops [m 19 8, m 20 1, o 21 (.len .sl (.t 20)), o 22 (.bin .lss (.t 19) (.t 21))] none [1, 2, 7, 8, 15, 16, 22])
(.cond (.t 22)
(.ops [m 23 7, m 24 8, m 25 7, m 26 8, o 27 (.idxAddr 1 (.t 25) (.t 26)), o 28 (.load none (.t 27)), m 29 1, m 30 8, o 31 (.idxAddr 1 (.t 29) (.t 30)), o 32 (.load none (.t 31)), o 33 (.mx [(.t 28), (.t 32)]), o 34 (.idxAddr 1 (.t 23) (.t 24)), n (.store none (.t 34) (.t 33))] (some [(0, []), (1, []), (2, []), (3, []), (4, [2, 3]), (5, [4, 2, 3]), (6, []), (7, []), (8, [6, 7]), (9, [8, 6, 7]), (10, [5, 4, 2, 3, 9, 8, 6, 7]), (11, [0, 1, 2, 3, 4, 5, 6, 7, 8, 9, 10]), (12, [11, 0, 1, 2, 3, 4, 5, 6, 7, 8, 9, 10])]) [1, 2, 7, 15, 16])
(.skip)))))
(.ops [o 35 (.bin .add (.t 16) (k 1)), m 16 35] none [1, 2, 7, 15, 16])))))))
(.seq (.skip)
(.seq (.block 2 (.loop [2, 7] (.block 3 (.seq (.ops [o 9 (.move (.c (.bool false)))] none [2, 7, 9])
(.seq (.seq (.ops [m 36 2, o 37 (.len .sl (.t 36)), o 38 (.move (k 0))] none [2, 7, 9, 36, 37, 38])
(.block 4 (.loop [2, 7, 9, 36, 37, 38] (.seq (.ops [o 39 (.bin .lss (.t 38) (.t 37))] none [2, 7, 9, 36, 37, 38, 39])
(.seq (.cond (.t 39)
(.skip)
(.exit 4))
(.seq (.block 5 (.seq (.ops [o 40 (.idxAddr 2 (.t 36) (.t 38)), o 41 (.load (some 2) (.t 40)), o 11 (.alloc (.agg [(.int .i64 0), (.int .i64 0)])), n (.store (some 2) (.t 11) (.t 41))] none [2, 7, 9, 11, 36, 37, 38])
(.seq (.ops [o 42 (.load (some 2) (.t 11)), m 43 7, o 44 (.len .sl (.t 43)), o 45 (.call 56 [(.t 42), (.t 44)]), m 46 45, ⟨some 47, .move (.t 7), (some (46, true)), []⟩, ⟨some 48, .fldAddr 0 (.t 11), (some (46, true)), []⟩, ⟨some 49, .load none (.t 48), (some (46, true)), []⟩, ⟨some 50, .idxAddr 1 (.t 47) (.t 49), (some (46, true)), []⟩, ⟨some 51, .load none (.t 50), (some (46, true)), []⟩, ⟨some 52, .move (.t 7), (some (46, true)), []⟩, ⟨some 53, .fldAddr 1 (.t 11), (some (46, true)), []⟩, ⟨some 54, .load none (.t 53), (some (46, true)), []⟩, ⟨some 55, .idxAddr 1 (.t 52) (.t 54), (some (46, true)), []⟩, ⟨some 56, .load none (.t 55), (some (46, true)), []⟩, ⟨some 57, .bin .gtr (.t 51) (.t 56), (some (46, true)), []⟩, o 58 (.pick (.t 46) (.t 57) (.c (.bool false)))] (some [(0, []), (1, []), (2, [1]), (3, [0, 2, 1]), (4, [3, 0, 2, 1]), (5, [4, 3, 0, 2, 1]), (6, [4, 3, 0, 2, 1]), (7, [6, 4, 3, 0, 2, 1]), (8, [5, 4, 3, 0, 2, 1, 7, 6]), (9, [8, 5, 4, 3, 0, 2, 1, 7, 6]), (10, [4, 3, 0, 2, 1]), (11, [4, 3, 0, 2, 1]), (12, [11, 4, 3, 0, 2, 1]), (13, [10, 4, 3, 0, 2, 1, 12, 11]), (14, [13, 10, 4, 3, 0, 2, 1, 12, 11]), (15, [9, 8, 5, 4, 3, 0, 2, 1, 7, 6, 14, 13, 10, 12, 11]), (16, [4, 3, 0, 2, 1, 15, 9, 8, 5, 7, 6, 14, 13, 10, 12, 11])]) [2, 7, 9, 11, 36, 37, 38, 58])
(.cond (.t 58)
(.seq (.ops [m 59 7, o 60 (.fldAddr 1 (.t 11)), o 61 (.load none (.t 60)), m 62 7, o 63 (.fldAddr 0 (.t 11)), o 64 (.load none (.t 63)), o 65 (.idxAddr 1 (.t 62) (.t 64)), o 66 (.load none (.t 65)), o 67 (.idxAddr 1 (.t 59) (.t 61)), n (.store none (.t 67) (.t 66))] (some [(0, []), (1, []), (2, [1]), (3, []), (4, []), (5, [4]), (6, [3, 5, 4]), (7, [6, 3, 5, 4]), (8, [0, 2, 1, 3, 4, 5, 6, 7]), (9, [8, 0, 2, 1, 3, 4, 5, 6, 7])]) [2, 7, 36, 37, 38])
(.ops [o 9 (.move (.c (.bool true)))] none [2, 7, 9, 36, 37, 38]))
(.skip)))))
(.ops [o 68 (.bin .add (.t 38) (k 1)), m 38 68] none [2, 7, 9, 36, 37, 38])))))))
(.seq (.ops [m 69 9, o 70 (.not (.t 69))] none [2, 7, 70])
(.cond (.t 70)
(.exit 2)
(.skip))))))))
(.seq (.ops [m 71 7, m 6 71] none [6])
(.ret)))))))
def f17 : SFunc := ⟨b17, [.t 6]⟩

def b331 : SCode := (
.seq (.ops [o 2 (.move (.c .nils))] none [0])
(.seq (.ops [o 3 (.move (.c .nils))] none [0, 3])
(.seq (.seq (.ops [m 13 0, o 14 (.nilck (.t 13)), o 15 (.fldAddr 7 (.t 14)), o 16 (.load none (.t 15)), o 17 (.len .sl (.t 16)), o 18 (.move (k 0))] none [0, 3, 16, 17, 18])
(.block 0 (.loop [0, 3, 16, 17, 18] (.seq (.ops [o 19 (.bin .lss (.t 18) (.t 17))] none [0, 3, 16, 17, 18, 19])
(.seq (.cond (.t 19)
(.skip)
(.exit 0))
(.seq (.block 1 (.seq (.ops [o 20 (.idxAddr 1 (.t 16) (.t 18)), o 21 (.load none (.t 20)), m 5 21] none [0, 3, 5, 16, 17, 18])
(.seq (.ops [m 22 5, o 23 (.call 354 [(.t 22)]), o 24 (.len .sl (.t 23)), o 25 (.move (k 0))] none [0, 3, 5, 16, 17, 18, 23, 24, 25])
(.block 2 (.loop [0, 3, 5, 16, 17, 18, 23, 24, 25] (.seq (.ops [o 26 (.bin .lss (.t 25) (.t 24))] none [0, 3, 5, 16, 17, 18, 23, 24, 25, 26])
(.seq (.cond (.t 26)
(.skip)
(.exit 2))
(.seq (.block 3 (.seq (.ops [o 27 (.idxAddr 4 (.t 23) (.t 25)), o 28 (.load (some 4) (.t 27)), o 7 (.alloc (.agg [(.int .i64 0), (.int .i64 0), (.int .i64 0), (.int .i64 0)])), n (.store (some 4) (.t 7) (.t 28))] none [0, 3, 5, 7, 16, 17, 18, 23, 24, 25])
(.ops [m 29 3, o 30 (.fldAddr 0 (.t 7)), o 31 (.load none (.t 30)), m 32 5, ⟨some 33, .call 315 [(.t 32)], none, [2]⟩, o 34 (.build [(.int .i64 0), (.int .i64 0)] [(0, 1, (.t 31)), (1, 1, (.t 33))]), o 35 (.buildSl 1 [(.int .i64 0), (.int .i64 0)] [(0, 2, (.t 34))]), o 36 (.append 2 (.t 29) (.t 35)), m 3 36] (some [(0, []), (1, []), (2, [1]), (3, []), (4, [3]), (5, [2, 1, 4, 3]), (6, [5, 2, 1, 4, 3]), (7, [0, 6, 5, 2, 1, 4, 3]), (8, [7, 0, 6, 5, 2, 1, 4, 3])]) [0, 3, 5, 16, 17, 18, 23, 24, 25])))
(.ops [o 37 (.bin .add (.t 25) (k 1)), m 25 37] none [0, 3, 5, 16, 17, 18, 23, 24, 25])))))))))
(.ops [o 38 (.bin .add (.t 18) (k 1)), m 18 38] none [0, 3, 16, 17, 18])))))))
(.seq (.skip)
(.seq (.seq (.ops [m 39 0, o 40 (.nilck (.t 39)), o 41 (.fldAddr 6 (.t 40)), o 42 (.load none (.t 41)), o 43 (.len .sl (.t 42)), o 44 (.move (k 0))] none [0, 3, 42, 43, 44])
(.block 4 (.loop [0, 3, 42, 43, 44] (.seq (.ops [o 45 (.bin .lss (.t 44) (.t 43))] none [0, 3, 42, 43, 44, 45])
(.seq (.cond (.t 45)
(.skip)
(.exit 4))
(.seq (.block 5 (.seq (.ops [m 46 44, o 47 (.idxAddr 1 (.t 42) (.t 44)), o 48 (.load none (.t 47)), m 8 46, m 9 48] none [0, 3, 8, 9, 42, 43, 44])
(.seq (.ops [m 49 0, o 50 (.nilck (.t 49)), o 51 (.fldAddr 0 (.t 50)), o 52 (.fldAddr 1 (.t 51)), o 53 (.load none (.t 52)), m 54 8, o 55 (.idxAddr 2 (.t 53) (.t 54)), o 56 (.fldAddr 1 (.t 55)), o 57 (.load none (.t 56)), m 10 57] none [0, 3, 9, 10, 42, 43, 44])
(.seq (.seq (.ops [m 58 10, o 59 (.bin .lss (.t 58) (k 0)), m 60 59, ⟨some 61, .move (.t 0), (some (60, false)), []⟩, ⟨some 62, .nilck (.t 61), (some (60, false)), []⟩, ⟨some 63, .fldAddr 5 (.t 62), (some (60, false)), []⟩, ⟨some 64, .load none (.t 63), (some (60, false)), []⟩, ⟨some 65, .move (.t 10), (some (60, false)), []⟩, ⟨some 66, .idxAddr 10 (.t 64) (.t 65), (some (60, false)), []⟩, ⟨some 67, .fldAddr 0 (.t 66), (some (60, false)), []⟩, ⟨some 68, .load none (.t 67), (some (60, false)), []⟩, ⟨some 69, .not (.t 68), (some (60, false)), []⟩, o 70 (.pick (.t 60) (.c (.bool true)) (.t 69))] none [0, 3, 9, 10, 42, 43, 44, 70])
(.cond (.t 70)
(.exit 5)
(.skip)))
(.seq (.ops [m 71 9, o 72 (.call 355 [(.t 71)]), o 73 (.len .sl (.t 72)), o 74 (.move (k 0))] none [0, 3, 10, 42, 43, 44, 72, 73, 74])
(.block 6 (.loop [0, 3, 10, 42, 43, 44, 72, 73, 74] (.seq (.ops [o 75 (.bin .lss (.t 74) (.t 73))] none [0, 3, 10, 42, 43, 44, 72, 73, 74, 75])
(.seq (.cond (.t 75)
(.skip)
(.exit 6))
(.seq (.block 7 (.seq (.ops [o 76 (.idxAddr 4 (.t 72) (.t 74)), o 77 (.load (some 4) (.t 76)), o 12 (.alloc (.agg [(.int .i64 0), (.int .i64 0), (.int .i64 0), (.int .i64 0)])), n (.store (some 4) (.t 12) (.t 77))] none [0, 3, 10, 12, 42, 43, 44, 72, 73, 74])
(.ops [m 78 3, o 79 (.fldAddr 0 (.t 12)), o 80 (.load none (.t 79)), m 81 10, o 82 (.build [(.int .i64 0), (.int .i64 0)] [(0, 1, (.t 80)), (1, 1, (.t 81))]), o 83 (.buildSl 1 [(.int .i64 0), (.int .i64 0)] [(0, 2, (.t 82))]), o 84 (.append 2 (.t 78) (.t 83)), m 3 84] none [0, 3, 10, 42, 43, 44, 72, 73, 74])))
(.ops [o 85 (.bin .add (.t 74) (k 1)), m 74 85] none [0, 3, 10, 42, 43, 44, 72, 73, 74])))))))))))
(.ops [o 86 (.bin .add (.t 44) (k 1)), m 44 86] none [0, 3, 42, 43, 44])))))))
(.seq (.ops [m 87 3, m 2 87] none [2])
(.ret)))))))
def f331 : SFunc := ⟨b331, [.t 2]⟩

def b377 : SCode := (
.seq (.ops [o 1 (.box (.t 0)), o 2 (.move (.c .nilf))] none [1])
(.seq (.ops [o 3 (.mkfn 378 [(.t 1)]), m 2 3] none [2])
(.ret)))
def f377 : SFunc := ⟨b377, [.t 2]⟩

def b36 : SCode := (
.seq (.ops [o 1 (.box (.t 0)), o 2 (.alloc (.agg [(.bool false), .nils, (.int .i64 0), (.int .i64 0), (.int .i64 0), (.int .i64 0), (.int .i64 0), (.int .i64 0), (.bool false), .nils])), o 3 (.move (.c (.bool false)))] none [1, 2])
(.seq (.ops [o 7 (.load (some 10) (.t 1)), o 8 (.call 30 [(.t 7)]), m 6 8, o 9 (.ext 0 (.t 6)), o 10 (.ext 1 (.t 6)), o 4 (.alloc (.agg [(.int .i64 0), (.int .i64 0), (.int .i64 0), (.int .i64 0), .nils])), n (.store (some 5) (.t 4) (.t 9)), m 5 10] none [1, 2, 4, 5])
(.seq (.seq (.ops [m 11 5, o 12 (.not (.t 11)), m 13 12, ⟨some 14, .fldAddr 0 (.t 4), (some (13, false)), []⟩, ⟨some 15, .load none (.t 14), (some (13, false)), []⟩, ⟨some 16, .bin .neq (.t 15) (k 1), (some (13, false)), []⟩, o 17 (.pick (.t 13) (.c (.bool true)) (.t 16)), m 18 17, ⟨some 19, .fldAddr 3 (.t 1), (some (18, false)), []⟩, ⟨some 20, .load none (.t 19), (some (18, false)), []⟩, ⟨some 21, .bin .neq (.t 20) (k 0), (some (18, false)), []⟩, o 22 (.pick (.t 18) (.c (.bool true)) (.t 21)), m 23 22, ⟨some 24, .fldAddr 4 (.t 1), (some (23, false)), []⟩, ⟨some 25, .load none (.t 24), (some (23, false)), []⟩, ⟨some 26, .fldAddr 5 (.t 1), (some (23, false)), []⟩, ⟨some 27, .load none (.t 26), (some (23, false)), []⟩, ⟨some 28, .bin .geq (.t 25) (.t 27), (some (23, false)), []⟩, o 29 (.pick (.t 23) (.c (.bool true)) (.t 28))] none [1, 2, 4, 29])
(.cond (.t 29)
(.seq (.ops [o 30 (.load (some 10) (.t 1)), n (.store (some 10) (.t 2) (.t 30)), o 3 (.move (.c (.bool false)))] none [2, 3])
(.ret))
(.skip)))
(.seq (.ops [o 31 (.fldAddr 1 (.t 4)), o 32 (.load none (.t 31)), o 33 (.fldAddr 3 (.t 1)), n (.store none (.t 33) (.t 32))] none [1, 2])
(.seq (.ops [o 34 (.load (some 10) (.t 1)), n (.store (some 10) (.t 2) (.t 34)), o 3 (.move (.c (.bool true)))] none [2, 3])
(.ret))))))
def f36 : SFunc := ⟨b36, [.cell (some 10) 2, .t 3]⟩

def b342 : SCode := (
.seq (.ops [o 6 (.move (.c (.bool false))), o 7 (.move (k 0))] none [0, 1, 2])
(.seq (.block 0 (.seq (.ops [m 9 1, o 10 (.bin .lss (.t 9) (k 0)), m 8 10] none [0, 1, 2, 8])
(.cond (.t 8)
(.seq (.ops [o 6 (.move (.c (.bool false))), o 7 (.move (k 1))] none [6, 7])
(.ret))
(.seq (.ops [m 12 0, o 13 (.nilck (.t 12)), o 14 (.fldAddr 0 (.t 13)), o 15 (.load none (.t 14)), m 16 1, o 17 (.bin .eql (.t 15) (.t 16)), m 18 17, ⟨some 19, .move (.t 0), (some (18, false)), []⟩, ⟨some 20, .nilck (.t 19), (some (18, false)), []⟩, ⟨some 21, .fldAddr 1 (.t 20), (some (18, false)), []⟩, ⟨some 22, .load none (.t 21), (some (18, false)), []⟩, ⟨some 23, .move (.t 1), (some (18, false)), []⟩, ⟨some 24, .call 363 [(.t 22), (.t 23)], (some (18, false)), []⟩, o 25 (.pick (.t 18) (.c (.bool true)) (.t 24)), m 11 25] none [0, 1, 2, 11])
(.cond (.t 11)
(.seq (.ops [o 6 (.move (.c (.bool false))), o 7 (.move (k 6))] none [6, 7])
(.ret))
(.seq (.ops [m 27 0, o 28 (.nilck (.t 27)), o 29 (.fldAddr 0 (.t 28)), o 30 (.load none (.t 29)), o 31 (.bin .eql (.t 30) (.c (.int .i64 (-1)))), m 26 31] none [0, 1, 2, 26])
(.cond (.t 26)
(.seq (.ops [m 32 0, m 33 1, o 34 (.nilck (.t 32)), o 35 (.fldAddr 0 (.t 34)), n (.store none (.t 35) (.t 33))] none [])
(.seq (.ops [o 6 (.move (.c (.bool true))), o 7 (.move (k 0))] none [6, 7])
(.ret)))
(.skip))))))))
(.seq (.ops [m 36 0, m 37 0, o 38 (.nilck (.t 37)), o 39 (.fldAddr 1 (.t 38)), o 40 (.load none (.t 39)), o 41 (.call 356 [(.t 40)]), m 42 1, m 43 2, o 44 (.build [(.int .i64 0), (.int .i64 0), (.int .i64 0), (.int .i64 0)] [(0, 1, (.t 42)), (2, 1, (.t 43))]), o 45 (.buildSl 1 [(.int .i64 0), (.int .i64 0), (.int .i64 0), (.int .i64 0)] [(0, 4, (.t 44))]), o 46 (.append 4 (.t 41) (.t 45)), o 47 (.nilck (.t 36)), o 48 (.fldAddr 1 (.t 47)), n (.store none (.t 48) (.t 46))] none [])
(.seq (.ops [o 6 (.move (.c (.bool false))), o 7 (.move (k 0))] none [6, 7])
(.ret)))))
def f342 : SFunc := ⟨b342, [.t 6, .t 7]⟩

def b43 : SCode := (
.seq (.ops [o 2 (.box (.t 0)), o 4 (.alloc (.agg [(.bool false), .nils, (.int .i64 0), (.int .i64 0), (.int .i64 0), (.int .i64 0), (.int .i64 0), (.int .i64 0), (.bool false), .nils]))] none [1, 2, 4])
(.seq (.ops [o 5 (.fldAddr 9 (.t 2)), o 6 (.load none (.t 5)), o 7 (.call 55 [(.t 6)]), m 8 1, o 9 (.buildSl 1 [(.int .i64 0)] [(0, 1, (.t 8))]), o 10 (.append 1 (.t 7) (.t 9)), o 11 (.fldAddr 9 (.t 2)), n (.store none (.t 11) (.t 10))] none [2, 4])
(.seq (.ops [o 12 (.load (some 10) (.t 2)), n (.store (some 10) (.t 4) (.t 12))] none [4])
(.ret))))
def f43 : SFunc := ⟨b43, [.cell (some 10) 4]⟩

def b41 : SCode := (
.seq (.ops [o 1 (.box (.t 0)), o 2 (.alloc (.agg [(.bool false), .nils, (.int .i64 0), (.int .i64 0), (.int .i64 0), (.int .i64 0), (.int .i64 0), (.int .i64 0), (.bool false), .nils]))] none [1, 2])
(.seq (.ops [o 3 (.fldAddr 2 (.t 1)), o 4 (.load none (.t 3)), o 5 (.bin .add (.t 4) (k 1)), o 6 (.fldAddr 2 (.t 1)), n (.store none (.t 6) (.t 5)), o 7 (.fldAddr 3 (.t 1)), n (.store none (.t 7) (k 0)), o 8 (.fldAddr 8 (.t 1)), n (.store none (.t 8) (.c (.bool false)))] none [1, 2])
(.seq (.ops [o 9 (.load (some 10) (.t 1)), n (.store (some 10) (.t 2) (.t 9))] none [2])
(.ret))))
def f41 : SFunc := ⟨b41, [.cell (some 10) 2]⟩

def b45 : SCode := (
.seq (.ops [o 2 (.box (.t 0)), o 4 (.alloc (.agg [(.bool false), .nils, (.int .i64 0), (.int .i64 0), (.int .i64 0), (.int .i64 0), (.int .i64 0), (.int .i64 0), (.bool false), .nils]))] none [1, 2, 4])
(.seq (.ops [o 5 (.move (.c .nils))] none [1, 2, 4, 5])
(.seq (.skip)
(.seq (.seq (.ops [o 8 (.fldAddr 9 (.t 2)), o 9 (.load none (.t 8)), o 10 (.len .sl (.t 9)), o 11 (.move (k 0))] none [1, 2, 4, 5, 9, 10, 11])
(.block 0 (.loop [1, 2, 4, 5, 9, 10, 11] (.seq (.ops [o 12 (.bin .lss (.t 11) (.t 10))] none [1, 2, 4, 5, 9, 10, 11, 12])
(.seq (.cond (.t 12)
(.skip)
(.exit 0))
(.seq (.block 1 (.seq (.ops [o 13 (.idxAddr 1 (.t 9) (.t 11)), o 14 (.load none (.t 13)), m 7 14] none [1, 2, 4, 5, 7, 9, 10, 11])
(.seq (.seq (.ops [m 15 7, m 16 1, o 17 (.bin .eql (.t 15) (.t 16))] none [1, 2, 4, 5, 7, 9, 10, 11, 17])
(.cond (.t 17)
(.exit 1)
(.skip)))
(.ops [m 18 5, m 19 7, o 20 (.buildSl 1 [(.int .i64 0)] [(0, 1, (.t 19))]), o 21 (.append 1 (.t 18) (.t 20)), m 5 21] none [1, 2, 4, 5, 9, 10, 11]))))
(.ops [o 22 (.bin .add (.t 11) (k 1)), m 11 22] none [1, 2, 4, 5, 9, 10, 11])))))))
(.seq (.ops [m 23 5, o 24 (.fldAddr 9 (.t 2)), n (.store none (.t 24) (.t 23))] none [2, 4])
(.seq (.ops [o 25 (.load (some 10) (.t 2)), n (.store (some 10) (.t 4) (.t 25))] none [4])
(.ret)))))))
def f45 : SFunc := ⟨b45, [.cell (some 10) 4]⟩

def b344 : SCode := (
.seq (.ops [o 6 (.move (k 0)), o 7 (.move (k 0))] none [0, 1, 2])
(.seq (.seq (.ops [m 9 1, o 10 (.bin .lss (.t 9) (k 0)), m 11 10, ⟨some 12, .move (.t 0), (some (11, false)), []⟩, ⟨some 13, .nilck (.t 12), (some (11, false)), []⟩, ⟨some 14, .fldAddr 0 (.t 13), (some (11, false)), []⟩, ⟨some 15, .load none (.t 14), (some (11, false)), []⟩, ⟨some 16, .move (.t 1), (some (11, false)), []⟩, ⟨some 17, .bin .neq (.t 15) (.t 16), (some (11, false)), []⟩, o 18 (.pick (.t 11) (.c (.bool true)) (.t 17))] none [0, 2, 18])
(.cond (.t 18)
(.seq (.ops [o 6 (.move (k 0)), o 7 (.move (k 10))] none [6, 7])
(.ret))
(.skip)))
(.seq (.ops [m 19 0, o 20 (.nilck (.t 19)), o 21 (.fldAddr 0 (.t 20)), n (.store none (.t 21) (.c (.int .i64 (-1))))] none [0, 2])
(.seq (.seq (.ops [m 22 0, o 23 (.nilck (.t 22)), o 24 (.fldAddr 1 (.t 23)), o 25 (.load none (.t 24)), m 26 2, o 27 (.call 364 [(.t 25), (.t 26)]), m 8 27] none [0, 8])
(.seq (.ops [m 28 8, o 29 (.bin .geq (.t 28) (k 0))] none [0, 8, 29])
(.cond (.t 29)
(.seq (.ops [m 30 0, m 31 0, o 32 (.nilck (.t 31)), o 33 (.fldAddr 1 (.t 32)), o 34 (.load none (.t 33)), m 35 8, o 36 (.idxAddr 4 (.t 34) (.t 35)), o 37 (.fldAddr 0 (.t 36)), o 38 (.load none (.t 37)), o 39 (.nilck (.t 30)), o 40 (.fldAddr 0 (.t 39)), n (.store none (.t 40) (.t 38))] none [0])
(.ops [m 41 0, m 42 0, o 43 (.nilck (.t 42)), o 44 (.fldAddr 0 (.t 43)), o 45 (.load none (.t 44)), o 46 (.call 365 [(.t 41), (.t 45)])] none [0]))
(.skip))))
(.seq (.ops [m 47 0, o 48 (.nilck (.t 47)), o 49 (.fldAddr 0 (.t 48)), o 50 (.load none (.t 49)), m 6 50, o 7 (.move (k 0))] none [6, 7])
(.ret))))))
def f344 : SFunc := ⟨b344, [.t 6, .t 7]⟩

def b219 : SCode := (
.seq (.ops [o 1 (.box (.t 0)), o 2 (.move (k 0))] none [1])
(.seq (.seq (.ops [o 4 (.fldAddr 0 (.t 1)), o 5 (.load none (.t 4)), o 6 (.bin .lss (.t 5) (k 1)), m 7 6, ⟨some 8, .fldAddr 0 (.t 1), (some (7, false)), []⟩, ⟨some 9, .load none (.t 8), (some (7, false)), []⟩, ⟨some 10, .bin .gtr (.t 9) (k 9), (some (7, false)), []⟩, o 11 (.pick (.t 7) (.c (.bool true)) (.t 10))] none [1, 11])
(.cond (.t 11)
(.seq (.ops [o 2 (.move (k 3))] none [2])
(.ret))
(.skip)))
(.seq (.ops [o 13 (.fldAddr 0 (.t 1)), o 14 (.load none (.t 13)), o 3 (.alloc (.agg [(.str []), (.int .i64 0), (.int .i64 0), (.bool false), (.bool false)])), ⟨some 12, .call 224 [], none, [1]⟩, o 15 (.idxAddr 5 (.t 12) (.t 14)), o 16 (.load (some 5) (.t 15)), n (.store (some 5) (.t 3) (.t 16))] (some [(1, []), (2, [0]), (5, []), (0, []), (3, [3, 1, 0]), (4, [4, 3, 1, 0]), (6, [2, 5, 4, 3, 1, 0])]) [1, 3])
(.seq (.block 0 (.seq (.ops [o 18 (.fldAddr 1 (.t 1)), o 19 (.load none (.t 18)), o 20 (.fldAddr 1 (.t 3)), o 21 (.load none (.t 20)), o 22 (.bin .lss (.t 19) (.t 21)), m 23 22, ⟨some 24, .fldAddr 1 (.t 1), (some (23, false)), []⟩, ⟨some 25, .load none (.t 24), (some (23, false)), []⟩, ⟨some 26, .fldAddr 2 (.t 3), (some (23, false)), []⟩, ⟨some 27, .load none (.t 26), (some (23, false)), []⟩, ⟨some 28, .bin .gtr (.t 25) (.t 27), (some (23, false)), []⟩, o 29 (.pick (.t 23) (.c (.bool true)) (.t 28)), m 30 29, ⟨some 31, .fldAddr 0 (.t 1), (some (30, false)), []⟩, ⟨some 32, .load none (.t 31), (some (30, false)), []⟩, ⟨some 33, .bin .neq (.t 32) (k 4), (some (30, false)), []⟩, ⟨some 34, .move (.t 33), (some (30, false)), []⟩, ⟨some 35, .fldAddr 2 (.t 1), (some (34, true)), []⟩, ⟨some 36, .load none (.t 35), (some (34, true)), []⟩, ⟨some 37, .bin .neq (.t 36) (k 0), (some (34, true)), []⟩, ⟨some 38, .pick (.t 34) (.t 37) (.c (.bool false)), (some (30, false)), []⟩, o 39 (.pick (.t 30) (.c (.bool true)) (.t 38)), m 17 39] none [1, 3, 17])
(.cond (.t 17)
(.seq (.ops [o 2 (.move (k 1))] none [2])
(.ret))
(.seq (.ops [o 41 (.fldAddr 3 (.t 3)), o 42 (.load none (.t 41)), o 43 (.not (.t 42)), m 44 43, ⟨some 45, .fldAddr 3 (.t 1), (some (44, true)), []⟩, ⟨some 46, .load none (.t 45), (some (44, true)), []⟩, ⟨some 47, .bin .neq (.t 46) (k 0), (some (44, true)), []⟩, o 48 (.pick (.t 44) (.t 47) (.c (.bool false))), m 49 48, ⟨some 50, .fldAddr 3 (.t 1), (some (49, false)), []⟩, ⟨some 51, .load none (.t 50), (some (49, false)), []⟩, ⟨some 52, .bin .lss (.t 51) (.c (.int .i64 (-1))), (some (49, false)), []⟩, o 53 (.pick (.t 49) (.c (.bool true)) (.t 52)), m 54 53, ⟨some 55, .fldAddr 3 (.t 1), (some (54, false)), []⟩, ⟨some 56, .load none (.t 55), (some (54, false)), []⟩, ⟨some 57, .bin .gtr (.t 56) (k 1000), (some (54, false)), []⟩, o 58 (.pick (.t 54) (.c (.bool true)) (.t 57)), m 40 58] none [1, 3, 40])
(.cond (.t 40)
(.seq (.ops [o 2 (.move (k 1))] none [2])
(.ret))
(.seq (.ops [o 60 (.fldAddr 4 (.t 3)), o 61 (.load none (.t 60)), m 59 61] none [1, 59])
(.cond (.t 59)
(.seq (.ops [o 62 (.fldAddr 4 (.t 1)), o 63 (.load none (.t 62)), o 64 (.call 225 [(.t 63)]), m 2 64] none [2])
(.ret))
(.seq (.ops [o 66 (.fldAddr 4 (.t 1)), o 67 (.load none (.t 66)), o 68 (.len .sl (.t 67)), o 69 (.bin .gtr (.t 68) (k 0)), m 65 69] none [65])
(.cond (.t 65)
(.seq (.ops [o 2 (.move (k 1))] none [2])
(.ret))
(.skip))))))))))
(.seq (.ops [o 2 (.move (k 0))] none [2])
(.ret))))))
def f219 : SFunc := ⟨b219, [.t 2]⟩

def b294 : SCode := (
.seq (.ops [o 3 (.box (.t 1)), o 4 (.move (.c (.bool false)))] none [0, 3])
(.seq (.ops [m 6 0, o 7 (.nilck (.t 6)), o 8 (.fldAddr 1 (.t 7)), o 9 (.load none (.t 8)), o 10 (.len .sl (.t 9)), o 11 (.bin .sub (.t 10) (k 1)), m 5 11] none [0, 3, 5])
(.seq (.seq (.ops [o 12 (.fldAddr 0 (.t 3)), o 13 (.load none (.t 12))] none [0, 3, 5, 13])
(.block 0 (.seq (.ops [o 26 (.bin .eql (.t 13) (k 8)), m 25 26] none [0, 3, 5, 13, 25])
(.cond (.t 25)
(.seq (.ops [m 27 0, m 28 0, o 29 (.nilck (.t 28)), o 30 (.fldAddr 1 (.t 29)), o 31 (.load none (.t 30)), m 32 0, o 33 (.nilck (.t 32)), o 34 (.fldAddr 0 (.t 33)), o 35 (.load none (.t 34)), ⟨some 36, .call 55 [(.t 35)], none, [4]⟩, o 37 (.buildSl 1 [.nils] [(0, 1, (.t 36))]), o 38 (.append 1 (.t 31) (.t 37)), o 39 (.nilck (.t 27)), o 40 (.fldAddr 1 (.t 39)), n (.store none (.t 40) (.t 38))] (some [(0, []), (1, []), (2, [1]), (3, [2, 1]), (4, [3, 2, 1]), (5, []), (6, [5]), (7, [6, 5]), (8, [7, 6, 5]), (9, [8, 7, 6, 5]), (10, [9, 8, 7, 6, 5]), (11, [4, 3, 2, 1, 10, 9, 8, 7, 6, 5]), (12, [0, 1, 2, 3, 4, 5, 6, 7, 8, 9, 10, 11]), (13, [12, 0, 1, 2, 3, 4, 5, 6, 7, 8, 9, 10, 11]), (14, [13, 12, 0, 1, 2, 3, 4, 5, 6, 7, 8, 9, 10, 11])]) [0])
(.seq (.ops [m 41 0, o 42 (.nilck (.t 41)), o 43 (.fldAddr 1 (.t 42)), o 44 (.load none (.t 43)), o 45 (.len .sl (.t 44)), o 46 (.bin .leq (.t 45) (k 3)), m 4 46] none [4])
(.ret)))
(.seq (.ops [o 48 (.bin .eql (.t 13) (k 9)), m 47 48] none [0, 3, 5, 13, 47])
(.cond (.t 47)
(.seq (.seq (.ops [m 49 5, o 50 (.bin .lss (.t 49) (k 0)), m 51 50, ⟨some 52, .move (.t 0), (some (51, false)), []⟩, ⟨some 53, .nilck (.t 52), (some (51, false)), []⟩, ⟨some 54, .fldAddr 1 (.t 53), (some (51, false)), []⟩, ⟨some 55, .load none (.t 54), (some (51, false)), []⟩, ⟨some 56, .move (.t 5), (some (51, false)), []⟩, ⟨some 57, .idxAddr 1 (.t 55) (.t 56), (some (51, false)), []⟩, ⟨some 58, .load none (.t 57), (some (51, false)), []⟩, ⟨some 59, .move (.t 0), (some (51, false)), []⟩, ⟨some 60, .nilck (.t 59), (some (51, false)), []⟩, ⟨some 61, .fldAddr 0 (.t 60), (some (51, false)), []⟩, ⟨some 62, .load none (.t 61), (some (51, false)), []⟩, ⟨some 63, .call 61 [(.t 58), (.t 62)], (some (51, false)), []⟩, ⟨some 64, .not (.t 63), (some (51, false)), []⟩, o 65 (.pick (.t 51) (.c (.bool true)) (.t 64))] (some [(0, []), (1, [0]), (2, [1, 0]), (3, [2, 1, 0]), (4, [3, 2, 1, 0]), (5, [4, 3, 2, 1, 0]), (6, [5, 4, 3, 2, 1, 0]), (7, [2, 1, 0]), (8, [6, 5, 4, 3, 2, 1, 0, 7]), (9, [8, 6, 5, 4, 3, 2, 1, 0, 7]), (10, [2, 1, 0]), (11, [10, 2, 1, 0]), (12, [11, 10, 2, 1, 0]), (13, [12, 11, 10, 2, 1, 0]), (14, [9, 8, 6, 5, 4, 3, 2, 1, 0, 7, 13, 12, 11, 10]), (15, [14, 9, 8, 6, 5, 4, 3, 2, 1, 0, 7, 13, 12, 11, 10]), (16, [2, 1, 0, 15, 14, 9, 8, 6, 5, 4, 3, 7, 13, 12, 11, 10])]) [0, 5, 65])
(.cond (.t 65)
(.seq (.ops [o 4 (.move (.c (.bool false)))] none [4])
(.ret))
(.skip)))
(.ops [m 66 0, m 67 0, o 68 (.nilck (.t 67)), o 69 (.fldAddr 1 (.t 68)), o 70 (.load none (.t 69)), m 71 5, o 72 (.slSl 1 (.t 70) none (some (.t 71))), o 73 (.nilck (.t 66)), o 74 (.fldAddr 1 (.t 73)), n (.store none (.t 74) (.t 72))] none []))
(.seq (.ops [o 76 (.bin .eql (.t 13) (k 2)), m 75 76] none [0, 3, 13, 75])
(.cond (.t 75)
(.seq (.seq (.ops [m 77 0, o 78 (.nilck (.t 77)), o 79 (.fldAddr 0 (.t 78)), o 80 (.load none (.t 79)), o 81 (.len .sl (.t 80)), o 82 (.bin .gtr (.t 81) (k 0)), m 83 82, ⟨some 84, .move (.t 0), (some (83, true)), []⟩, ⟨some 85, .nilck (.t 84), (some (83, true)), []⟩, ⟨some 86, .fldAddr 0 (.t 85), (some (83, true)), []⟩, ⟨some 87, .load none (.t 86), (some (83, true)), []⟩, ⟨some 88, .move (.t 0), (some (83, true)), []⟩, ⟨some 89, .nilck (.t 88), (some (83, true)), []⟩, ⟨some 90, .fldAddr 0 (.t 89), (some (83, true)), []⟩, ⟨some 91, .load none (.t 90), (some (83, true)), []⟩, ⟨some 92, .len .sl (.t 91), (some (83, true)), []⟩, ⟨some 93, .bin .sub (.t 92) (k 1), (some (83, true)), []⟩, ⟨some 94, .idxAddr 1 (.t 87) (.t 93), (some (83, true)), []⟩, ⟨some 95, .load none (.t 94), (some (83, true)), []⟩, ⟨some 96, .fldAddr 1 (.t 3), (some (83, true)), []⟩, ⟨some 97, .load none (.t 96), (some (83, true)), []⟩, ⟨some 98, .bin .geq (.t 95) (.t 97), (some (83, true)), []⟩, o 99 (.pick (.t 83) (.t 98) (.c (.bool false)))] (some [(0, []), (1, [0]), (2, [1, 0]), (3, [2, 1, 0]), (4, [3, 2, 1, 0]), (5, [4, 3, 2, 1, 0]), (6, [5, 4, 3, 2, 1, 0]), (7, [6, 5, 4, 3, 2, 1, 0]), (8, [7, 6, 5, 4, 3, 2, 1, 0]), (9, [8, 7, 6, 5, 4, 3, 2, 1, 0]), (10, [9, 8, 7, 6, 5, 4, 3, 2, 1, 0]), (11, [6, 5, 4, 3, 2, 1, 0]), (12, [11, 6, 5, 4, 3, 2, 1, 0]), (13, [12, 11, 6, 5, 4, 3, 2, 1, 0]), (14, [13, 12, 11, 6, 5, 4, 3, 2, 1, 0]), (15, [14, 13, 12, 11, 6, 5, 4, 3, 2, 1, 0]), (16, [15, 14, 13, 12, 11, 6, 5, 4, 3, 2, 1, 0]), (17, [10, 9, 8, 7, 6, 5, 4, 3, 2, 1, 0, 16, 15, 14, 13, 12, 11]), (18, [17, 10, 9, 8, 7, 6, 5, 4, 3, 2, 1, 0, 16, 15, 14, 13, 12, 11]), (19, [6, 5, 4, 3, 2, 1, 0]), (20, [19, 6, 5, 4, 3, 2, 1, 0]), (21, [18, 17, 10, 9, 8, 7, 6, 5, 4, 3, 2, 1, 0, 16, 15, 14, 13, 12, 11, 20, 19]), (22, [6, 5, 4, 3, 2, 1, 0, 21, 18, 17, 10, 9, 8, 7, 16, 15, 14, 13, 12, 11, 20, 19])]) [0, 3, 99])
(.cond (.t 99)
(.seq (.ops [o 4 (.move (.c (.bool false)))] none [4])
(.ret))
(.skip)))
(.ops [m 100 0, m 101 0, o 102 (.nilck (.t 101)), o 103 (.fldAddr 0 (.t 102)), o 104 (.load none (.t 103)), o 105 (.fldAddr 1 (.t 3)), o 106 (.load none (.t 105)), o 107 (.buildSl 1 [(.int .i64 0)] [(0, 1, (.t 106))]), o 108 (.append 1 (.t 104) (.t 107)), o 109 (.nilck (.t 100)), o 110 (.fldAddr 0 (.t 109)), n (.store none (.t 110) (.t 108))] (some [(0, []), (1, []), (2, [1]), (3, [2, 1]), (4, [3, 2, 1]), (5, []), (6, [5]), (7, [6, 5]), (8, [4, 3, 2, 1, 7, 6, 5]), (9, [0, 1, 2, 3, 4, 5, 6, 7, 8]), (10, [9, 0, 1, 2, 3, 4, 5, 6, 7, 8]), (11, [10, 9, 0, 1, 2, 3, 4, 5, 6, 7, 8])]) []))
(.seq (.ops [o 112 (.bin .eql (.t 13) (k 3)), m 111 112] none [0, 3, 111])
(.cond (.t 111)
(.seq (.seq (.ops [m 113 0, o 114 (.nilck (.t 113)), o 115 (.fldAddr 0 (.t 114)), o 116 (.load none (.t 115)), o 117 (.len .sl (.t 116)), o 118 (.bin .eql (.t 117) (k 0)), m 119 118, ⟨some 120, .move (.t 0), (some (119, false)), []⟩, ⟨some 121, .nilck (.t 120), (some (119, false)), []⟩, ⟨some 122, .fldAddr 0 (.t 121), (some (119, false)), []⟩, ⟨some 123, .load none (.t 122), (some (119, false)), []⟩, ⟨some 124, .move (.t 0), (some (119, false)), []⟩, ⟨some 125, .nilck (.t 124), (some (119, false)), []⟩, ⟨some 126, .fldAddr 0 (.t 125), (some (119, false)), []⟩, ⟨some 127, .load none (.t 126), (some (119, false)), []⟩, ⟨some 128, .len .sl (.t 127), (some (119, false)), []⟩, ⟨some 129, .bin .sub (.t 128) (k 1), (some (119, false)), []⟩, ⟨some 130, .idxAddr 1 (.t 123) (.t 129), (some (119, false)), []⟩, ⟨some 131, .load none (.t 130), (some (119, false)), []⟩, ⟨some 132, .fldAddr 1 (.t 3), (some (119, false)), []⟩, ⟨some 133, .load none (.t 132), (some (119, false)), []⟩, ⟨some 134, .bin .neq (.t 131) (.t 133), (some (119, false)), []⟩, o 135 (.pick (.t 119) (.c (.bool true)) (.t 134))] (some [(0, []), (1, [0]), (2, [1, 0]), (3, [2, 1, 0]), (4, [3, 2, 1, 0]), (5, [4, 3, 2, 1, 0]), (6, [5, 4, 3, 2, 1, 0]), (7, [6, 5, 4, 3, 2, 1, 0]), (8, [7, 6, 5, 4, 3, 2, 1, 0]), (9, [8, 7, 6, 5, 4, 3, 2, 1, 0]), (10, [9, 8, 7, 6, 5, 4, 3, 2, 1, 0]), (11, [6, 5, 4, 3, 2, 1, 0]), (12, [11, 6, 5, 4, 3, 2, 1, 0]), (13, [12, 11, 6, 5, 4, 3, 2, 1, 0]), (14, [13, 12, 11, 6, 5, 4, 3, 2, 1, 0]), (15, [14, 13, 12, 11, 6, 5, 4, 3, 2, 1, 0]), (16, [15, 14, 13, 12, 11, 6, 5, 4, 3, 2, 1, 0]), (17, [10, 9, 8, 7, 6, 5, 4, 3, 2, 1, 0, 16, 15, 14, 13, 12, 11]), (18, [17, 10, 9, 8, 7, 6, 5, 4, 3, 2, 1, 0, 16, 15, 14, 13, 12, 11]), (19, [6, 5, 4, 3, 2, 1, 0]), (20, [19, 6, 5, 4, 3, 2, 1, 0]), (21, [18, 17, 10, 9, 8, 7, 6, 5, 4, 3, 2, 1, 0, 16, 15, 14, 13, 12, 11, 20, 19]), (22, [6, 5, 4, 3, 2, 1, 0, 21, 18, 17, 10, 9, 8, 7, 16, 15, 14, 13, 12, 11, 20, 19])]) [0, 135])
(.cond (.t 135)
(.seq (.ops [o 4 (.move (.c (.bool false)))] none [4])
(.ret))
(.skip)))
(.ops [m 136 0, m 137 0, o 138 (.nilck (.t 137)), o 139 (.fldAddr 0 (.t 138)), o 140 (.load none (.t 139)), m 141 0, o 142 (.nilck (.t 141)), o 143 (.fldAddr 0 (.t 142)), o 144 (.load none (.t 143)), o 145 (.len .sl (.t 144)), o 146 (.bin .sub (.t 145) (k 1)), o 147 (.slSl 1 (.t 140) none (some (.t 146))), o 148 (.nilck (.t 136)), o 149 (.fldAddr 0 (.t 148)), n (.store none (.t 149) (.t 147))] (some [(0, []), (1, []), (2, [1]), (3, [2, 1]), (4, [3, 2, 1]), (5, []), (6, [5]), (7, [6, 5]), (8, [7, 6, 5]), (9, [8, 7, 6, 5]), (10, [9, 8, 7, 6, 5]), (11, [4, 3, 2, 1, 10, 9, 8, 7, 6, 5]), (12, [0, 1, 2, 3, 4, 5, 6, 7, 8, 9, 10, 11]), (13, [12, 0, 1, 2, 3, 4, 5, 6, 7, 8, 9, 10, 11]), (14, [13, 12, 0, 1, 2, 3, 4, 5, 6, 7, 8, 9, 10, 11])]) []))
(.seq (.ops [o 14 (.load (some 5) (.t 3)), o 15 (.call 223 [(.t 14)]), o 16 (.not (.t 15)), m 17 16, ⟨some 18, .move (.t 0), (some (17, false)), []⟩, ⟨some 19, .nilck (.t 18), (some (17, false)), []⟩, ⟨some 20, .fldAddr 0 (.t 19), (some (17, false)), []⟩, ⟨some 21, .load none (.t 20), (some (17, false)), []⟩, ⟨some 22, .len .sl (.t 21), (some (17, false)), []⟩, ⟨some 23, .bin .eql (.t 22) (k 0), (some (17, false)), []⟩, o 24 (.pick (.t 17) (.c (.bool true)) (.t 23)), m 4 24] none [4])
(.ret))))))))))))
(.seq (.ops [o 4 (.move (.c (.bool true)))] none [4])
(.ret)))))
def f294 : SFunc := ⟨b294, [.t 4]⟩

def b295 : SCode := (
.seq (.ops [o 2 (.move (k 0))] none [0])
(.seq (.ops [o 3 (.alloc (.int .i64 0)), n (.store none (.t 3) (k 0))] none [0, 3])
(.seq (.ops [m 4 0, o 5 (.mkfn 301 [(.t 3)]), o 6 (.call 297 [(.t 4), (.t 5)])] none [3])
(.seq (.ops [o 7 (.load none (.t 3)), m 2 7] none [2])
(.ret)))))
def f295 : SFunc := ⟨b295, [.t 2]⟩

def b297 : SCode := (
.seq (.ops [o 8 (.buildSl 1 [(.int .i64 0)] [(0, 1, (k 1))]), m 4 8] none [0, 1, 4])
(.seq (.ops [m 9 0, o 10 (.len .sl (.t 9)), o 11 (.move (k 0))] none [1, 4, 9, 10, 11])
(.block 0 (.loop [1, 4, 9, 10, 11] (.seq (.ops [o 12 (.bin .lss (.t 11) (.t 10))] none [1, 4, 9, 10, 11, 12])
(.seq (.cond (.t 12)
(.skip)
(.exit 0))
(.seq (.block 1 (.seq (.ops [o 13 (.idxAddr 5 (.t 9) (.t 11)), o 14 (.load (some 5) (.t 13)), o 6 (.alloc (.agg [(.int .i64 0), (.int .i64 0), (.int .i64 0), (.int .i64 0), .nils])), n (.store (some 5) (.t 6) (.t 14))] none [1, 4, 6, 9, 10, 11])
(.seq (.ops [m 15 4, m 16 4, o 17 (.len .sl (.t 16)), o 18 (.bin .sub (.t 17) (k 1)), o 19 (.idxAddr 1 (.t 15) (.t 18)), o 20 (.load none (.t 19)), m 7 20] none [1, 4, 6, 7, 9, 10, 11])
(.seq (.ops [o 21 (.fldAddr 0 (.t 6)), o 22 (.load none (.t 21))] none [1, 4, 6, 7, 9, 10, 11, 22])
(.block 2 (.seq (.ops [o 28 (.bin .eql (.t 22) (k 8)), m 27 28] none [1, 4, 6, 7, 9, 10, 11, 22, 27])
(.cond (.t 27)
(.ops [m 29 4, m 30 7, o 31 (.fldAddr 1 (.t 6)), o 32 (.load none (.t 31)), o 33 (.bin .mul (.t 30) (.t 32)), o 34 (.buildSl 1 [(.int .i64 0)] [(0, 1, (.t 33))]), o 35 (.append 1 (.t 29) (.t 34)), m 4 35] none [1, 4, 9, 10, 11])
(.seq (.ops [o 37 (.bin .eql (.t 22) (k 9)), m 36 37] none [1, 4, 6, 7, 9, 10, 11, 36])
(.cond (.t 36)
(.ops [m 38 4, m 39 4, o 40 (.len .sl (.t 39)), o 41 (.bin .sub (.t 40) (k 1)), o 42 (.mx [(.t 41), (k 1)]), o 43 (.slSl 1 (.t 38) none (some (.t 42))), m 4 43] none [1, 4, 9, 10, 11])
(.ops [m 23 1, o 24 (.load (some 5) (.t 6)), m 25 7, o 26 (.callv (.t 23) [(.t 24), (.t 25)])] none [1, 4, 9, 10, 11]))))))))))
(.ops [o 44 (.bin .add (.t 11) (k 1)), m 11 44] none [1, 4, 9, 10, 11]))))))))
def f297 : SFunc := ⟨b297, []⟩

def b296 : SCode := (
.seq (.ops [o 3 (.box (.t 0))] none [1, 2, 3])
(.seq (.ops [o 5 (.fldAddr 0 (.t 3)), o 6 (.load none (.t 5)), o 7 (.bin .eql (.t 6) (k 1))] none [1, 2, 3, 7])
(.cond (.t 7)
(.ops [o 8 (.load none (.t 2)), o 9 (.fldAddr 1 (.t 3)), o 10 (.load none (.t 9)), m 11 1, o 12 (.bin .mul (.t 10) (.t 11)), o 13 (.bin .add (.t 8) (.t 12)), n (.store none (.t 2) (.t 13))] none [])
(.skip))))
def f296 : SFunc := ⟨b296, []⟩

def b235 : SCode := (
.seq (.ops [o 4 (.move (.c (.bool false)))] none [0, 1])
(.seq (.ops [m 5 0, m 6 1, o 7 (.call 238 [(.t 5), (.t 6)]), o 8 (.bin .geq (.t 7) (k 0)), m 4 8] none [4])
(.ret)))
def f235 : SFunc := ⟨b235, [.t 4]⟩

def b298 : SCode := (
.seq (.ops [o 2 (.box (.t 0)), o 3 (.move (.c (.bool false)))] none [1, 2])
(.seq (.ops [o 4 (.fldAddr 1 (.t 2)), o 5 (.load none (.t 4)), o 6 (.fldAddr 1 (.t 1)), o 7 (.load none (.t 6)), o 8 (.len .sl (.t 7)), o 9 (.bin .geq (.t 5) (.t 8)), m 3 9] none [3])
(.ret)))
def f298 : SFunc := ⟨b298, [.t 3]⟩

def b379 : SCode := (
.seq (.ops [m 10 1, o 11 (.bin .add (.t 10) (k 1)), m 8 11] none [0, 1, 2, 3, 8])
(.block 0 (.loop [0, 1, 2, 3, 8] (.seq (.seq (.ops [m 12 8, m 13 2, o 14 (.bin .lss (.t 12) (.t 13))] none [0, 1, 2, 3, 8, 14])
(.cond (.t 14)
(.skip)
(.exit 0)))
(.seq (.block 1 (.seq (.ops [m 17 8, m 9 17] none [0, 1, 2, 3, 8, 9])
(.block 2 (.loop [0, 1, 2, 3, 8, 9] (.seq (.seq (.ops [m 18 9, m 19 1, o 20 (.bin .gtr (.t 18) (.t 19)), m 21 20, ⟨some 22, .move (.t 3), (some (21, true)), []⟩, ⟨some 23, .move (.t 0), (some (21, true)), []⟩, ⟨some 24, .move (.t 9), (some (21, true)), []⟩, ⟨some 25, .idxAddr 1 (.t 23) (.t 24), (some (21, true)), []⟩, ⟨some 26, .load none (.t 25), (some (21, true)), []⟩, ⟨some 27, .move (.t 0), (some (21, true)), []⟩, ⟨some 28, .move (.t 9), (some (21, true)), []⟩, ⟨some 29, .bin .sub (.t 28) (k 1), (some (21, true)), []⟩, ⟨some 30, .idxAddr 1 (.t 27) (.t 29), (some (21, true)), []⟩, ⟨some 31, .load none (.t 30), (some (21, true)), []⟩, ⟨some 32, .callv (.t 22) [(.t 26), (.t 31)], (some (21, true)), []⟩, ⟨some 33, .bin .lss (.t 32) (k 0), (some (21, true)), []⟩, o 34 (.pick (.t 21) (.t 33) (.c (.bool false)))] (some [(0, []), (1, []), (2, [0, 1]), (3, [2, 0, 1]), (4, [3, 2, 0, 1]), (5, [3, 2, 0, 1]), (6, [3, 2, 0, 1]), (7, [5, 3, 2, 0, 1, 6]), (8, [7, 5, 3, 2, 0, 1, 6]), (9, [3, 2, 0, 1]), (10, [3, 2, 0, 1]), (11, [10, 3, 2, 0, 1]), (12, [9, 3, 2, 0, 1, 11, 10]), (13, [12, 9, 3, 2, 0, 1, 11, 10]), (14, [4, 3, 2, 0, 1, 8, 7, 5, 6, 13, 12, 9, 11, 10]), (15, [14, 4, 3, 2, 0, 1, 8, 7, 5, 6, 13, 12, 9, 11, 10]), (16, [3, 2, 0, 1, 15, 14, 4, 8, 7, 5, 6, 13, 12, 9, 11, 10])]) [0, 1, 2, 3, 8, 9, 34])
(.cond (.t 34)
(.skip)
(.exit 2)))
(.seq (.block 3 (.ops [m 37 0, m 38 9, m 39 0, m 40 9, o 41 (.bin .sub (.t 40) (k 1)), m 42 0, m 43 9, o 44 (.bin .sub (.t 43) (k 1)), o 45 (.idxAddr 1 (.t 42) (.t 44)), o 46 (.load none (.t 45)), m 47 0, m 48 9, o 49 (.idxAddr 1 (.t 47) (.t 48)), o 50 (.load none (.t 49)), o 51 (.idxAddr 1 (.t 37) (.t 38)), n (.store none (.t 51) (.t 46)), o 52 (.idxAddr 1 (.t 39) (.t 41)), n (.store none (.t 52) (.t 50))] (some [(0, []), (1, []), (2, []), (3, []), (4, [3]), (5, []), (6, []), (7, [6]), (8, [5, 7, 6]), (9, [8, 5, 7, 6]), (10, []), (11, []), (12, [10, 11]), (13, [12, 10, 11]), (14, [0, 1, 5, 6, 7, 8, 9, 13, 12, 10, 11]), (15, [14, 0, 1, 5, 6, 7, 8, 9, 13, 12, 10, 11]), (16, [2, 4, 3, 0, 1, 5, 6, 7, 8, 9, 10, 11, 12, 13, 14, 15]), (17, [16, 2, 4, 3, 0, 1, 5, 6, 7, 8, 9, 10, 11, 12, 13, 14, 15])]) [0, 1, 2, 3, 8, 9]))
(.ops [m 35 9, o 36 (.bin .sub (.t 35) (k 1)), m 9 36] none [0, 1, 2, 3, 8, 9])))))))
(.ops [m 15 8, o 16 (.bin .add (.t 15) (k 1)), m 8 16] none [0, 1, 2, 3, 8]))))))
def f379 : SFunc := ⟨b379, []⟩

def b360 : SCode := (
.seq (.ops [o 4 (.move (k 0))] none [0, 1])
(.seq (.seq (.ops [m 6 0, o 7 (.len .sl (.t 6)), o 8 (.move (k 0))] none [0, 1, 7, 8])
(.block 0 (.loop [0, 1, 7, 8] (.seq (.ops [o 9 (.bin .lss (.t 8) (.t 7))] none [0, 1, 7, 8, 9])
(.seq (.cond (.t 9)
(.skip)
(.exit 0))
(.seq (.block 1 (.seq (.ops [m 10 8, m 5 10] none [0, 1, 5, 7, 8])
(.seq (.ops [m 11 1, m 12 0, m 13 5, o 14 (.idxAddr 1 (.t 12) (.t 13)), o 15 (.load none (.t 14)), o 16 (.bin .eql (.t 11) (.t 15))] none [0, 1, 5, 7, 8, 16])
(.cond (.t 16)
(.seq (.ops [m 17 5, m 4 17] none [4])
(.ret))
(.skip)))))
(.ops [o 18 (.bin .add (.t 8) (k 1)), m 8 18] none [0, 1, 7, 8])))))))
(.seq (.ops [o 4 (.move (.c (.int .i64 (-1))))] none [4])
(.ret))))
def f360 : SFunc := ⟨b360, [.t 4]⟩

def b361 : SCode := (
.seq (.ops [m 3 0, o 4 (.len .sl (.t 3)), m 2 4] none [0, 2])
(.ops [m 5 0, m 6 2, m 7 2, o 8 (.conv .u64 (.t 7)), o 9 (.call 381 [(.t 8)]), o 10 (.call 382 [(.t 5), (k 0), (.t 6), (.t 9)])] none []))
def f361 : SFunc := ⟨b361, []⟩

def b362 : SCode := (
.seq (.ops [o 2 (.move (.c .nils))] none [0])
(.seq (.seq (.ops [m 6 0, o 7 (.len .sl (.t 6)), o 8 (.bin .lss (.t 7) (k 2))] none [0, 8])
(.cond (.t 8)
(.seq (.ops [m 9 0, m 2 9] none [2])
(.ret))
(.skip)))
(.seq (.seq (.ops [o 3 (.move (k 1))] none [0, 3])
(.block 0 (.loop [0, 3] (.seq (.seq (.ops [m 10 3, m 11 0, o 12 (.len .sl (.t 11)), o 13 (.bin .lss (.t 10) (.t 12))] none [0, 3, 13])
(.cond (.t 13)
(.skip)
(.exit 0)))
(.seq (.block 1 (.seq (.ops [m 16 0, m 17 3, o 18 (.idxAddr 1 (.t 16) (.t 17)), o 19 (.load none (.t 18)), m 20 0, m 21 3, o 22 (.bin .sub (.t 21) (k 1)), o 23 (.idxAddr 1 (.t 20) (.t 22)), o 24 (.load none (.t 23)), o 25 (.bin .eql (.t 19) (.t 24))] (some [(0, []), (1, []), (2, [0, 1]), (3, [2, 0, 1]), (4, []), (5, []), (6, [5]), (7, [4, 6, 5]), (8, [7, 4, 6, 5]), (9, [3, 2, 0, 1, 8, 7, 4, 6, 5])]) [0, 3, 25])
(.cond (.t 25)
(.seq (.ops [m 26 0, m 27 3, o 28 (.slSl 1 (.t 26) (some (.t 27)) none), m 4 28] none [0, 3, 4])
(.seq (.seq (.ops [o 5 (.move (k 1))] none [0, 3, 4, 5])
(.block 2 (.loop [0, 3, 4, 5] (.seq (.seq (.ops [m 29 5, m 30 4, o 31 (.len .sl (.t 30)), o 32 (.bin .lss (.t 29) (.t 31))] none [0, 3, 4, 5, 32])
(.cond (.t 32)
(.skip)
(.exit 2)))
(.seq (.block 3 (.seq (.ops [m 35 4, m 36 5, o 37 (.idxAddr 1 (.t 35) (.t 36)), o 38 (.load none (.t 37)), m 39 4, m 40 5, o 41 (.bin .sub (.t 40) (k 1)), o 42 (.idxAddr 1 (.t 39) (.t 41)), o 43 (.load none (.t 42)), o 44 (.bin .neq (.t 38) (.t 43))] (some [(0, []), (1, []), (2, [0, 1]), (3, [2, 0, 1]), (4, []), (5, []), (6, [5]), (7, [4, 6, 5]), (8, [7, 4, 6, 5]), (9, [3, 2, 0, 1, 8, 7, 4, 6, 5])]) [0, 3, 4, 5, 44])
(.cond (.t 44)
(.seq (.ops [m 45 0, m 46 3, m 47 4, m 48 5, o 49 (.idxAddr 1 (.t 47) (.t 48)), o 50 (.load none (.t 49)), o 51 (.idxAddr 1 (.t 45) (.t 46)), n (.store none (.t 51) (.t 50))] none [0, 3, 4, 5])
(.ops [m 52 3, o 53 (.bin .add (.t 52) (k 1)), m 3 53] none [0, 3, 4, 5]))
(.skip))))
(.ops [m 33 5, o 34 (.bin .add (.t 33) (k 1)), m 5 34] none [0, 3, 4, 5]))))))
(.seq (.ops [m 54 0, m 55 3, o 56 (.slSl 1 (.t 54) (some (.t 55)) none), n (.clr [(.int .i64 0)] (.t 56))] none [0, 3])
(.seq (.ops [m 57 0, m 58 3, o 59 (.slSl 1 (.t 57) none (some (.t 58))), m 2 59] none [2])
(.ret)))))
(.skip))))
(.ops [m 14 3, o 15 (.bin .add (.t 14) (k 1)), m 3 15] none [0, 3]))))))
(.seq (.ops [m 60 0, m 2 60] none [2])
(.ret)))))
def f362 : SFunc := ⟨b362, [.t 2]⟩

def b56 : SCode := (
.seq (.ops [o 2 (.box (.t 0)), o 4 (.move (.c (.bool false)))] none [1, 2])
(.seq (.ops [o 5 (.fldAddr 0 (.t 2)), o 6 (.load none (.t 5)), o 7 (.bin .geq (.t 6) (k 0)), m 8 7, ⟨some 9, .fldAddr 0 (.t 2), (some (8, true)), []⟩, ⟨some 10, .load none (.t 9), (some (8, true)), []⟩, ⟨some 11, .move (.t 1), (some (8, true)), []⟩, ⟨some 12, .bin .lss (.t 10) (.t 11), (some (8, true)), []⟩, o 13 (.pick (.t 8) (.t 12) (.c (.bool false))), m 14 13, ⟨some 15, .fldAddr 1 (.t 2), (some (14, true)), []⟩, ⟨some 16, .load none (.t 15), (some (14, true)), []⟩, ⟨some 17, .bin .geq (.t 16) (k 0), (some (14, true)), []⟩, o 18 (.pick (.t 14) (.t 17) (.c (.bool false))), m 19 18, ⟨some 20, .fldAddr 1 (.t 2), (some (19, true)), []⟩, ⟨some 21, .load none (.t 20), (some (19, true)), []⟩, ⟨some 22, .move (.t 1), (some (19, true)), []⟩, ⟨some 23, .bin .lss (.t 21) (.t 22), (some (19, true)), []⟩, o 24 (.pick (.t 19) (.t 23) (.c (.bool false))), m 4 24] none [4])
(.ret)))
def f56 : SFunc := ⟨b56, [.t 4]⟩

def b354 : SCode := (
.seq (.ops [o 2 (.move (.c .nils))] none [0])
(.seq (.ops [m 3 0, o 4 (.nilck (.t 3)), o 5 (.fldAddr 1 (.t 4)), o 6 (.load none (.t 5)), o 7 (.call 356 [(.t 6)]), m 2 7] none [2])
(.ret)))
def f354 : SFunc := ⟨b354, [.t 2]⟩

def b363 : SCode := (
.seq (.ops [o 3 (.box (.t 1)), o 4 (.move (.c (.bool false)))] none [0, 3])
(.seq (.ops [m 5 0, o 6 (.mkfn 383 [(.t 3)]), o 7 (.call 384 [(.t 5), (.t 6)]), m 4 7] none [4])
(.ret)))
def f363 : SFunc := ⟨b363, [.t 4]⟩

def b364 : SCode := (
.seq (.ops [o 4 (.move (k 0))] none [0, 1])
(.seq (.ops [o 5 (.move (.c (.int .i64 (-1))))] none [0, 1, 5])
(.seq (.skip)
(.seq (.seq (.ops [m 9 0, o 10 (.len .sl (.t 9)), o 11 (.move (k 0))] none [0, 1, 5, 9, 10, 11])
(.block 0 (.loop [0, 1, 5, 9, 10, 11] (.seq (.ops [o 12 (.bin .lss (.t 11) (.t 10))] none [0, 1, 5, 9, 10, 11, 12])
(.seq (.cond (.t 12)
(.skip)
(.exit 0))
(.seq (.block 1 (.seq (.ops [m 13 11, o 14 (.idxAddr 4 (.t 9) (.t 11)), o 15 (.load (some 4) (.t 14)), o 7 (.alloc (.agg [(.int .i64 0), (.int .i64 0), (.int .i64 0), (.int .i64 0)])), m 6 13, n (.store (some 4) (.t 7) (.t 15))] none [0, 1, 5, 6, 7, 9, 10, 11])
(.seq (.seq (.ops [m 16 5, o 17 (.bin .lss (.t 16) (k 0))] none [0, 1, 5, 6, 7, 9, 10, 11, 17])
(.cond (.t 17)
(.seq (.ops [m 18 6, m 5 18] none [0, 1, 5, 9, 10, 11])
(.exit 1))
(.skip)))
(.seq (.ops [m 19 0, m 20 5, o 21 (.idxAddr 4 (.t 19) (.t 20)), o 22 (.load (some 4) (.t 21)), o 8 (.alloc (.agg [(.int .i64 0), (.int .i64 0), (.int .i64 0), (.int .i64 0)])), n (.store (some 4) (.t 8) (.t 22))] none [0, 1, 5, 6, 7, 8, 9, 10, 11])
(.seq (.ops [m 23 1, o 24 (.fldAddr 0 (.t 8)), o 25 (.load none (.t 24)), m 27 1, o 28 (.fldAddr 0 (.t 7)), o 29 (.load none (.t 28)), o 32 (.fldAddr 2 (.t 7)), o 33 (.load none (.t 32)), o 34 (.fldAddr 2 (.t 8)), o 35 (.load none (.t 34)), ⟨some 26, .call 385 [(.t 23), (.t 25)], none, [5, 7, 9]⟩, ⟨some 30, .call 385 [(.t 27), (.t 29)], none, [7, 9]⟩, ⟨some 31, .call 386 [(.t 26), (.t 30)], none, [7, 9]⟩, o 36 (.call 358 [(.t 33), (.t 35)]), o 37 (.buildSl 2 [(.int .i64 0), (.int .i64 0)] [(0, 1, (.t 31)), (1, 1, (.t 36))]), o 38 (.call 387 [(.t 37)]), o 39 (.bin .lss (.t 38) (k 0))] (some [(0, []), (1, []), (2, [1]), (4, []), (5, []), (6, [4]), (9, []), (10, [6]), (11, []), (12, [8]), (3, [0, 2, 1]), (7, [3, 5, 4, 10, 0, 2, 1]), (8, [10, 0, 2, 1, 11, 3, 5, 4]), (13, [7, 6, 9, 8, 12, 10, 0, 2, 1, 11, 3, 5, 4]), (14, [12, 10, 0, 2, 1, 11, 3, 5, 4, 13, 7, 6, 9, 8]), (15, [14, 12, 10, 0, 2, 1, 11, 3, 5, 4, 13, 7, 6, 9, 8]), (16, [15, 14, 12, 10, 0, 2, 1, 11, 3, 5, 4, 13, 7, 6, 9, 8])]) [0, 1, 5, 6, 9, 10, 11, 39])
(.cond (.t 39)
(.ops [m 40 6, m 5 40] none [0, 1, 5, 9, 10, 11])
(.skip)))))))
(.ops [o 41 (.bin .add (.t 11) (k 1)), m 11 41] none [0, 1, 5, 9, 10, 11])))))))
(.seq (.ops [m 42 5, m 4 42] none [4])
(.ret))))))
def f364 : SFunc := ⟨b364, [.t 4]⟩

def b224 : SCode := (
.seq (.ops [o 0 (.move (.c .nils))] none [])
(.seq (.ops [o 1 (.build [(.str []), (.int .i64 0), (.int .i64 0), (.bool false), (.bool false)] []), o 2 (.build [(.str []), (.int .i64 0), (.int .i64 0), (.bool false), (.bool false)] [(0, 1, (.c (.str [114, 117, 110]))), (1, 1, (k 1)), (2, 1, (k 1000)), (3, 1, (.c (.bool false))), (4, 1, (.c (.bool false)))]), o 3 (.build [(.str []), (.int .i64 0), (.int .i64 0), (.bool false), (.bool false)] [(0, 1, (.c (.str [108, 111, 99, 107]))), (1, 1, (k 0)), (2, 1, (k 7)), (3, 1, (.c (.bool false))), (4, 1, (.c (.bool false)))]), o 4 (.build [(.str []), (.int .i64 0), (.int .i64 0), (.bool false), (.bool false)] [(0, 1, (.c (.str [117, 110, 108, 111, 99, 107]))), (1, 1, (k 0)), (2, 1, (k 7)), (3, 1, (.c (.bool false))), (4, 1, (.c (.bool false)))]), o 5 (.build [(.str []), (.int .i64 0), (.int .i64 0), (.bool false), (.bool false)] [(0, 1, (.c (.str [115, 101, 110, 100]))), (1, 1, (k 0)), (2, 1, (k 7)), (3, 1, (.c (.bool true))), (4, 1, (.c (.bool false)))]), o 6 (.build [(.str []), (.int .i64 0), (.int .i64 0), (.bool false), (.bool false)] [(0, 1, (.c (.str [114, 101, 99, 118]))), (1, 1, (k 0)), (2, 1, (k 7)), (3, 1, (.c (.bool true))), (4, 1, (.c (.bool false)))]), o 7 (.build [(.str []), (.int .i64 0), (.int .i64 0), (.bool false), (.bool false)] [(0, 1, (.c (.str [99, 108, 111, 115, 101]))), (1, 1, (k 0)), (2, 1, (k 7)), (3, 1, (.c (.bool false))), (4, 1, (.c (.bool false)))]), o 8 (.build [(.str []), (.int .i64 0), (.int .i64 0), (.bool false), (.bool false)] [(0, 1, (.c (.str [115, 101, 108, 101, 99, 116]))), (1, 1, (k 0)), (2, 1, (k 0)), (3, 1, (.c (.bool true))), (4, 1, (.c (.bool true)))]), o 9 (.build [(.str []), (.int .i64 0), (.int .i64 0), (.bool false), (.bool false)] [(0, 1, (.c (.str [108, 111, 111, 112]))), (1, 1, (k 1)), (2, 1, (k 32)), (3, 1, (.c (.bool false))), (4, 1, (.c (.bool false)))]), o 10 (.build [(.str []), (.int .i64 0), (.int .i64 0), (.bool false), (.bool false)] [(0, 1, (.c (.str [101, 110, 100]))), (1, 1, (k 0)), (2, 1, (k 0)), (3, 1, (.c (.bool false))), (4, 1, (.c (.bool false)))]), o 11 (.buildSl 10 [(.str []), (.int .i64 0), (.int .i64 0), (.bool false), (.bool false), (.str []), (.int .i64 0), (.int .i64 0), (.bool false), (.bool false), (.str []), (.int .i64 0), (.int .i64 0), (.bool false), (.bool false), (.str []), (.int .i64 0), (.int .i64 0), (.bool false), (.bool false), (.str []), (.int .i64 0), (.int .i64 0), (.bool false), (.bool false), (.str []), (.int .i64 0), (.int .i64 0), (.bool false), (.bool false), (.str []), (.int .i64 0), (.int .i64 0), (.bool false), (.bool false), (.str []), (.int .i64 0), (.int .i64 0), (.bool false), (.bool false), (.str []), (.int .i64 0), (.int .i64 0), (.bool false), (.bool false), (.str []), (.int .i64 0), (.int .i64 0), (.bool false), (.bool false)] [(0, 5, (.t 1)), (5, 5, (.t 2)), (10, 5, (.t 3)), (15, 5, (.t 4)), (20, 5, (.t 5)), (25, 5, (.t 6)), (30, 5, (.t 7)), (35, 5, (.t 8)), (40, 5, (.t 9)), (45, 5, (.t 10))]), m 0 11] none [0])
(.ret)))
def f224 : SFunc := ⟨b224, [.t 0]⟩

def b225 : SCode := (
.seq (.ops [o 2 (.move (k 0))] none [0])
(.seq (.seq (.ops [m 5 0, o 6 (.len .sl (.t 5)), o 7 (.bin .lss (.t 6) (k 1)), m 8 7, ⟨some 9, .move (.t 0), (some (8, false)), []⟩, ⟨some 10, .len .sl (.t 9), (some (8, false)), []⟩, ⟨some 11, .bin .gtr (.t 10) (k 4), (some (8, false)), []⟩, o 12 (.pick (.t 8) (.c (.bool true)) (.t 11))] none [0, 12])
(.cond (.t 12)
(.seq (.ops [o 2 (.move (k 18))] none [2])
(.ret))
(.skip)))
(.seq (.seq (.ops [m 13 0, o 14 (.len .sl (.t 13)), o 15 (.move (k 0))] none [0, 13, 14, 15])
(.block 0 (.loop [0, 13, 14, 15] (.seq (.ops [o 16 (.bin .lss (.t 15) (.t 14))] none [0, 13, 14, 15, 16])
(.seq (.cond (.t 16)
(.skip)
(.exit 0))
(.seq (.block 1 (.seq (.ops [m 17 15, o 18 (.idxAddr 3 (.t 13) (.t 15)), o 19 (.load (some 3) (.t 18)), o 4 (.alloc (.agg [(.bool false), (.int .i64 0), (.int .i64 0)])), m 3 17, n (.store (some 3) (.t 4) (.t 19))] none [0, 3, 4, 13, 14, 15])
(.seq (.seq (.ops [o 20 (.fldAddr 1 (.t 4)), o 21 (.load none (.t 20)), o 22 (.bin .lss (.t 21) (k 0)), m 23 22, ⟨some 24, .fldAddr 1 (.t 4), (some (23, false)), []⟩, ⟨some 25, .load none (.t 24), (some (23, false)), []⟩, ⟨some 26, .bin .geq (.t 25) (k 8), (some (23, false)), []⟩, o 27 (.pick (.t 23) (.c (.bool true)) (.t 26)), m 28 27, ⟨some 29, .fldAddr 0 (.t 4), (some (28, false)), []⟩, ⟨some 30, .load none (.t 29), (some (28, false)), []⟩, ⟨some 31, .not (.t 30), (some (28, false)), []⟩, ⟨some 32, .move (.t 31), (some (28, false)), []⟩, ⟨some 33, .fldAddr 2 (.t 4), (some (32, true)), []⟩, ⟨some 34, .load none (.t 33), (some (32, true)), []⟩, ⟨some 35, .bin .neq (.t 34) (k 0), (some (32, true)), []⟩, ⟨some 36, .pick (.t 32) (.t 35) (.c (.bool false)), (some (28, false)), []⟩, o 37 (.pick (.t 28) (.c (.bool true)) (.t 36))] none [0, 3, 4, 13, 14, 15, 37])
(.cond (.t 37)
(.seq (.ops [o 2 (.move (k 1))] none [2])
(.ret))
(.skip)))
(.seq (.ops [m 38 0, m 39 3, o 40 (.slSl 3 (.t 38) none (some (.t 39))), o 41 (.mkfn 234 [(.t 4)]), o 42 (.call 235 [(.t 40), (.t 41)])] none [0, 13, 14, 15, 42])
(.cond (.t 42)
(.seq (.ops [o 2 (.move (k 6))] none [2])
(.ret))
(.skip))))))
(.ops [o 43 (.bin .add (.t 15) (k 1)), m 15 43] none [0, 13, 14, 15])))))))
(.seq (.ops [o 2 (.move (k 0))] none [2])
(.ret)))))
def f225 : SFunc := ⟨b225, [.t 2]⟩

def b61 : SCode := (
.seq (.ops [o 4 (.move (.c (.bool false)))] none [0, 1])
(.seq (.seq (.ops [m 6 0, o 7 (.len .sl (.t 6)), m 8 1, o 9 (.len .sl (.t 8)), o 10 (.bin .neq (.t 7) (.t 9))] none [0, 1, 10])
(.cond (.t 10)
(.seq (.ops [o 4 (.move (.c (.bool false)))] none [4])
(.ret))
(.skip)))
(.seq (.seq (.ops [m 11 0, o 12 (.len .sl (.t 11)), o 13 (.move (k 0))] none [0, 1, 12, 13])
(.block 0 (.loop [0, 1, 12, 13] (.seq (.ops [o 14 (.bin .lss (.t 13) (.t 12))] none [0, 1, 12, 13, 14])
(.seq (.cond (.t 14)
(.skip)
(.exit 0))
(.seq (.block 1 (.seq (.ops [m 15 13, m 5 15] none [0, 1, 5, 12, 13])
(.seq (.ops [m 16 0, m 17 5, o 18 (.idxAddr 1 (.t 16) (.t 17)), o 19 (.load none (.t 18)), m 20 1, m 21 5, o 22 (.idxAddr 1 (.t 20) (.t 21)), o 23 (.load none (.t 22)), o 24 (.bin .neq (.t 19) (.t 23))] (some [(0, []), (1, []), (2, [0, 1]), (3, [2, 0, 1]), (4, []), (5, []), (6, [4, 5]), (7, [6, 4, 5]), (8, [3, 2, 0, 1, 7, 6, 4, 5])]) [0, 1, 12, 13, 24])
(.cond (.t 24)
(.seq (.ops [o 4 (.move (.c (.bool false)))] none [4])
(.ret))
(.skip)))))
(.ops [o 25 (.bin .add (.t 13) (k 1)), m 13 25] none [0, 1, 12, 13])))))))
(.seq (.ops [o 4 (.move (.c (.bool true)))] none [4])
(.ret)))))
def f61 : SFunc := ⟨b61, [.t 4]⟩

def b223 : SCode := (
.seq (.ops [o 1 (.box (.t 0)), o 2 (.move (.c (.bool false)))] none [1])
(.seq (.ops [o 3 (.fldAddr 0 (.t 1)), o 4 (.load none (.t 3)), o 5 (.bin .eql (.t 4) (k 4)), m 6 5, ⟨some 7, .fldAddr 0 (.t 1), (some (6, false)), []⟩, ⟨some 8, .load none (.t 7), (some (6, false)), []⟩, ⟨some 9, .bin .eql (.t 8) (k 5), (some (6, false)), []⟩, o 10 (.pick (.t 6) (.c (.bool true)) (.t 9)), m 11 10, ⟨some 12, .fldAddr 0 (.t 1), (some (11, false)), []⟩, ⟨some 13, .load none (.t 12), (some (11, false)), []⟩, ⟨some 14, .bin .eql (.t 13) (k 7), (some (11, false)), []⟩, o 15 (.pick (.t 11) (.c (.bool true)) (.t 14)), m 16 15, ⟨some 17, .fldAddr 3 (.t 1), (some (16, true)), []⟩, ⟨some 18, .load none (.t 17), (some (16, true)), []⟩, ⟨some 19, .bin .neq (.t 18) (k 0), (some (16, true)), []⟩, o 20 (.pick (.t 16) (.t 19) (.c (.bool false))), m 2 20] none [2])
(.ret)))
def f223 : SFunc := ⟨b223, [.t 2]⟩

def b301 : SCode := (
.seq (.ops [o 3 (.box (.t 0))] none [1, 2])
(.ops [o 5 (.load none (.t 2)), m 6 1, o 7 (.bin .add (.t 5) (.t 6)), n (.store none (.t 2) (.t 7))] none []))
def f301 : SFunc := ⟨b301, []⟩

def b238 : SCode := (
.seq (.ops [o 4 (.move (k 0))] none [0, 1])
(.seq (.seq (.ops [m 6 0, o 7 (.len .sl (.t 6)), o 8 (.move (k 0))] none [0, 1, 7, 8])
(.block 0 (.loop [0, 1, 7, 8] (.seq (.ops [o 9 (.bin .lss (.t 8) (.t 7))] none [0, 1, 7, 8, 9])
(.seq (.cond (.t 9)
(.skip)
(.exit 0))
(.seq (.block 1 (.seq (.ops [m 10 8, m 5 10] none [0, 1, 5, 7, 8])
(.seq (.ops [m 11 1, m 12 0, m 13 5, o 14 (.idxAddr 3 (.t 12) (.t 13)), o 15 (.load (some 3) (.t 14)), o 16 (.callv (.t 11) [(.t 15)])] none [0, 1, 5, 7, 8, 16])
(.cond (.t 16)
(.seq (.ops [m 17 5, m 4 17] none [4])
(.ret))
(.skip)))))
(.ops [o 18 (.bin .add (.t 8) (k 1)), m 8 18] none [0, 1, 7, 8])))))))
(.seq (.ops [o 4 (.move (.c (.int .i64 (-1))))] none [4])
(.ret))))
def f238 : SFunc := ⟨b238, [.t 4]⟩

def b382 : SCode := (
.seq (.ops [o 8 (.move (.c (.bool true)))] none [0, 1, 2, 3, 8])
(.seq (.ops [o 9 (.move (.c (.bool true)))] none [0, 1, 2, 3, 8, 9])
(.block 0 (.loop [0, 1, 2, 3, 8, 9] (.block 1 (.seq (.ops [m 19 2, m 20 1, o 21 (.bin .sub (.t 19) (.t 20)), m 10 21] none [0, 1, 2, 3, 8, 9, 10])
(.seq (.seq (.ops [m 22 10, o 23 (.bin .leq (.t 22) (k 12))] none [0, 1, 2, 3, 8, 9, 10, 23])
(.cond (.t 23)
(.seq (.ops [m 24 0, m 25 1, m 26 2, o 27 (.call 399 [(.t 24), (.t 25), (.t 26)])] none [])
(.ret))
(.skip)))
(.seq (.seq (.ops [m 28 3, o 29 (.bin .eql (.t 28) (k 0))] none [0, 1, 2, 3, 8, 9, 10, 29])
(.cond (.t 29)
(.seq (.ops [m 30 0, m 31 1, m 32 2, o 33 (.call 400 [(.t 30), (.t 31), (.t 32)])] none [])
(.ret))
(.skip)))
(.seq (.seq (.ops [m 34 8, o 35 (.not (.t 34))] none [0, 1, 2, 3, 8, 9, 10, 35])
(.cond (.t 35)
(.seq (.ops [m 36 0, m 37 1, m 38 2, o 39 (.call 401 [(.t 36), (.t 37), (.t 38)])] none [0, 1, 2, 3, 8, 9, 10])
(.ops [m 40 3, o 41 (.bin .sub (.t 40) (k 1)), m 3 41] none [0, 1, 2, 3, 8, 9, 10]))
(.skip)))
(.seq (.ops [m 43 0, m 44 1, m 45 2, o 46 (.call 402 [(.t 43), (.t 44), (.t 45)]), m 42 46, o 47 (.ext 0 (.t 42)), o 48 (.ext 1 (.t 42)), m 11 47, m 12 48] none [0, 1, 2, 3, 8, 9, 10, 11, 12])
(.seq (.seq (.ops [m 49 12, o 50 (.bin .eql (.t 49) (k 2))] none [0, 1, 2, 3, 8, 9, 10, 11, 12, 50])
(.cond (.t 50)
(.seq (.ops [m 51 0, m 52 1, m 53 2, o 54 (.call 403 [(.t 51), (.t 52), (.t 53)])] none [0, 1, 2, 3, 8, 9, 10, 11])
(.seq (.ops [m 55 2, o 56 (.bin .sub (.t 55) (k 1)), m 57 11, m 58 1, o 59 (.bin .sub (.t 57) (.t 58)), o 60 (.bin .sub (.t 56) (.t 59)), m 11 60] none [0, 1, 2, 3, 8, 9, 10, 11])
(.ops [o 12 (.move (k 1))] none [0, 1, 2, 3, 8, 9, 10, 11, 12])))
(.skip)))
(.seq (.seq (.ops [m 61 8, m 62 61, ⟨some 63, .move (.t 9), (some (62, true)), []⟩, o 64 (.pick (.t 62) (.t 63) (.c (.bool false))), m 65 64, ⟨some 66, .move (.t 12), (some (65, true)), []⟩, ⟨some 67, .bin .eql (.t 66) (k 1), (some (65, true)), []⟩, o 68 (.pick (.t 65) (.t 67) (.c (.bool false)))] none [0, 1, 2, 3, 8, 9, 10, 11, 68])
(.cond (.t 68)
(.seq (.ops [m 69 0, m 70 1, m 71 2, o 72 (.call 404 [(.t 69), (.t 70), (.t 71)])] none [0, 1, 2, 3, 8, 9, 10, 11, 72])
(.cond (.t 72)
(.ret)
(.skip)))
(.skip)))
(.seq (.seq (.ops [m 73 1, o 74 (.bin .gtr (.t 73) (k 0)), m 75 74, ⟨some 76, .move (.t 0), (some (75, true)), []⟩, ⟨some 77, .move (.t 1), (some (75, true)), []⟩, ⟨some 78, .bin .sub (.t 77) (k 1), (some (75, true)), []⟩, ⟨some 79, .idxAddr 1 (.t 76) (.t 78), (some (75, true)), []⟩, ⟨some 80, .load none (.t 79), (some (75, true)), []⟩, ⟨some 81, .move (.t 0), (some (75, true)), []⟩, ⟨some 82, .move (.t 11), (some (75, true)), []⟩, ⟨some 83, .idxAddr 1 (.t 81) (.t 82), (some (75, true)), []⟩, ⟨some 84, .load none (.t 83), (some (75, true)), []⟩, ⟨some 85, .call 405 [(.t 80), (.t 84)], (some (75, true)), []⟩, ⟨some 86, .not (.t 85), (some (75, true)), []⟩, o 87 (.pick (.t 75) (.t 86) (.c (.bool false)))] (some [(0, []), (1, [0]), (2, [1, 0]), (3, [2, 1, 0]), (4, [2, 1, 0]), (5, [4, 2, 1, 0]), (6, [3, 2, 1, 0, 5, 4]), (7, [6, 3, 2, 1, 0, 5, 4]), (8, [2, 1, 0]), (9, [2, 1, 0]), (10, [8, 2, 1, 0, 9]), (11, [10, 8, 2, 1, 0, 9]), (12, [7, 6, 3, 2, 1, 0, 5, 4, 11, 10, 8, 9]), (13, [12, 7, 6, 3, 2, 1, 0, 5, 4, 11, 10, 8, 9]), (14, [2, 1, 0, 13, 12, 7, 6, 3, 5, 4, 11, 10, 8, 9])]) [0, 1, 2, 3, 8, 9, 10, 11, 87])
(.cond (.t 87)
(.seq (.ops [m 88 0, m 89 1, m 90 2, m 91 11, o 92 (.call 406 [(.t 88), (.t 89), (.t 90), (.t 91)]), m 13 92] none [0, 2, 3, 8, 9, 13])
(.seq (.ops [m 93 13, m 1 93] none [0, 1, 2, 3, 8, 9])
(.exit 1)))
(.skip)))
(.seq (.ops [m 95 0, m 96 1, m 97 2, m 98 11, o 99 (.call 407 [(.t 95), (.t 96), (.t 97), (.t 98)]), m 94 99, o 100 (.ext 0 (.t 94)), o 101 (.ext 1 (.t 94)), m 14 100, m 15 101] none [0, 1, 2, 3, 10, 14, 15])
(.seq (.ops [m 102 15, m 9 102] none [0, 1, 2, 3, 9, 10, 14])
(.seq (.ops [m 103 14, m 104 1, o 105 (.bin .sub (.t 103) (.t 104)), m 106 2, m 107 14, o 108 (.bin .sub (.t 106) (.t 107)), m 16 105, m 17 108] none [0, 1, 2, 3, 9, 10, 14, 16, 17])
(.seq (.ops [m 109 10, o 110 (.bin .quo (.t 109) (k 8)), m 18 110] none [0, 1, 2, 3, 9, 14, 16, 17, 18])
(.seq (.ops [m 111 16, m 112 17, o 113 (.bin .lss (.t 111) (.t 112))] none [0, 1, 2, 3, 9, 14, 16, 17, 18, 113])
(.cond (.t 113)
(.seq (.ops [m 114 16, m 115 18, o 116 (.bin .geq (.t 114) (.t 115)), m 8 116] none [0, 1, 2, 3, 8, 9, 14])
(.seq (.ops [m 117 0, m 118 1, m 119 14, m 120 3, o 121 (.call 382 [(.t 117), (.t 118), (.t 119), (.t 120)])] none [0, 2, 3, 8, 9, 14])
(.ops [m 122 14, o 123 (.bin .add (.t 122) (k 1)), m 1 123] none [0, 1, 2, 3, 8, 9])))
(.seq (.ops [m 124 17, m 125 18, o 126 (.bin .geq (.t 124) (.t 125)), m 8 126] none [0, 1, 2, 3, 8, 9, 14])
(.seq (.ops [m 127 0, m 128 14, o 129 (.bin .add (.t 128) (k 1)), m 130 2, m 131 3, o 132 (.call 382 [(.t 127), (.t 129), (.t 130), (.t 131)])] none [0, 1, 3, 8, 9, 14])
(.ops [m 133 14, m 2 133] none [0, 1, 2, 3, 8, 9]))))))))))))))))))))))
def f382 : SFunc := ⟨b382, []⟩

def b381 : SCode := (
.seq (.ops [o 2 (.move (k 0))] none [0])
(.seq (.cond (.c (.bool false))
(.seq (.ops [m 3 0, o 4 (.conv .u32 (.t 3)), o 5 (.call 422 [(.t 4)]), m 2 5] none [2])
(.ret))
(.skip))
(.seq (.ops [m 6 0, o 7 (.call 188 [(.t 6)]), m 2 7] none [2])
(.ret))))
def f381 : SFunc := ⟨b381, [.t 2]⟩

def b384 : SCode := (
.seq (.ops [o 4 (.move (.c (.bool false)))] none [0, 1])
(.seq (.ops [m 5 0, m 6 1, o 7 (.call 408 [(.t 5), (.t 6)]), o 8 (.bin .geq (.t 7) (k 0)), m 4 8] none [4])
(.ret)))
def f384 : SFunc := ⟨b384, [.t 4]⟩

def b234 : SCode := (
.seq (.ops [o 2 (.box (.t 0)), o 3 (.move (.c (.bool false)))] none [1, 2])
(.seq (.ops [o 4 (.fldAddr 1 (.t 2)), o 5 (.load none (.t 4)), o 6 (.fldAddr 1 (.t 1)), o 7 (.load none (.t 6)), o 8 (.bin .eql (.t 5) (.t 7)), m 3 8] none [3])
(.ret)))
def f234 : SFunc := ⟨b234, [.t 3]⟩

def b399 : SCode := (
.seq (.ops [m 8 1, o 9 (.bin .add (.t 8) (k 1)), m 6 9] none [0, 1, 2, 6])
(.block 0 (.loop [0, 1, 2, 6] (.seq (.seq (.ops [m 10 6, m 11 2, o 12 (.bin .lss (.t 10) (.t 11))] none [0, 1, 2, 6, 12])
(.cond (.t 12)
(.skip)
(.exit 0)))
(.seq (.block 1 (.seq (.ops [m 15 6, m 7 15] none [0, 1, 2, 6, 7])
(.block 2 (.loop [0, 1, 2, 6, 7] (.seq (.seq (.ops [m 16 7, m 17 1, o 18 (.bin .gtr (.t 16) (.t 17)), m 19 18, ⟨some 20, .move (.t 0), (some (19, true)), []⟩, ⟨some 21, .move (.t 7), (some (19, true)), []⟩, ⟨some 22, .idxAddr 1 (.t 20) (.t 21), (some (19, true)), []⟩, ⟨some 23, .load none (.t 22), (some (19, true)), []⟩, ⟨some 24, .move (.t 0), (some (19, true)), []⟩, ⟨some 25, .move (.t 7), (some (19, true)), []⟩, ⟨some 26, .bin .sub (.t 25) (k 1), (some (19, true)), []⟩, ⟨some 27, .idxAddr 1 (.t 24) (.t 26), (some (19, true)), []⟩, ⟨some 28, .load none (.t 27), (some (19, true)), []⟩, ⟨some 29, .call 405 [(.t 23), (.t 28)], (some (19, true)), []⟩, o 30 (.pick (.t 19) (.t 29) (.c (.bool false)))] (some [(0, []), (1, []), (2, [0, 1]), (3, [2, 0, 1]), (4, [3, 2, 0, 1]), (5, [3, 2, 0, 1]), (6, [4, 3, 2, 0, 1, 5]), (7, [6, 4, 3, 2, 0, 1, 5]), (8, [3, 2, 0, 1]), (9, [3, 2, 0, 1]), (10, [9, 3, 2, 0, 1]), (11, [8, 3, 2, 0, 1, 10, 9]), (12, [11, 8, 3, 2, 0, 1, 10, 9]), (13, [7, 6, 4, 3, 2, 0, 1, 5, 12, 11, 8, 10, 9]), (14, [3, 2, 0, 1, 13, 7, 6, 4, 5, 12, 11, 8, 10, 9])]) [0, 1, 2, 6, 7, 30])
(.cond (.t 30)
(.skip)
(.exit 2)))
(.seq (.block 3 (.ops [m 33 0, m 34 7, m 35 0, m 36 7, o 37 (.bin .sub (.t 36) (k 1)), m 38 0, m 39 7, o 40 (.bin .sub (.t 39) (k 1)), o 41 (.idxAddr 1 (.t 38) (.t 40)), o 42 (.load none (.t 41)), m 43 0, m 44 7, o 45 (.idxAddr 1 (.t 43) (.t 44)), o 46 (.load none (.t 45)), o 47 (.idxAddr 1 (.t 33) (.t 34)), n (.store none (.t 47) (.t 42)), o 48 (.idxAddr 1 (.t 35) (.t 37)), n (.store none (.t 48) (.t 46))] (some [(0, []), (1, []), (2, []), (3, []), (4, [3]), (5, []), (6, []), (7, [6]), (8, [5, 7, 6]), (9, [8, 5, 7, 6]), (10, []), (11, []), (12, [10, 11]), (13, [12, 10, 11]), (14, [0, 1, 5, 6, 7, 8, 9, 13, 12, 10, 11]), (15, [14, 0, 1, 5, 6, 7, 8, 9, 13, 12, 10, 11]), (16, [2, 4, 3, 0, 1, 5, 6, 7, 8, 9, 10, 11, 12, 13, 14, 15]), (17, [16, 2, 4, 3, 0, 1, 5, 6, 7, 8, 9, 10, 11, 12, 13, 14, 15])]) [0, 1, 2, 6, 7]))
(.ops [m 31 7, o 32 (.bin .sub (.t 31) (k 1)), m 7 32] none [0, 1, 2, 6, 7])))))))
(.ops [m 13 6, o 14 (.bin .add (.t 13) (k 1)), m 6 14] none [0, 1, 2, 6]))))))
def f399 : SFunc := ⟨b399, []⟩

def b188 : SCode := (
.seq (.ops [o 2 (.move (k 0))] none [0, 2])
(.seq (.seq (.ops [m 3 0, o 4 (.bin .geq (.t 3) (.c (.int .u64 4294967296)))] none [0, 2, 4])
(.cond (.t 4)
(.seq (.ops [m 5 0, o 6 (.bin .shr (.t 5) (.c (.int .u64 32))), m 0 6] none [0])
(.ops [o 2 (.move (k 32))] none [0, 2]))
(.skip)))
(.seq (.seq (.ops [m 7 0, o 8 (.bin .geq (.t 7) (.c (.int .u64 65536)))] none [0, 2, 8])
(.cond (.t 8)
(.seq (.ops [m 9 0, o 10 (.bin .shr (.t 9) (.c (.int .u64 16))), m 0 10] none [0, 2])
(.ops [m 11 2, o 12 (.bin .add (.t 11) (k 16)), m 2 12] none [0, 2]))
(.skip)))
(.seq (.seq (.ops [m 13 0, o 14 (.bin .geq (.t 13) (.c (.int .u64 256)))] none [0, 2, 14])
(.cond (.t 14)
(.seq (.ops [m 15 0, o 16 (.bin .shr (.t 15) (.c (.int .u64 8))), m 0 16] none [0, 2])
(.ops [m 17 2, o 18 (.bin .add (.t 17) (k 8)), m 2 18] none [0, 2]))
(.skip)))
(.seq (.ops [m 19 2, m 20 0, o 21 (.conv .u8 (.t 20)), o 22 (.idxStr (.c (.str [0, 1, 2, 2, 3, 3, 3, 3, 4, 4, 4, 4, 4, 4, 4, 4, 5, 5, 5, 5, 5, 5, 5, 5, 5, 5, 5, 5, 5, 5, 5, 5, 6, 6, 6, 6, 6, 6, 6, 6, 6, 6, 6, 6, 6, 6, 6, 6, 6, 6, 6, 6, 6, 6, 6, 6, 6, 6, 6, 6, 6, 6, 6, 6, 7, 7, 7, 7, 7, 7, 7, 7, 7, 7, 7, 7, 7, 7, 7, 7, 7, 7, 7, 7, 7, 7, 7, 7, 7, 7, 7, 7, 7, 7, 7, 7, 7, 7, 7, 7, 7, 7, 7, 7, 7, 7, 7, 7, 7, 7, 7, 7, 7, 7, 7, 7, 7, 7, 7, 7, 7, 7, 7, 7, 7, 7, 7, 7, 8, 8, 8, 8, 8, 8, 8, 8, 8, 8, 8, 8, 8, 8, 8, 8, 8, 8, 8, 8, 8, 8, 8, 8, 8, 8, 8, 8, 8, 8, 8, 8, 8, 8, 8, 8, 8, 8, 8, 8, 8, 8, 8, 8, 8, 8, 8, 8, 8, 8, 8, 8, 8, 8, 8, 8, 8, 8, 8, 8, 8, 8, 8, 8, 8, 8, 8, 8, 8, 8, 8, 8, 8, 8, 8, 8, 8, 8, 8, 8, 8, 8, 8, 8, 8, 8, 8, 8, 8, 8, 8, 8, 8, 8, 8, 8, 8, 8, 8, 8, 8, 8, 8, 8, 8, 8, 8, 8, 8, 8, 8, 8, 8, 8, 8, 8, 8, 8, 8, 8, 8, 8, 8, 8, 8, 8, 8, 8])) (.t 21)), o 23 (.conv .i64 (.t 22)), o 24 (.bin .add (.t 19) (.t 23)), m 2 24] none [2])
(.ret))))))
def f188 : SFunc := ⟨b188, [.t 2]⟩

def b408 : SCode := (
.seq (.ops [o 4 (.move (k 0))] none [0, 1])
(.seq (.seq (.ops [m 6 0, o 7 (.len .sl (.t 6)), o 8 (.move (k 0))] none [0, 1, 7, 8])
(.block 0 (.loop [0, 1, 7, 8] (.seq (.ops [o 9 (.bin .lss (.t 8) (.t 7))] none [0, 1, 7, 8, 9])
(.seq (.cond (.t 9)
(.skip)
(.exit 0))
(.seq (.block 1 (.seq (.ops [m 10 8, m 5 10] none [0, 1, 5, 7, 8])
(.seq (.ops [m 11 1, m 12 0, m 13 5, o 14 (.idxAddr 4 (.t 12) (.t 13)), o 15 (.load (some 4) (.t 14)), o 16 (.callv (.t 11) [(.t 15)])] none [0, 1, 5, 7, 8, 16])
(.cond (.t 16)
(.seq (.ops [m 17 5, m 4 17] none [4])
(.ret))
(.skip)))))
(.ops [o 18 (.bin .add (.t 8) (k 1)), m 8 18] none [0, 1, 7, 8])))))))
(.seq (.ops [o 4 (.move (.c (.int .i64 (-1))))] none [4])
(.ret))))
def f408 : SFunc := ⟨b408, [.t 4]⟩

def lk {α : Type} : List (Nat × α) → Nat → Option α
| [], _ => none
| (k, v) :: r, i => match Nat.beq i k with | true => some v | false => lk r i

def pgl : List (Nat × SFunc) := [
(475, f475),
(476, f476),
(436, f436),
(477, f477),
(478, f478),
(441, f441),
(442, f442),
(443, f443),
(314, f314),
(315, f315),
(52, f52),
(481, f481),
(434, f434),
(265, f265),
(447, f447),
(318, f318),
(305, f305),
(444, f444),
(306, f306),
(449, f449),
(309, f309),
(312, f312),
(310, f310),
(450, f450),
(307, f307),
(316, f316),
(334, f334),
(483, f483),
(273, f273),
(452, f452),
(451, f451),
(338, f338),
(337, f337),
(358, f358),
(317, f317),
(319, f319),
(5, f5),
(320, f320),
(322, f322),
(323, f323),
(6, f6),
(48, f48),
(324, f324),
(454, f454),
(308, f308),
(333, f333),
(55, f55),
(39, f39),
(30, f30),
(325, f325),
(326, f326),
(327, f327),
(328, f328),
(356, f356),
(97, f97),
(285, f285),
(286, f286),
(287, f287),
(288, f288),
(455, f455),
(357, f357),
(359, f359),
(335, f335),
(336, f336),
(340, f340),
(339, f339),
(65, f65),
(17, f17),
(331, f331),
(377, f377),
(36, f36),
(342, f342),
(43, f43),
(41, f41),
(45, f45),
(344, f344),
(219, f219),
(294, f294),
(295, f295),
(297, f297),
(296, f296),
(235, f235),
(298, f298),
(379, f379),
(360, f360),
(361, f361),
(362, f362),
(56, f56),
(354, f354),
(363, f363),
(364, f364),
(224, f224),
(225, f225),
(61, f61),
(223, f223),
(301, f301),
(238, f238),
(382, f382),
(381, f381),
(384, f384),
(234, f234),
(399, f399),
(188, f188),
(408, f408)]

def pg : Prog := lk pgl

theorem pg475 : pg 475 = some f475 := rfl
theorem pg476 : pg 476 = some f476 := rfl
theorem pg436 : pg 436 = some f436 := rfl
theorem pg477 : pg 477 = some f477 := rfl
theorem pg478 : pg 478 = some f478 := rfl
theorem pg441 : pg 441 = some f441 := rfl
theorem pg442 : pg 442 = some f442 := rfl
theorem pg443 : pg 443 = some f443 := rfl
theorem pg314 : pg 314 = some f314 := rfl
theorem pg315 : pg 315 = some f315 := rfl
theorem pg52 : pg 52 = some f52 := rfl
theorem pg481 : pg 481 = some f481 := rfl
theorem pg434 : pg 434 = some f434 := rfl
theorem pg265 : pg 265 = some f265 := rfl
theorem pg447 : pg 447 = some f447 := rfl
theorem pg318 : pg 318 = some f318 := rfl
theorem pg305 : pg 305 = some f305 := rfl
theorem pg444 : pg 444 = some f444 := rfl
theorem pg306 : pg 306 = some f306 := rfl
theorem pg449 : pg 449 = some f449 := rfl
theorem pg309 : pg 309 = some f309 := rfl
theorem pg312 : pg 312 = some f312 := rfl
theorem pg310 : pg 310 = some f310 := rfl
theorem pg450 : pg 450 = some f450 := rfl
theorem pg307 : pg 307 = some f307 := rfl
theorem pg316 : pg 316 = some f316 := rfl
theorem pg334 : pg 334 = some f334 := rfl
theorem pg483 : pg 483 = some f483 := rfl
theorem pg273 : pg 273 = some f273 := rfl
theorem pg452 : pg 452 = some f452 := rfl
theorem pg451 : pg 451 = some f451 := rfl
theorem pg338 : pg 338 = some f338 := rfl
theorem pg337 : pg 337 = some f337 := rfl
theorem pg358 : pg 358 = some f358 := rfl
theorem pg317 : pg 317 = some f317 := rfl
theorem pg319 : pg 319 = some f319 := rfl
theorem pg5 : pg 5 = some f5 := rfl
theorem pg320 : pg 320 = some f320 := rfl
theorem pg322 : pg 322 = some f322 := rfl
theorem pg323 : pg 323 = some f323 := rfl
theorem pg6 : pg 6 = some f6 := rfl
theorem pg48 : pg 48 = some f48 := rfl
theorem pg324 : pg 324 = some f324 := rfl
theorem pg454 : pg 454 = some f454 := rfl
theorem pg308 : pg 308 = some f308 := rfl
theorem pg333 : pg 333 = some f333 := rfl
theorem pg55 : pg 55 = some f55 := rfl
theorem pg39 : pg 39 = some f39 := rfl
theorem pg30 : pg 30 = some f30 := rfl
theorem pg325 : pg 325 = some f325 := rfl
theorem pg326 : pg 326 = some f326 := rfl
theorem pg327 : pg 327 = some f327 := rfl
theorem pg328 : pg 328 = some f328 := rfl
theorem pg356 : pg 356 = some f356 := rfl
theorem pg97 : pg 97 = some f97 := rfl
theorem pg285 : pg 285 = some f285 := rfl
theorem pg286 : pg 286 = some f286 := rfl
theorem pg287 : pg 287 = some f287 := rfl
theorem pg288 : pg 288 = some f288 := rfl
theorem pg455 : pg 455 = some f455 := rfl
theorem pg357 : pg 357 = some f357 := rfl
theorem pg359 : pg 359 = some f359 := rfl
theorem pg335 : pg 335 = some f335 := rfl
theorem pg336 : pg 336 = some f336 := rfl
theorem pg340 : pg 340 = some f340 := rfl
theorem pg339 : pg 339 = some f339 := rfl
theorem pg65 : pg 65 = some f65 := rfl
theorem pg17 : pg 17 = some f17 := rfl
theorem pg331 : pg 331 = some f331 := rfl
theorem pg377 : pg 377 = some f377 := rfl
theorem pg36 : pg 36 = some f36 := rfl
theorem pg342 : pg 342 = some f342 := rfl
theorem pg43 : pg 43 = some f43 := rfl
theorem pg41 : pg 41 = some f41 := rfl
theorem pg45 : pg 45 = some f45 := rfl
theorem pg344 : pg 344 = some f344 := rfl
theorem pg219 : pg 219 = some f219 := rfl
theorem pg294 : pg 294 = some f294 := rfl
theorem pg295 : pg 295 = some f295 := rfl
theorem pg297 : pg 297 = some f297 := rfl
theorem pg296 : pg 296 = some f296 := rfl
theorem pg235 : pg 235 = some f235 := rfl
theorem pg298 : pg 298 = some f298 := rfl
theorem pg379 : pg 379 = some f379 := rfl
theorem pg360 : pg 360 = some f360 := rfl
theorem pg361 : pg 361 = some f361 := rfl
theorem pg362 : pg 362 = some f362 := rfl
theorem pg56 : pg 56 = some f56 := rfl
theorem pg354 : pg 354 = some f354 := rfl
theorem pg363 : pg 363 = some f363 := rfl
theorem pg364 : pg 364 = some f364 := rfl
theorem pg224 : pg 224 = some f224 := rfl
theorem pg225 : pg 225 = some f225 := rfl
theorem pg61 : pg 61 = some f61 := rfl
theorem pg223 : pg 223 = some f223 := rfl
theorem pg301 : pg 301 = some f301 := rfl
theorem pg238 : pg 238 = some f238 := rfl
theorem pg382 : pg 382 = some f382 := rfl
theorem pg381 : pg 381 = some f381 := rfl
theorem pg384 : pg 384 = some f384 := rfl
theorem pg234 : pg 234 = some f234 := rfl
theorem pg399 : pg 399 = some f399 := rfl
theorem pg188 : pg 188 = some f188 := rfl
theorem pg408 : pg 408 = some f408 := rfl
end Go.Cl.S
