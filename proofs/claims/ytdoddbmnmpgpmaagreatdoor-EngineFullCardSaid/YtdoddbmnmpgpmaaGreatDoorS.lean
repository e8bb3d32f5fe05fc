/-
  The functions' clean texts, printed by a program out of the loaded ones.
-/
import Derived.Test.YtdoddbmnmpgpmaaGreatDoorSA
namespace Go.Cl.S
open Go Go.Cl

/-- slices.insertionSortOrdered[int] -/
def b399 : SCode := (
.seq (.ops [⟨some 8, .move (.t 1), none, []⟩,
  ⟨some 9, .bin .add (.t 8) (.c (.int .i64 1)), none, []⟩,
  ⟨some 6, .move (.t 9), none, []⟩] none [0, 1, 2, 6])
(.block 0 (.loop [0, 1, 2, 6] (.seq (.seq (.ops [⟨some 10, .move (.t 6), none, []⟩,
      ⟨some 11, .move (.t 2), none, []⟩,
      ⟨some 12, .bin .lss (.t 10) (.t 11), none, []⟩] none [0, 1, 2, 6, 12])
    (.cond (.t 12)
      (.skip)
      (.exit 0)))
    (.seq (.block 1 (.seq (.ops [⟨some 15, .move (.t 6), none, []⟩,
        ⟨some 7, .move (.t 15), none, []⟩] none [0, 1, 2, 6, 7])
      (.block 2 (.loop [0, 1, 2, 6, 7] (.seq (.seq (.ops [⟨some 16, .move (.t 7), none, []⟩,
            ⟨some 17, .move (.t 1), none, []⟩,
            ⟨some 18, .bin .gtr (.t 16) (.t 17), none, []⟩,
            ⟨some 19, .move (.t 18), none, []⟩,
            ⟨some 20, .move (.t 0), (some (19, true)), []⟩,
            ⟨some 21, .move (.t 7), (some (19, true)), []⟩,
            ⟨some 22, .idxAddr 1 (.t 20) (.t 21), (some (19, true)), []⟩,
            ⟨some 23, .load none (.t 22), (some (19, true)), []⟩,
            ⟨some 24, .move (.t 0), (some (19, true)), []⟩,
            ⟨some 25, .move (.t 7), (some (19, true)), []⟩,
            ⟨some 26, .bin .sub (.t 25) (.c (.int .i64 1)), (some (19, true)), []⟩,
            ⟨some 27, .idxAddr 1 (.t 24) (.t 26), (some (19, true)), []⟩,
            ⟨some 28, .load none (.t 27), (some (19, true)), []⟩,
            ⟨some 29, .call 405 [(.t 23), (.t 28)], (some (19, true)), []⟩,
            ⟨some 30, .pick (.t 19) (.t 29) (.c (.bool false)), none, []⟩] (some [(0, []), (1, []), (2, [0, 1]), (3, [2, 0, 1]), (4, [3, 2, 0, 1]), (5, [3, 2, 0, 1]), (6, [4, 3, 2, 0, 1, 5]), (7, [6, 4, 3, 2, 0, 1, 5]), (8, [3, 2, 0, 1]), (9, [3, 2, 0, 1]), (10, [9, 3, 2, 0, 1]), (11, [8, 3, 2, 0, 1, 10, 9]), (12, [11, 8, 3, 2, 0, 1, 10, 9]), (13, [7, 6, 4, 3, 2, 0, 1, 5, 12, 11, 8, 10, 9]), (14, [3, 2, 0, 1, 13, 7, 6, 4, 5, 12, 11, 8, 10, 9])]) [0, 1, 2, 6, 7, 30])
          (.cond (.t 30)
            (.skip)
            (.exit 2)))
          (.seq (.block 3 (.ops [⟨some 33, .move (.t 0), none, []⟩,
              ⟨some 34, .move (.t 7), none, []⟩,
              ⟨some 35, .move (.t 0), none, []⟩,
              ⟨some 36, .move (.t 7), none, []⟩,
              ⟨some 37, .bin .sub (.t 36) (.c (.int .i64 1)), none, []⟩,
              ⟨some 38, .move (.t 0), none, []⟩,
              ⟨some 39, .move (.t 7), none, []⟩,
              ⟨some 40, .bin .sub (.t 39) (.c (.int .i64 1)), none, []⟩,
              ⟨some 41, .idxAddr 1 (.t 38) (.t 40), none, []⟩,
              ⟨some 42, .load none (.t 41), none, []⟩,
              ⟨some 43, .move (.t 0), none, []⟩,
              ⟨some 44, .move (.t 7), none, []⟩,
              ⟨some 45, .idxAddr 1 (.t 43) (.t 44), none, []⟩,
              ⟨some 46, .load none (.t 45), none, []⟩,
              ⟨some 47, .idxAddr 1 (.t 33) (.t 34), none, []⟩,
              ⟨none, .store none (.t 47) (.t 42), none, []⟩,
              ⟨some 48, .idxAddr 1 (.t 35) (.t 37), none, []⟩,
              ⟨none, .store none (.t 48) (.t 46), none, []⟩] (some [(0, []), (1, []), (2, []), (3, []), (4, [3]), (5, []), (6, []), (7, [6]), (8, [5, 7, 6]), (9, [8, 5, 7, 6]), (10, []), (11, []), (12, [10, 11]), (13, [12, 10, 11]), (14, [0, 1, 5, 6, 7, 8, 9, 13, 12, 10, 11]), (15, [14, 0, 1, 5, 6, 7, 8, 9, 13, 12, 10, 11]), (16, [2, 4, 3, 0, 1, 5, 6, 7, 8, 9, 10, 11, 12, 13, 14, 15]), (17, [16, 2, 4, 3, 0, 1, 5, 6, 7, 8, 9, 10, 11, 12, 13, 14, 15])]) [0, 1, 2, 6, 7]))
          (.ops [⟨some 31, .move (.t 7), none, []⟩,
            ⟨some 32, .bin .sub (.t 31) (.c (.int .i64 1)), none, []⟩,
            ⟨some 7, .move (.t 32), none, []⟩] none [0, 1, 2, 6, 7])))))))
    (.ops [⟨some 13, .move (.t 6), none, []⟩,
      ⟨some 14, .bin .add (.t 13) (.c (.int .i64 1)), none, []⟩,
      ⟨some 6, .move (.t 14), none, []⟩] none [0, 1, 2, 6]))))))
def f399 : SFunc := ⟨b399, []⟩

/-- math/bits.Len64 -/
def b188 : SCode := (
.seq (.ops [⟨some 2, .move (.c (.int .i64 0)), none, []⟩] none [0, 2])
(.seq (.seq (.ops [⟨some 3, .move (.t 0), none, []⟩,
  ⟨some 4, .bin .geq (.t 3) (.c (.int .u64 4294967296)), none, []⟩] none [0, 2, 4])
(.cond (.t 4)
  (.seq (.ops [⟨some 5, .move (.t 0), none, []⟩,
    ⟨some 6, .bin .shr (.t 5) (.c (.int .u64 32)), none, []⟩,
    ⟨some 0, .move (.t 6), none, []⟩] none [0])
  (.ops [⟨some 2, .move (.c (.int .i64 32)), none, []⟩] none [0, 2]))
  (.skip)))
(.seq (.seq (.ops [⟨some 7, .move (.t 0), none, []⟩,
  ⟨some 8, .bin .geq (.t 7) (.c (.int .u64 65536)), none, []⟩] none [0, 2, 8])
(.cond (.t 8)
  (.seq (.ops [⟨some 9, .move (.t 0), none, []⟩,
    ⟨some 10, .bin .shr (.t 9) (.c (.int .u64 16)), none, []⟩,
    ⟨some 0, .move (.t 10), none, []⟩] none [0, 2])
  (.ops [⟨some 11, .move (.t 2), none, []⟩,
    ⟨some 12, .bin .add (.t 11) (.c (.int .i64 16)), none, []⟩,
    ⟨some 2, .move (.t 12), none, []⟩] none [0, 2]))
  (.skip)))
(.seq (.seq (.ops [⟨some 13, .move (.t 0), none, []⟩,
  ⟨some 14, .bin .geq (.t 13) (.c (.int .u64 256)), none, []⟩] none [0, 2, 14])
(.cond (.t 14)
  (.seq (.ops [⟨some 15, .move (.t 0), none, []⟩,
    ⟨some 16, .bin .shr (.t 15) (.c (.int .u64 8)), none, []⟩,
    ⟨some 0, .move (.t 16), none, []⟩] none [0, 2])
  (.ops [⟨some 17, .move (.t 2), none, []⟩,
    ⟨some 18, .bin .add (.t 17) (.c (.int .i64 8)), none, []⟩,
    ⟨some 2, .move (.t 18), none, []⟩] none [0, 2]))
  (.skip)))
(.seq (.ops [⟨some 19, .move (.t 2), none, []⟩,
  ⟨some 20, .move (.t 0), none, []⟩,
  ⟨some 21, .conv .u8 (.t 20), none, []⟩,
  ⟨some 22, .idxStr (.c (.str [0, 1, 2, 2, 3, 3, 3, 3, 4, 4, 4, 4, 4, 4, 4, 4, 5, 5, 5, 5, 5, 5, 5, 5, 5, 5, 5, 5, 5, 5, 5, 5, 6, 6, 6, 6, 6, 6, 6, 6, 6, 6, 6, 6, 6, 6, 6, 6, 6, 6, 6, 6, 6, 6, 6, 6, 6, 6, 6, 6, 6, 6, 6, 6, 7, 7, 7, 7, 7, 7, 7, 7, 7, 7, 7, 7, 7, 7, 7, 7, 7, 7, 7, 7, 7, 7, 7, 7, 7, 7, 7, 7, 7, 7, 7, 7, 7, 7, 7, 7, 7, 7, 7, 7, 7, 7, 7, 7, 7, 7, 7, 7, 7, 7, 7, 7, 7, 7, 7, 7, 7, 7, 7, 7, 7, 7, 7, 7, 8, 8, 8, 8, 8, 8, 8, 8, 8, 8, 8, 8, 8, 8, 8, 8, 8, 8, 8, 8, 8, 8, 8, 8, 8, 8, 8, 8, 8, 8, 8, 8, 8, 8, 8, 8, 8, 8, 8, 8, 8, 8, 8, 8, 8, 8, 8, 8, 8, 8, 8, 8, 8, 8, 8, 8, 8, 8, 8, 8, 8, 8, 8, 8, 8, 8, 8, 8, 8, 8, 8, 8, 8, 8, 8, 8, 8, 8, 8, 8, 8, 8, 8, 8, 8, 8, 8, 8, 8, 8, 8, 8, 8, 8, 8, 8, 8, 8, 8, 8, 8, 8, 8, 8, 8, 8, 8, 8, 8, 8, 8, 8, 8, 8, 8, 8, 8, 8, 8, 8, 8, 8, 8, 8, 8, 8, 8, 8])) (.t 21), none, []⟩,
  ⟨some 23, .conv .i64 (.t 22), none, []⟩,
  ⟨some 24, .bin .add (.t 19) (.t 23), none, []⟩,
  ⟨some 2, .move (.t 24), none, []⟩] none [2])
(.ret))))))
def f188 : SFunc := ⟨b188, [.t 2]⟩

/-- slices.IndexFunc[watchbill/waitq.Queue,watchbill/waitq.Waiter] -/
def b408 : SCode := (
.seq (.ops [⟨some 4, .move (.c (.int .i64 0)), none, []⟩] none [0, 1])
(.seq (.seq (.ops [⟨some 6, .move (.t 0), none, []⟩,
  ⟨some 7, .len .sl (.t 6), none, []⟩,
  ⟨some 8, .move (.c (.int .i64 0)), none, []⟩] none [0, 1, 7, 8])
(.block 0 (.loop [0, 1, 7, 8] (.seq (.ops [⟨some 9, .bin .lss (.t 8) (.t 7), none, []⟩] none [0, 1, 7, 8, 9])
    (.seq (.cond (.t 9)
      (.skip)
      (.exit 0))
    (.seq (.block 1 (.seq (.ops [⟨some 10, .move (.t 8), none, []⟩,
        ⟨some 5, .move (.t 10), none, []⟩] none [0, 1, 5, 7, 8])
      (.seq (.ops [⟨some 11, .move (.t 1), none, []⟩,
        ⟨some 12, .move (.t 0), none, []⟩,
        ⟨some 13, .move (.t 5), none, []⟩,
        ⟨some 14, .idxAddr 4 (.t 12) (.t 13), none, []⟩,
        ⟨some 15, .load (some 4) (.t 14), none, []⟩,
        ⟨some 16, .callv (.t 11) [(.t 15)], none, []⟩] none [0, 1, 5, 7, 8, 16])
      (.cond (.t 16)
        (.seq (.ops [⟨some 17, .move (.t 5), none, []⟩,
          ⟨some 4, .move (.t 17), none, []⟩] none [4])
        (.ret))
        (.skip)))))
    (.ops [⟨some 18, .bin .add (.t 8) (.c (.int .i64 1)), none, []⟩,
      ⟨some 8, .move (.t 18), none, []⟩] none [0, 1, 7, 8])))))))
(.seq (.ops [⟨some 4, .move (.c (.int .i64 (-1))), none, []⟩] none [4])
(.ret))))
def f408 : SFunc := ⟨b408, [.t 4]⟩

def lk {α : Type} : List (Nat × α) → Nat → Option α
  | [], _ => none
  | (k, v) :: r, i => match Nat.beq i k with | true => some v | false => lk r i

def pgl : List (Nat × SFunc) := [
  (438, f438),
  (439, f439),
  (441, f441),
  (440, f440),
  (442, f442),
  (443, f443),
  (444, f444),
  (312, f312),
  (265, f265),
  (65, f65),
  (52, f52),
  (114, f114),
  (305, f305),
  (306, f306),
  (449, f449),
  (309, f309),
  (310, f310),
  (450, f450),
  (307, f307),
  (316, f316),
  (323, f323),
  (333, f333),
  (55, f55),
  (273, f273),
  (111, f111),
  (317, f317),
  (318, f318),
  (319, f319),
  (5, f5),
  (320, f320),
  (322, f322),
  (6, f6),
  (48, f48),
  (324, f324),
  (454, f454),
  (308, f308),
  (39, f39),
  (30, f30),
  (325, f325),
  (326, f326),
  (327, f327),
  (328, f328),
  (97, f97),
  (285, f285),
  (286, f286),
  (287, f287),
  (288, f288),
  (127, f127),
  (99, f99),
  (335, f335),
  (336, f336),
  (338, f338),
  (337, f337),
  (358, f358),
  (340, f340),
  (339, f339),
  (17, f17),
  (331, f331),
  (36, f36),
  (342, f342),
  (43, f43),
  (41, f41),
  (45, f45),
  (344, f344),
  (219, f219),
  (294, f294),
  (295, f295),
  (297, f297),
  (296, f296),
  (235, f235),
  (357, f357),
  (359, f359),
  (360, f360),
  (361, f361),
  (362, f362),
  (354, f354),
  (363, f363),
  (356, f356),
  (364, f364),
  (224, f224),
  (223, f223),
  (301, f301),
  (238, f238),
  (379, f379),
  (382, f382),
  (381, f381),
  (384, f384),
  (399, f399),
  (188, f188),
  (408, f408)]

def pg : Prog := lk pgl

theorem pg438 : pg 438 = some f438 := rfl
theorem pg439 : pg 439 = some f439 := rfl
theorem pg441 : pg 441 = some f441 := rfl
theorem pg440 : pg 440 = some f440 := rfl
theorem pg442 : pg 442 = some f442 := rfl
theorem pg443 : pg 443 = some f443 := rfl
theorem pg444 : pg 444 = some f444 := rfl
theorem pg312 : pg 312 = some f312 := rfl
theorem pg265 : pg 265 = some f265 := rfl
theorem pg65 : pg 65 = some f65 := rfl
theorem pg52 : pg 52 = some f52 := rfl
theorem pg114 : pg 114 = some f114 := rfl
theorem pg305 : pg 305 = some f305 := rfl
theorem pg306 : pg 306 = some f306 := rfl
theorem pg449 : pg 449 = some f449 := rfl
theorem pg309 : pg 309 = some f309 := rfl
theorem pg310 : pg 310 = some f310 := rfl
theorem pg450 : pg 450 = some f450 := rfl
theorem pg307 : pg 307 = some f307 := rfl
theorem pg316 : pg 316 = some f316 := rfl
theorem pg323 : pg 323 = some f323 := rfl
theorem pg333 : pg 333 = some f333 := rfl
theorem pg55 : pg 55 = some f55 := rfl
theorem pg273 : pg 273 = some f273 := rfl
theorem pg111 : pg 111 = some f111 := rfl
theorem pg317 : pg 317 = some f317 := rfl
theorem pg318 : pg 318 = some f318 := rfl
theorem pg319 : pg 319 = some f319 := rfl
theorem pg5 : pg 5 = some f5 := rfl
theorem pg320 : pg 320 = some f320 := rfl
theorem pg322 : pg 322 = some f322 := rfl
theorem pg6 : pg 6 = some f6 := rfl
theorem pg48 : pg 48 = some f48 := rfl
theorem pg324 : pg 324 = some f324 := rfl
theorem pg454 : pg 454 = some f454 := rfl
theorem pg308 : pg 308 = some f308 := rfl
theorem pg39 : pg 39 = some f39 := rfl
theorem pg30 : pg 30 = some f30 := rfl
theorem pg325 : pg 325 = some f325 := rfl
theorem pg326 : pg 326 = some f326 := rfl
theorem pg327 : pg 327 = some f327 := rfl
theorem pg328 : pg 328 = some f328 := rfl
theorem pg97 : pg 97 = some f97 := rfl
theorem pg285 : pg 285 = some f285 := rfl
theorem pg286 : pg 286 = some f286 := rfl
theorem pg287 : pg 287 = some f287 := rfl
theorem pg288 : pg 288 = some f288 := rfl
theorem pg127 : pg 127 = some f127 := rfl
theorem pg99 : pg 99 = some f99 := rfl
theorem pg335 : pg 335 = some f335 := rfl
theorem pg336 : pg 336 = some f336 := rfl
theorem pg338 : pg 338 = some f338 := rfl
theorem pg337 : pg 337 = some f337 := rfl
theorem pg358 : pg 358 = some f358 := rfl
theorem pg340 : pg 340 = some f340 := rfl
theorem pg339 : pg 339 = some f339 := rfl
theorem pg17 : pg 17 = some f17 := rfl
theorem pg331 : pg 331 = some f331 := rfl
theorem pg36 : pg 36 = some f36 := rfl
theorem pg342 : pg 342 = some f342 := rfl
theorem pg43 : pg 43 = some f43 := rfl
theorem pg41 : pg 41 = some f41 := rfl
theorem pg45 : pg 45 = some f45 := rfl
theorem pg344 : pg 344 = some f344 := rfl
theorem pg219 : pg 219 = some f219 := rfl
theorem pg294 : pg 294 = some f294 := rfl
theorem pg295 : pg 295 = some f295 := rfl
theorem pg297 : pg 297 = some f297 := rfl
theorem pg296 : pg 296 = some f296 := rfl
theorem pg235 : pg 235 = some f235 := rfl
theorem pg357 : pg 357 = some f357 := rfl
theorem pg359 : pg 359 = some f359 := rfl
theorem pg360 : pg 360 = some f360 := rfl
theorem pg361 : pg 361 = some f361 := rfl
theorem pg362 : pg 362 = some f362 := rfl
theorem pg354 : pg 354 = some f354 := rfl
theorem pg363 : pg 363 = some f363 := rfl
theorem pg356 : pg 356 = some f356 := rfl
theorem pg364 : pg 364 = some f364 := rfl
theorem pg224 : pg 224 = some f224 := rfl
theorem pg223 : pg 223 = some f223 := rfl
theorem pg301 : pg 301 = some f301 := rfl
theorem pg238 : pg 238 = some f238 := rfl
theorem pg379 : pg 379 = some f379 := rfl
theorem pg382 : pg 382 = some f382 := rfl
theorem pg381 : pg 381 = some f381 := rfl
theorem pg384 : pg 384 = some f384 := rfl
theorem pg399 : pg 399 = some f399 := rfl
theorem pg188 : pg 188 = some f188 := rfl
theorem pg408 : pg 408 = some f408 := rfl
end Go.Cl.S
