/-
  Layer 4: WordOrder, WordNames on the clean evaluator.
-/
import Derived.Test.YtiegjnklhafloaaDoorAWordA
import Derived.Test.YtiegjnklhafloaaDoorPWordO
namespace Go.Cl
open Go
set_option linter.unusedSimpArgs false
set_option linter.unusedVariables false
set_option maxHeartbeats 4000000

variable {p : PP}

theorem wordOrder_law (lp : LP p) (hp : p.pr = addKnown [89] lib) {a b : Int} {h : Heap} (ha : inI a) (hb : inI b) : WF p 104 [.int .i64 a, .int .i64 b] h fun r _ => r = .bool true := by
  refine WF_of (by rw [lp.pg]; exact S.pg104) (lp.no' hp ⟨rfl, rfl⟩) ?_
  show W p S.b104 _ _ (retQ [.t 4] _)
  unfold S.b104
  simp
  refine WF_yes hp rfl ?_
  have la := itoa_len20 ha.1 ha.2
  by_cases c1 : a < 0
  · have hd : ∃ r, itoa a = 45 :: r := by
      unfold itoa; rw [if_pos c1]; exact ⟨_, rfl⟩
    obtain ⟨r, hr⟩ := hd
    simp [c1]
    refine (wordText_spec lp ha.1 ha.2).mono ?_
    rintro r1 h1 ⟨rfl, rfl⟩
    have hsl : slStr (45 :: r) none (some (.int .i64 1)) = some (.str [45]) := by
      simp only [slStr, bound]
      rw [if_pos ⟨by omega, by simp; omega⟩]
      simp
    simp [hr, c1, hsl]
  · by_cases c2 : b < 0
    · obtain ⟨u, rfl⟩ : ∃ u : Nat, a = u := ⟨a.toNat, by omega⟩
      have hd := dec_dig u
      have hne := dec_ne u
      have hit := itoa_pos (n := u) (by have := ha.2; omega)
      have h1 := wordText_spec lp (h := h) ha.1 ha.2
      obtain ⟨c, r, hr⟩ : ∃ c r, Lib.decDigits u = c :: r := by
        cases hD : Lib.decDigits u with
        | nil => exact absurd hD hne
        | cons c r => exact ⟨c, r, rfl⟩
      rw [hit, hr] at h1
      rw [hr] at hd
      have hc : c ≠ 45 := by
        simp only [List.all_cons, Bool.and_eq_true, isDig, decide_eq_true_eq] at hd
        rintro rfl
        simp at hd
      have hsl : slStr (c :: r) none (some (.int .i64 1)) = some (.str [c]) := by
        simp only [slStr, bound]
        rw [if_pos ⟨by omega, by simp; omega⟩]
        simp
      generalize (u : Int) = a at *
      simp [c1, c2]
      refine h1.mono ?_
      rintro r1 h1 ⟨rfl, rfl⟩
      simp [c1, hsl, hc]
    · obtain ⟨u, rfl⟩ : ∃ u : Nat, a = u := ⟨a.toNat, by omega⟩
      obtain ⟨v, rfl⟩ : ∃ v : Nat, b = v := ⟨b.toNat, by omega⟩
      have hiu := itoa_pos (n := u) (by have := ha.2; omega)
      have hiv := itoa_pos (n := v) (by have := hb.2; omega)
      have t1 := wordText_spec lp (h := h) ha.1 ha.2
      have t2 := wordText_spec lp (h := h) hb.1 hb.2
      have l1 := dec_longer (a := u) (b := v)
      have l2 := dec_longer (a := v) (b := u)
      have l3 := dec_order (a := u) (b := v)
      have l4 := dec_inj (a := u) (b := v)
      rw [hiu] at t1
      rw [hiv] at t2
      generalize Lib.decDigits u = s at *
      generalize Lib.decDigits v = t at *
      have huv : ((u : Int) = v) ↔ u = v := by omega
      have huv2 : ((u : Int) < v) ↔ u < v := by omega
      simp [c1, c2]
      refine t1.mono ?_
      rintro r1 h1 ⟨rfl, rfl⟩
      refine t2.mono ?_
      rintro r2 h2 ⟨rfl, rfl⟩
      by_cases hl : s.length = t.length
      · have hl' : (s.length : Int) = t.length := by omega
        have l3' := l3 hl
        by_cases he : s = t
        · have hu := l4.1 he
          subst he
          subst hu
          simp at l3'
          simp [l3']
        · have hne : ¬ u = v := fun e => he (l4.2 e)
          have hneI : ¬ (u : Int) = v := by omega
          have hst : (s == t) = false := by simpa using he
          simp [hl', l3', he, hne, hneI, hst]
      · have hl' : ¬ (s.length : Int) = t.length := by omega
        by_cases hlt : s.length < t.length
        · have := l1 hlt
          simp [hl, hl', hlt, this]
        · have hgt := l2 (by omega)
          have : ¬ u < v := by omega
          simp [hl, hl', hlt, this]

/-- bytes in an array -/
def bytesC (l : List Nat) : List CV := l.map fun (x : Nat) => .int .u8 (x : Int)

theorem ofBytes_bytesC : ∀ (l : List Nat), ofBytes (bytesC l) = some (l.map UInt8.ofNat)
  | [] => rfl
  | x :: l => by
    have ih := ofBytes_bytesC l
    simp only [bytesC, List.map_cons] at ih ⊢
    simp only [ofBytes, ih, Int.toNat_natCast]

def NamesInv (k : Nat) (c a : Int) (h : Heap) (m : Nat) (e : Env) (h' : Heap) : Prop :=
  ∃ (i : Nat) (l : List Nat), i ≤ k ∧ m = k - i ∧ e = [(1, .int .u8 c), (2, .int .u8 a), (7, .int .i64 k), (8, .sl h.length 0 k k), (9, .int .i64 i)] ∧ h' = h ++ [.arr (bytesC l) .tight] ∧ l.length = k ∧ ∀ j, j < i → l[j]? = some (97 + j)

theorem wordNames_law (lp : LP p) (hp : p.pr = addKnown [89] lib) {n c a : Int} {h : Heap} (hn : 0 ≤ n ∧ n ≤ 255) (hc : 0 ≤ c ∧ c ≤ 255) (ha : 0 ≤ a ∧ a ≤ 255) : WF p 105 [.int .u8 n, .int .u8 c, .int .u8 a] h fun r _ => r = .bool true := by
  refine WF_of (by rw [lp.pg]; exact S.pg105) (lp.no' hp ⟨rfl, rfl⟩) ?_
  show W p S.b105 _ _ (retQ [.t 6] _)
  unfold S.b105
  simp
  refine WF_yes hp rfl ?_
  obtain ⟨k, hk⟩ : ∃ k : Nat, n.tmod 11 = k := ⟨(n.tmod 11).toNat, by
    have : 0 ≤ n.tmod 11 := by rw [Int.tmod_eq_emod_of_nonneg hn.1]; omega
    omega⟩
  have hk11 : k < 11 := by
    rw [Int.tmod_eq_emod_of_nonneg hn.1] at hk; omega
  have hkw : IntKind.i64.wrap (k : Int) = k := w64 (by omega) (by omega)
  have hmk : ∀ H, mkslV H [.int .u8 0] (.int .i64 k) (.int .i64 k) = some (.sl H.length 0 k k, H ++ [.arr (bytesC (List.replicate k 0)) .tight]) := by
    intro H
    have hb : (k : Int) ≤ big := by simp [big]; omega
    simp only [mkslV]
    rw [if_pos ⟨by omega, by omega, hb⟩]
    simp only [Int.toNat_natCast, Option.some.injEq, Prod.mk.injEq, true_and]
    congr 3
    simp [bytesC, List.flatten_replicate_singleton]
  simp [hk, hkw, hmk]
  refine W_loop (NamesInv k c a h) ?_ k ⟨0, List.replicate k 0, by omega, by omega, rfl, rfl, by simp, fun j hj => by omega⟩
  rintro m e h1 ⟨i, l, hi, rfl, rfl, rfl, hl, hj⟩
  have hlb : (bytesC l).length = k := by simp [bytesC, hl]
  have g1 : (h ++ [Obj.arr (bytesC l) .tight])[h.length]? = some (.arr (bytesC l) .tight) := get_new
  by_cases hie : i = k
  · subst hie
    have hall : ∀ j (hj2 : j < l.length), l[j] = 97 + j := fun j hj2 => by
      have := hj j (by omega)
      rw [List.getElem?_eq_getElem hj2] at this
      exact Option.some.inj this
    have hlow : (l.map UInt8.ofNat).all isLow = true := by
      rw [List.all_eq_true]
      intro b hb
      obtain ⟨x, hx, rfl⟩ := List.mem_map.1 hb
      obtain ⟨j, hj2, rfl⟩ := List.mem_iff_getElem.1 hx
      rw [hall j hj2]
      have : (UInt8.ofNat (97 + j)).toNat = 97 + j := by simp; omega
      simp only [isLow, this]
      simp; omega
    have hcells : cellsAt (h ++ [Obj.arr (bytesC l) .tight]) h.length 0 i = some (bytesC l) := by
      simp only [cellsAt, g1]
      rw [if_pos (by omega)]
      rw [List.drop_zero, List.take_of_length_le (by omega)]
    have hname : nameP (l.map UInt8.ofNat) = (decide (1 ≤ i) && decide (i ≤ 8)) := by
      simp [nameP, hl, hlow]
    simp [hcells, ofBytes_bytesC]
    refine (wordName_spec lp (by simp; omega)).mono ?_
    rintro r h2 ⟨rfl, rfl⟩
    rw [hname]
    by_cases k1 : (i : Int) < 1
    · have : ¬ (1 : Int) ≤ i := by omega
      have k1' : ¬ 1 ≤ i := by omega
      simp [k1, this, k1']
    · have k1' : (1 : Int) ≤ i := by omega
      have k1'' : 1 ≤ i := by omega
      by_cases k8 : (8 : Int) < i
      · have : ¬ (i : Int) ≤ 8 := by omega
        have k8' : ¬ i ≤ 8 := by omega
        simp [k1, k1', k1'', k8, this, k8']
      · have k8' : (i : Int) ≤ 8 := by omega
        have k8'' : i ≤ 8 := by omega
        obtain ⟨q, hq⟩ : ∃ q : Nat, a = q := ⟨a.toNat, by omega⟩
        obtain ⟨d, hd⟩ : ∃ d : Nat, c = d := ⟨c.toNat, by omega⟩
        subst hq hd
        have hqw : IntKind.i64.wrap (q : Int) = q := w64 (by omega) (by omega)
        obtain ⟨j, hjq⟩ : ∃ j, j = q % i := ⟨_, rfl⟩
        have hjk : j < i := by rw [hjq]; exact Nat.mod_lt _ (by omega)
        have htm : (q : Int).tmod i = (j : Int) := by rw [Int.tmod_eq_emod_of_nonneg (by omega), hjq]; omega
        have hne0 : ¬ (i : Int) = 0 := by omega
        have hne0' : ¬ i = 0 := by omega
        have hidx : idxAddrV 1 (.sl h.length 0 i i) (.int .i64 (j : Int)) = some (.ptr h.length j) := by
          simp [idxAddrV]; omega
        have hset : (bytesC l).set j (.int .u8 (d : Int)) = bytesC (l.set j d) := by simp [bytesC, List.map_set]
        have hst : storeAt (h ++ [Obj.arr (bytesC l) .tight]) h.length j [.int .u8 (d : Int)] = some ((h ++ [Obj.arr (bytesC l) .tight]).set h.length (.arr (bytesC (l.set j d)) .tight)) := by
          rw [← hset]; exact sto1 g1 (by omega) rfl
        have g2 : ((h ++ [Obj.arr (bytesC l) .tight]).set h.length (.arr (bytesC (l.set j d)) .tight))[h.length]? = some (.arr (bytesC (l.set j d)) .tight) := get_set_self (by simp)
        have hlen2 : (bytesC (l.set j d)).length = i := by simp [bytesC, hl]
        have hcells2 : cellsAt ((h ++ [Obj.arr (bytesC l) .tight]).set h.length (.arr (bytesC (l.set j d)) .tight)) h.length 0 i = some (bytesC (l.set j d)) := by
          simp only [cellsAt, g2]
          rw [if_pos (by omega)]
          rw [List.drop_zero, List.take_of_length_le (by omega)]
        have hlow2 : ((l.set j d).map UInt8.ofNat).all isLow = isLow (UInt8.ofNat d) := by
          rw [List.map_set]
          cases hd : isLow (UInt8.ofNat d) with
          | true =>
            rw [List.all_eq_true]
            intro b hb
            rcases List.mem_or_eq_of_mem_set hb with hb | rfl
            · exact List.all_eq_true.1 hlow b hb
            · exact hd
          | false =>
            rw [Bool.eq_false_iff]; intro hh
            have := List.all_eq_true.1 hh (UInt8.ofNat d) (List.mem_set (by simp; omega) _)
            rw [hd] at this; cases this
        have hname2 : nameP ((l.set j d).map UInt8.ofNat) = isLow (UInt8.ofNat d) := by
          simp only [nameP, hlow2]
          simp [hl, k1'', k8'']
        have hdn : (UInt8.ofNat d).toNat = d := by simp; omega
        generalize (h ++ [Obj.arr (bytesC l) .tight]).set h.length (.arr (bytesC (l.set j d)) .tight) = H2 at *
        generalize h ++ [Obj.arr (bytesC l) .tight] = H1 at *
        simp [k1, k1', k1'', k8, k8', k8'', hqw, hne0, hne0', htm, ← hjq, hidx, hst, hcells2, ofBytes_bytesC]
        refine (wordName_spec lp (by simp; omega)).mono ?_
        rintro r h3 ⟨rfl, rfl⟩
        rw [List.map_set] at hname2
        simp only [hname2, isLow, hdn]
        by_cases d1 : (97 : Int) ≤ d
        · have d1' : 97 ≤ d := by omega
          by_cases d2 : (d : Int) ≤ 122
          · have d2' : d ≤ 122 := by omega
            simp [d1, d2, d1', d2']
          · have d2' : ¬ d ≤ 122 := by omega
            simp [d1, d2, d1', d2']
        · have d1' : ¬ 97 ≤ d := by omega
          simp [d1, d1']
  · have hlt : i < k := by omega
    have hlt' : (i : Int) < k := by omega
    have hw : IntKind.i64.wrap ((i : Int) + 1) = ((i + 1 : Nat) : Int) := by rw [w64 (by omega) (by omega)]; omega
    have hb : IntKind.i64.wrap (97 + (i : Int)) = ((97 + i : Nat) : Int) := by rw [w64 (by omega) (by omega)]; omega
    have hb8 : IntKind.u8.wrap ((97 + i : Nat) : Int) = ((97 + i : Nat) : Int) := u8w (by omega) (by omega)
    have hidx : idxAddrV 1 (.sl h.length 0 k k) (.int .i64 (i : Int)) = some (.ptr h.length i) := by
      simp [idxAddrV]; omega
    have hset : (bytesC l).set i (.int .u8 ((97 + i : Nat) : Int)) = bytesC (l.set i (97 + i)) := by simp [bytesC, List.map_set]
    have hst : storeAt (h ++ [Obj.arr (bytesC l) .tight]) h.length i [.int .u8 ((97 + i : Nat) : Int)] = some (h ++ [Obj.arr (bytesC (l.set i (97 + i))) .tight]) := by
      rw [sto1 g1 (by omega) rfl, hset]; simp
    obtain ⟨z, hz⟩ : ∃ z : Nat, z = 97 + i := ⟨_, rfl⟩
    rw [← hz] at hb hb8 hst
    simp [hlt', hw, hb, hb8, hidx, hst]
    refine ⟨k - (i + 1), by omega, i + 1, l.set i z, by omega, rfl, rfl, rfl, by simp [hl], fun j hjl => ?_⟩
    by_cases e : j = i
    · subst e; rw [List.getElem?_set_self (by omega), hz]
    · rw [List.getElem?_set_ne (by omega)]; exact hj j (by omega)

end Go.Cl
