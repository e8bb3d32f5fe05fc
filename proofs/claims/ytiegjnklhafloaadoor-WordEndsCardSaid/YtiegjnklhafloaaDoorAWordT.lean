/-
  Layer 4: a number in words, as the document says it.
-/
import Derived.Test.YtiegjnklhafloaaDoorAWord
namespace Go.Cl
open Go
set_option linter.unusedSimpArgs false
set_option linter.unusedVariables false

variable {p : PP}

theorem u8w {x : Int} (h0 : 0 ≤ x) (h1 : x < 256) : IntKind.u8.wrap x = x := by
  simp [IntKind.wrap, IntKind.bits, IntKind.signed]; omega

theorem one_byte {h : Heap} {c : Int} : cellsAt (h ++ [.arr [.int .u8 c] .tight]) h.length 0 1 = some [.int .u8 c] := by simp [cellsAt]

def WordInv (N : Nat) (h : Heap) (m : Nat) (e : Env) (h' : Heap) : Prop :=
  ∃ (u : Nat) (s : List UInt8), m = u ∧ u ≤ 9223372036854775807 ∧ e = [(0, .int .i64 u), (3, .str s)] ∧ Keep NoneOf h h' ∧ Lib.decDigits N = ahead u ++ s

theorem refWord_pos (lp : LP p) {N : Nat} {h : Heap} (hN : N ≤ 9223372036854775807) : WF p 101 [.int .i64 N] h fun r h' => r = .str (Lib.decDigits N) ∧ Keep NoneOf h h' := by
  refine WF_of (by rw [lp.pg]; exact S.pg101) (lp.no ⟨rfl, rfl⟩) ?_
  show W p S.b101 _ _ (retQ [.t 2] _)
  unfold S.b101
  have h0 : ¬ (N : Int) < 0 := by omega
  have byte : ∀ u : Nat, u ≤ 9223372036854775807 → IntKind.i64.wrap (48 + (u : Int).tmod 10) = ((48 + u % 10 : Nat) : Int) := fun u hu => by
    have : (u : Int).tmod 10 = ((u % 10 : Nat) : Int) := by rw [Int.tmod_eq_emod_of_nonneg (by omega)]; omega
    rw [this, w64 (by omega) (by omega)]; omega
  have byte8 : ∀ u : Nat, IntKind.u8.wrap ((48 + u % 10 : Nat) : Int) = ((48 + u % 10 : Nat) : Int) := fun u => u8w (by omega) (by omega)
  have b0 := byte N hN
  have b1 := byte8 N
  generalize hc : 48 + N % 10 = c at b0 b1
  simp [h0, b0, b1, fillC, splice, one_byte, ofBytes, spread]
  refine W_loop (WordInv N h) ?_ N ⟨N, _, rfl, hN, rfl, Keep.app _ _ _, ?_⟩
  · rintro u e h' ⟨_, s, rfl, hu, rfl, k, hd⟩
    by_cases hc : (10 : Int) ≤ u
    · have hw : IntKind.i64.wrap ((u : Int).tdiv 10) = ((u / 10 : Nat) : Int) := by
        have : (u : Int).tdiv 10 = ((u / 10 : Nat) : Int) := by rw [Int.tdiv_eq_ediv_of_nonneg (by omega)]; omega
        rw [this, w64 (by omega) (by omega)]
      have hw2 : IntKind.i64.wrap ((u : Int) / 10) = ((u / 10 : Nat) : Int) := by rw [w64 (by omega) (by omega)]; omega
      have b2 := byte (u / 10) (by omega)
      have b3 := byte8 (u / 10)
      have hl := dec_len (u := N) (by omega)
      have hd2 : Lib.decDigits N = ahead (u / 10) ++ (UInt8.ofNat (48 + u / 10 % 10) :: s) := by
        rw [hd]
        unfold ahead
        rw [if_neg (by omega), dec_ahead (u / 10)]
        unfold ahead
        simp
      have hs : 1 + s.length ≤ 9223372036854775807 := by
        rw [hd2] at hl; simp at hl; omega
      generalize hd' : 48 + u / 10 % 10 = d at b2 b3 hd2
      generalize hv : u / 10 = v at *
      simp [hc, hw, hw2, b2, b3, fillC, splice, one_byte, ofBytes, hs]
      exact ⟨v, by omega, v, _, rfl, by omega, rfl, k.trans (Keep.app _ _ _), hd2⟩
    · have : ahead u = [] := by unfold ahead; rw [if_pos (by omega)]
      rw [this] at hd
      simp [hc, hd]
      exact k
  · rw [dec_ahead N, hc]

theorem refWord_spec (lp : LP p) : ∀ (m : Nat) (n : Int) (h : Heap), n.natAbs ≤ m → -9223372036854775808 ≤ n → n ≤ 9223372036854775807 → WF p 101 [.int .i64 n] h fun r h' => r = .str (itoa n) ∧ Keep NoneOf h h' := by
  intro m
  induction m with
  | zero =>
    intro n h hm h0 h1
    have : n = ((0 : Nat) : Int) := by omega
    subst this
    rw [itoa_pos (by omega)]
    exact refWord_pos lp (by omega)
  | succ m ih0 =>
    intro n h hm h0 h1
    by_cases hn : n < 0
    · refine WF_of (by rw [lp.pg]; exact S.pg101) (lp.no ⟨rfl, rfl⟩) ?_
      show W p S.b101 _ _ (retQ [.t 2] _)
      unfold S.b101
      obtain ⟨u, rfl⟩ : ∃ u : Nat, n = -(u : Int) := ⟨n.natAbs, by omega⟩
      by_cases hc : (-10 : Int) < -(u : Int)
      · have hu : u < 10 := by omega
        have e1 := itoa_neg (n := u) (by omega) (by omega)
        have hw : IntKind.i64.wrap (- -(u : Int)) = (u : Int) := by rw [w64 (by omega) (by omega)]; omega
        have l2 := dec_len (u := u) (by omega)
        have ip := fun h => refWord_pos lp (N := u) (h := h) (by omega)
        generalize itoa (-(u : Int)) = C at *
        generalize Lib.decDigits u = B at *
        generalize hrr : (u : Int) = r at *
        generalize hx : -r = x at *
        have hs : 1 + B.length ≤ 9223372036854775807 := by omega
        simp [hn, hc, hw]
        refine (ip h).mono ?_
        rintro r1 h' ⟨rfl, k⟩
        simp [hs, k, e1]
      · have hd : IntKind.i64.wrap ((-(u : Int)).tdiv 10) = -((u / 10 : Nat) : Int) := by
          have : (-(u : Int)).tdiv 10 = -((u / 10 : Nat) : Int) := by rw [Int.neg_tdiv, Int.tdiv_eq_ediv_of_nonneg (by omega)]; omega
          rw [this, w64 (by omega) (by omega)]
        have hr : IntKind.i64.wrap (0 - (-(u : Int)).tmod 10) = ((u % 10 : Nat) : Int) := by
          have : (-(u : Int)).tmod 10 = -((u % 10 : Nat) : Int) := by rw [Int.neg_tmod, Int.tmod_eq_emod_of_nonneg (by omega)]; omega
          rw [this, w64 (by omega) (by omega)]; omega
        have ih := fun h => ih0 (-((u / 10 : Nat) : Int)) h (by omega) (by omega) (by omega)
        have ip := fun h => refWord_pos lp (N := u % 10) (h := h) (by omega)
        have hn' : (-(u : Int)) < 0 := hn
        have e1 : itoa (-(u : Int)) = itoa (-((u / 10 : Nat) : Int)) ++ Lib.decDigits (u % 10) := by
          rw [itoa_neg (by omega) (by omega), itoa_neg (by omega) (by omega), dec_step (u := u) (by omega), dec_small (u := u % 10) (by omega)]
          simp
        have l1 := itoa_len (-((u / 10 : Nat) : Int))
        have l2 := dec_len (u := u % 10) (by omega)
        generalize itoa (-((u / 10 : Nat) : Int)) = A at *
        generalize Lib.decDigits (u % 10) = B at *
        generalize itoa (-(u : Int)) = C at *
        generalize hq : -((u / 10 : Nat) : Int) = q at *
        generalize hrr : ((u % 10 : Nat) : Int) = r at *
        generalize hx : -(u : Int) = x at *
        have hr' : IntKind.i64.wrap (-x.tmod 10) = r := by rw [← hr, Int.zero_sub]
        simp [hn', hc, hd, hr']
        refine (ih h).mono ?_
        rintro r1 h1 ⟨rfl, k1⟩
        refine (ip h1).mono ?_
        rintro r2 h2 ⟨rfl, k2⟩
        have hs : A.length + B.length ≤ 9223372036854775807 := by omega
        simp [hs, e1]
        exact k1.trans k2
    · obtain ⟨u, rfl⟩ : ∃ u : Nat, n = u := ⟨n.toNat, by omega⟩
      rw [itoa_pos (by omega)]
      exact refWord_pos lp (by omega)
end Go.Cl
