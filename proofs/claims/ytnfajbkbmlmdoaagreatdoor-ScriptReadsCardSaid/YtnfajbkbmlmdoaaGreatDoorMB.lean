/-
  Texts laid together: AScS AScT AScU AScV AScW.
-/
import Derived.Test.YtnfajbkbmlmdoaaGreatDoorM4
import Derived.Test.YtnfajbkbmlmdoaaGreatDoorM6
import Derived.Test.YtnfajbkbmlmdoaaGreatDoorM8
import Derived.Test.YtnfajbkbmlmdoaaGreatDoorS
import Derived.Test.YtnfajbkbmlmdoaaGreatDoorM9

namespace Go.Cl
open Go
set_option linter.unusedSimpArgs false
set_option linter.unusedVariables false
set_option maxHeartbeats 1000000

variable {p : PP}

theorem bad_spec (hp : p.Pg 451 = some S.f451) (hq : p.pr 451 = none) {h : Heap} {x : Int} : WF p 451 [.int .i64 x] h fun r h' => r = .bool (badN x) ∧ h' = h := by
  refine WF_of hp hq ?_
  show W p S.b451 _ _ (retQ [.t 2] _)
  unfold S.b451
  by_cases h1 : x < -1
  · simp [h1, badN]
  · simp [h1, badN]

def IfInv (v : CV) (l : List Int) (h : Heap) (m : Nat) (e : Env) (h' : Heap) : Prop :=
  ∃ i : Nat, i ≤ l.length ∧ m = l.length - i ∧ e = [(0, v), (1, .fn 451 []), (7, .int .i64 l.length), (8, .int .i64 i)] ∧ h' = h ∧ (l.take i).any badN = false

theorem idxf_spec (hp : p.Pg = S.pg) (q455 : p.pr 455 = none) (q451 : p.pr 451 = none) {h : Heap} {v : CV} {l : List Int} {P : Nat → Prop} (s : Sl (.int .i64) h P v l) (hb : l.length ≤ big) :
    WF p 455 [v, .fn 451 []] h fun r h' => (∃ k : Int, r = .int .i64 k ∧ decide (0 ≤ k) = l.any badN) ∧ h' = h := by
  refine WF_of (by rw [hp]; exact S.pg455) q455 ?_
  show W p S.b455 _ _ (retQ [.t 4] _)
  unfold S.b455
  have n0 := s.len (by decide)
  simp [n0]
  refine W_loop (IfInv v l h) ?_ l.length ⟨0, by omega, by omega, rfl, rfl, rfl⟩
  rintro m e h' ⟨i, hi, rfl, rfl, rfl, ht⟩
  by_cases hia : i = l.length
  · subst hia
    rw [List.take_length] at ht
    simp [ht]
  · have hlt : i < l.length := by omega
    have hlt' : (i : Int) < l.length := by omega
    obtain ⟨b0, o0, x1, x2, x3⟩ := readI_idx (k' := .i64) s.ints hlt
    have hw : IntKind.i64.wrap ((i : Int) + 1) = ((i + 1 : Nat) : Int) := by
      simp [big] at hb
      rw [w64 (by omega) (by omega)]; omega
    simp [hlt', x1, x3]
    refine (bad_spec (by rw [hp]; exact S.pg451) q451).mono ?_
    rintro r h' ⟨rfl, rfl⟩
    cases hx : badN l[i] with
    | true =>
      have : l.any badN = true := List.any_eq_true.2 ⟨l[i], List.getElem_mem hlt, hx⟩
      simp [hx, this]
    | false =>
      simp [hx, hw]
      refine ⟨l.length - (i + 1), by omega, i + 1, by omega, rfl, rfl, rfl, ?_⟩
      rw [← List.take_append_getElem hlt, List.any_append, ht]
      simp [hx]

theorem cont_spec (hp : p.Pg = S.pg) (q452 : p.pr 452 = none) (q455 : p.pr 455 = none) (q451 : p.pr 451 = none) {h : Heap} {v : CV} {l : List Int} {P : Nat → Prop} (s : Sl (.int .i64) h P v l) (hb : l.length ≤ big) :
    WF p 452 [v, .fn 451 []] h fun r h' => r = .bool (l.any badN) ∧ h' = h := by
  refine WF_of (by rw [hp]; exact S.pg452) q452 ?_
  show W p S.b452 _ _ (retQ [.t 4] _)
  unfold S.b452
  simp
  refine (idxf_spec hp q455 q451 s hb).mono ?_
  rintro r h' ⟨⟨k, rfl, hk⟩, rfl⟩
  simp [← hk]

def CsInv (v : CV) (l : List (List Int)) (h : Heap) (m : Nat) (e : Env) (h' : Heap) : Prop :=
  ∃ i : Nat, i ≤ l.length ∧ m = l.length - i ∧ e = [(9, v), (10, .int .i64 l.length), (11, .int .i64 i)] ∧ h' = h ∧ checkL 0 l = checkL i (l.drop i)

theorem check_spec (hp : p.Pg = S.pg) (q447 : p.pr 447 = none) (q452 : p.pr 452 = none) (q455 : p.pr 455 = none) (q451 : p.pr 451 = none) {h : Heap} {v : CV} {l : List (List Int)} {P : Nat → Prop} (s : Sl (.sl (.int .i64)) h P v l) (hb : l.length ≤ big) :
    WF p 447 [v] h fun r h' => r = .tup [.int .i64 (checkS l).1, .int .i64 (checkS l).2] ∧ h' = h := by
  refine WF_of (by rw [hp]; exact S.pg447) q447 ?_
  show W p S.b447 _ _ (retQ [.t 2, .t 3] _)
  unfold S.b447
  have n0 := s.len (by decide)
  by_cases h1 : 4096 < l.length
  · have h1' : (4096 : Int) < l.length := by omega
    simp [n0, h1', checkS, h1]
  have h1' : ¬ (4096 : Int) < l.length := by omega
  simp [n0, h1', checkS, h1]
  refine W_loop (CsInv v l h) ?_ l.length ⟨0, by omega, by omega, rfl, rfl, rfl⟩
  rintro m e h' ⟨i, hi, rfl, rfl, rfl, ht⟩
  by_cases hia : i = l.length
  · subst hia
    rw [List.drop_length] at ht
    simp [ht, checkL]
  · have hlt : i < l.length := by omega
    have hlt' : (i : Int) < l.length := by omega
    obtain ⟨b0, o0, row, x1, x2, x3, v1, rfl, s1⟩ := s.row (k := .i64) (by decide) hlt
    have x4 := x3 0 (by decide)
    simp at x4
    have x1' : idxAddrV 1 v (.int .i64 (i : Int)) = some (.ptr b0 o0) := x1
    have n1 := s1.len (by decide)
    have hw : IntKind.i64.wrap ((i : Int) + 1) = ((i + 1 : Nat) : Int) := by
      rw [w64 (by omega) (by omega)]; omega
    rw [List.drop_eq_getElem_cons hlt, checkL] at ht
    by_cases h2 : 64 < l[i].length
    · have h2' : (64 : Int) < l[i].length := by omega
      rw [if_pos h2] at ht
      simp [hlt', x1', x4, n1, h2', ht]
    · have h2' : ¬ (64 : Int) < l[i].length := by omega
      rw [if_neg h2] at ht
      simp [hlt', x1', x4, n1, h2']
      refine (cont_spec hp q452 q455 q451 s1 (by simp [big]; omega)).mono ?_
      rintro r h' ⟨rfl, rfl⟩
      cases hx : l[i].any badN with
      | true =>
        rw [if_pos hx] at ht
        simp [hx, ht]
      | false =>
        rw [if_neg (by simp [hx])] at ht
        simp [hx, hw]
        exact ⟨l.length - (i + 1), by omega, i + 1, by omega, rfl, rfl, rfl, ht⟩

/-! ### ScriptSizes -/

/-- the asks that the law makes -/
def szRows (n w : Nat) (v : Int) : List (List Int) := if 0 < n then (List.replicate n []).set (n / 2) (List.replicate w v) else []

theorem checkL_nils (r : List (List Int)) : ∀ (k i : Nat), checkL i (List.replicate k [] ++ r) = checkL (i + k) r
  | 0, i => rfl
  | k + 1, i => by
    rw [List.replicate_succ, List.cons_append, checkL, if_neg (by simp), if_neg (by simp), checkL_nils r k (i + 1)]
    congr 1; omega

theorem checkS_rows {n w : Nat} {v : Int} : checkS (szRows n w v) =
    if 4096 < n then (0, 18) else if 0 < n ∧ 64 < w then (((n / 2 : Nat) : Int), 18) else if 0 < n ∧ 0 < w ∧ badN v = true then (((n / 2 : Nat) : Int), 1) else (0, 0) := by
  unfold checkS szRows
  by_cases hn : 0 < n
  · have hlt : n / 2 < (List.replicate n ([] : List Int)).length := by simp; omega
    rw [if_pos hn]
    simp only [List.length_set, List.length_replicate]
    by_cases h1 : 4096 < n
    · simp [h1]
    · rw [if_neg h1, if_neg h1, List.set_eq_take_append_cons_drop, if_pos hlt, List.take_replicate, List.drop_replicate, checkL_nils, checkL]
      have hr : checkL (0 + min (n / 2) n + 1) (List.replicate (n - (n / 2 + 1)) []) = (0, 0) := by
        have := checkL_nils [] (n - (n / 2 + 1)) (0 + min (n / 2) n + 1)
        rw [List.append_nil] at this
        rw [this, checkL]
      rw [hr]
      have hm : 0 + min (n / 2) n = n / 2 := by omega
      rw [hm]
      by_cases h2 : 64 < w
      · simp [hn, h2]
      · by_cases hw : 0 < w
        · have ha : (List.replicate w v).any badN = badN v := by
            cases hb : badN v with
            | true => exact List.any_eq_true.2 ⟨v, by simp; omega, hb⟩
            | false =>
              rw [← Bool.not_eq_true, List.any_eq_true]
              rintro ⟨x, hx, hbx⟩
              rw [List.eq_of_mem_replicate hx, hb] at hbx
              cases hbx
          simp [hn, h2, hw, ha]
        · obtain rfl : w = 0 := by omega
          simp
  · obtain rfl : n = 0 := by omega
    simp [checkL]

def SzInv (n w a : Nat) (v : Int) (B : Nat) (m : Nat) (e : Env) (h' : Heap) : Prop :=
  ∃ (j : Nat) (c : CV), j ≤ w ∧ m = w - j ∧ e = [(2, .int .i8 v), (7, .int .i64 n), (8, .int .i64 w), (9, .sl B 0 n n), (10, .int .i64 a), (11, .int .i64 j)] ∧
    h'[B]? = some (.arr ((List.replicate n CV.nils).set a c) .tight) ∧ OwnL (.int .i64) h' (fun _ => False) c (List.replicate j v) ∧ c.blk ≠ some B

theorem rows_sz {h : Heap} {n w : Nat} {v : Int} {c : CV} (s : Sl (.int .i64) h (fun _ => True) c (List.replicate w v)) (hn : n / 2 < n) : Rows (.sl (.int .i64)) h (fun _ => True) ((List.replicate n CV.nils).set (n / 2) c) ((List.replicate n []).set (n / 2) (List.replicate w v)) := by
  refine ⟨by simp [Cod.sl], fun i x hx => ?_⟩
  show ∃ v', _ = [v'] ∧ Sl (.int .i64) h _ v' x
  have hi : i < n := by
    have := (List.getElem?_eq_some_iff.1 hx).1
    simpa using this
  have hc : ∀ y, ((List.replicate n CV.nils).set (n / 2) c)[i]? = some y → (((List.replicate n CV.nils).set (n / 2) c).drop (i * 1)).take 1 = [y] := by
    intro y hy
    rw [Nat.mul_one, List.drop_eq_getElem_cons (by simpa using hi), List.take_succ_cons, List.take_zero]
    rw [List.getElem?_eq_getElem (by simpa using hi)] at hy
    exact congrArg (fun z => [z]) (Option.some.inj hy)
  by_cases he : n / 2 = i
  · subst he
    rw [List.getElem?_set_self (by simpa using hi)] at hx
    obtain rfl := Option.some.inj hx
    exact ⟨c, hc c (List.getElem?_set_self (by simpa using hi)), s⟩
  · rw [List.getElem?_set_ne he] at hx
    simp [hi] at hx
    subst hx
    refine ⟨.nils, hc .nils ?_, Sl.nil⟩
    rw [List.getElem?_set_ne he]
    simp [hi]

theorem sizes_law (hp : p.Pg = S.pg) {l : List Nat} {pr : Prims} (hl : p.pr = addKnown l pr) (h457 : l.contains 457 = true) (q468 : p.pr 468 = none) (q447 : p.pr 447 = none) (q452 : p.pr 452 = none) (q455 : p.pr 455 = none) (q451 : p.pr 451 = none)
    {h : Heap} {x0 x1 v : Int} (h0 : 0 ≤ x0) (h0' : x0 ≤ 65535) (h1 : 0 ≤ x1) (h1' : x1 ≤ 255) (hv : -128 ≤ v) (hv' : v ≤ 127) :
    WF p 468 [.int .u16 x0, .int .u8 x1, .int .i8 v] h fun r _ => r = .bool true := by
  refine WF_of (by rw [hp]; exact S.pg468) q468 ?_
  show W p S.b468 _ _ (retQ [.t 6] _)
  obtain ⟨n, hn⟩ : ∃ n : Nat, x0 % 4100 = (n : Int) := ⟨(x0 % 4100).toNat, by omega⟩
  obtain ⟨w, hw⟩ : ∃ w : Nat, x1 % 67 = (w : Int) := ⟨(x1 % 67).toNat, by omega⟩
  have hn' : n < 4100 := by omega
  have hw' : w < 67 := by omega
  have t0 : x0.tmod 4100 = (n : Int) := by rw [Int.tmod_eq_emod_of_nonneg h0, hn]
  have t1 : x1.tmod 67 = (w : Int) := by rw [Int.tmod_eq_emod_of_nonneg h1, hw]
  have b0 : IntKind.i64.wrap (n : Int) = n := wrap_in _ (by omega) (by omega)
  have b1 : IntKind.i64.wrap (w : Int) = w := wrap_in _ (by omega) (by omega)
  have bv : IntKind.i64.wrap v = v := wrap_in _ (by omega) (by omega)
  obtain ⟨a, ha⟩ : ∃ a, n / 2 = a := ⟨_, rfl⟩
  have d0 : (n : Int).tdiv 2 = (a : Int) := by rw [Int.tdiv_eq_ediv_of_nonneg (by omega)]; omega
  have d1 : IntKind.i64.wrap (a : Int) = (a : Int) := wrap_in _ (by omega) (by omega)
  have hbig : n ≤ big := by simp [big]; omega
  refine W_front 6 _ (fun e h' => ∃ rv r, e = (2, .int .i8 v) :: (7, .int .i64 n) :: (8, .int .i64 w) :: (9, rv) :: (10, .int .i64 a) :: r ∧ Sl (.sl (.int .i64)) h' (fun _ => True) rv (szRows n w v)) ?_ ?_
  · simp [front, S.b468]
    refine WF_known hl h457 ?_
    by_cases hn0 : 0 < n
    · have hn0' : (0 : Int) < n := by omega
      simp [t0, t1, b0, b1, d0, d1, hn0', hn0, hbig]
      refine W_loop (SzInv n w a v h.length) ?_ w ⟨0, .nils, by omega, by omega, rfl, ?_, OwnL.nil, by simp [CV.blk]⟩
      · rintro m e h' ⟨j, c, hj, rfl, rfl, g, ow, hc⟩
        by_cases hjw : j = w
        · subst hjw
          simp
          unfold szRows
          rw [if_pos hn0, ha]
          refine ⟨(List.replicate n CV.nils).set a c, .inr ⟨h.length, 0, n, n, _, _, rfl, ?_, g, ?_, ?_⟩, ⟨Nat.le_refl _, fun _ _ => trivial⟩, ?_⟩
          · simp [Cod.sl]
          · simp [Cod.sl]
          · rw [List.drop_zero, List.take_of_length_le (by simp [Cod.sl])]
          · have := rows_sz (n := n) (c := c) (ow.sl.mono (Q := fun _ => True) fun _ _ => trivial) (by omega)
            rwa [ha] at this
        · have hlt : (j : Int) < w := by omega
          have hw1 : IntKind.i64.wrap ((j : Int) + 1) = ((j + 1 : Nat) : Int) := by rw [w64 (by omega) (by omega)]; omega
          have hal : (a : Int) < n := by omega
          have haL : a < (List.replicate n CV.nils).length := by simp; omega
          have l0 := ld g
          have l1 : ((List.replicate n CV.nils).set a c)[a]? = some c := List.getElem?_set_self haL
          simp [hlt, hal, l0, l1, bv, fillC, splice, spread, cellsAt]
          have kap : Keep NoneOf h' (h' ++ [.arr [.int .i64 v] .tight]) := Keep.app _ _ _
          refine OV_push (e := .int .i64) (x := v) (ow.on kap) rfl (fun _ e => e.elim) (by simp [big]; omega) (by decide) ?_
          intro v' h2 ow2 k2 hb2
          have g2 := k2.at (get_app (g := [.arr [.int .i64 v] .tight]) g) hc
          have st := sto1 g2 (o := a) (v := v') (by simpa using haL) ow2.scalar
          have hB := lt_of_get g
          have hne : ∀ b, v'.blk = some b → ¬ b = h.length := by
            intro b hb e
            subst e
            rcases hb2 _ hb with q | q
            · exact hc q
            · simp at q; omega
          simp [fits_scalar ow2.scalar, CV.cells_scalar ow2.scalar, st, hw1]
          refine ⟨w - (j + 1), by omega, j + 1, v', by omega, rfl, rfl, ?_, ?_, fun e => hne _ e rfl⟩
          · rw [get_set_self (lt_of_get g2)]
          · rw [List.replicate_succ']
            exact ow2.keep (Keep.set (S := fun b => b = h.length) h2 _ rfl) hne (fun _ e => e.elim)
      · rw [get_new]
        refine congrArg (fun z => some (Obj.arr z .tight)) (List.ext_getElem? fun i => ?_).symm
        by_cases hi : a = i
        · subst hi; rw [List.getElem?_set_self (by simp; omega), List.getElem?_replicate, if_pos (by omega)]
        · rw [List.getElem?_set_ne hi]
    · obtain rfl : n = 0 := by omega
      obtain rfl : a = 0 := by omega
      have t0' : x0.tmod 4100 = 0 := t0
      have z0 : IntKind.i64.wrap 0 = 0 := rfl
      simp [t0', t1, b1, z0]
      unfold szRows
      rw [if_neg hn0]
      refine ⟨[], .inr ⟨h.length, 0, 0, 0, _, _, rfl, ?_, get_new, ?_, ?_⟩, ⟨Nat.le_refl _, fun _ _ => trivial⟩, Rows.nil⟩
      · simp [Cod.sl]
      · simp [Cod.sl]
      · simp
  · rintro e h' ⟨rv, rr, rfl, s⟩
    have c := checkS_rows (n := n) (w := w) (v := v)
    have hl : (szRows n w v).length ≤ big := by
      unfold szRows; split <;> simp [big]; omega
    have c1 : 4096 < n → (4096 : Int) < n := by omega
    have c2 : ¬ 4096 < n → ¬ (4096 : Int) < n := by omega
    simp [back, S.b468]
    refine (check_spec hp q447 q452 q455 q451 s hl).mono ?_
    rintro r h1 ⟨rfl, rfl⟩
    rw [c, ha]
    have hcv : v < -1 ∨ (¬ v < -1 ∧ 12 < v) ∨ (¬ v < -1 ∧ ¬ 12 < v) := by omega
    have hcn : 4096 < n ∨ (¬ 4096 < n ∧ 0 < n) ∨ n = 0 := by omega
    have hcw : 64 < w ∨ (¬ 64 < w ∧ 0 < w) ∨ w = 0 := by omega
    rcases hcn with k1 | ⟨k1, k2⟩ | rfl
    · have k1' : (4096 : Int) < n := by omega
      rcases hcv with j1 | ⟨j1, j2⟩ | ⟨j1, j2⟩
      · simp [j1, k1, k1']
      · simp [j1, j2, k1, k1']
      · simp [j1, j2, k1, k1']
    · have k1' : ¬ (4096 : Int) < n := by omega
      have k2' : (0 : Int) < n := by omega
      rcases hcw with m1 | ⟨m1, m2⟩ | rfl
      · have m1' : (64 : Int) < w := by omega
        rcases hcv with j1 | ⟨j1, j2⟩ | ⟨j1, j2⟩
        · simp [j1, k1, k1', k2, k2', m1, m1', badN]
        · simp [j1, j2, k1, k1', k2, k2', m1, m1', badN]
        · simp [j1, j2, k1, k1', k2, k2', m1, m1', badN]
      · have m1' : ¬ (64 : Int) < w := by omega
        have m2' : (0 : Int) < w := by omega
        rcases hcv with j1 | ⟨j1, j2⟩ | ⟨j1, j2⟩
        · simp [j1, k1, k1', k2, k2', m1, m1', m2, m2', badN]
        · simp [j1, j2, k1, k1', k2, k2', m1, m1', m2, m2', badN]
        · simp [j1, j2, k1, k1', k2, k2', m1, m1', m2, m2', badN]
      · rcases hcv with j1 | ⟨j1, j2⟩ | ⟨j1, j2⟩
        · simp [j1, k1, k1', k2, k2', badN]
        · simp [j1, j2, k1, k1', k2, k2', badN]
        · simp [j1, j2, k1, k1', k2, k2', badN]
    · rcases hcv with j1 | ⟨j1, j2⟩ | ⟨j1, j2⟩
      · simp [j1, badN]
      · simp [j1, j2, badN]
      · simp [j1, j2, badN]

end Go.Cl

namespace Go.Cl
open Go
set_option linter.unusedSimpArgs false
set_option linter.unusedVariables false
set_option maxHeartbeats 1000000

variable {p : PP}

def ScEqInv (v0 v1 : CV) (a b : List Int) (h : Heap) (m : Nat) (e : Env) (h' : Heap) : Prop :=
  ∃ i : Nat, i ≤ a.length ∧ m = a.length - i ∧ e = [(0, v0), (1, v1), (12, .int .i64 a.length), (13, .int .i64 i)] ∧ h' = h ∧ a.take i = b.take i

theorem scStep {α : Type} {a b : List α} {i : Nat} (h : a.take i = b.take i) (ha : i < a.length) (hb : i < b.length) (he : a[i] = b[i]) : a.take (i + 1) = b.take (i + 1) := by
  rw [← List.take_append_getElem ha, ← List.take_append_getElem hb, h, he]

theorem scDone {α : Type} {a b : List α} (h : a.take a.length = b.take a.length) (hl : a.length = b.length) : a = b := by
  rw [List.take_length, hl, List.take_length] at h; exact h

theorem scInts_spec {h : Heap} {v0 v1 : CV} {a b : List Int} {P Q : Nat → Prop} (hp : p.Pg 61 = some S.f61) (hq : p.pr 61 = none) (s0 : Sl (.int .i64) h P v0 a) (s1 : Sl (.int .i64) h Q v1 b) (hb : a.length ≤ big) :
    WF p 61 [v0, v1] h fun r h' => r = .bool (decide (a = b)) ∧ h' = h := by
  refine WF_of hp hq ?_
  show W p S.b61 _ _ (retQ [.t 4] _)
  unfold S.b61
  have n0 := s0.len (by decide)
  have n1 := s1.len (by decide)
  by_cases hl : a.length = b.length
  · have hl' : (a.length : Int) = b.length := by omega
    simp [n0, n1, hl']
    rw [← hl']
    refine W_loop (ScEqInv v0 v1 a b h) ?_ a.length ⟨0, by omega, by omega, rfl, rfl, rfl⟩
    rintro m e h' ⟨i, hi, rfl, rfl, rfl, ht⟩
    by_cases hia : i = a.length
    · subst hia
      have := scDone ht hl
      simp [this]
    · have hlt : i < a.length := by omega
      have hlt' : (i : Int) < a.length := by omega
      obtain ⟨b0, o0, x1, x2, x3⟩ := readI_idx (k' := .i64) s0.ints hlt
      obtain ⟨b1, o1, y1, y2, y3⟩ := readI_idx (k' := .i64) s1.ints (i := i) (by omega)
      have hw : IntKind.i64.wrap ((i : Int) + 1) = ((i + 1 : Nat) : Int) := by
        simp [big] at hb
        rw [w64 (by omega) (by omega)]; omega
      have hlb : i < b.length := by omega
      by_cases he : a[i] = b[i]
      · simp [hlt', x1, x3, y1, y3, he, hw]
        exact ⟨a.length - (i + 1), by omega, i + 1, by omega, rfl, rfl, rfl, scStep ht hlt hlb he⟩
      · have hne : ¬ a = b := fun e => he (by subst e; rfl)
        simp [hlt', x1, x3, y1, y3, he, hne]
  · have hl' : ¬ (a.length : Int) = b.length := by omega
    have hne : ¬ a = b := fun e => hl (by rw [e])
    simp [n0, n1, hl', hne]

def RiInv (v0 v1 : CV) (a b : List Int) (h : Heap) (m : Nat) (e : Env) (h' : Heap) : Prop :=
  ∃ i, i ≤ a.length ∧ m = a.length - i ∧ e = [(0, v0), (1, v1), (5, .int .i64 (i : Nat))] ∧ h' = h ∧ a.take i = b.take i

theorem refInts_spec {h : Heap} {v0 v1 : CV} {a b : List Int} {P Q : Nat → Prop} (hp : p.Pg 64 = some S.f64) (hq : p.pr 64 = none) (s0 : Sl (.int .i64) h P v0 a) (s1 : Sl (.int .i64) h Q v1 b) (ha : a.length ≤ big) :
    WF p 64 [v0, v1] h fun r h' => r = .bool (decide (a = b)) ∧ h' = h := by
  refine WF_of hp hq ?_
  show W p S.b64 _ _ (retQ [.t 4] _)
  unfold S.b64
  have n0 := s0.len (by decide)
  have n1 := s1.len (by decide)
  by_cases hl : a.length = b.length
  · have hl' : (a.length : Int) = b.length := by omega
    simp [n0, n1, hl, hl']
    refine W_loop (RiInv v0 v1 a b h) ?_ a.length ⟨0, by omega, by omega, rfl, rfl, rfl⟩
    rintro m e h' ⟨i, hi, rfl, rfl, rfl, ht⟩
    by_cases hia : i = a.length
    · subst hia
      have : a = b := by rw [List.take_length] at ht; rw [ht, hl, List.take_length]
      simp [n0, this]
    · have hlt : i < a.length := by omega
      have hlt2 : i < b.length := by omega
      have hlt' : (i : Int) < a.length := by omega
      obtain ⟨b0, o0, x1, x2, x3⟩ := readI_idx (k' := .i64) s0.ints hlt
      obtain ⟨b1, o1, y1, y2, y3⟩ := readI_idx (k' := .i64) s1.ints hlt2
      have hw : IntKind.i64.wrap ((i : Int) + 1) = ((i + 1 : Nat) : Int) := by
        simp [big] at ha
        rw [w64 (by omega) (by omega)]; omega
      by_cases he : a[i] = b[i]
      · simp [n0, hlt', x1, x3, y1, y3, he, hw]
        refine ⟨a.length - (i + 1), by omega, i + 1, by omega, rfl, rfl, rfl, ?_⟩
        rw [← List.take_append_getElem hlt, ← List.take_append_getElem hlt2, ht, he]
      · have hne : ¬ a = b := fun e => he (by subst e; rfl)
        simp [n0, hlt', x1, x3, y1, y3, he, hne]
  · have hl' : ¬ (a.length : Int) = b.length := by omega
    have hne : ¬ a = b := fun e => hl (by rw [e])
    simp [n0, n1, hl, hl', hne]

/-- one row of a script -/
theorem scRow {h : Heap} {v : CV} {l : List (List Int)} {P : Nat → Prop} (s : Sl (.sl (.int .i64)) h P v l) {i : Nat} (hi : i < l.length) :
    ∃ b o c, idxAddrV 1 v (.int .i64 (i : Int)) = some (.ptr b o) ∧ loadAt h b o none = some c ∧ Sl (.int .i64) h P c l[i] := by
  obtain ⟨b0, o0, row, x1, x2, x3, v1, rfl, s1⟩ := s.row (k := .i64) (by decide) hi
  have x4 := x3 0 (by decide)
  simp at x4
  exact ⟨b0, o0, v1, x1, x4, s1⟩

def SfInv (v0 v1 : CV) (a b : List (List Int)) (h : Heap) (m : Nat) (e : Env) (h' : Heap) : Prop :=
  ∃ i : Nat, i ≤ a.length ∧ m = a.length - i ∧ e = [(1, v1), (2, .fn 469 []), (15, v0), (16, .int .i64 a.length), (17, .int .i64 i)] ∧ h' = h ∧ a.take i = b.take i

theorem same_spec (hp : p.Pg = S.pg) (q460 : p.pr 460 = none) (q470 : p.pr 470 = none) (q469 : p.pr 469 = none) (q61 : p.pr 61 = none) {h : Heap} {v0 v1 : CV} {a b : List (List Int)} {P Q : Nat → Prop} (s0 : Sl (.sl (.int .i64)) h P v0 a) (s1 : Sl (.sl (.int .i64)) h Q v1 b)
    (ha : a.length ≤ big) (hr : ∀ r ∈ a, r.length ≤ big) : WF p 460 [v0, v1] h fun r h' => r = .bool (decide (a = b)) ∧ h' = h := by
  refine WF_of (by rw [hp]; exact S.pg460) q460 ?_
  show W p S.b460 _ _ (retQ [.t 4] _)
  unfold S.b460
  simp
  suffices w : WF p 470 [v0, v1, .fn 469 []] h fun r h' => r = .bool (decide (a = b)) ∧ h' = h by
    refine w.mono ?_
    rintro r h' ⟨rfl, rfl⟩
    simp
  refine WF_of (by rw [hp]; exact S.pg470) q470 ?_
  show W p S.b470 _ _ (retQ [.t 6] _)
  unfold S.b470
  have n0 := s0.len (by decide)
  have n1 := s1.len (by decide)
  by_cases hl : a.length = b.length
  · have hl' : (a.length : Int) = b.length := by omega
    simp [n0, n1, hl']
    rw [← hl']
    refine W_loop (SfInv v0 v1 a b h) ?_ a.length ⟨0, by omega, by omega, rfl, rfl, rfl⟩
    rintro m e h' ⟨i, hi, rfl, rfl, rfl, ht⟩
    by_cases hia : i = a.length
    · subst hia
      have := scDone ht hl
      simp [this]
    · have hlt : i < a.length := by omega
      have hlb : i < b.length := by omega
      have hlt' : (i : Int) < a.length := by omega
      obtain ⟨b0, o0, c0, x1, x2, t0⟩ := scRow s0 hlt
      obtain ⟨b1, o1, c1, y1, y2, t1⟩ := scRow s1 hlb
      have hw : IntKind.i64.wrap ((i : Int) + 1) = ((i + 1 : Nat) : Int) := by
        simp [big] at ha
        rw [w64 (by omega) (by omega)]; omega
      simp [hlt', x1, x2, y1, y2]
      suffices w : WF p 469 [c0, c1] h' fun r h2 => r = .bool (decide (a[i] = b[i])) ∧ h2 = h' by
        refine w.mono ?_
        rintro r h' ⟨rfl, rfl⟩
        by_cases he : a[i] = b[i]
        · simp [he, hw]
          exact ⟨a.length - (i + 1), by omega, i + 1, by omega, rfl, rfl, rfl, scStep ht hlt hlb he⟩
        · have hne : ¬ a = b := fun e => he (by subst e; rfl)
          simp [he, hne]
      refine WF_of (by rw [hp]; exact S.pg469) q469 ?_
      show W p S.b469 _ _ (retQ [.t 4] _)
      unfold S.b469
      simp
      refine (scInts_spec (by rw [hp]; exact S.pg61) q61 t0 t1 (hr _ (List.getElem_mem hlt))).mono ?_
      rintro r h' ⟨rfl, rfl⟩
      simp
  · have hl' : ¬ (a.length : Int) = b.length := by omega
    have hne : ¬ a = b := fun e => hl (by rw [e])
    simp [n0, n1, hl', hne]

def SrInv (v0 v1 : CV) (a b : List (List Int)) (h : Heap) (m : Nat) (e : Env) (h' : Heap) : Prop :=
  ∃ i : Nat, i ≤ a.length ∧ m = a.length - i ∧ e = [(0, v0), (1, v1), (5, .int .i64 i)] ∧ h' = h ∧ a.take i = b.take i

theorem refSame_spec (hp : p.Pg = S.pg) (q461 : p.pr 461 = none) (q64 : p.pr 64 = none) {h : Heap} {v0 v1 : CV} {a b : List (List Int)} {P Q : Nat → Prop} (s0 : Sl (.sl (.int .i64)) h P v0 a) (s1 : Sl (.sl (.int .i64)) h Q v1 b)
    (ha : a.length ≤ big) (hr : ∀ r ∈ a, r.length ≤ big) : WF p 461 [v0, v1] h fun r h' => r = .bool (decide (a = b)) ∧ h' = h := by
  refine WF_of (by rw [hp]; exact S.pg461) q461 ?_
  show W p S.b461 _ _ (retQ [.t 4] _)
  unfold S.b461
  have n0 := s0.len (by decide)
  have n1 := s1.len (by decide)
  by_cases hl : a.length = b.length
  · have hl' : (a.length : Int) = b.length := by omega
    simp [n0, n1, hl, hl']
    refine W_loop (SrInv v0 v1 a b h) ?_ a.length ⟨0, by omega, by omega, rfl, rfl, rfl⟩
    rintro m e h' ⟨i, hi, rfl, rfl, rfl, ht⟩
    by_cases hia : i = a.length
    · subst hia
      have := scDone ht hl
      simp [n0, this]
    · have hlt : i < a.length := by omega
      have hlb : i < b.length := by omega
      have hlt' : (i : Int) < a.length := by omega
      obtain ⟨b0, o0, c0, x1, x2, t0⟩ := scRow s0 hlt
      obtain ⟨b1, o1, c1, y1, y2, t1⟩ := scRow s1 hlb
      have hw : IntKind.i64.wrap ((i : Int) + 1) = ((i + 1 : Nat) : Int) := by
        simp [big] at ha
        rw [w64 (by omega) (by omega)]; omega
      simp [n0, hlt', x1, x2, y1, y2]
      refine (refInts_spec (by rw [hp]; exact S.pg64) q64 t0 t1 (hr _ (List.getElem_mem hlt))).mono ?_
      rintro r h' ⟨rfl, rfl⟩
      by_cases he : a[i] = b[i]
      · simp [he, hw]
        exact ⟨a.length - (i + 1), by omega, i + 1, by omega, rfl, rfl, rfl, scStep ht hlt hlb he⟩
      · have hne : ¬ a = b := fun e => he (by subst e; rfl)
        simp [he, hne]
  · have hl' : ¬ (a.length : Int) = b.length := by omega
    have hne : ¬ a = b := fun e => hl (by rw [e])
    simp [n0, n1, hl, hl', hne]

theorem lawSame_spec (hp : p.Pg = S.pg) (q465 : p.pr 465 = none) (q461 : p.pr 461 = none) (q64 : p.pr 64 = none) {h : Heap} {v0 v1 : CV} {a b : List (List Int)} {P Q : Nat → Prop} (s0 : Sl (.sl (.int .i64)) h P v0 a) (s1 : Sl (.sl (.int .i64)) h Q v1 b)
    (ha : a.length ≤ big) (hr : ∀ r ∈ a, r.length ≤ big) : WF p 465 [v0, v1] h fun r h' => r = .bool (decide (a = b)) ∧ h' = h := by
  refine WF_of (by rw [hp]; exact S.pg465) q465 ?_
  show W p S.b465 _ _ (retQ [.t 4] _)
  unfold S.b465
  simp
  refine (refSame_spec hp q461 q64 s0 s1 ha hr).mono ?_
  rintro r h' ⟨rfl, rfl⟩
  simp

/-! ### the document's Check -/

def RcInv (v : CV) (l : List (List Int)) (h : Heap) (m : Nat) (e : Env) (h' : Heap) : Prop :=
  ∃ i : Nat, i ≤ l.length ∧ m = l.length - i ∧ e = [(0, v), (4, .int .i64 i)] ∧ h' = h ∧ checkL 0 l = checkL i (l.drop i)
def RdInv (v : CV) (i : Nat) (r : List Int) (h : Heap) (m : Nat) (e : Env) (h' : Heap) : Prop :=
  ∃ k : Nat, k ≤ r.length ∧ m = r.length - k ∧ e = [(0, v), (4, .int .i64 i), (5, .int .i64 k)] ∧ h' = h ∧ (r.take k).any badN = false

theorem refCheck_spec (hp : p.Pg = S.pg) (q459 : p.pr 459 = none) {h : Heap} {v : CV} {l : List (List Int)} {P : Nat → Prop} (s : Sl (.sl (.int .i64)) h P v l) (hb : l.length ≤ big) :
    WF p 459 [v] h fun r h' => r = .tup [.int .i64 (checkS l).1, .int .i64 (checkS l).2] ∧ h' = h := by
  refine WF_of (by rw [hp]; exact S.pg459) q459 ?_
  show W p S.b459 _ _ (retQ [.t 2, .t 3] _)
  unfold S.b459
  have n0 := s.len (by decide)
  by_cases h1 : 4096 < l.length
  · have h1' : (4096 : Int) < l.length := by omega
    simp [n0, h1', checkS, h1]
  have h1' : ¬ (4096 : Int) < l.length := by omega
  simp [n0, h1', checkS, h1]
  refine W_loop (RcInv v l h) ?_ l.length ⟨0, by omega, by omega, rfl, rfl, rfl⟩
  rintro m e h' ⟨i, hi, rfl, rfl, rfl, ht⟩
  by_cases hia : i = l.length
  · subst hia
    rw [List.drop_length] at ht
    simp [n0, ht, checkL]
  · have hlt : i < l.length := by omega
    have hlt' : (i : Int) < l.length := by omega
    obtain ⟨b0, o0, c0, x1, x2, t0⟩ := scRow s hlt
    have n1 := t0.len (by decide)
    have hw : IntKind.i64.wrap ((i : Int) + 1) = ((i + 1 : Nat) : Int) := by
      rw [w64 (by omega) (by omega)]; omega
    rw [List.drop_eq_getElem_cons hlt, checkL] at ht
    by_cases h2 : 64 < l[i].length
    · have h2' : (64 : Int) < l[i].length := by omega
      rw [if_pos h2] at ht
      simp [n0, hlt', x1, x2, n1, h2', ht]
    · have h2' : ¬ (64 : Int) < l[i].length := by omega
      rw [if_neg h2] at ht
      simp [n0, hlt', x1, x2, n1, h2']
      refine W_loop (RdInv v i l[i] h') ?_ l[i].length ⟨0, by omega, by omega, rfl, rfl, rfl⟩
      rintro m e h2 ⟨k, hk, rfl, rfl, rfl, hk2⟩
      by_cases hkl : k = l[i].length
      · rw [hkl, List.take_length] at hk2
        rw [if_neg (by simp [hk2])] at ht
        subst hkl
        simp [hlt', x1, x2, n1, hw]
        exact ⟨l.length - (i + 1), by omega, i + 1, by omega, rfl, rfl, rfl, ht⟩
      · have hlk : k < l[i].length := by omega
        have hlk' : (k : Int) < l[i].length := by omega
        obtain ⟨b1, o1, y1, y2, y3⟩ := readI_idx (k' := .i64) t0.ints hlk
        have hwk : IntKind.i64.wrap ((k : Int) + 1) = ((k + 1 : Nat) : Int) := by
          rw [w64 (by omega) (by omega)]; omega
        have hbad : badN l[i][k] = true → l[i].any badN = true := fun hx => List.any_eq_true.2 ⟨_, List.getElem_mem hlk, hx⟩
        by_cases j1 : l[i][k] < -1
        · have := hbad (by simp [badN, j1])
          rw [if_pos this] at ht
          simp [hlt', hlk', x1, x2, n1, y1, y3, j1, ht]
        · by_cases j2 : 12 < l[i][k]
          · have := hbad (by simp [badN, j2])
            rw [if_pos this] at ht
            simp [hlt', hlk', x1, x2, n1, y1, y3, j1, j2, ht]
          · simp [hlt', hlk', x1, x2, n1, y1, y3, j1, j2, hwk]
            refine ⟨l[i].length - (k + 1), by omega, k + 1, by omega, rfl, rfl, rfl, ?_⟩
            rw [← List.take_append_getElem hlk, List.any_append, hk2]
            simp [badN, j1, j2]

/-! ### Asks -/

def asksP (l : List (List Int)) : Bool := decide (l.length ≤ 120) && l.all fun r => decide (r.length ≤ 70)

def AkInv (v : CV) (l : List (List Int)) (h : Heap) (m : Nat) (e : Env) (h' : Heap) : Prop :=
  ∃ i : Nat, i ≤ l.length ∧ m = l.length - i ∧ e = [(0, v), (3, .int .i64 i)] ∧ h' = h ∧ (l.take i).all (fun r => decide (r.length ≤ 70)) = true

theorem asks_spec (hp : p.Pg = S.pg) (q458 : p.pr 458 = none) {h : Heap} {v : CV} {l : List (List Int)} {P : Nat → Prop} (s : Sl (.sl (.int .i64)) h P v l) :
    WF p 458 [v] h fun r h' => r = .bool (asksP l) ∧ h' = h := by
  refine WF_of (by rw [hp]; exact S.pg458) q458 ?_
  show W p S.b458 _ _ (retQ [.t 2] _)
  unfold S.b458
  have n0 := s.len (by decide)
  by_cases h1 : 120 < l.length
  · have h1' : (120 : Int) < l.length := by omega
    have : ¬ l.length ≤ 120 := by omega
    simp [n0, h1', asksP, this]
  have h1' : ¬ (120 : Int) < l.length := by omega
  have h2 : l.length ≤ 120 := by omega
  simp [n0, h1', asksP, h2]
  refine W_loop (AkInv v l h) ?_ l.length ⟨0, by omega, by omega, rfl, rfl, rfl⟩
  rintro m e h' ⟨i, hi, rfl, rfl, rfl, ht⟩
  by_cases hia : i = l.length
  · subst hia
    rw [List.take_length] at ht
    simp [n0, ht]
  · have hlt : i < l.length := by omega
    have hlt' : (i : Int) < l.length := by omega
    obtain ⟨b0, o0, c0, x1, x2, t0⟩ := scRow s hlt
    have n1 := t0.len (by decide)
    have hw : IntKind.i64.wrap ((i : Int) + 1) = ((i + 1 : Nat) : Int) := by
      rw [w64 (by omega) (by omega)]; omega
    by_cases h3 : 70 < l[i].length
    · have h3' : (70 : Int) < l[i].length := by omega
      have : l.all (fun r => decide (r.length ≤ 70)) = false := by
        rw [← Bool.not_eq_true, List.all_eq_true]
        intro hall
        have := hall _ (List.getElem_mem hlt)
        simp at this; omega
      simp [n0, hlt', x1, x2, n1, h3', this]
    · have h3' : ¬ (70 : Int) < l[i].length := by omega
      simp [n0, hlt', x1, x2, n1, h3', hw]
      refine ⟨l.length - (i + 1), by omega, i + 1, by omega, rfl, rfl, rfl, ?_⟩
      rw [← List.take_append_getElem hlt, List.all_append, ht]
      simp; omega

end Go.Cl

namespace Go.Cl
open Go
set_option linter.unusedSimpArgs false
set_option linter.unusedVariables false
set_option maxHeartbeats 1000000

variable {p : PP}

theorem scOV_if {α : Type} {c : Prop} [Decidable c] {o : Option α} {K : α → Prop} : OV (if c then o else none) K = (c ∧ OV o K) := by
  by_cases h : c <;> simp [h]

structure ScFit (l : List (List Int)) : Prop where
  n : l.length ≤ 5000
  r : ∀ r ∈ l, r.length ≤ 5000
  i : ∀ r ∈ l, ∀ x ∈ r, inI x

theorem scrT_next {l : List (List Int)} {i : Nat} (h : i < l.length) : scrT (l.take (i + 1)) = scrT (l.take i) ++ (lineW l[i] ++ [10]) := by
  unfold scrT
  rw [List.take_add_one, List.getElem?_eq_getElem h, Option.toList_some, List.map_append, List.map_singleton, linesOf_snoc, List.append_assoc]

theorem ScFit.len {l : List (List Int)} (f : ScFit l) (i : Nat) : (scrT (l.take i)).length ≤ 550005000 := by
  have a := scrT_len (l := l.take i) (n := 5000) fun r hr => f.r r (List.mem_of_mem_take hr)
  have b : (l.take i).length ≤ 5000 := by have := f.n; simp; omega
  have c : (l.take i).length * (5000 * 22 + 1) ≤ 5000 * (5000 * 22 + 1) := Nat.mul_le_mul_right _ b
  omega

def TwI (B : Nat) (v c0 : CV) (n i : Nat) (r : List Int) (h1 : Heap) (m : Nat) (e : Env) (h' : Heap) : Prop :=
  ∃ (k : Nat) (acc : CV), k ≤ r.length ∧ m = r.length - k ∧ e = [(3, .ptr B 0), (6, acc), (9, v), (10, .int .i64 n), (11, .int .i64 i), (15, c0), (16, .int .i64 r.length), (17, .int .i64 k)] ∧
    Keep NoneOf h1 h' ∧ OwnL .str h' NoneOf acc ((r.take k).map itoa) ∧ ∀ b, acc.blk = some b → h1.length ≤ b

def TxI (v : CV) (l : List (List Int)) (h : Heap) (m : Nat) (e : Env) (h' : Heap) : Prop :=
  ∃ i : Nat, i ≤ l.length ∧ m = l.length - i ∧ e = [(3, .ptr h.length 0), (9, v), (10, .int .i64 l.length), (11, .int .i64 i)] ∧ Keep NoneOf h h' ∧ BldIs h.length h' h.length (scrT (l.take i))

theorem scText_spec (lp : LP p) {v : CV} {l : List (List Int)} {h : Heap} {P : Nat → Prop} (s : Sl (.sl (.int .i64)) h P v l) (f : ScFit l) :
    WF p 462 [v] h fun r h' => r = .str (scrT l) ∧ Keep NoneOf h h' := by
  refine WF_of (by rw [lp.pg]; exact S.pg462) (lp.no ⟨rfl, rfl⟩) ?_
  show W p S.b462 _ _ (retQ [.t 2] _)
  unfold S.b462
  have n0 := (s.on (Keep.app _ h [Obj.bld 5 none])).len (by decide)
  have fn := f.n
  simp [n0]
  refine W_loop (TxI v l h) ?_ l.length ⟨0, by omega, by omega, rfl, Keep.app _ _ _, Nat.le_refl _, .inl ⟨rfl, by simp [tBld]⟩⟩
  rintro m e h1 ⟨i, hi, rfl, rfl, k1, b1⟩
  by_cases hie : i = l.length
  · subst hie
    rw [List.take_length] at b1
    simp
    refine (bldString_spec lp b1).mono ?_
    rintro r h2 ⟨rfl, rfl⟩
    simp
    exact k1
  · have hlt : i < l.length := by omega
    have hlt' : (i : Int) < l.length := by omega
    obtain ⟨bb, o, c0, x1, x2, t0⟩ := scRow (s.on k1) hlt
    have hw : IntKind.i64.wrap ((i : Int) + 1) = ((i + 1 : Nat) : Int) := by rw [w64 (by omega) (by omega)]; omega
    have n1 := t0.len (by decide)
    have hrl := f.r _ (List.getElem_mem hlt)
    have hri := f.i _ (List.getElem_mem hlt)
    simp [hlt', x1, x2, n1]
    refine W_loop (TwI h.length v c0 l.length i l[i] h1) ?_ l[i].length ⟨0, .nils, by omega, by omega, rfl, Keep.refl _ _, OwnL.nil, by simp [CV.blk]⟩
    rintro m e h2 ⟨k, acc, hk, rfl, rfl, k2, ow, ha⟩
    by_cases hkl : k = l[i].length
    · subst hkl
      rw [List.take_length] at ow
      have hlen := lineW_len (l := l[i])
      simp
      refine (join_spec lp ow.sl (c := 32) (by simp; omega) (by unfold lineW at hlen; omega)).mono ?_
      rintro r h3 ⟨rfl, rfl⟩
      have b2 := b1.on k2
      have hacc := f.len i
      have hnext := scrT_next hlt
      generalize scrT (l.take i) = acc' at *
      rw [show joinC 32 (l[i].map itoa) = lineW l[i] from rfl]
      generalize lineW l[i] = lw at *
      simp [scOV_if]
      refine ⟨by omega, ?_⟩
      refine bldWrite_spec lp b2 (by simp) (by simp; omega) fun h4 b4 hl4 ho4 => ?_
      simp [hw]
      refine ⟨l.length - (i + 1), by omega, i + 1, by omega, rfl, rfl, ?_, by rw [hnext]; exact b4⟩
      have k12 := k1.trans k2
      exact ⟨by have := k12.len; omega, fun j hj hn => by rw [ho4 j hj]; exact k12.get j hj hn⟩
    · have hlk : k < l[i].length := by omega
      have hlk' : (k : Int) < l[i].length := by omega
      obtain ⟨b1', o1, y1, y2, y3⟩ := readI_idx (k' := .i64) (t0.on k2).ints hlk
      have hwk : IntKind.i64.wrap ((k : Int) + 1) = ((k + 1 : Nat) : Int) := by rw [w64 (by omega) (by omega)]; omega
      have hin := hri _ (List.getElem_mem hlk)
      simp [hlk', y1, y3]
      refine (wordText_spec lp hin.1 hin.2).mono ?_
      rintro r h3 ⟨rfl, rfl⟩
      simp [fillC, splice, spread, cellsAt]
      refine OV_push (e := .str) (x := itoa l[i][k]) (ow.on (Keep.app _ _ _)) rfl (fun _ e => e.elim) (by simp [big]; omega) (by decide) ?_
      intro v' h4 ow4 k4 hb4
      simp [hwk]
      refine ⟨l[i].length - (k + 1), by omega, k + 1, v', by omega, rfl, rfl, (k2.trans (Keep.app _ _ _)).then k4 fun b hb e => by have := ha b e; omega, ?_, fun b hb => ?_⟩
      · rw [← List.take_append_getElem hlk, List.map_append]; exact ow4
      · rcases hb4 b hb with q | q
        · exact ha b q
        · have := k2.len; simp at q; omega

/-! ### the document's text -/

def RtO (v : CV) (l : List (List Int)) (h : Heap) (m : Nat) (e : Env) (h' : Heap) : Prop :=
  ∃ i : Nat, i ≤ l.length ∧ m = l.length - i ∧ e = [(0, v), (3, .str (scrT (l.take i))), (4, .int .i64 i)] ∧ Keep NoneOf h h'
def RtN (v : CV) (i : Nat) (t : List UInt8) (r : List Int) (h : Heap) (m : Nat) (e : Env) (h' : Heap) : Prop :=
  ∃ k : Nat, k ≤ r.length ∧ m = r.length - k ∧ e = [(0, v), (3, .str (t ++ joinC 32 ((r.take k).map itoa))), (4, .int .i64 i), (5, .int .i64 k)] ∧ Keep NoneOf h h'

theorem refText_spec (lp : LP p) {v : CV} {l : List (List Int)} {h : Heap} {P : Nat → Prop} (s : Sl (.sl (.int .i64)) h P v l) (f : ScFit l) :
    WF p 464 [v] h fun r h' => r = .str (scrT l) ∧ Keep NoneOf h h' := by
  refine WF_of (by rw [lp.pg]; exact S.pg464) (lp.no ⟨rfl, rfl⟩) ?_
  show W p S.b464 _ _ (retQ [.t 2] _)
  unfold S.b464
  have fn := f.n
  simp
  refine W_loop (RtO v l h) ?_ l.length ⟨0, by omega, by omega, rfl, Keep.refl _ _⟩
  rintro m e h1 ⟨i, hi, rfl, rfl, k1⟩
  have n0 := (s.on k1).len (by decide)
  by_cases hie : i = l.length
  · subst hie
    simp [n0]
    exact k1
  · have hlt : i < l.length := by omega
    have hlt' : (i : Int) < l.length := by omega
    have hw : IntKind.i64.wrap ((i : Int) + 1) = ((i + 1 : Nat) : Int) := by rw [w64 (by omega) (by omega)]; omega
    have hrl := f.r _ (List.getElem_mem hlt)
    have hri := f.i _ (List.getElem_mem hlt)
    have hacc := f.len i
    have hnext := scrT_next hlt
    generalize scrT (l.take i) = t at *
    simp [n0, hlt']
    refine W_loop (RtN v i t l[i] h) ?_ l[i].length ⟨0, by omega, by omega, by simp [joinC], k1⟩
    rintro m e h2 ⟨k, hk, rfl, rfl, k2⟩
    obtain ⟨bb, o, c0, x1, x2, t0⟩ := scRow (s.on k2) hlt
    have n1 := t0.len (by decide)
    have hjl : (joinC 32 ((l[i].take k).map itoa)).length ≤ 110000 := by
      have := lineW_len (l := l[i].take k)
      unfold lineW at this
      have h3 : (l[i].take k).length ≤ 5000 := by simp; omega
      omega
    by_cases hkl : k = l[i].length
    · subst hkl
      rw [List.take_length] at hjl ⊢
      rw [show joinC 32 (l[i].map itoa) = lineW l[i] from rfl] at hjl ⊢
      generalize lineW l[i] = lw at *
      simp [x1, x2, n1, scOV_if]
      refine ⟨by omega, ?_⟩
      simp [hw]
      exact ⟨l.length - (i + 1), by omega, i + 1, by omega, rfl, by rw [hnext]; simp, k2⟩
    · have hlk : k < l[i].length := by omega
      have hlk' : (k : Int) < l[i].length := by omega
      obtain ⟨b1', o1, y1, y2, y3⟩ := readI_idx (k' := .i64) t0.ints hlk
      have hwk : IntKind.i64.wrap ((k : Int) + 1) = ((k + 1 : Nat) : Int) := by rw [w64 (by omega) (by omega)]; omega
      have hin := hri _ (List.getElem_mem hlk)
      have hil := itoa_len20 hin.1 hin.2
      have hkn := joinC_next 32 (l := l[i].map itoa) (j := k) (by simpa using hlk)
      rw [List.getElem_map, ← List.map_take, ← List.map_take] at hkn
      generalize joinC 32 ((l[i].take k).map itoa) = j at *
      by_cases hk0 : k = 0
      · subst hk0
        have y1' : idxAddrV 1 c0 (.int .i64 0) = some (.ptr b1' o1) := y1
        simp [x1, x2, n1, hlk, hlk', y1', y3, scOV_if]
        refine (refWord_spec lp (l[i][0]).natAbs l[i][0] h2 (Nat.le_refl _) hin.1 hin.2).mono ?_
        rintro r h3 ⟨rfl, k3⟩
        simp [scOV_if]
        refine ⟨by omega, ?_⟩
        have hwk' : IntKind.i64.wrap 1 = 1 := rfl
        simp at hkn
        simp [hwk']
        exact ⟨l[i].length - 1, by omega, 1, by omega, rfl, by rw [List.map_take, hkn]; simp, k2.trans k3⟩
      · have hk0n : 0 < k := by omega
        have hk0' : (0 : Int) < k := by omega
        rw [if_neg hk0] at hkn
        simp [x1, x2, n1, hlk', y1, y3, hk0', hk0n, scOV_if]
        refine ⟨by omega, ?_⟩
        refine (refWord_spec lp (l[i][k]).natAbs l[i][k] h2 (Nat.le_refl _) hin.1 hin.2).mono ?_
        rintro r h3 ⟨rfl, k3⟩
        simp [scOV_if]
        refine ⟨by omega, ?_⟩
        simp [hwk]
        exact ⟨l[i].length - (k + 1), by omega, k + 1, by omega, rfl, by rw [hkn]; simp, k2.trans k3⟩

end Go.Cl

namespace Go.Cl
open Go
set_option linter.unusedSimpArgs false
set_option linter.unusedVariables false
set_option maxHeartbeats 1000000

variable {p : PP}

theorem scWords_ne {s : List UInt8} {l : List (List UInt8)} (h : wordsP s = some l) : ∀ w ∈ l, w ≠ [] ∧ w.length ≤ s.length := by
  unfold wordsP at h
  split at h
  · cases h; simp
  · split at h
    · rename_i ha
      cases h
      intro w hw
      refine ⟨?_, splitC_part hw⟩
      have := List.all_eq_true.1 ha w hw
      rintro rfl
      simp [wordOk] at this
    · cases h

theorem scWords_len {s : List UInt8} {l : List (List UInt8)} (h : wordsP s = some l) : l.length ≤ s.length + 1 := by
  unfold wordsP at h
  split at h
  · cases h; simp
  · split at h
    · cases h; exact splitC_len_le 32 s
    · cases h

theorem linesOf_bound : ∀ (ls : List (List UInt8)), ls.length ≤ (linesOf ls).length ∧ ∀ l ∈ ls, l.length ≤ (linesOf ls).length
  | [] => by simp [linesOf]
  | w :: r => by
    obtain ⟨a, b⟩ := linesOf_bound r
    have e : linesOf (w :: r) = w ++ [10] ++ linesOf r := by simp [linesOf]
    rw [e]
    simp only [List.length_append, List.length_cons, List.length_nil]
    refine ⟨by omega, fun l hl => ?_⟩
    rcases List.mem_cons.1 hl with rfl | hl
    · omega
    · have := b l hl; omega

theorem lines_bound {s : List UInt8} {ls : List (List UInt8)} (h : linesP s = some ls) : ls.length ≤ s.length ∧ ∀ l ∈ ls, l.length ≤ s.length := by
  have := linesOf_bound ls
  rwa [of_lines h] at this

def LiInv (wv : CV) (ws : List (List UInt8)) (h : Heap) (m : Nat) (e : Env) (h' : Heap) : Prop :=
  ∃ (i : Nat) (acc : CV) (out : List Int), i ≤ ws.length ∧ m = ws.length - i ∧ e = [(6, acc), (19, wv), (20, .int .i64 ws.length), (21, .int .i64 i)] ∧ Keep NoneOf h h' ∧ OwnL (.int .i64) h' NoneOf acc out ∧
    (∀ b, acc.blk = some b → h.length ≤ b) ∧ out.length = i ∧ lineGo ws [] = lineGo (ws.drop i) out

/-- a row of numbers of one's own, or why not -/
def LineQ (x : List Int × Int) (h : Heap) (r : CV) (h' : Heap) : Prop :=
  ∃ v, r = .tup [v, .int .i64 x.2] ∧ OwnL (.int .i64) h' NoneOf v x.1 ∧ (∀ b, v.blk = some b → h.length ≤ b) ∧ Keep NoneOf h h'

theorem line_spec (lp : LP p) {s : List UInt8} {h : Heap} (hs : s.length ≤ 10000000) : WF p 471 [.str s] h (LineQ (lineR s) h) := by
  refine WF_of (by rw [lp.pg]; exact S.pg471) (lp.no ⟨rfl, rfl⟩) ?_
  show W p S.b471 _ _ (retQ [.t 2, .t 3] _)
  unfold S.b471
  simp
  refine (wordSplit_spec lp (by omega)).mono ?_
  rintro r h1 ⟨wv, rfl, sw, k1⟩
  unfold lineR
  cases hw : wordsP s with
  | none =>
    simp [errOf]
    exact ⟨.nils, rfl, OwnL.nil, by simp [CV.blk], k1⟩
  | some ws =>
    rw [hw] at sw
    have sw : Sl .str h1 (From h) wv ws := sw
    have n0 := sw.len (by decide)
    have hwl := scWords_len hw
    have hwn := scWords_ne hw
    simp [errOf, n0]
    refine W_loop (LiInv wv ws h1) ?_ ws.length ⟨0, .nils, [], by omega, by omega, rfl, Keep.refl _ _, OwnL.nil, by simp [CV.blk], rfl, rfl⟩
    rintro m e h2 ⟨i, acc, out, hi, rfl, rfl, k2, ow, ha, ho, hg⟩
    by_cases hie : i = ws.length
    · subst hie
      rw [List.drop_length] at hg
      rw [hg, lineGo]
      simp
      exact ⟨_, rfl, ow, fun b hb => by have := ha b hb; have := k1.len; omega, k1.trans k2⟩
    · have hlt : i < ws.length := by omega
      have hlt' : (i : Int) < ws.length := by omega
      obtain ⟨bb, o, row, x1, x2, x3, x4⟩ := (sw.on k2).row (k := .i64) (by decide) hlt
      have x4 : row = [.str ws[i]] := x4
      subst x4
      have x3' := x3 0 (by decide)
      simp at x3'
      have x1 : idxAddrV 1 wv (.int .i64 (i : Int)) = some (.ptr bb o) := x1
      have hwi := hwn _ (List.getElem_mem hlt)
      have hw1 : IntKind.i64.wrap ((i : Int) + 1) = ((i + 1 : Nat) : Int) := by rw [w64 (by omega) (by omega)]; omega
      rw [List.drop_eq_getElem_cons hlt, lineGo] at hg
      simp [hlt', x1, x3']
      refine (wordNumber_spec lp (by omega)).mono ?_
      rintro r h3 ⟨rfl, k3⟩
      unfold smP at hg
      generalize numP ws[i] = N at *
      obtain ⟨n, e⟩ := N
      simp only [] at hg ⊢
      have hfin : ∀ h4, Keep NoneOf h2 h4 → LineQ ([], e) h (.tup [.nils, .int .i64 e]) h4 := fun h4 k4 => ⟨.nils, rfl, OwnL.nil, by simp [CV.blk], (k1.trans k2).trans k4⟩
      have hfin14 : LineQ ([], 14) h (.tup [.nils, .int .i64 14]) h3 := ⟨.nils, rfl, OwnL.nil, by simp [CV.blk], (k1.trans k2).trans k3⟩
      by_cases he : e = 0
      · subst he
        by_cases j1 : n < -2147483648
        · have hq : (if (0 : Int) = 0 ∧ (n < -2147483648 ∨ 2147483647 < n) then ((n, 14) : Int × Int) else (n, 0)) = (n, 14) := if_pos ⟨rfl, .inl j1⟩
          rw [hq, if_neg (by simp)] at hg
          rw [hg]
          simp [j1]
          exact hfin14
        · by_cases j2 : 2147483647 < n
          · have hq : (if (0 : Int) = 0 ∧ (n < -2147483648 ∨ 2147483647 < n) then ((n, 14) : Int × Int) else (n, 0)) = (n, 14) := if_pos ⟨rfl, .inr j2⟩
            rw [hq, if_neg (by simp)] at hg
            rw [hg]
            simp [j1, j2]
            exact hfin14
          · have hq : (if (0 : Int) = 0 ∧ (n < -2147483648 ∨ 2147483647 < n) then ((n, 14) : Int × Int) else (n, 0)) = (n, 0) := if_neg (by omega)
            rw [hq, if_pos rfl] at hg
            simp [j1, j2, fillC, splice, spread, cellsAt]
            refine OV_push (e := .int .i64) (x := n) ((ow.on k3).on (Keep.app _ _ _)) rfl (fun _ e => e.elim) (by simp [big]; omega) (by decide) ?_
            intro v' h4 ow4 k4 hb4
            simp [hw1]
            refine ⟨ws.length - (i + 1), by omega, i + 1, v', out ++ [n], by omega, rfl, rfl, ((k2.trans k3).trans (Keep.app _ _ _)).then k4 fun b hb e => by have := ha b e; omega, ow4, fun b hb => ?_, by simp; omega, hg⟩
            rcases hb4 b hb with q | q
            · exact ha b q
            · have := (k2.trans k3).len; simp at q; omega
      · have hq : (if e = 0 ∧ (n < -2147483648 ∨ 2147483647 < n) then ((n, 14) : Int × Int) else (n, e)) = (n, e) := if_neg (by simp [he])
        rw [hq, if_neg he] at hg
        rw [hg]
        simp [he]
        exact hfin _ k3

/-- a script of one's own, or which line is wrong and why -/
def ScrQ (x : List (List Int) × Int × Int) (h : Heap) (r : CV) (h' : Heap) : Prop :=
  ∃ v, r = .tup [v, .int .i64 x.2.1, .int .i64 x.2.2] ∧ Sl (.sl (.int .i64)) h' (fun b => h.length ≤ b) v x.1 ∧ Keep NoneOf h h'

def PaInv (lv : CV) (ls : List (List UInt8)) (h : Heap) (m : Nat) (e : Env) (h' : Heap) : Prop :=
  ∃ (i : Nat) (acc : CV) (out : List (List Int)), i ≤ ls.length ∧ m = ls.length - i ∧ e = [(7, acc), (22, lv), (23, .int .i64 ls.length), (24, .int .i64 i)] ∧ Keep NoneOf h h' ∧ OwnN (.sl (.int .i64)) h.length h' acc out ∧
    (∀ b, acc.blk = some b → h.length ≤ b) ∧ out.length = i ∧ scrGo 0 ls [] = scrGo i (ls.drop i) out

theorem scParse_spec (lp : LP p) {s : List UInt8} {h : Heap} (hs : s.length ≤ 10000000) : WF p 463 [.str s] h (ScrQ (scrR s) h) := by
  refine WF_of (by rw [lp.pg]; exact S.pg463) (lp.no ⟨rfl, rfl⟩) ?_
  show W p S.b463 _ _ (retQ [.t 2, .t 3, .t 4] _)
  unfold S.b463
  simp
  refine (wordLines_spec lp (by omega)).mono ?_
  rintro r h1 ⟨lv, rfl, sl, k1⟩
  unfold scrR
  cases hl : linesP s with
  | none =>
    simp [errOf]
    exact ⟨.nils, rfl, Sl.nil, k1⟩
  | some ls =>
    rw [hl] at sl
    have sl : Sl .str h1 (From h) lv ls := sl
    have n0 := sl.len (by decide)
    obtain ⟨hll, hlm⟩ := lines_bound hl
    simp [errOf, n0]
    refine W_loop (PaInv lv ls h1) ?_ ls.length ⟨0, .nils, [], by omega, by omega, rfl, Keep.refl _ _, OwnN.nil, by simp [CV.blk], rfl, rfl⟩
    rintro m e h2 ⟨i, acc, out, hi, rfl, rfl, k2, ow, ha, ho, hg⟩
    by_cases hie : i = ls.length
    · subst hie
      rw [List.drop_length] at hg
      rw [hg, scrGo]
      have sa := ow.sl ha
      simp
      refine (check_spec lp.pg (lp.no ⟨rfl, rfl⟩) (lp.no ⟨rfl, rfl⟩) (lp.no ⟨rfl, rfl⟩) (lp.no ⟨rfl, rfl⟩) sa (by simp [big]; omega)).mono ?_
      rintro r h3 ⟨rfl, rfl⟩
      by_cases hc : (checkS out).2 = 0
      · simp [hc]
        exact ⟨_, rfl, sa.mono fun b hb => by have := k1.len; omega, k1.trans k2⟩
      · simp [hc]
        exact ⟨_, rfl, Sl.nil, k1.trans k2⟩
    · have hlt : i < ls.length := by omega
      have hlt' : (i : Int) < ls.length := by omega
      obtain ⟨bb, o, row, x1, x2, x3, x4⟩ := (sl.on k2).row (k := .i64) (by decide) hlt
      have x4 : row = [.str ls[i]] := x4
      subst x4
      have x3' := x3 0 (by decide)
      simp at x3'
      have x1 : idxAddrV 1 lv (.int .i64 (i : Int)) = some (.ptr bb o) := x1
      have hwi := hlm _ (List.getElem_mem hlt)
      have hw1 : IntKind.i64.wrap ((i : Int) + 1) = ((i + 1 : Nat) : Int) := by rw [w64 (by omega) (by omega)]; omega
      rw [List.drop_eq_getElem_cons hlt, scrGo] at hg
      simp [hlt', x1, x3']
      refine (line_spec lp (by omega)).mono ?_
      rintro r h3 ⟨rv, rfl, orow, hrb, k3⟩
      generalize lineR ls[i] = L at *
      obtain ⟨ln, e⟩ := L
      simp only [] at hg orow ⊢
      by_cases he : e = 0
      · subst he
        rw [if_pos rfl] at hg
        have hsc := orow.scalar
        simp [fillC, splice, spread, cellsAt, hsc, CV.cells_scalar hsc]
        have ow3 := (ow.on k3).on (Keep.app NoneOf h3 [.arr [rv] .tight])
        have orow3 := orow.on (Keep.app NoneOf h3 [.arr [rv] .tight])
        refine OV_pushN (e := .sl (.int .i64)) (x := ln) ow3 ⟨rv, rfl, orow3.sl⟩ (fun b hb hlt => ?_) (by simp [big]; omega) (by decide) ?_
        · have := k2.len
          rcases hb with hb | hb
          · exact hb.elim
          · have := hrb b hb
            exact ⟨by omega, fun hv => by have := ow.blk b hv; omega⟩
        · intro v' h4 ow4 k4 hb4
          simp [hw1]
          refine ⟨ls.length - (i + 1), by omega, i + 1, v', out ++ [ln], by omega, rfl, rfl, ((k2.trans k3).trans (Keep.app _ _ _)).then k4 fun b hb e => by have := ha b e; omega, ow4, fun b hb => ?_, by simp; omega, hg⟩
          rcases hb4 b hb with q | q
          · exact ha b q
          · have := (k2.trans k3).len; simp at q; omega
      · rw [if_neg he] at hg
        rw [hg]
        simp [he]
        exact ⟨.nils, rfl, Sl.nil, (k1.trans k2).trans k3⟩

/-! ### the document's -/

theorem scSmall_spec (lp : LP p) {s : List UInt8} {h : Heap} (hs : s.length < 4294967281) : WF p 138 [.str s] h fun r h' => r = .tup [.int .i64 (if (smP s).2 = 0 then (smP s).1 else 0), .int .i64 (smP s).2] ∧ Keep NoneOf h h' := by
  refine WF_of (by rw [lp.pg]; exact S.pg138) (lp.no ⟨rfl, rfl⟩) ?_
  show W p S.b138 _ _ (retQ [.t 2, .t 3] _)
  unfold S.b138
  simp
  refine (refNumber_spec lp hs).mono ?_
  rintro r h1 ⟨rfl, k1⟩
  unfold smP
  generalize numP s = N
  obtain ⟨n, e⟩ := N
  by_cases he : e = 0
  · subst he
    by_cases h1' : n < -2147483648
    · simp [h1']; exact k1
    · by_cases h2' : 2147483647 < n
      · simp [h1', h2']; exact k1
      · simp [h1', h2']; exact k1
  · simp [he]; exact k1

def PbInv (lv : CV) (ls : List (List UInt8)) (h : Heap) (m : Nat) (e : Env) (h' : Heap) : Prop :=
  ∃ (i : Nat) (acc : CV) (out : List (List Int)), i ≤ ls.length ∧ m = ls.length - i ∧ e = [(5, lv), (7, acc), (8, .int .i64 i)] ∧ Keep NoneOf h h' ∧ OwnN (.sl (.int .i64)) h.length h' acc out ∧
    (∀ b, acc.blk = some b → h.length ≤ b) ∧ out.length = i ∧ scrGo 0 ls [] = scrGo i (ls.drop i) out
def PcInv (lv acc wv : CV) (i : Nat) (ws : List (List UInt8)) (h : Heap) (m : Nat) (e : Env) (h' : Heap) : Prop :=
  ∃ (k : Nat) (rv : CV) (out : List Int), k ≤ ws.length ∧ m = ws.length - k ∧ e = [(5, lv), (7, acc), (8, .int .i64 i), (9, wv), (11, rv), (12, .int .i64 k)] ∧ Keep NoneOf h h' ∧ OwnL (.int .i64) h' NoneOf rv out ∧
    (∀ b, rv.blk = some b → h.length ≤ b) ∧ out.length = k ∧ lineGo ws [] = lineGo (ws.drop k) out

theorem refParse_spec (lp : LP p) {s : List UInt8} {h : Heap} (hs : s.length ≤ 10000000) : WF p 467 [.str s] h (ScrQ (scrR s) h) := by
  refine WF_of (by rw [lp.pg]; exact S.pg467) (lp.no ⟨rfl, rfl⟩) ?_
  show W p S.b467 _ _ (retQ [.t 2, .t 3, .t 4] _)
  unfold S.b467
  simp
  refine (refLines_spec lp (by omega)).mono ?_
  rintro r h1 ⟨lv, rfl, sl, k1⟩
  unfold scrR
  cases hl : linesP s with
  | none =>
    simp [errOf]
    exact ⟨.nils, rfl, Sl.nil, k1⟩
  | some ls =>
    rw [hl] at sl
    have sl : Sl .str h1 (From h) lv ls := sl
    obtain ⟨hll, hlm⟩ := lines_bound hl
    simp [errOf]
    refine W_loop (PbInv lv ls h1) ?_ ls.length ⟨0, .nils, [], by omega, by omega, rfl, Keep.refl _ _, OwnN.nil, by simp [CV.blk], rfl, rfl⟩
    rintro m e h2 ⟨i, acc, out, hi, rfl, rfl, k2, ow, ha, ho, hg⟩
    have n0 := (sl.on k2).len (by decide)
    by_cases hie : i = ls.length
    · subst hie
      rw [List.drop_length] at hg
      rw [hg, scrGo]
      have sa := ow.sl ha
      simp [n0]
      refine (refCheck_spec lp.pg (lp.no ⟨rfl, rfl⟩) sa (by simp [big]; omega)).mono ?_
      rintro r h3 ⟨rfl, rfl⟩
      by_cases hc : (checkS out).2 = 0
      · simp [hc]
        exact ⟨_, rfl, sa.mono fun b hb => by have := k1.len; omega, k1.trans k2⟩
      · simp [hc]
        exact ⟨_, rfl, Sl.nil, k1.trans k2⟩
    · have hlt : i < ls.length := by omega
      have hlt' : (i : Int) < ls.length := by omega
      obtain ⟨bb, o, row, x1, x2, x3, x4⟩ := (sl.on k2).row (k := .i64) (by decide) hlt
      have x4 : row = [.str ls[i]] := x4
      subst x4
      have x3' := x3 0 (by decide)
      simp at x3'
      have x1 : idxAddrV 1 lv (.int .i64 (i : Int)) = some (.ptr bb o) := x1
      have hwi := hlm _ (List.getElem_mem hlt)
      have hw1 : IntKind.i64.wrap ((i : Int) + 1) = ((i + 1 : Nat) : Int) := by rw [w64 (by omega) (by omega)]; omega
      rw [List.drop_eq_getElem_cons hlt, scrGo] at hg
      simp [n0, hlt', x1, x3']
      refine (refSplit_spec lp (by omega)).mono ?_
      rintro r h3 ⟨wv, rfl, sw, k3⟩
      unfold lineR at hg
      cases hw : wordsP ls[i] with
      | none =>
        rw [hw] at hg
        simp only [] at hg
        rw [if_neg (by decide)] at hg
        rw [hg]
        simp [errOf]
        exact ⟨.nils, rfl, Sl.nil, (k1.trans k2).trans k3⟩
      | some ws =>
        rw [hw] at hg sw
        have sw : Sl .str h3 (From h2) wv ws := sw
        simp only [] at hg
        have hwl := scWords_len hw
        have hwn := scWords_ne hw
        simp [errOf]
        refine W_loop (PcInv lv acc wv i ws h3) ?_ ws.length ⟨0, .nils, [], by omega, by omega, rfl, Keep.refl _ _, OwnL.nil, by simp [CV.blk], rfl, rfl⟩
        rintro m e h4 ⟨k, rv, ln, hk, rfl, rfl, k4, orow, hrb, hln, hgo⟩
        have n1 := (sw.on k4).len (by decide)
        by_cases hkl : k = ws.length
        · subst hkl
          rw [List.drop_length, lineGo] at hgo
          rw [hgo, if_pos rfl] at hg
          have hsc := orow.scalar
          simp [n1, fillC, splice, spread, cellsAt, hsc, CV.cells_scalar hsc]
          have ow3 := ((ow.on k3).on k4).on (Keep.app NoneOf h4 [.arr [rv] .tight])
          have orow3 := orow.on (Keep.app NoneOf h4 [.arr [rv] .tight])
          refine OV_pushN (e := .sl (.int .i64)) (x := ln) ow3 ⟨rv, rfl, orow3.sl⟩ (fun b hb hlt => ?_) (by simp [big]; omega) (by decide) ?_
          · have := k2.len
            have := k3.len
            rcases hb with hb | hb
            · exact hb.elim
            · have := hrb b hb
              exact ⟨by omega, fun hv => by have := ow.blk b hv; omega⟩
          · intro v' h5 ow5 k5 hb5
            simp [hw1]
            refine ⟨ls.length - (i + 1), by omega, i + 1, v', out ++ [ln], by omega, rfl, rfl, (((k2.trans k3).trans k4).trans (Keep.app _ _ _)).then k5 fun b hb e => by have := ha b e; omega, ow5, fun b hb => ?_, by simp; omega, hg⟩
            rcases hb5 b hb with q | q
            · exact ha b q
            · have := ((k2.trans k3).trans k4).len; simp at q; omega
        · have hlk : k < ws.length := by omega
          have hlk' : (k : Int) < ws.length := by omega
          obtain ⟨b2, o2, row2, y1, y2, y3, y4⟩ := (sw.on k4).row (k := .i64) (by decide) hlk
          have y4 : row2 = [.str ws[k]] := y4
          subst y4
          have y3' := y3 0 (by decide)
          simp at y3'
          have y1 : idxAddrV 1 wv (.int .i64 (k : Int)) = some (.ptr b2 o2) := y1
          have hwk := hwn _ (List.getElem_mem hlk)
          have hwk1 : IntKind.i64.wrap ((k : Int) + 1) = ((k + 1 : Nat) : Int) := by rw [w64 (by omega) (by omega)]; omega
          rw [List.drop_eq_getElem_cons hlk, lineGo] at hgo
          simp [n1, hlk', y1, y3']
          refine (scSmall_spec lp (by omega)).mono ?_
          rintro r h5 ⟨rfl, k5⟩
          generalize smP ws[k] = N at *
          obtain ⟨n, e⟩ := N
          simp only [] at hgo ⊢
          by_cases he : e = 0
          · subst he
            rw [if_pos rfl] at hgo
            simp [fillC, splice, spread, cellsAt]
            refine OV_push (e := .int .i64) (x := n) ((orow.on k5).on (Keep.app _ _ _)) rfl (fun _ e => e.elim) (by simp [big]; omega) (by decide) ?_
            intro v' h6 ow6 k6 hb6
            simp [hwk1]
            refine ⟨ws.length - (k + 1), by omega, k + 1, v', ln ++ [n], by omega, rfl, rfl, ((k4.trans k5).trans (Keep.app _ _ _)).then k6 fun b hb e => by have := hrb b e; omega, ow6, fun b hb => ?_, by simp; omega, hgo⟩
            rcases hb6 b hb with q | q
            · exact hrb b q
            · have := (k4.trans k5).len; simp at q; omega
          · rw [if_neg he] at hgo
            rw [hgo, if_neg he] at hg
            rw [hg]
            simp [he]
            exact ⟨.nils, rfl, Sl.nil, (((k1.trans k2).trans k3).trans k4).trans k5⟩

end Go.Cl

namespace Go.Cl
open Go
set_option linter.unusedSimpArgs false
set_option linter.unusedVariables false
set_option maxHeartbeats 1000000

variable {p : PP}

theorem fit_of {l : List (List Int)} (h : (checkS l).2 = 0) : ScFit l := by
  obtain ⟨_, a, b⟩ := checkS_ok h
  exact ⟨by omega, fun r hr => by have := (b r hr).1; omega, fun r hr x hx => by have := (b r hr).2 x hx; constructor <;> omega⟩

theorem scriptTells_law (lp : LP p) (hp : p.pr = addKnown [457] lib) {v w : CV} {a b : List (List Int)} {P Q : Nat → Prop} {h : Heap} (s0 : Sl (.sl (.int .i64)) h P v a) (s1 : Sl (.sl (.int .i64)) h Q w b) :
    WF p 456 [v, w] h fun r _ => r = .bool true := by
  refine WF_of (by rw [lp.pg]; exact S.pg456) (lp.no ⟨rfl, rfl⟩) ?_
  show W p S.b456 _ _ (retQ [.t 4] _)
  unfold S.b456
  try simp
  refine WF_yes hp rfl ?_
  try simp
  refine (asks_spec lp.pg (lp.no ⟨rfl, rfl⟩) s0).mono ?_
  rintro r h' ⟨rfl, rfl⟩
  cases hA : asksP a with
  | false => simp
  | true =>
    try simp
    refine (asks_spec lp.pg (lp.no ⟨rfl, rfl⟩) s1).mono ?_
    rintro r h' ⟨rfl, rfl⟩
    cases hB : asksP b with
    | false => simp
    | true =>
      have hla : a.length ≤ 120 ∧ ∀ r ∈ a, r.length ≤ 70 := by
        unfold asksP at hA
        simpa using hA
      try simp
      refine (check_spec lp.pg (lp.no ⟨rfl, rfl⟩) (lp.no ⟨rfl, rfl⟩) (lp.no ⟨rfl, rfl⟩) (lp.no ⟨rfl, rfl⟩) s0 (by simp [big]; omega)).mono ?_
      rintro r h' ⟨rfl, rfl⟩
      try simp
      refine (refCheck_spec lp.pg (lp.no ⟨rfl, rfl⟩) s0 (by simp [big]; omega)).mono ?_
      rintro r h' ⟨rfl, rfl⟩
      try simp
      refine (same_spec lp.pg (lp.no ⟨rfl, rfl⟩) (lp.no ⟨rfl, rfl⟩) (lp.no ⟨rfl, rfl⟩) (lp.no ⟨rfl, rfl⟩) s0 s1 (by simp [big]; omega) fun r hr => by have := hla.2 r hr; simp [big]; omega).mono ?_
      rintro r h' ⟨rfl, rfl⟩
      try simp
      refine (refSame_spec lp.pg (lp.no ⟨rfl, rfl⟩) (lp.no ⟨rfl, rfl⟩) s0 s1 (by simp [big]; omega) fun r hr => by have := hla.2 r hr; simp [big]; omega).mono ?_
      rintro r h' ⟨rfl, rfl⟩
      by_cases hc : (checkS a).2 = 0
      · have f := fit_of hc
        simp [hc]
        refine (scText_spec lp s0 f).mono ?_
        rintro r h1 ⟨rfl, k1⟩
        have hlen : (scrT a).length ≤ 10000000 := by
          have := scrT_len (l := a) (n := 70) hla.2
          have h2 : a.length * (70 * 22 + 1) ≤ 120 * (70 * 22 + 1) := Nat.mul_le_mul_right _ hla.1
          omega
        have hback := scrR_back hc
        try simp
        refine (scParse_spec lp hlen).mono ?_
        rintro r h2 ⟨x, rfl, sx, k2⟩
        rw [hback] at sx ⊢
        have k12 := k1.trans k2
        try simp
        refine (refText_spec lp (s0.on k12) f).mono ?_
        rintro r h3 ⟨rfl, k3⟩
        try simp
        refine (lawSame_spec lp.pg (lp.no ⟨rfl, rfl⟩) (lp.no ⟨rfl, rfl⟩) (lp.no ⟨rfl, rfl⟩) (sx.on k3) ((s0.on k12).on k3) (by simp [big]; omega) fun r hr => by have := hla.2 r hr; simp [big]; omega).mono ?_
        rintro r h4 ⟨rfl, rfl⟩
        try simp
      · simp [hc]

theorem scriptReads_law (lp : LP p) (hp : p.pr = addKnown [457] lib) {s : List UInt8} {h : Heap} : WF p 466 [.str s] h fun r _ => r = .bool true := by
  refine WF_of (by rw [lp.pg]; exact S.pg466) (lp.no ⟨rfl, rfl⟩) ?_
  show W p S.b466 _ _ (retQ [.t 2] _)
  unfold S.b466
  try simp
  refine WF_yes hp rfl ?_
  by_cases hs : 1000 < s.length
  · have hs' : (1000 : Int) < s.length := by omega
    simp [hs', hs]
  · have hs' : ¬ (1000 : Int) < s.length := by omega
    simp [hs', hs]
    refine (scParse_spec lp (by omega)).mono ?_
    rintro r h1 ⟨x, rfl, sx, k1⟩
    try simp
    refine (refParse_spec lp (by omega)).mono ?_
    rintro r h2 ⟨y, rfl, sy, k2⟩
    have hok := scrR_ok (s := s)
    have hch : (scrR s).2.2 = 0 → (checkS (scrR s).1).2 = 0 := scrR_check
    have hsh : (scrR s).1.length ≤ 4096 ∧ ∀ r ∈ (scrR s).1, r.length ≤ 64 := by
      by_cases he : (scrR s).2.2 = 0
      · obtain ⟨_, a, b⟩ := checkS_ok (hch he)
        exact ⟨a, fun r hr => (b r hr).1⟩
      · rw [scrR_none he]; simp
    generalize scrR s = X at *
    obtain ⟨l, i, e⟩ := X
    simp only [] at *
    try simp
    refine (lawSame_spec lp.pg (lp.no ⟨rfl, rfl⟩) (lp.no ⟨rfl, rfl⟩) (lp.no ⟨rfl, rfl⟩) (sx.on k2) sy (by simp [big]; omega) fun r hr => by have := hsh.2 r hr; simp [big]; omega).mono ?_
    rintro r h4 ⟨rfl, rfl⟩
    by_cases he : e = 0
    · simp [he]
      refine (scText_spec lp (sx.on k2) (fit_of (hch he))).mono ?_
      rintro r h5 ⟨rfl, k5⟩
      rw [hok he]
      try simp
    · simp [he]

end Go.Cl
