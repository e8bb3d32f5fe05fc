/-
  Layer 24: which script may be: Check; as many ticks, as many asks as may be, and one more: ScriptSizes.
-/
import Derived.Test.YtnfajbkbmlmdoaaGreatDoorM4
import Derived.Test.YtnfajbkbmlmdoaaGreatDoorM6
import Derived.Test.YtnfajbkbmlmdoaaGreatDoorS
namespace Go.Cl
open Go
set_option linter.unusedSimpArgs false
set_option linter.unusedVariables false
set_option maxHeartbeats 1000000

variable {p : PP}

/-- no number of a task -/
def badN (x : Int) : Bool := decide (x < -1) || decide (12 < x)

theorem bad_spec (hp : p.Pg 451 = some S.f451) (hq : p.pr 451 = none) {h : Heap} {x : Int} : WF p 451 [.int .i64 x] h fun r h' => r = .bool (badN x) ∧ h' = h := by
  refine WF_of hp hq ?_
  show W p S.b451 _ _ (retQ [.t 2] _)
  unfold S.b451
  by_cases h1 : x < -1
  · simp [h1, badN]
  · simp [h1, badN]

def IfInv (v : CV) (l : List Int) (h : Heap) (m : Nat) (e : Env) (h' : Heap) : Prop :=
  ∃ i : Nat, i ≤ l.length ∧ m = l.length - i ∧ e = [(0, v), (1, .fn 451 []), (7, .int .i64 l.length), (8, .int .i64 i)] ∧ h' = h ∧ (l.take i).any badN = false

theorem idxf_spec (hp : p.Pg = S.pg) (q455 : p.pr 455 = none) (q451 : p.pr 451 = none) {h : Heap} {v : CV} {l : List Int} {P : Nat → Prop} (s : Sl (.int .i64) h P v l) (hb : l.length ≤ big) :
    WF p 455 [v, .fn 451 []] h fun r h' => (∃ k : Int, r = .int .i64 k ∧ decide (0 ≤ k) = l.any badN) ∧ h' = h := by
  refine WF_of (by rw [hp]; exact S.pg455) q455 ?_
  show W p S.b455 _ _ (retQ [.t 4] _)
  unfold S.b455
  have n0 := s.len (by decide)
  simp [n0]
  refine W_loop (IfInv v l h) ?_ l.length ⟨0, by omega, by omega, rfl, rfl, rfl⟩
  rintro m e h' ⟨i, hi, rfl, rfl, rfl, ht⟩
  by_cases hia : i = l.length
  · subst hia
    rw [List.take_length] at ht
    simp [ht]
  · have hlt : i < l.length := by omega
    have hlt' : (i : Int) < l.length := by omega
    obtain ⟨b0, o0, x1, x2, x3⟩ := readI_idx (k' := .i64) s.ints hlt
    have hw : IntKind.i64.wrap ((i : Int) + 1) = ((i + 1 : Nat) : Int) := by
      simp [big] at hb
      rw [w64 (by omega) (by omega)]; omega
    simp [hlt', x1, x3]
    refine (bad_spec (by rw [hp]; exact S.pg451) q451).mono ?_
    rintro r h' ⟨rfl, rfl⟩
    cases hx : badN l[i] with
    | true =>
      have : l.any badN = true := List.any_eq_true.2 ⟨l[i], List.getElem_mem hlt, hx⟩
      simp [hx, this]
    | false =>
      simp [hx, hw]
      refine ⟨l.length - (i + 1), by omega, i + 1, by omega, rfl, rfl, rfl, ?_⟩
      rw [← List.take_append_getElem hlt, List.any_append, ht]
      simp [hx]

theorem cont_spec (hp : p.Pg = S.pg) (q452 : p.pr 452 = none) (q455 : p.pr 455 = none) (q451 : p.pr 451 = none) {h : Heap} {v : CV} {l : List Int} {P : Nat → Prop} (s : Sl (.int .i64) h P v l) (hb : l.length ≤ big) :
    WF p 452 [v, .fn 451 []] h fun r h' => r = .bool (l.any badN) ∧ h' = h := by
  refine WF_of (by rw [hp]; exact S.pg452) q452 ?_
  show W p S.b452 _ _ (retQ [.t 4] _)
  unfold S.b452
  simp
  refine (idxf_spec hp q455 q451 s hb).mono ?_
  rintro r h' ⟨⟨k, rfl, hk⟩, rfl⟩
  simp [← hk]

/-- which line is wrong, and why -/
def checkL : Nat → List (List Int) → Int × Int
  | _, [] => (0, 0)
  | i, r :: rs => if 64 < r.length then ((i : Int), 18) else if r.any badN = true then ((i : Int), 1) else checkL (i + 1) rs
def checkS (l : List (List Int)) : Int × Int := if 4096 < l.length then (0, 18) else checkL 0 l

def CsInv (v : CV) (l : List (List Int)) (h : Heap) (m : Nat) (e : Env) (h' : Heap) : Prop :=
  ∃ i : Nat, i ≤ l.length ∧ m = l.length - i ∧ e = [(9, v), (10, .int .i64 l.length), (11, .int .i64 i)] ∧ h' = h ∧ checkL 0 l = checkL i (l.drop i)

theorem check_spec (hp : p.Pg = S.pg) (q447 : p.pr 447 = none) (q452 : p.pr 452 = none) (q455 : p.pr 455 = none) (q451 : p.pr 451 = none) {h : Heap} {v : CV} {l : List (List Int)} {P : Nat → Prop} (s : Sl (.sl (.int .i64)) h P v l) (hb : l.length ≤ big) :
    WF p 447 [v] h fun r h' => r = .tup [.int .i64 (checkS l).1, .int .i64 (checkS l).2] ∧ h' = h := by
  refine WF_of (by rw [hp]; exact S.pg447) q447 ?_
  show W p S.b447 _ _ (retQ [.t 2, .t 3] _)
  unfold S.b447
  have n0 := s.len (by decide)
  by_cases h1 : 4096 < l.length
  · have h1' : (4096 : Int) < l.length := by omega
    simp [n0, h1', checkS, h1]
  have h1' : ¬ (4096 : Int) < l.length := by omega
  simp [n0, h1', checkS, h1]
  refine W_loop (CsInv v l h) ?_ l.length ⟨0, by omega, by omega, rfl, rfl, rfl⟩
  rintro m e h' ⟨i, hi, rfl, rfl, rfl, ht⟩
  by_cases hia : i = l.length
  · subst hia
    rw [List.drop_length] at ht
    simp [ht, checkL]
  · have hlt : i < l.length := by omega
    have hlt' : (i : Int) < l.length := by omega
    obtain ⟨b0, o0, row, x1, x2, x3, v1, rfl, s1⟩ := s.row (k := .i64) (by decide) hlt
    have x4 := x3 0 (by decide)
    simp at x4
    have x1' : idxAddrV 1 v (.int .i64 (i : Int)) = some (.ptr b0 o0) := x1
    have n1 := s1.len (by decide)
    have hw : IntKind.i64.wrap ((i : Int) + 1) = ((i + 1 : Nat) : Int) := by
      rw [w64 (by omega) (by omega)]; omega
    rw [List.drop_eq_getElem_cons hlt, checkL] at ht
    by_cases h2 : 64 < l[i].length
    · have h2' : (64 : Int) < l[i].length := by omega
      rw [if_pos h2] at ht
      simp [hlt', x1', x4, n1, h2', ht]
    · have h2' : ¬ (64 : Int) < l[i].length := by omega
      rw [if_neg h2] at ht
      simp [hlt', x1', x4, n1, h2']
      refine (cont_spec hp q452 q455 q451 s1 (by simp [big]; omega)).mono ?_
      rintro r h' ⟨rfl, rfl⟩
      cases hx : l[i].any badN with
      | true =>
        rw [if_pos hx] at ht
        simp [hx, ht]
      | false =>
        rw [if_neg (by simp [hx])] at ht
        simp [hx, hw]
        exact ⟨l.length - (i + 1), by omega, i + 1, by omega, rfl, rfl, rfl, ht⟩

/-! ### ScriptSizes -/

/-- the asks that the law makes -/
def szRows (n w : Nat) (v : Int) : List (List Int) := if 0 < n then (List.replicate n []).set (n / 2) (List.replicate w v) else []

theorem checkL_nils (r : List (List Int)) : ∀ (k i : Nat), checkL i (List.replicate k [] ++ r) = checkL (i + k) r
  | 0, i => rfl
  | k + 1, i => by
    rw [List.replicate_succ, List.cons_append, checkL, if_neg (by simp), if_neg (by simp), checkL_nils r k (i + 1)]
    congr 1; omega

theorem checkS_rows {n w : Nat} {v : Int} : checkS (szRows n w v) =
    if 4096 < n then (0, 18) else if 0 < n ∧ 64 < w then (((n / 2 : Nat) : Int), 18) else if 0 < n ∧ 0 < w ∧ badN v = true then (((n / 2 : Nat) : Int), 1) else (0, 0) := by
  unfold checkS szRows
  by_cases hn : 0 < n
  · have hlt : n / 2 < (List.replicate n ([] : List Int)).length := by simp; omega
    rw [if_pos hn]
    simp only [List.length_set, List.length_replicate]
    by_cases h1 : 4096 < n
    · simp [h1]
    · rw [if_neg h1, if_neg h1, List.set_eq_take_append_cons_drop, if_pos hlt, List.take_replicate, List.drop_replicate, checkL_nils, checkL]
      have hr : checkL (0 + min (n / 2) n + 1) (List.replicate (n - (n / 2 + 1)) []) = (0, 0) := by
        have := checkL_nils [] (n - (n / 2 + 1)) (0 + min (n / 2) n + 1)
        rw [List.append_nil] at this
        rw [this, checkL]
      rw [hr]
      have hm : 0 + min (n / 2) n = n / 2 := by omega
      rw [hm]
      by_cases h2 : 64 < w
      · simp [hn, h2]
      · by_cases hw : 0 < w
        · have ha : (List.replicate w v).any badN = badN v := by
            cases hb : badN v with
            | true => exact List.any_eq_true.2 ⟨v, by simp; omega, hb⟩
            | false =>
              rw [← Bool.not_eq_true, List.any_eq_true]
              rintro ⟨x, hx, hbx⟩
              rw [List.eq_of_mem_replicate hx, hb] at hbx
              cases hbx
          simp [hn, h2, hw, ha]
        · obtain rfl : w = 0 := by omega
          simp
  · obtain rfl : n = 0 := by omega
    simp [checkL]

def SzInv (n w a : Nat) (v : Int) (B : Nat) (m : Nat) (e : Env) (h' : Heap) : Prop :=
  ∃ (j : Nat) (c : CV), j ≤ w ∧ m = w - j ∧ e = [(2, .int .i8 v), (7, .int .i64 n), (8, .int .i64 w), (9, .sl B 0 n n), (10, .int .i64 a), (11, .int .i64 j)] ∧
    h'[B]? = some (.arr ((List.replicate n CV.nils).set a c) .tight) ∧ OwnL (.int .i64) h' (fun _ => False) c (List.replicate j v) ∧ c.blk ≠ some B

theorem rows_sz {h : Heap} {n w : Nat} {v : Int} {c : CV} (s : Sl (.int .i64) h (fun _ => True) c (List.replicate w v)) (hn : n / 2 < n) : Rows (.sl (.int .i64)) h (fun _ => True) ((List.replicate n CV.nils).set (n / 2) c) ((List.replicate n []).set (n / 2) (List.replicate w v)) := by
  refine ⟨by simp [Cod.sl], fun i x hx => ?_⟩
  show ∃ v', _ = [v'] ∧ Sl (.int .i64) h _ v' x
  have hi : i < n := by
    have := (List.getElem?_eq_some_iff.1 hx).1
    simpa using this
  have hc : ∀ y, ((List.replicate n CV.nils).set (n / 2) c)[i]? = some y → (((List.replicate n CV.nils).set (n / 2) c).drop (i * 1)).take 1 = [y] := by
    intro y hy
    rw [Nat.mul_one, List.drop_eq_getElem_cons (by simpa using hi), List.take_succ_cons, List.take_zero]
    rw [List.getElem?_eq_getElem (by simpa using hi)] at hy
    exact congrArg (fun z => [z]) (Option.some.inj hy)
  by_cases he : n / 2 = i
  · subst he
    rw [List.getElem?_set_self (by simpa using hi)] at hx
    obtain rfl := Option.some.inj hx
    exact ⟨c, hc c (List.getElem?_set_self (by simpa using hi)), s⟩
  · rw [List.getElem?_set_ne he] at hx
    simp [hi] at hx
    subst hx
    refine ⟨.nils, hc .nils ?_, Sl.nil⟩
    rw [List.getElem?_set_ne he]
    simp [hi]

theorem sizes_law (hp : p.Pg = S.pg) {l : List Nat} {pr : Prims} (hl : p.pr = addKnown l pr) (h457 : l.contains 457 = true) (q468 : p.pr 468 = none) (q447 : p.pr 447 = none) (q452 : p.pr 452 = none) (q455 : p.pr 455 = none) (q451 : p.pr 451 = none)
    {h : Heap} {x0 x1 v : Int} (h0 : 0 ≤ x0) (h0' : x0 ≤ 65535) (h1 : 0 ≤ x1) (h1' : x1 ≤ 255) (hv : -128 ≤ v) (hv' : v ≤ 127) :
    WF p 468 [.int .u16 x0, .int .u8 x1, .int .i8 v] h fun r _ => r = .bool true := by
  refine WF_of (by rw [hp]; exact S.pg468) q468 ?_
  show W p S.b468 _ _ (retQ [.t 6] _)
  obtain ⟨n, hn⟩ : ∃ n : Nat, x0 % 4100 = (n : Int) := ⟨(x0 % 4100).toNat, by omega⟩
  obtain ⟨w, hw⟩ : ∃ w : Nat, x1 % 67 = (w : Int) := ⟨(x1 % 67).toNat, by omega⟩
  have hn' : n < 4100 := by omega
  have hw' : w < 67 := by omega
  have t0 : x0.tmod 4100 = (n : Int) := by rw [Int.tmod_eq_emod_of_nonneg h0, hn]
  have t1 : x1.tmod 67 = (w : Int) := by rw [Int.tmod_eq_emod_of_nonneg h1, hw]
  have b0 : IntKind.i64.wrap (n : Int) = n := wrap_in _ (by omega) (by omega)
  have b1 : IntKind.i64.wrap (w : Int) = w := wrap_in _ (by omega) (by omega)
  have bv : IntKind.i64.wrap v = v := wrap_in _ (by omega) (by omega)
  obtain ⟨a, ha⟩ : ∃ a, n / 2 = a := ⟨_, rfl⟩
  have d0 : (n : Int).tdiv 2 = (a : Int) := by rw [Int.tdiv_eq_ediv_of_nonneg (by omega)]; omega
  have d1 : IntKind.i64.wrap (a : Int) = (a : Int) := wrap_in _ (by omega) (by omega)
  have hbig : n ≤ big := by simp [big]; omega
  refine W_front 6 _ (fun e h' => ∃ rv r, e = (2, .int .i8 v) :: (7, .int .i64 n) :: (8, .int .i64 w) :: (9, rv) :: (10, .int .i64 a) :: r ∧ Sl (.sl (.int .i64)) h' (fun _ => True) rv (szRows n w v)) ?_ ?_
  · simp [front, S.b468]
    refine WF_known hl h457 ?_
    by_cases hn0 : 0 < n
    · have hn0' : (0 : Int) < n := by omega
      simp [t0, t1, b0, b1, d0, d1, hn0', hn0, hbig]
      refine W_loop (SzInv n w a v h.length) ?_ w ⟨0, .nils, by omega, by omega, rfl, ?_, OwnL.nil, by simp [CV.blk]⟩
      · rintro m e h' ⟨j, c, hj, rfl, rfl, g, ow, hc⟩
        by_cases hjw : j = w
        · subst hjw
          simp
          unfold szRows
          rw [if_pos hn0, ha]
          refine ⟨(List.replicate n CV.nils).set a c, .inr ⟨h.length, 0, n, n, _, _, rfl, ?_, g, ?_, ?_⟩, ⟨Nat.le_refl _, fun _ _ => trivial⟩, ?_⟩
          · simp [Cod.sl]
          · simp [Cod.sl]
          · rw [List.drop_zero, List.take_of_length_le (by simp [Cod.sl])]
          · have := rows_sz (n := n) (c := c) (ow.sl.mono (Q := fun _ => True) fun _ _ => trivial) (by omega)
            rwa [ha] at this
        · have hlt : (j : Int) < w := by omega
          have hw1 : IntKind.i64.wrap ((j : Int) + 1) = ((j + 1 : Nat) : Int) := by rw [w64 (by omega) (by omega)]; omega
          have hal : (a : Int) < n := by omega
          have haL : a < (List.replicate n CV.nils).length := by simp; omega
          have l0 := ld g
          have l1 : ((List.replicate n CV.nils).set a c)[a]? = some c := List.getElem?_set_self haL
          simp [hlt, hal, l0, l1, bv, fillC, splice, spread, cellsAt]
          have kap : Keep NoneOf h' (h' ++ [.arr [.int .i64 v] .tight]) := Keep.app _ _ _
          refine OV_push (e := .int .i64) (x := v) (ow.on kap) rfl (fun _ e => e.elim) (by simp [big]; omega) (by decide) ?_
          intro v' h2 ow2 k2 hb2
          have g2 := k2.at (get_app (g := [.arr [.int .i64 v] .tight]) g) hc
          have st := sto1 g2 (o := a) (v := v') (by simpa using haL) ow2.scalar
          have hB := lt_of_get g
          have hne : ∀ b, v'.blk = some b → ¬ b = h.length := by
            intro b hb e
            subst e
            rcases hb2 _ hb with q | q
            · exact hc q
            · simp at q; omega
          simp [fits_scalar ow2.scalar, CV.cells_scalar ow2.scalar, st, hw1]
          refine ⟨w - (j + 1), by omega, j + 1, v', by omega, rfl, rfl, ?_, ?_, fun e => hne _ e rfl⟩
          · rw [get_set_self (lt_of_get g2)]
          · rw [List.replicate_succ']
            exact ow2.keep (Keep.set (S := fun b => b = h.length) h2 _ rfl) hne (fun _ e => e.elim)
      · rw [get_new]
        refine congrArg (fun z => some (Obj.arr z .tight)) (List.ext_getElem? fun i => ?_).symm
        by_cases hi : a = i
        · subst hi; rw [List.getElem?_set_self (by simp; omega), List.getElem?_replicate, if_pos (by omega)]
        · rw [List.getElem?_set_ne hi]
    · obtain rfl : n = 0 := by omega
      obtain rfl : a = 0 := by omega
      have t0' : x0.tmod 4100 = 0 := t0
      have z0 : IntKind.i64.wrap 0 = 0 := rfl
      simp [t0', t1, b1, z0]
      unfold szRows
      rw [if_neg hn0]
      refine ⟨[], .inr ⟨h.length, 0, 0, 0, _, _, rfl, ?_, get_new, ?_, ?_⟩, ⟨Nat.le_refl _, fun _ _ => trivial⟩, Rows.nil⟩
      · simp [Cod.sl]
      · simp [Cod.sl]
      · simp
  · rintro e h' ⟨rv, rr, rfl, s⟩
    have c := checkS_rows (n := n) (w := w) (v := v)
    have hl : (szRows n w v).length ≤ big := by
      unfold szRows; split <;> simp [big]; omega
    have c1 : 4096 < n → (4096 : Int) < n := by omega
    have c2 : ¬ 4096 < n → ¬ (4096 : Int) < n := by omega
    simp [back, S.b468]
    refine (check_spec hp q447 q452 q455 q451 s hl).mono ?_
    rintro r h1 ⟨rfl, rfl⟩
    rw [c, ha]
    have hcv : v < -1 ∨ (¬ v < -1 ∧ 12 < v) ∨ (¬ v < -1 ∧ ¬ 12 < v) := by omega
    have hcn : 4096 < n ∨ (¬ 4096 < n ∧ 0 < n) ∨ n = 0 := by omega
    have hcw : 64 < w ∨ (¬ 64 < w ∧ 0 < w) ∨ w = 0 := by omega
    rcases hcn with k1 | ⟨k1, k2⟩ | rfl
    · have k1' : (4096 : Int) < n := by omega
      rcases hcv with j1 | ⟨j1, j2⟩ | ⟨j1, j2⟩
      · simp [j1, k1, k1']
      · simp [j1, j2, k1, k1']
      · simp [j1, j2, k1, k1']
    · have k1' : ¬ (4096 : Int) < n := by omega
      have k2' : (0 : Int) < n := by omega
      rcases hcw with m1 | ⟨m1, m2⟩ | rfl
      · have m1' : (64 : Int) < w := by omega
        rcases hcv with j1 | ⟨j1, j2⟩ | ⟨j1, j2⟩
        · simp [j1, k1, k1', k2, k2', m1, m1', badN]
        · simp [j1, j2, k1, k1', k2, k2', m1, m1', badN]
        · simp [j1, j2, k1, k1', k2, k2', m1, m1', badN]
      · have m1' : ¬ (64 : Int) < w := by omega
        have m2' : (0 : Int) < w := by omega
        rcases hcv with j1 | ⟨j1, j2⟩ | ⟨j1, j2⟩
        · simp [j1, k1, k1', k2, k2', m1, m1', m2, m2', badN]
        · simp [j1, j2, k1, k1', k2, k2', m1, m1', m2, m2', badN]
        · simp [j1, j2, k1, k1', k2, k2', m1, m1', m2, m2', badN]
      · rcases hcv with j1 | ⟨j1, j2⟩ | ⟨j1, j2⟩
        · simp [j1, k1, k1', k2, k2', badN]
        · simp [j1, j2, k1, k1', k2, k2', badN]
        · simp [j1, j2, k1, k1', k2, k2', badN]
    · rcases hcv with j1 | ⟨j1, j2⟩ | ⟨j1, j2⟩
      · simp [j1, badN]
      · simp [j1, j2, badN]
      · simp [j1, j2, badN]

end Go.Cl
