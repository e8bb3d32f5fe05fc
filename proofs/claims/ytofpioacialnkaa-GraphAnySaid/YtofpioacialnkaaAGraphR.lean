/-
  GraphRow, on the clean evaluator.
-/
import Derived.Test.YtofpioacialnkaaAReach
import Derived.Test.YtofpioacialnkaaAGraphN
import Derived.Test.YtofpioacialnkaaPRow
namespace Go.Cl
open Go
set_option linter.unusedSimpArgs false
set_option linter.unusedVariables false

variable {p : PP}

def Apart (v w : CV) : Prop := ∀ b, v.blk = some b → w.blk ≠ some b

theorem ints_append {k : IntKind} {a b : List Int} : ints k (a ++ b) = ints k a ++ ints k b := by simp [ints]

def RowInv (v0 : CV) (rg : Bool) (base : List Int) (h : Heap) (m : Nat) (e : Env) (h' : Heap) : Prop :=
  ∃ (i : Nat) (bv wv lv : CV), i ≤ base.length ∧ m = base.length - i ∧ e = [(0, v0), (1, .bool rg), (5, bv), (6, wv), (7, lv), (8, .int .i64 (pmax (base.take i))), (9, .int .i64 i)] ∧ Keep NoneOf h h' ∧
    Grown h' 1 bv (ints .i64 (base.take i)) ∧ Grown h' 1 wv (ints .i64 (wants base i)) ∧ Grown h' 2 lv (pairs (rowE (i - 1))) ∧ (∀ b, bv.blk = some b → h.length ≤ b) ∧ (∀ b, wv.blk = some b → h.length ≤ b) ∧ (∀ b, lv.blk = some b → h.length ≤ b) ∧
    Apart bv wv ∧ Apart bv lv ∧ Apart wv lv

def rowEdges (rg : Bool) (n : Nat) : List (Int × Int) := if rg then rowE (n - 1) ++ [(((n - 1 : Nat) : Int), 0)] else rowE (n - 1)
def rowWant (rg : Bool) (base : List Int) : List Int := if rg then List.replicate base.length (pmax base) else wants base base.length

def RowM (v0 bv : CV) (rg : Bool) (base : List Int) (h : Heap) (e : Env) (h' : Heap) : Prop :=
  ∃ wv lv, e.get 0 = some v0 ∧ e.get 1 = some (.bool rg) ∧ e.get 5 = some bv ∧ e.get 6 = some wv ∧ e.get 7 = some lv ∧ Keep NoneOf h h' ∧ Read h' 1 bv (ints .i64 base) ∧ Read h' 1 wv (ints .i64 (rowWant rg base)) ∧ Mine h' 2 lv (pairs (rowEdges rg base.length))

def RowInv2 (v0 bv wv lv : CV) (base : List Int) (h : Heap) (m : Nat) (e : Env) (h' : Heap) : Prop :=
  ∃ (j : Nat) (L : List Int), j ≤ base.length ∧ m = base.length - j ∧ e = [(0, v0), (1, .bool true), (5, bv), (6, wv), (7, lv), (8, .int .i64 (pmax base)), (10, .int .i64 j)] ∧ Keep NoneOf h h' ∧
    Read h' 1 bv (ints .i64 base) ∧ Own h' wv (ints .i64 L) ∧ Mine h' 2 lv (pairs (rowEdges true base.length)) ∧ L.length = base.length ∧ ∀ k, k < j → L[k]? = some (pmax base)

theorem pmax_bound {l : List Int} {M : Int} (h0 : 0 ≤ M) (h : ∀ x ∈ l, x ≤ M) : 0 ≤ pmax l ∧ pmax l ≤ M := by
  have key : ∀ (l : List Int) (a : Int), 0 ≤ a → a ≤ M → (∀ x ∈ l, x ≤ M) → 0 ≤ l.foldl max a ∧ l.foldl max a ≤ M := by
    intro l
    induction l with
    | nil => intro a h1 h2 _; exact ⟨h1, h2⟩
    | cons x r ih => intro a h1 h2 h3; exact ih _ (by omega) (by have := h3 x (by simp); omega) fun y hy => h3 y (by simp [hy])
  exact key l 0 (Int.le_refl _) h0 h

theorem graphRow_law (hpg : p.Pg = S.pg) (hpr : p.pr = addKnown [16] noPr) {h : Heap} {v0 : CV} {base : List Int} {rg : Bool} (r0 : Read h 1 v0 (ints .u8 base)) (hb : ∀ x ∈ base, 0 ≤ x ∧ x ≤ 255) :
    WF p 24 [v0, .bool rg] h fun r _ => r = .bool true := by
  have q24 : p.pr 24 = none := by rw [hpr]; rfl
  have q17 : p.pr 17 = none := by rw [hpr]; rfl
  have q20 : p.pr 20 = none := by rw [hpr]; rfl
  have q21 : p.pr 21 = none := by rw [hpr]; rfl
  have q55 : p.pr 55 = none := by rw [hpr]; rfl
  have q56 : p.pr 56 = none := by rw [hpr]; rfl
  have q57 : p.pr 57 = none := by rw [hpr]; rfl
  refine WF_of (by rw [hpg]; exact S.pg24) q24 ?_
  show W p S.b24 _ _ (retQ [.t 4] _)
  unfold S.b24
  have n0 := readI_len r0
  simp
  refine WF_known hpr rfl ?_
  by_cases g1 : (base.length : Int) < 1
  · simp [n0, g1]
  by_cases g2 : 30 < (base.length : Int)
  · simp [n0, g1, g2]
  simp [n0, g1, g2]
  have hpos : 0 < base.length := by omega
  refine W_loop (RowInv v0 rg base h) ?_ base.length ⟨0, .nils, .nils, .nils, by omega, by omega, rfl, Keep.refl _ _, .inl ⟨rfl, rfl⟩, .inl ⟨rfl, rfl⟩, .inl ⟨rfl, rfl⟩, by simp [CV.blk], by simp [CV.blk], by simp [CV.blk], by simp [Apart, CV.blk], by simp [Apart, CV.blk], by simp [Apart, CV.blk]⟩
  rintro m e h1 ⟨i, bv, wv, lv, hi, rfl, rfl, k1, gb, gw, gl, lb, lw, ll, abw, abl, awl⟩
  have m0 := readI_len (r0.keep k1 fun _ _ => id)
  by_cases hib : i = base.length
  · subst hib
    rw [List.take_length] at *
    simp [m0]
    refine W_to (RowM v0 bv rg base h) ?_ ?_
    · cases rg with
      | false =>
        simp
        exact ⟨wv, lv, by simp, by simp, by simp, by simp, by simp, k1, gb.read, gw.read, gl.mine⟩
      | true =>
        have hwm : IntKind.i64.wrap ((base.length : Int) - 1) = ((base.length - 1 : Nat) : Int) := by rw [w64 (by omega) (by omega)]; omega
        have kap : ∀ g, Keep NoneOf h1 (h1 ++ g) := fun g => Keep.app _ _ _
        obtain ⟨N1, hN1⟩ : ∃ N1, N1 = base.length - 1 := ⟨_, rfl⟩
        rw [← hN1] at hwm gl
        simp [m0, hwm, fillC, CV.cells, splice, spread, cellsAt]
        refine OV_append (N := h1.length + 1) (n := N1) (gl.keep (kap _) fun _ _ => id) (by simp) (by rw [pairs_length, rowE_length]) (by decide) rfl rfl (by simp [big]; omega) (by decide) (by decide) ?_
        intro h2 gA gL gK
        have gA' : Grown h2 2 (.sl (h1.length + 1) 0 (N1 + 1) (N1 + 1)) (pairs (rowEdges true base.length)) := by
          have : pairs (rowEdges true base.length) = pairs (rowE N1) ++ [.int .i64 N1, .int .i64 0] := by
            simp only [rowEdges, if_true, ← hN1, pairs_append]; rfl
          rw [this]; exact gA
        simp
        have k12 : Keep (fun b => lv.blk = some b) h1 h2 := ((kap [.arr [.int .i64 N1, .int .i64 0] .tight]).mono fun _ _ e => e.elim).then gK fun _ _ e => e
        refine W_loop (RowInv2 v0 bv wv (.sl (h1.length + 1) 0 (N1 + 1) (N1 + 1)) base h) ?_ base.length ⟨0, wants base base.length, by omega, by omega, rfl, k1.then k12 fun b hb hl => by have := ll b hl; omega, gb.read.keep k12 fun b hb hl => abl b hb hl, (gw.mine.own).keep k12 fun b hb hl => awl b hb hl, gA'.mine, by simp, by simp⟩
        rintro m e h3 ⟨j, L, hj, rfl, rfl, k3, b3, w3, l3, hL, hLj⟩
        have nL := readI_len w3.read
        by_cases hjb : j = base.length
        · subst hjb
          have hLe : L = List.replicate base.length (pmax base) := by
            apply List.ext_getElem?
            intro k
            by_cases hk : k < base.length
            · rw [hLj k hk]; simp [hk]
            · rw [List.getElem?_eq_none (by omega), List.getElem?_eq_none (by simp; omega)]
          subst hLe
          simp [nL, hL]
          exact ⟨wv, _, by simp, by simp, by simp, by simp, by simp, k3, b3, by simpa [rowWant] using w3.read, l3⟩
        · have hlt : (j : Int) < base.length := by omega
          have hw : IntKind.i64.wrap ((j : Int) + 1) = ((j + 1 : Nat) : Int) := by rw [w64 (by omega) (by omega)]; omega
          obtain ⟨b2, w1, w2, w4, w5⟩ := w3.elem (i := j) (k := .i64) (by simp; omega)
          obtain ⟨h6, s1, s2, s3, s4⟩ := w5 (.int .i64 (pmax base)) rfl
          have hset : (ints .i64 L).set j (.int .i64 (pmax base)) = ints .i64 (L.set j (pmax base)) := by unfold ints; rw [List.map_set]
          rw [hset] at s2
          simp [nL, hL, hlt, w2, s1, fits, CV.cells, hw]
          refine ⟨base.length - (j + 1), by omega, j + 1, L.set j (pmax base), by omega, rfl, rfl, k3.then s3 fun b hb hl => by have := lw b hl; omega, b3.keep s3 fun b hb hl => abw b hb hl, s2, l3.keep s3 fun b hb hl => ?_, by simpa using hL, fun k hk => ?_⟩
          · have := gw.read.blk_lt b hl
            simp [CV.blk] at hb; omega
          · by_cases hkj : j = k
            · subst hkj; rw [List.getElem?_set_self (by omega)]
            · rw [List.getElem?_set_ne hkj]; exact hLj k (by omega)
    · rintro e h2 ⟨wv', lv', e0, e1, e5, e6, e7, k2, rb, rw', ml⟩
      have hEl : (rowEdges rg base.length).length ≤ 30 := by cases rg <;> simp [rowEdges] <;> omega
      rw [W_seq, W_ops]
      simp [e0, e1, e5, e6, e7]
      refine (prios_spec (least := []) (by rw [hpg]; exact S.pg17) q17 (by rw [hpg]; exact S.pg55) q55 (by rw [hpg]; exact S.pg56) q56 rb (.inl ⟨rfl, rfl⟩) ml.read (by simp [big]; omega) (by simp [big]; omega)).mono ?_
      rintro av h3 ⟨A, oA, hA, k3, hab⟩
      rw [lift_nil] at hA
      have hAw : A = rowWant rg base := by
        cases rg with
        | false => exact row_prios (fun x hx => (hb x hx).1) hA
        | true => exact ring_prios (fun x hx => (hb x hx).1) hpos hA
      subst hAw
      have hwl : (rowWant rg base).length = base.length := by cases rg <;> simp [rowWant]
      try simp [e6]
      refine (ints_spec (by rw [hpg]; exact S.pg20) q20 oA.read (rw'.keep k3 fun _ _ => id) (by rw [hwl]; simp [big]; omega)).mono ?_
      rintro r h4 ⟨rfl, rfl⟩
      have n4 := readI_len (r0.keep (k2.trans k3) fun _ _ => id)
      simp [e0, e7, n4]
      have ml3 := ml.keep k3 fun _ _ => id
      refine (round_spec hpg q21 q57 q56 ml3.read (by simp [big]; omega)).mono ?_
      rintro r h5 ⟨⟨t, rfl, ht⟩, k5⟩
      have ml5 := ml3.keep k5 fun _ _ => id
      have n5 := readI_len ((r0.keep (k2.trans k3) fun _ _ => id).keep k5 fun _ _ => id)
      have htr : t = rg := by
        cases rg with
        | false => cases t with
          | false => rfl
          | true => exact absurd (ht.1 rfl) row_round
        | true => exact ht.2 (ring_round hpos)
      subst htr
      have nl5 : lenV h5 .sl lv' = some (.int .i64 ((rowEdges t base.length).length : Int)) := by
        have := ml5.read.len (by decide); rw [pairs_length] at this; simpa using this
      have hwm : IntKind.i64.wrap ((base.length : Int) - 1) = ((base.length - 1 : Nat) : Int) := by rw [w64 (by omega) (by omega)]; omega
      have hwl : IntKind.i64.wrap (((rowEdges t base.length).length : Int) - 1) = ((rowEdges t base.length).length : Int) - 1 := w64 (by omega) (by omega)
      obtain ⟨M, hM⟩ : ∃ M, M = (rowEdges t base.length).length - 1 := ⟨_, rfl⟩
      have hmx : mxL [.int .i64 0, .int .i64 (((rowEdges t base.length).length : Int) - 1)] = some (.int .i64 (M : Int)) := by
        simp only [mxL, mxR, if_true]
        congr 2
        split <;> omega
      obtain ⟨lv2, d1, d2, d3⟩ := ml5.roomy.cut (by decide) (k := .i64) (m := M) (by rw [pairs_length]; omega)
      have hcut : ∃ q, (pairs (rowEdges t base.length)).take (M * 2) = pairs (rowE q) ∧ q ≤ 30 := by
        have ht2 : ∀ E : List (Int × Int), ∀ q, (pairs E).take (q * 2) = pairs (E.take q) := by
          intro E
          induction E with
          | nil => intro q; simp [pairs]
          | cons e r ih =>
            intro q
            cases q with
            | zero => simp [pairs]
            | succ q =>
              have := ih q
              simp only [pairs] at this
              simp [pairs, Nat.succ_mul, this]
        rw [ht2]
        cases t with
        | false => exact ⟨M, by simp only [rowEdges, Bool.false_eq_true, if_false]; rw [rowE_take]; simp [rowEdges] at hM; omega, by simp [rowEdges] at hM; omega⟩
        | true => 
          refine ⟨base.length - 1, ?_, by omega⟩
          simp [rowEdges] at hM
          simp only [rowEdges, if_true]
          rw [List.take_append_of_le_length (by simp; omega), List.take_of_length_le (by simp; omega)]
      obtain ⟨q, hq, hq30⟩ := hcut
      rw [hq] at d2
      simp [e0, e1, e7, n5, hwm, nl5, hwl, hmx, d1, eqv]
      refine (round_spec hpg q21 q57 q56 d2.read (by simp [big]; omega)).mono ?_
      rintro r h6 ⟨⟨t6, rfl, ht6⟩, k6⟩
      cases t6 with
      | true => exact absurd (ht6.1 rfl) row_round
      | false => simp
  · have hlt : i < base.length := by omega
    have hlt' : (i : Int) < base.length := by omega
    obtain ⟨b, o, x1, x2, x3⟩ := readI_idx (k' := .i64) (r0.keep k1 fun _ _ => id) hlt
    have hx := hb base[i] (List.getElem_mem hlt)
    have hwx : IntKind.i64.wrap base[i] = base[i] := w64 (by omega) (by omega)
    have hwi : IntKind.i64.wrap ((i : Int) + 1) = ((i + 1 : Nat) : Int) := by rw [w64 (by omega) (by omega)]; omega
    have kap : ∀ (h1 : Heap) g, Keep NoneOf h1 (h1 ++ g) := fun h1 g => Keep.app _ _ _
    have hmx : mxL [.int .i64 (pmax (base.take i)), .int .i64 base[i]] = some (.int .i64 (pmax (base.take (i + 1)))) := by
      rw [pmax_take hlt]
      simp only [mxL, mxR, if_true]
      congr 2
      split <;> omega
    simp [m0, hlt', x1, x3, hwx, fillC, CV.cells, splice, spread, cellsAt]
    have gb2 := gb.keep (kap h1 [.arr [.int .i64 base[i]] .tight]) fun _ _ => id
    refine OV_append (N := h1.length + 1) (n := i) gb2 (by simp) (by simp; omega) (by decide) rfl rfl (by simp [big]; omega) (by decide) (by decide) ?_
    intro h2 gA gL gK
    have k12 : Keep (fun b => bv.blk = some b) h1 h2 := ((kap h1 _).mono fun _ _ e => e.elim).then gK fun _ _ e => e
    obtain ⟨b', o', x1', x2', x3'⟩ := readI_idx (k' := .i64) ((r0.keep k1 fun _ _ => id).keep k12 fun b h1 h2 => by have := lb b h2; have := r0.blk_lt b h1; omega) hlt
    rw [x1] at x1'
    simp at x1'
    obtain ⟨rfl, rfl⟩ := x1'
    simp [x1, x3', hwx, hmx, fillC, CV.cells, splice, spread, cellsAt]
    have gw2 := (gw.keep k12 fun b h1 h2 => abw b h2 h1).keep (kap h2 [.arr [.int .i64 (pmax (base.take (i + 1)))] .tight]) fun _ _ => id
    refine OV_append (N := h2.length + 1) (n := i) gw2 (by simp) (by simp) (by decide) rfl rfl (by simp [big]; omega) (by decide) (by decide) ?_
    intro h3 gA3 gL3 gK3
    have k23 : Keep (fun b => wv.blk = some b) h2 h3 := ((kap h2 _).mono fun _ _ e => e.elim).then gK3 fun _ _ e => e
    have bl := gb.read.blk_lt
    have wl := gw.read.blk_lt
    have el := gl.read.blk_lt
    have e1 : ints .i64 (base.take (i + 1)) = ints .i64 (base.take i) ++ [.int .i64 base[i]] := by rw [← List.take_append_getElem hlt, ints_append]; rfl
    have e2 : ints .i64 (wants base (i + 1)) = ints .i64 (wants base i) ++ [.int .i64 (pmax (base.take (i + 1)))] := by rw [wants_succ, ints_append]; rfl
    have gl3 := (gl.keep k12 fun b h1 h2 => abl b h2 h1).keep k23 fun b h1 h2 => awl b h2 h1
    have gA' := gA.keep k23 fun b h1 h2 => by have := wl b h2; simp [CV.blk] at h1; omega
    rw [← e1] at gA'
    rw [← e2] at gA3
    have k13 : Keep NoneOf h h3 := (k1.then k12 fun b h1 h2 => by have := lb b h2; omega).then k23 fun b h1 h2 => by have := lw b h2; omega
    have l1 := k1.len
    by_cases h0 : i = 0
    · subst h0
      simp [hwi]
      refine ⟨base.length - 1, by omega, 1, _, _, lv, by omega, rfl, rfl, k13, gA', gA3, gl3, ?_, ?_, ll, ?_, ?_, ?_⟩
      · intro b hb; simp [CV.blk] at hb; omega
      · intro b hb; simp [CV.blk] at hb; omega
      · intro b hb hw; simp [CV.blk] at hb hw; omega
      · intro b hb hw; have := el b hw; simp [CV.blk] at hb; omega
      · intro b hb hw; have := el b hw; simp [CV.blk] at hb; omega
    · have h0' : (0 : Int) < (i : Int) := by omega
      have hwm : IntKind.i64.wrap ((i : Int) - 1) = ((i - 1 : Nat) : Int) := by rw [w64 (by omega) (by omega)]; omega
      obtain ⟨I1, hI1⟩ : ∃ I1, I1 = i - 1 := ⟨_, rfl⟩
      rw [← hI1] at hwm gl3
      have hi0 : 0 < i := by omega
      simp [h0, h0', hi0, hwm, fillC, CV.cells, splice, spread, cellsAt]
      refine OV_append (N := h3.length + 1) (n := I1) (gl3.keep (kap _ _) fun _ _ => id) (by simp) (by rw [pairs_length, rowE_length]) (by decide) rfl rfl (by simp [big]; omega) (by decide) (by decide) ?_
      intro h4 gA4 gL4 gK4
      have k34 : Keep (fun b => lv.blk = some b) h3 h4 := ((kap h3 _).mono fun _ _ e => e.elim).then gK4 fun _ _ e => e
      have e3 : pairs (rowE (i + 1 - 1)) = pairs (rowE I1) ++ [.int .i64 I1, .int .i64 i] := by
        have : i + 1 - 1 = I1 + 1 := by omega
        rw [this, rowE_succ, pairs_append]
        simp [pairs]; omega
      rw [← e3] at gA4
      simp [hwi]
      refine ⟨base.length - (i + 1), by omega, i + 1, _, _, _, by omega, rfl, rfl, k13.then k34 fun b h1 h2 => by have := ll b h2; omega, gA'.keep k34 fun b h1 h2 => ?_, gA3.keep k34 fun b h1 h2 => ?_, gA4, ?_, ?_, ?_, ?_, ?_, ?_⟩
      · have := el b h2; simp [CV.blk] at h1; omega
      · have := el b h2; simp [CV.blk] at h1; omega
      · intro b hb; simp [CV.blk] at hb; omega
      · intro b hb; simp [CV.blk] at hb; omega
      · intro b hb; simp [CV.blk] at hb; omega
      · intro b hb hw; simp [CV.blk] at hb hw; omega
      · intro b hb hw; simp [CV.blk] at hb hw; omega
      · intro b hb hw; simp [CV.blk] at hb hw; omega

end Go.Cl
