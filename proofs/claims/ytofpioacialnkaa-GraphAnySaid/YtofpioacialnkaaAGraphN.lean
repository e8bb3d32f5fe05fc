/-
  GraphMore, on the clean evaluator.
-/
import Derived.Test.YtofpioacialnkaaAGraphL
import Derived.Test.YtofpioacialnkaaClOwn
namespace Go.Cl
open Go
set_option linter.unusedSimpArgs false
set_option linter.unusedVariables false

variable {p : PP}

theorem IsPrios.mono {B B' : List Int} {E E' : List (Int × Int)} {r r' : List Int} (x : IsPrios B E r) (y : IsPrios B' E' r') (hB : LeL B B') (hE : ∀ e ∈ E, e ∈ E') : LeL r r' :=
  x.1.least r' (hB.trans y.1.le) fun e he hok => y.2 e (hE e he) hok

theorem Mine.own {h : Heap} {v : CV} {l : List CV} (g : Mine h 1 v l) : Own h v l := by
  rcases g with g | ⟨b, n, st, rfl, h1, h2, h3⟩
  · exact .inl g
  · have : n = l.length := by omega
    subst this
    exact .inr ⟨b, st, rfl, h3, by rcases h2 with rfl | rfl <;> simp⟩

theorem pairs_append {E F : List (Int × Int)} : pairs (E ++ F) = pairs E ++ pairs F := by simp [pairs]

def MInv2 (av cv dv : CV) (n fi ti : Nat) (h7 : Heap) (m : Nat) (e : Env) (h' : Heap) : Prop :=
  ∃ i : Nat, i ≤ n ∧ m = n - i ∧ e = [(2, .int .u8 fi), (3, .int .u8 ti), (13, .int .i64 n), (14, av), (15, cv), (16, dv), (17, .int .i64 i)] ∧ h' = h7

def MInv1 (v0 v1 : CV) (f t w : Int) (base : List Int) (h : Heap) (m : Nat) (e : Env) (h' : Heap) : Prop :=
  ∃ (i : Nat) (bv : CV), i ≤ base.length ∧ m = base.length - i ∧ e = [(0, v0), (1, v1), (2, .int .u8 f), (3, .int .u8 t), (4, .int .u8 w), (11, bv), (12, .int .i64 i)] ∧ Keep (fun _ => False) h h' ∧ Grown h' 1 bv (ints .i64 (base.take i)) ∧ ∀ b, bv.blk = some b → h.length ≤ b

theorem graphMore_law (hpg : p.Pg = S.pg) (hpr : p.pr = addKnown [16] noPr) {h : Heap} {v0 v1 : CV} {base : List Int} {E : List (Int × Int)} {f t w : Int} (r0 : Read h 1 v0 (ints .u8 base)) (r1 : Read h 2 v1 (pairs E))
    (hb : ∀ x ∈ base, 0 ≤ x ∧ x ≤ 255) (hf : 0 ≤ f ∧ f ≤ 255) (ht : 0 ≤ t ∧ t ≤ 255) (hw : 0 ≤ w ∧ w ≤ 255) :
    WF p 25 [v0, v1, .int .u8 f, .int .u8 t, .int .u8 w] h fun r _ => r = .bool true := by
  have q25 : p.pr 25 = none := by rw [hpr]; rfl
  have q17 : p.pr 17 = none := by rw [hpr]; rfl
  have q55 : p.pr 55 = none := by rw [hpr]; rfl
  have q56 : p.pr 56 = none := by rw [hpr]; rfl
  refine WF_of (by rw [hpg]; exact S.pg25) q25 ?_
  show W p S.b25 _ _ (retQ [.t 10] _)
  unfold S.b25
  have n0 := readI_len r0
  have n1 : lenV h .sl v1 = some (.int .i64 (E.length : Int)) := by
    have := r1.len (by decide); rw [pairs_length] at this; simpa using this
  simp
  refine WF_known hpr rfl ?_
  by_cases g1 : (base.length : Int) < 1
  · simp [n0, n1, g1]
  by_cases g2 : 30 < (base.length : Int)
  · simp [n0, n1, g1, g2]
  by_cases g3 : 40 < (E.length : Int)
  · simp [n0, n1, g1, g2, g3]
  simp [n0, n1, g1, g2, g3]
  refine W_loop (MInv1 v0 v1 f t w base h) ?_ base.length ⟨0, .nils, by omega, by omega, rfl, Keep.refl _ _, .inl ⟨rfl, rfl⟩, by simp [CV.blk]⟩
  rintro m e h1 ⟨i, bv, hi, rfl, rfl, k1, gr, hbv⟩
  have m0 := readI_len (r0.keep k1 fun _ _ => id)
  by_cases hib : i = base.length
  · subst hib
    rw [List.take_length] at gr
    obtain ⟨fi, rfl⟩ := Int.eq_ofNat_of_zero_le hf.1
    obtain ⟨ti, rfl⟩ := Int.eq_ofNat_of_zero_le ht.1
    obtain ⟨wi, rfl⟩ := Int.eq_ofNat_of_zero_le hw.1
    have wf : IntKind.i64.wrap (fi : Int) = fi := w64 (by omega) (by omega)
    have wt : IntKind.i64.wrap (ti : Int) = ti := w64 (by omega) (by omega)
    have ww : IntKind.i64.wrap (wi : Int) = wi := w64 (by omega) (by omega)
    have hne : ¬ base = [] := fun e => by subst e; simp at g1
    have hpos : 0 < base.length := by omega
    obtain ⟨fm, hfm⟩ : ∃ q, q = fi % base.length := ⟨_, rfl⟩
    obtain ⟨tm, htm⟩ : ∃ q, q = ti % base.length := ⟨_, rfl⟩
    obtain ⟨wm, hwm⟩ : ∃ q, q = wi % base.length := ⟨_, rfl⟩
    have ef : (fi : Int).tmod (base.length : Int) = (fm : Int) := by rw [hfm]; rfl
    have et : (ti : Int).tmod (base.length : Int) = (tm : Int) := by rw [htm]; rfl
    have ew : (wi : Int).tmod (base.length : Int) = (wm : Int) := by rw [hwm]; rfl
    have lf : fm < base.length := by rw [hfm]; exact Nat.mod_lt _ hpos
    have lt : tm < base.length := by rw [htm]; exact Nat.mod_lt _ hpos
    have lw : wm < base.length := by rw [hwm]; exact Nat.mod_lt _ hpos
    have e1 := r1.keep k1 fun _ _ => id
    simp [m0]
    refine (prios_spec (least := []) (by rw [hpg]; exact S.pg17) q17 (by rw [hpg]; exact S.pg55) q55 (by rw [hpg]; exact S.pg56) q56 gr.read (.inl ⟨rfl, rfl⟩) e1 (by simp [big]; omega) (by simp [big]; omega)).mono ?_
    rintro av h2 ⟨A, oA, hA, k2, hab⟩
    rw [lift_nil] at hA
    have e2 := e1.keep k2 fun _ _ => id
    have kk2 : ∀ g, Keep (fun _ => False) h2 (h2 ++ g) := fun g => Keep.app _ _ _
    have sp := (e2.keep (kk2 [.arr [] .tight, .arr [.int .i64 fm, .int .i64 tm] .tight]) fun _ _ => id).spread (by decide)
    rw [pairs_length, Nat.mul_div_cancel _ (by decide)] at sp
    simp [fillC, CV.cells, splice, wf, wt, ww, hne, ef, et, ew, sp]
    refine OV_more (l := []) (n := 0) (.inr ⟨h2.length, 0, .tight, rfl, rfl, .inl rfl, by simp⟩) rfl pairs_length (by simp [pairs, CV.scalar]) (by decide) (by simp [big]; omega) (by decide) ?_
    intro cv h3 hc k3 hcb
    rw [List.nil_append] at hc
    have hbl : ∀ b, bv.blk = some b → b < h1.length := gr.read.blk_lt
    have hl12 := k2.len
    have ed : h3[h2.length + 1]? = some (.arr [.int .i64 fm, .int .i64 tm] .tight) := k3.at (by simp) (by simp [CV.blk])
    have sp2 : spread h3 2 (.sl (h2.length + 1) 0 1 1) = some (1, [.int .i64 fm, .int .i64 tm]) := by simp [spread, cellsAt, ed]
    simp [sp2]
    refine OV_more (n := E.length) hc pairs_length rfl rfl (by simp [big]; omega) (by decide) (by decide) ?_
    intro cv2 h4 hc2 k4 hcb2
    simp
    have hcE : Read h4 2 cv2 (pairs (E ++ [((fm : Int), (tm : Int))])) := by rw [pairs_append]; exact hc2.read
    have hcv : ∀ b, cv.blk = some b → h2.length ≤ b := fun b e => by
      rcases hcb b e with q | q
      · simp [CV.blk] at q; omega
      · simp at q; omega
    have k24 : Keep (fun _ => False) h2 h4 := ((kk2 _).then k3 fun j hj e => by simp [CV.blk] at e; omega).then k4 fun j hj e => by have := hcv j e; omega
    have g4 := (gr.keep k2 fun _ _ => id).keep k24 fun _ _ => id
    refine (prios_spec (least := []) (by rw [hpg]; exact S.pg17) q17 (by rw [hpg]; exact S.pg55) q55 (by rw [hpg]; exact S.pg56) q56 g4.read (.inl ⟨rfl, rfl⟩) hcE (by simp [big]; omega) (by simp [big]; omega)).mono ?_
    rintro dv h5 ⟨C, oC, hC, k5, hcb5⟩
    rw [lift_nil] at hC
    have hbw := hb base[wm] (List.getElem_mem lw)
    have wb : IntKind.i64.wrap (base[wm] + 1) = base[wm] + 1 := w64 (by omega) (by omega)
    obtain ⟨bb, z1, z2, z3, z4⟩ := ((g4.keep k5 fun _ _ => id).mine.own).elem (i := wm) (k := .i64) (by simpa using lw)
    simp only [ints, List.getElem_map] at z3
    obtain ⟨h6, s1, s2, s3, s4⟩ := z4 (.int .i64 (base[wm] + 1)) rfl
    have hset : (ints .i64 base).set wm (.int .i64 (base[wm] + 1)) = ints .i64 (base.set wm (base[wm] + 1)) := by unfold ints; rw [List.map_set]
    rw [hset] at s2
    simp [z2, z3, wb, s1, fits, CV.cells]
    have hb1 : bb < h1.length := hbl bb z1
    have k6 : Keep (fun b => bv.blk = some b) h2 h6 := ((k24.trans k5).mono (T := fun b => bv.blk = some b) fun _ _ e => e.elim).then s3 fun _ _ e => e
    have e6 : Read h6 2 v1 (pairs E) := by
      refine e2.keep k6 fun b hb1' hb2 => ?_
      have := r1.blk_lt b hb1'
      have := hbv b hb2
      omega
    refine (prios_spec (least := []) (by rw [hpg]; exact S.pg17) q17 (by rw [hpg]; exact S.pg55) q55 (by rw [hpg]; exact S.pg56) q56 s2.read (.inl ⟨rfl, rfl⟩) e6 (by simp [big]; omega) (by simp [big]; omega)).mono ?_
    rintro dv2 h7 ⟨D, oD, hD, k7, hdb⟩
    rw [lift_nil] at hD
    have hl24 := k24.len
    have oA7 : Own h7 av (ints .i64 A) := (oA.keep k6 fun b q1 q2 => by have := hab b q1; have := hbl b q2; omega).keep k7 fun _ _ => id
    have oC7 : Own h7 dv (ints .i64 C) := (oC.keep s3 fun b q1 q2 => by have := hcb5 b q1; have := hbl b q2; omega).keep k7 fun _ _ => id
    have lA := readI_len oA7.read
    have lC := readI_len oC7.read
    have lD := readI_len oD.read
    have hAn : A.length = base.length := hA.1.le.1.symm
    have hCn : C.length = base.length := hC.1.le.1.symm
    have hDn : D.length = base.length := by have := hD.1.le.1; simp at this; exact this.symm
    have hAC : LeL A C := hA.mono hC (LeL.refl _) fun e he => List.mem_append_left _ he
    have hAD : LeL A D := hA.mono hD ⟨by simp, fun i hi => by
      simp only [List.getD]
      by_cases hq : wm = i
      · subst hq; rw [List.getElem?_set_self lw, List.getElem?_eq_getElem lw]; simp; omega
      · rw [List.getElem?_set_ne hq]; exact Int.le_refl _⟩ fun e he => he
    simp [lA, lC, lD, hAn, hCn, hDn]
    refine W_loop (MInv2 av dv dv2 base.length fi ti h7) ?_ base.length ⟨0, by omega, by omega, rfl, rfl⟩
    rintro m e h8 ⟨i, hi2, rfl, rfl, rfl⟩
    by_cases hin : i = base.length
    · subst hin
      obtain ⟨c1, d1, c2, c3, c4⟩ := readI_idx (k' := .i64) oC7.read (i := tm) (by omega)
      obtain ⟨c5, d2, c6, c7, c8⟩ := readI_idx (k' := .i64) oA7.read (i := fm) (by omega)
      have hle : A[fm]'(by omega) ≤ C[tm]'(by omega) := by
        have q1 := hAC.2 fm (by omega)
        have q2 := hC.2 ((fm : Int), (tm : Int)) (by simp) ⟨by simp, by simp; omega, by simp, by simp; omega⟩
        have a1 : fm < A.length := by omega
        have a2 : fm < C.length := by omega
        have a3 : tm < C.length := by omega
        simp [getI, List.getD, a1, a2, a3] at q1 q2
        omega
      simp [wt, wf, hne, et, ef, c2, c4, c6, c8, hle]
    · have hlt : i < base.length := by omega
      have hlt' : (i : Int) < base.length := by omega
      have hwi : IntKind.i64.wrap ((i : Int) + 1) = ((i + 1 : Nat) : Int) := by rw [w64 (by omega) (by omega)]; omega
      obtain ⟨c1, d1, c2, c3, c4⟩ := readI_idx (k' := .i64) oC7.read (i := i) (by omega)
      obtain ⟨c5, d2, c6, c7, c8⟩ := readI_idx (k' := .i64) oA7.read (i := i) (by omega)
      obtain ⟨c9, d3, c10, c11, c12⟩ := readI_idx (k' := .i64) oD.read (i := i) (by omega)
      have a1 : i < A.length := by omega
      have a2 : i < C.length := by omega
      have a3 : i < D.length := by omega
      have q1 := hAC.2 i a1
      have q2 := hAD.2 i a1
      simp [List.getD, a1, a2, a3] at q1 q2
      have n1' : ¬ (C[i] < A[i]) := by omega
      have n2' : ¬ (D[i] < A[i]) := by omega
      simp [hlt', c2, c4, c6, c8, c10, c12, n1', n2', hwi]
      exact ⟨base.length - (i + 1), by omega, i + 1, by omega, rfl, rfl, rfl⟩
  · have hlt : i < base.length := by omega
    have hlt' : (i : Int) < base.length := by omega
    obtain ⟨b, o, x1, x2, x3⟩ := readI_idx (k' := .i64) (r0.keep k1 fun _ _ => id) hlt
    have hx := hb base[i] (List.getElem_mem hlt)
    have hwx : IntKind.i64.wrap base[i] = base[i] := w64 (by omega) (by omega)
    have hwi : IntKind.i64.wrap ((i : Int) + 1) = ((i + 1 : Nat) : Int) := by rw [w64 (by omega) (by omega)]; omega
    have hka : ∀ g, Keep (fun _ => False) h1 (h1 ++ g) := fun g => Keep.app _ _ _
    simp [m0, hlt', x1, x3, hwx, fillC, CV.cells, splice, spread, cellsAt]
    refine OV_append (N := h1.length + 1) (n := i) (gr.keep (hka _) fun _ _ => id) (by simp) (by simp; omega) (by decide) rfl rfl (by simp [big]; omega) (by decide) (by decide) ?_
    intro h2 gA gL gK
    simp [hwi]
    have e : ints .i64 (base.take (i + 1)) = ints .i64 (base.take i) ++ [.int .i64 base[i]] := by unfold ints; rw [← List.take_append_getElem hlt, List.map_append]; rfl
    refine ⟨base.length - (i + 1), by omega, i + 1, _, by omega, rfl, rfl, (k1.trans (hka _)).then gK fun j hj q => ?_, by rw [e]; exact gA, ?_⟩
    · have := hbv j q; omega
    · intro b q; simp [CV.blk] at q; have := k1.len; omega
end Go.Cl
