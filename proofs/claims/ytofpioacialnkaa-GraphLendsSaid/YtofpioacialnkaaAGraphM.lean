/-
  GraphLends, on the clean evaluator.
-/
import Derived.Test.YtofpioacialnkaaAGraphL
namespace Go.Cl
open Go
set_option linter.unusedSimpArgs false
set_option linter.unusedVariables false

variable {p : PP}

def LInv1 (v0 v1 out : CV) (base L : List Int) (h1 : Heap) (m : Nat) (e : Env) (h' : Heap) : Prop :=
  ∃ i : Nat, i ≤ base.length ∧ m = base.length - i ∧ e = [(0, v0), (1, v1), (5, out), (6, .int .i64 i)] ∧ h' = h1

def LInv2 (v0 v1 out : CV) (base : List Int) (x : Int) (i : Nat) (h1 : Heap) (m : Nat) (e : Env) (h' : Heap) : Prop :=
  ∃ (k : Nat) (f : Bool), k ≤ base.length ∧ m = base.length - k ∧ e = [(0, v0), (1, v1), (5, out), (6, .int .i64 i), (7, .bool f), (8, .int .i64 k)] ∧ h' = h1 ∧ (f = true ↔ x ∈ base.take k)

def LInv3 (v1 out : CV) (E : List (Int × Int)) (h1 : Heap) (m : Nat) (e : Env) (h' : Heap) : Prop :=
  ∃ j : Nat, j ≤ E.length ∧ m = E.length - j ∧ e = [(1, v1), (5, out), (9, .int .i64 j)] ∧ h' = h1

theorem graphLends_law (hpg : p.Pg = S.pg) (hpr : p.pr = addKnown [16] noPr) {h : Heap} {v0 v1 : CV} {base : List Int} {E : List (Int × Int)} (r0 : Read h 1 v0 (ints .i64 base)) (r1 : Read h 2 v1 (pairs E)) :
    WF p 23 [v0, v1] h fun r _ => r = .bool true := by
  have q23 : p.pr 23 = none := by rw [hpr]; rfl
  have q17 : p.pr 17 = none := by rw [hpr]; rfl
  have q55 : p.pr 55 = none := by rw [hpr]; rfl
  have q56 : p.pr 56 = none := by rw [hpr]; rfl
  have q20 : p.pr 20 = none := by rw [hpr]; rfl
  refine WF_of (by rw [hpg]; exact S.pg23) q23 ?_
  show W p S.b23 _ _ (retQ [.t 4] _)
  unfold S.b23
  have n0 := readI_len r0
  have n1 : lenV h .sl v1 = some (.int .i64 (E.length : Int)) := by
    have := r1.len (by decide); rw [pairs_length] at this; simpa using this
  simp
  refine WF_known hpr rfl ?_
  by_cases g1 : 40 < (base.length : Int)
  · simp [n0, n1, g1]
  by_cases g2 : 60 < (E.length : Int)
  · simp [n0, n1, g1, g2]
  simp [n0, n1, g1, g2]
  refine (prios_spec (least := []) (by rw [hpg]; exact S.pg17) q17 (by rw [hpg]; exact S.pg55) q55 (by rw [hpg]; exact S.pg56) q56 r0 (.inl ⟨rfl, rfl⟩) r1 (by simp [big]; omega) (by simp [big]; omega)).mono ?_
  rintro out h1 ⟨L, o1, hP, k1, -⟩
  rw [lift_nil] at hP
  have rb := r0.keep k1 fun _ _ => id
  have re := r1.keep k1 fun _ _ => id
  have m0 := readI_len rb
  have m1 : lenV h1 .sl v1 = some (.int .i64 (E.length : Int)) := by
    have := re.len (by decide); rw [pairs_length] at this; simpa using this
  have mo := readI_len o1.read
  have hL : L.length = base.length := hP.1.le.1.symm
  simp [m0, mo, hL]
  refine W_loop (LInv1 v0 v1 out base L h1) ?_ base.length ⟨0, by omega, by omega, rfl, rfl⟩
  rintro m e h' ⟨i, hi, rfl, rfl, rfl⟩
  by_cases hib : i = base.length
  · subst hib
    simp [m0]
    refine W_loop (LInv3 v1 out E h') ?_ E.length ⟨0, by omega, by omega, rfl, rfl⟩
    rintro m e h2 ⟨j, hj, rfl, rfl, rfl⟩
    by_cases hjE : j = E.length
    · subst hjE
      simp [m1]
      refine (prios_spec (least := []) (by rw [hpg]; exact S.pg17) q17 (by rw [hpg]; exact S.pg55) q55 (by rw [hpg]; exact S.pg56) q56 o1.read (.inl ⟨rfl, rfl⟩) re (by simp [big]; omega) (by simp [big]; omega)).mono ?_
      rintro out2 h3 ⟨L2, o2, hP2, k2, -⟩
      rw [lift_nil] at hP2
      have : L2 = L := hP2.unique ⟨OnWay.start L E, hP.2⟩
      subst this
      refine (ints_spec (by rw [hpg]; exact S.pg20) q20 o2.read (o1.read.keep k2 fun _ _ => id) (by simp [big]; omega)).mono ?_
      rintro r h4 ⟨rfl, rfl⟩
      simp
    · have hjlt : j < E.length := by omega
      have hjlt' : (j : Int) < E.length := by omega
      have hw : IntKind.i64.wrap ((j : Int) + 1) = ((j + 1 : Nat) : Int) := by rw [w64 (by omega) (by omega)]; omega
      obtain ⟨be, oe, y1, y2, y3⟩ := re.cell (i := j) (k := .i64) (by rw [pairs_length]; omega) (by decide)
      have hrow := pairs_row hjlt
      have ya := y3 0 (by decide)
      have yb := y3 1 (by decide)
      have hra : (pairs E)[j * 2 + 0]? = some (.int .i64 E[j].1) := by
        have := congrArg (·[0]?) hrow; simpa using this
      have hrb : (pairs E)[j * 2 + 1]? = some (.int .i64 E[j].2) := by
        have := congrArg (·[1]?) hrow; simpa using this
      rw [hra] at ya
      rw [hrb] at yb
      obtain ⟨a, b, hab⟩ : ∃ a b, E[j] = (a, b) := ⟨E[j].1, E[j].2, rfl⟩
      rw [hab] at ya yb
      simp only [Nat.add_zero] at ya yb
      have hcl := hP.2 E[j] (List.getElem_mem hjlt)
      rw [hab] at hcl
      have fin : ∃ m', m' < E.length - j ∧ LInv3 v1 out E h2 m' [(1, v1), (5, out), (9, .int .i64 ((j + 1 : Nat) : Int))] h2 := ⟨E.length - (j + 1), by omega, j + 1, by omega, rfl, rfl, rfl⟩
      by_cases z1 : 0 ≤ a
      · by_cases z2 : a < base.length
        · by_cases z3 : 0 ≤ b
          · by_cases z4 : b < base.length
            · obtain ⟨an, rfl⟩ := Int.eq_ofNat_of_zero_le z1
              obtain ⟨bn, rfl⟩ := Int.eq_ofNat_of_zero_le z3
              have han : an < L.length := by omega
              have hbn : bn < L.length := by omega
              obtain ⟨b1, o1', u1, u2, u3⟩ := readI_idx (k' := .i64) o1.read han
              obtain ⟨b2, o2', w1, w2, w3⟩ := readI_idx (k' := .i64) o1.read hbn
              have hle := hcl ⟨by simp, by simp; omega, by simp, by simp; omega⟩
              simp [getI, List.getD, han, hbn] at hle
              have hnl : ¬ (L[bn] < L[an]) := by omega
              simp [m1, hjlt', y1, ya, yb, mo, hL, z2, z4, u1, u3, w1, w3, hnl, hw]
              exact fin
            · simp [m1, hjlt', y1, ya, yb, mo, hL, z1, z2, z3, z4, hw]
              exact fin
          · simp [m1, hjlt', y1, ya, yb, mo, hL, z1, z2, z3, hw]
            exact fin
        · simp [m1, hjlt', y1, ya, yb, mo, hL, z1, z2, hw]
          exact fin
      · simp [m1, hjlt', y1, ya, yb, mo, hL, z1, hw]
        exact fin
  · have hlt : i < base.length := by omega
    have hlt' : (i : Int) < base.length := by omega
    have hiL : i < L.length := by omega
    have hwi : IntKind.i64.wrap ((i : Int) + 1) = ((i + 1 : Nat) : Int) := by rw [w64 (by omega) (by omega)]; omega
    obtain ⟨b0, o0, x1, x2, x3⟩ := readI_idx (k' := .i64) rb hlt
    obtain ⟨b1, o1', u1, u2, u3⟩ := readI_idx (k' := .i64) o1.read hiL
    simp [m0, hlt']
    refine W_loop (LInv2 v0 v1 out base L[i] i h') ?_ base.length ⟨0, false, by omega, by omega, rfl, rfl, by simp⟩
    rintro m e h2 ⟨k, f, hk, rfl, rfl, rfl, hf⟩
    by_cases hkb : k = base.length
    · subst hkb
      have hmem : L[i] ∈ base := by
        obtain ⟨q, hq, hqe⟩ := hP.1.src i hiL
        simp [List.getD, hiL, hq] at hqe
        rw [hqe]; exact List.getElem_mem hq
      have hft : f = true := hf.2 (by simpa using hmem)
      have hge : ¬ (L[i] < base[i]) := by
        have := hP.1.le.2 i hlt
        simp [List.getD, hiL, hlt] at this
        omega
      simp [m0, hft, u1, u3, x1, x3, hge, hwi]
      exact ⟨base.length - (i + 1), by omega, i + 1, by omega, rfl, rfl, rfl⟩
    · have hkl : k < base.length := by omega
      have hkl' : (k : Int) < base.length := by omega
      have hwk : IntKind.i64.wrap ((k : Int) + 1) = ((k + 1 : Nat) : Int) := by rw [w64 (by omega) (by omega)]; omega
      obtain ⟨b3, o3, t1, t2, t3⟩ := readI_idx (k' := .i64) rb hkl
      cases f with
      | true =>
        simp [m0, hkl', hwk]
        have ht : base.take (k + 1) = base.take k ++ [base[k]] := (List.take_append_getElem hkl).symm
        exact ⟨base.length - (k + 1), by omega, k + 1, true, by omega, rfl, rfl, rfl, fun _ => by rw [ht]; exact List.mem_append_left _ (hf.1 rfl), fun _ => rfl⟩
      | false =>
        simp [m0, hkl', hwk, t1, t3, u1, u3]
        refine ⟨base.length - (k + 1), by omega, k + 1, _, by omega, rfl, rfl, rfl, ?_⟩
        have ht : base.take (k + 1) = base.take k ++ [base[k]] := (List.take_append_getElem hkl).symm
        have hno : ¬ L[i] ∈ base.take k := fun h => by have := hf.2 h; cases this
        rw [ht, List.mem_append, decide_eq_true_eq, List.mem_singleton]
        exact ⟨fun e => .inr e.symm, fun e => e.elim (fun q => absurd q hno) fun q => q.symm⟩
end Go.Cl
