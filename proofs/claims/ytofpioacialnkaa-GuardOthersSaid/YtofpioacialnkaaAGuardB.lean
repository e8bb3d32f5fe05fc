/-
  GuardOthers, on the clean evaluator.
-/
import Derived.Test.YtofpioacialnkaaAGuardN
import Derived.Test.YtofpioacialnkaaClArg
namespace Go.Cl
open Go
set_option linter.unusedSimpArgs false
set_option linter.unusedVariables false

variable {p : PP}

/-- a task's period, out of a byte -/
def perOf (x : Int) : Int := 1 + x % 20

/-- the set under way: so many tasks -/
def GBInv1 (h : Heap) (v0 v1 : CV) (s0 : Nat) (ps : List Int) (m : Nat) (e : Env) (h' : Heap) : Prop :=
  ∃ (i : Nat) (tv : CV) (cs : List CV), i ≤ ps.length ∧ m = ps.length - i ∧ e = [(0, v0), (1, v1), (5, .ptr s0 0), (6, .int .i64 i)] ∧ Keep (fun _ => False) h h' ∧
    h'[s0]? = some (.arr [.int .i64 0, .nils, tv] .tight) ∧ Grown h' 5 tv cs ∧ cs.length = 5 * i ∧ (∀ j, (hj : j < ps.length) → j < i → cs[j * 5 + 1]? = some (.int .i64 (perOf ps[j]))) ∧ (∀ b, tv.blk = some b → h.length ≤ b ∧ b ≠ s0)

/-- the times, being laid -/
def GBInv2 (v0 v1 : CV) (s0 g a0 : Nat) (hB : Heap) (m : Nat) (e : Env) (h' : Heap) : Prop :=
  ∃ (i : Nat) (L : List Int), i ≤ 8 ∧ m = 8 - i ∧ e = [(0, v0), (1, v1), (5, .ptr s0 0), (8, .ptr g 0), (9, .ptr a0 0), (10, .int .i64 i)] ∧ Keep (· = a0) hB h' ∧
    h'[a0]? = some (.arr (ints .i64 L) .tight) ∧ L.length = 8 ∧ ∀ j, j < i → L[j]? = some (-1000)

/-- what was taken last of each -/
def Lasts (L : List Int) (f : Int → Option Int) (t : Nat) : Prop := L.length = 8 ∧ ∀ k : Nat, k < 8 → (L[k]? = some (-1000) ∧ f k = none) ∨ ∃ x : Nat, L[k]? = some (x : Int) ∧ x < t ∧ f k = some (x : Int)

theorem Lasts.next {L : List Int} {f : Int → Option Int} {t : Nat} (h : Lasts L f t) : Lasts L f (t + 1) :=
  ⟨h.1, fun k hk => by
    rcases h.2 k hk with q | ⟨x, q1, q2, q3⟩
    · exact .inl q
    · exact .inr ⟨x, q1, by omega, q3⟩⟩

theorem Lasts.put {L : List Int} {f : Int → Option Int} {t k : Nat} (h : Lasts L f t) (hk : k < 8) : Lasts (L.set k (t : Int)) (updI f k t) (t + 1) :=
  ⟨by simpa using h.1, fun j hj => by
    by_cases e : k = j
    · subst e
      exact .inr ⟨t, List.getElem?_set_self (by rw [h.1]; exact hk), by omega, by simp [updI]⟩
    · have e2 : ¬ ((j : Int) = (k : Int)) := by omega
      rw [List.getElem?_set_ne e]
      simp only [updI, e2, if_false]
      rcases h.2 j hj with q | ⟨x, q1, q2, q3⟩
      · exact .inl q
      · exact .inr ⟨x, q1, by omega, q3⟩⟩

def GBInv3 (v0 v1 : CV) (s0 g a0 : Nat) (pv : CV) (mb : Nat) (P : List Int) (n : Nat) (hN : Heap) (m : Nat) (e : Env) (h' : Heap) : Prop :=
  ∃ (t : Nat) (now : Int) (f : Int → Option Int) (L : List Int), t ≤ n ∧ m = n - t ∧ e = [(0, v0), (1, v1), (5, .ptr s0 0), (8, .ptr g 0), (9, .ptr a0 0), (11, .int .i64 t)] ∧ Keep (fun _ => False) hN h' ∧
    GuardAt h' g pv mb P f now ∧ h'[a0]? = some (.arr (ints .i64 L) .tight) ∧ now ≤ t ∧ Lasts L f t

theorem guardOthers_law (hpg : p.Pg = S.pg) (hpr : p.pr = addKnown [4] noPr) {h : Heap} {v0 v1 : CV} {ps l : List Int} (r0 : Read h 1 v0 (ints .u8 ps)) (r1 : Read h 1 v1 (ints .u8 l))
    (hps : ∀ x ∈ ps, 0 ≤ x ∧ x ≤ 255) (hl : ∀ x ∈ l, 0 ≤ x ∧ x ≤ 255) :
    WF p 7 [v0, v1] h fun r _ => r = .bool true := by
  have p7 : p.pr 7 = none := by rw [hpr]; rfl
  have p5 : p.pr 5 = none := by rw [hpr]; rfl
  have p6 : p.pr 6 = none := by rw [hpr]; rfl
  have p8 : p.pr 8 = none := by rw [hpr]; rfl
  refine WF_of (by rw [hpg]; exact S.pg7) p7 ?_
  show W p S.b7 _ _ (retQ [.t 4] _)
  unfold S.b7
  have n0 := readI_len r0
  have n1 := readI_len r1
  simp
  refine WF_known hpr rfl ?_
  by_cases g1 : (ps.length : Int) < 1
  · simp [n0, n1, g1]
  by_cases g2 : 8 < (ps.length : Int)
  · simp [n0, n1, g1, g2]
  by_cases g3 : 60 < (l.length : Int)
  · simp [n0, n1, g1, g2, g3]
  simp [n0, n1, g1, g2, g3, fillC, CV.cells, fits, CV.scalar, storeAt, splice]
  refine W_loop (GBInv1 h v0 v1 h.length ps) ?_ ps.length ⟨0, .nils, [], by omega, by omega, rfl, Keep.app _ _ _, by simp, .inl ⟨rfl, rfl⟩, rfl, fun j hj hj0 => by omega, by simp [CV.blk]⟩
  rintro m e h' ⟨i, tv, cs, hi, rfl, rfl, kp, b0, gr, hcl, hper, htv⟩
  have n0' := readI_len (r0.keep kp fun _ _ => id)
  have d0 := ld b0
  by_cases hip : i = ps.length
  · subst hip
    simp [n0', ldn b0]
    have hT : TasksAt h' tv (ps.map perOf) := ⟨cs, gr.read, by simp [hcl], fun j hj => by simpa using hper j (by simpa using hj) (by simpa using hj)⟩
    refine (new_spec (by rw [hpg]; exact S.pg5) p5 hT (by simp [big]; omega)).mono ?_
    rintro r h1 ⟨g, pv, mb, rfl, hg, kN, hgN, hmN, hpN⟩
    simp [eqv, CV.cells]
    have hgl : g < h1.length := lt_of_get hg.obj
    have hml : mb < h1.length := hg.map.lt
    have hpl : ∀ b, pv.blk = some b → b < h1.length := hg.per.blk_lt
    have kB : Keep (fun _ => False) h1 (h1 ++ [.arr [.int .i64 0, .int .i64 0, .int .i64 0, .int .i64 0, .int .i64 0, .int .i64 0, .int .i64 0, .int .i64 0] .tight]) := Keep.app _ _ _
    have hgB := hg.keep kB id id (fun _ _ => id)
    have b0N := kN.at b0 id
    have hsg : h.length ≠ g := by have := lt_of_get b0; omega
    refine W_loop (GBInv2 v0 v1 h.length g h1.length (h1 ++ [.arr [.int .i64 0, .int .i64 0, .int .i64 0, .int .i64 0, .int .i64 0, .int .i64 0, .int .i64 0, .int .i64 0] .tight])) ?_ 8
      ⟨0, [0, 0, 0, 0, 0, 0, 0, 0], by omega, rfl, rfl, Keep.refl _ _, by simp [ints], rfl, fun j hj => by omega⟩
    rintro m e h2 ⟨i, L, hi, rfl, rfl, k2, a2, hL, hLi⟩
    by_cases hi8 : i = 8
    · subst hi8
      simp
      have hgA : GuardAt h2 g pv mb (ps.map perOf) (fun _ => none) 0 := hgB.keep k2 (by omega) (by omega) (fun b hb => by have := hpl b hb; omega)
      have kA : Keep (fun _ => False) h' h2 := ((kN.trans kB).then k2 fun j hj e => by have := kN.len; omega)
      refine W_loop (GBInv3 v0 v1 h.length g h1.length pv mb (ps.map perOf) l.length h') ?_ l.length
        ⟨0, 0, _, L, by omega, by omega, rfl, kA, hgA, a2, by omega, hL, fun k hk => .inl ⟨hLi k hk, rfl⟩⟩
      clear k2 a2 hL hLi
      rintro m e h3 ⟨t, now, f, L, ht, rfl, rfl, k3, g3, a3, hnow, hL⟩
      have n1' := readI_len ((r1.keep kp fun _ _ => id).keep k3 fun _ _ => id)
      by_cases htl : t = l.length
      · subst htl
        simp [n1']
      have htlt : t < l.length := by omega
      have htlt' : (t : Int) < l.length := by omega
      obtain ⟨bx, ox, x1, x2, x3⟩ := readI_idx (k' := .i64) ((r1.keep kp fun _ _ => id).keep k3 fun _ _ => id) htlt
      have hx := hl l[t] (List.getElem_mem htlt)
      obtain ⟨xn, hxn⟩ := Int.eq_ofNat_of_zero_le hx.1
      rw [hxn] at x3 hx
      have hwx : IntKind.i64.wrap (xn : Int) = xn := w64 (by omega) (by omega)
      have n0t := readI_len ((r0.keep kp fun _ _ => id).keep k3 fun _ _ => id)
      have hpz : ¬ ps.length = 0 := by omega
      obtain ⟨kk, hkk⟩ : ∃ kk, kk = xn % ps.length := ⟨_, rfl⟩
      have hrem : (xn : Int).tmod (ps.length : Int) = (kk : Int) := by rw [hkk]; rfl
      have hk : kk < ps.length := by rw [hkk]; exact Nat.mod_lt _ (by omega)
      have hkp : 0 ≤ ps[kk] ∧ ps[kk] ≤ 255 := hps ps[kk] (List.getElem_mem hk)
      have hpr20 : 1 ≤ perOf ps[kk] ∧ perOf ps[kk] ≤ 20 := by unfold perOf; omega
      have hPk : (ps.map perOf).getD kk 0 = perOf ps[kk] := by simp [List.getD, hk]
      obtain ⟨y, hy, hyb, hyf⟩ : ∃ y : Int, L[kk]? = some y ∧ -1000 ≤ y ∧ ((y = -1000 ∧ f kk = none) ∨ (0 ≤ y ∧ y < t ∧ f kk = some y)) := by
        rcases hL.2 kk (by omega) with ⟨q1, q2⟩ | ⟨z, q1, q2, q3⟩
        · exact ⟨_, q1, by omega, .inl ⟨rfl, q2⟩⟩
        · exact ⟨_, q1, by omega, .inr ⟨by omega, by omega, q3⟩⟩
      have hyt : y ≤ t := by rcases hyf with h | h <;> omega
      have hsub : IntKind.i64.wrap ((t : Int) - y) = (t : Int) - y := w64 (by omega) (by omega)
      have hLk : (ints .i64 L)[kk]? = some (.int .i64 y) := by rw [ints_get, hy]; rfl
      obtain ⟨live, hlive⟩ : ∃ b : Bool, b = decide ((200 : Int) ≤ xn) := ⟨_, rfl⟩
      have hE : askE (ps.map perOf) f now kk t live = if (t : Int) - y < perOf ps[kk] then 12 else if live then 10 else 0 := by
        have q1 : ¬ ((kk : Int) < 0) := by omega
        have q2 : ¬ ((ps.length : Int) ≤ kk) := by omega
        have q3 : ¬ ((t : Int) < now) := by omega
        have q4 : ¬ ((t : Int) < 0) := by omega
        have q5 : ¬ (1099511627776 < (t : Int)) := by omega
        simp only [askE, List.length_map, q1, q2, q3, q4, q5, or_self, if_false]
        rcases hyf with ⟨e1, e2⟩ | ⟨e1, e2, e3⟩
        · have : ¬ ((t : Int) - y < perOf ps[kk]) := by omega
          simp [e2, this]
        · simp only [e3, hsub, Int.toNat_natCast, hPk, decide_eq_true_eq]
      simp [n1', htlt', x1, x3, hwx, n0t, hpz, hrem, ← hlive]
      refine (ask_spec (by rw [hpg]; exact S.pg6) p6 g3 kk t live).mono ?_
      rintro r h4 ⟨rfl, hr2, k4, l4⟩
      rw [hE] at hr2 ⊢
      have hNl := kN.len
      have hgN' : h'.length ≤ g := hgN
      have b4 : h4[h.length]? = some (.arr [.int .i64 0, .nils, tv] .tight) := k4.at (k3.at b0 id) (by have := lt_of_get b0; omega)
      have a4 : h4[h1.length]? = some (.arr (ints .i64 L) .tight) := k4.at a3 (by omega)
      have t4 := ((gr.read).keep k3 fun _ _ => id).keep k4 (fun b hb => by have := gr.read.blk_lt b hb; omega)
      obtain ⟨bt, ot, y1, y2, y3⟩ := t4.cell (i := kk) (k := .i64) (by rw [hcl]; omega) (by decide)
      have y4 := y3 1 (by decide)
      rw [hper kk hk hk] at y4
      have la := ld a4
      have lb := ld b4
      have hk8 : (kk : Int) < 8 := by omega
      have hwt : IntKind.i64.wrap ((t : Int) + 1) = ((t + 1 : Nat) : Int) := by rw [w64 (by omega) (by omega)]; omega
      have hk4 : Keep (fun _ => False) h' h4 := k3.then k4 fun j hj e => by omega
      by_cases c1 : (t : Int) - y < perOf ps[kk]
      · rw [if_pos c1] at hr2
        simp at hr2
        subst hr2
        simp [la, lb, hk8, hLk, hsub, y1, y4, c1]
        refine (last_spec (by rw [hpg]; exact S.pg8) p8 g3 kk).mono ?_
        rintro r h5 ⟨rfl, rfl⟩
        rcases hyf with ⟨e1, e2⟩ | ⟨e1, e2, e3⟩
        · have hy0 : ¬ (0 ≤ y) := by omega
          simp [eqv, e2, la, hk8, hLk, hy0, hwt]
          exact ⟨l.length - (t + 1), by omega, t + 1, now, f, L, by omega, rfl, rfl, k3, g3, a3, by omega, hL.next⟩
        · simp [eqv, e3, la, hk8, hLk, e1, hwt]
          exact ⟨l.length - (t + 1), by omega, t + 1, now, f, L, by omega, rfl, rfl, k3, g3, a3, by omega, hL.next⟩
      · rw [if_neg c1] at hr2
        cases hlv : live with
        | true =>
          rw [hlv] at hr2
          simp at hr2
          subst hr2
          simp [la, lb, hk8, hLk, hsub, y1, y4, c1]
          refine (last_spec (by rw [hpg]; exact S.pg8) p8 g3 kk).mono ?_
          rintro r h5 ⟨rfl, rfl⟩
          rcases hyf with ⟨e1, e2⟩ | ⟨e1, e2, e3⟩
          · have hy0 : ¬ (0 ≤ y) := by omega
            simp [eqv, e2, la, hk8, hLk, hy0, hwt]
            exact ⟨l.length - (t + 1), by omega, t + 1, now, f, L, by omega, rfl, rfl, k3, g3, a3, by omega, hL.next⟩
          · simp [eqv, e3, la, hk8, hLk, e1, hwt]
            exact ⟨l.length - (t + 1), by omega, t + 1, now, f, L, by omega, rfl, rfl, k3, g3, a3, by omega, hL.next⟩
        | false =>
          rw [hlv] at hr2
          simp at hr2
          have s4 := stt a4
          have hkL : kk < L.length := by rw [hL.1]; omega
          have hsp : splice (ints .i64 L) kk [.int .i64 (t : Int)] = ints .i64 (L.set kk (t : Int)) := by
            rw [splice_set (by simpa using hkL)]; unfold ints; rw [List.map_set]
          have hkk8 : kk + 1 ≤ 8 := by omega
          simp [la, lb, hk8, hLk, hsub, y1, y4, c1, s4, CV.cells, CV.scalar, fits, hL.1, hkk8, hsp]
          have k5 : Keep (· = h1.length) h4 (h4.set h1.length (.arr (ints .i64 (L.set kk (t : Int))) .tight)) := Keep.set _ _ rfl
          have g5 := hr2.keep k5 (by omega) (by omega) (fun b hb => by have := hpl b hb; omega)
          have a5 : (h4.set h1.length (.arr (ints .i64 (L.set kk (t : Int))) .tight))[h1.length]? = some (.arr (ints .i64 (L.set kk (t : Int))) .tight) := get_set_self (lt_of_get a4)
          have la5 := ld a5
          have hLk5 : (ints .i64 (L.set kk (t : Int)))[kk]? = some (.int .i64 (t : Int)) := by rw [ints_get, List.getElem?_set_self hkL]; rfl
          refine (last_spec (by rw [hpg]; exact S.pg8) p8 g5 kk).mono ?_
          rintro r h6 ⟨rfl, rfl⟩
          have hu : updI f kk t kk = some (t : Int) := by simp [updI]
          simp [eqv, hu, la5, hk8, hLk5, hwt]
          refine ⟨l.length - (t + 1), by omega, t + 1, t, _, _, by omega, rfl, rfl, hk4.then k5 fun j hj e => by omega, g5, a5, by omega, hL.put (by omega)⟩
    · have hlt8 : (i : Int) < 8 := by omega
      have hi8' : i < L.length := by omega
      have hnn : (0 : Int) ≤ i := by omega
      have hw : IntKind.i64.wrap ((i : Int) + 1) = ((i + 1 : Nat) : Int) := by rw [w64 (by omega) (by omega)]; omega
      have s2 := stt a2
      have hii : i + 1 ≤ 8 := by omega
      have hsp : splice (ints .i64 L) i [.int .i64 (-1000)] = ints .i64 (L.set i (-1000)) := by
        rw [splice_set (by simpa using hi8')]; unfold ints; rw [List.map_set]
      simp [hlt8, s2, CV.cells, CV.scalar, fits, hw, hL, hii, hsp]
      refine ⟨8 - (i + 1), by omega, i + 1, L.set i (-1000), by omega, rfl, rfl, k2.trans (Keep.set _ _ rfl), get_set_self (lt_of_get a2), by simpa using hL, fun j hj => ?_⟩
      rw [List.getElem?_set]
      by_cases hji : i = j
      · subst hji; simp [hi8']
      · rw [if_neg hji]; exact hLi j (by omega)
  · have hlt : i < ps.length := by omega
    have hlt' : (i : Int) < ps.length := by omega
    obtain ⟨b, o, c1, c2, c3⟩ := readI_idx (k' := .i64) (r0.keep kp fun _ _ => id) hlt
    have hx := hps ps[i] (List.getElem_mem hlt)
    simp [n0', hlt', c1, c3, d0, fillC, CV.cells, fits, CV.scalar, splice, cellsAt, ofBytes, spread]
    have hk3 : ∀ g, Keep (fun _ => False) h' (h' ++ g) := fun g => Keep.app _ _ _
    have hq : IntKind.i64.wrap (1 + IntKind.i64.wrap (ps[i].tmod 20)) = perOf ps[i] := by
      have e : ps[i].tmod 20 = ps[i] % 20 := Int.tmod_eq_emod_of_nonneg hx.1
      rw [e, w64 (x := ps[i] % 20) (by omega) (by omega), w64 (by omega) (by omega)]; rfl
    have hw : IntKind.i64.wrap ((i : Int) + 1) = ((i + 1 : Nat) : Int) := by rw [w64 (by omega) (by omega)]; omega
    refine OV_append (N := h'.length + 3) (n := i) (gr.keep (hk3 _) fun _ _ => id) (by simp) (by omega) (by decide) rfl rfl (by simp [big]; omega) (by decide) (by decide) ?_
    intro h2 gA gL gK
    have b2 := gK.at ((hk3 _).at b0 id) (fun e => (htv _ e).2 rfl)
    have s2 := stt b2
    simp [s2, splice, CV.scalar, hw]
    have hlen : h.length < h'.length := lt_of_get b0
    refine ⟨ps.length - (i + 1), by omega, i + 1, _, _, by omega, rfl, rfl, ?_, get_set_self (lt_of_get b2), gA.keep (Keep.set (S := (· = h.length)) _ _ rfl) ?_, ?_, ?_, ?_⟩
    · refine ((kp.trans (hk3 _)).then gK fun j hj e => ?_).then (Keep.set (S := (· = h.length)) _ _ rfl) fun j hj e => ?_
      · have := (htv _ e).1; omega
      · omega
    · intro b e; simp [CV.blk] at e; omega
    · simp [hcl]; omega
    · intro j hj hj2
      by_cases hji : j = i
      · subst hji
        rw [List.getElem?_append_right (by omega), hcl]
        rw [show j * 5 + 1 - 5 * j = 1 by omega]
        simp [hq]
      · rw [List.getElem?_append_left (by omega)]
        exact hper j hj (by omega)
    · intro b e; simp [CV.blk] at e; omega
end Go.Cl
