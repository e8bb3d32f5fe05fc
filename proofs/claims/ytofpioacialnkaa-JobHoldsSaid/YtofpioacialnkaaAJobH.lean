/-
  JobHolds, on the clean evaluator.
-/
import Derived.Test.YtofpioacialnkaaAJobS
import Derived.Test.YtofpioacialnkaaAJobN
namespace Go.Cl
open Go
set_option linter.unusedSimpArgs false
set_option linter.unusedVariables false
set_option maxHeartbeats 8000000

variable {p : PP}

def oneRun : List OpV := [⟨1, 5, 0, 0, []⟩]

/-- the job and its lock's list side by side -/
structure HoldS (h h' : Heap) (c3 c4 : Nat) (hv : CV) (Hs : List Int) : Prop where
  keep : Keep NoneOf h h'
  at3 : ∃ d, h'[c3]? = some (.arr d .tight) ∧ jobC.rep h' (fun b => b ≠ c3 ∧ hv.blk ≠ some b) d { newF oneRun 9 3 4 with held := Hs }
  at4 : ∃ d, h'[c4]? = some (.arr d .tight) ∧ jobC.rep h' (fun b => b ≠ c3 ∧ hv.blk ≠ some b) d (newF oneRun 9 3 4)
  own : OwnL (.int .i64) h' NoneOf hv Hs
  new3 : h.length ≤ c3
  ne34 : c3 ≠ c4
  newv : ∀ b, hv.blk = some b → h.length ≤ b ∧ b ≠ c3 ∧ b ≠ c4

theorem HoldS.lt3 {h h' : Heap} {c3 c4 : Nat} {hv : CV} {Hs : List Int} (s : HoldS h h' c3 c4 hv Hs) : c3 < h'.length := let ⟨_, g, _⟩ := s.at3; lt_of_get g
theorem HoldS.lt4 {h h' : Heap} {c3 c4 : Nat} {hv : CV} {Hs : List Int} (s : HoldS h h' c3 c4 hv Hs) : c4 < h'.length := let ⟨_, g, _⟩ := s.at4; lt_of_get g

/-- another list in the place of the one of one's own -/
theorem HoldS.turn {h h' h2 : Heap} {c3 c4 : Nat} {hv v2 : CV} {Hs Ks : List Int} (s : HoldS h h' c3 c4 hv Hs) {d : List CV} (g3 : h2[c3]? = some (.arr d .tight)) (S : Nat → Prop) (k : Keep S h' h2) (hS : ∀ b, b < h'.length → S b → b = c3 ∨ hv.blk = some b)
    (r3 : jobC.rep h2 (fun b => b ≠ c3 ∧ v2.blk ≠ some b) d { newF oneRun 9 3 4 with held := Ks }) (o : OwnL (.int .i64) h2 NoneOf v2 Ks) (hv2 : ∀ b, v2.blk = some b → hv.blk = some b ∨ h'.length ≤ b) : HoldS h h2 c3 c4 v2 Ks where
  keep := s.keep.then k fun b hb hb' => by
    rcases hS b (Nat.lt_of_lt_of_le hb s.keep.len) hb' with e | e
    · have := s.new3; omega
    · have := (s.newv b e).1; omega
  at3 := ⟨d, g3, r3⟩
  at4 := by
    obtain ⟨d4, g4, r4⟩ := s.at4
    have h4 : ¬ S c4 := fun e => by
      rcases hS c4 (lt_of_get g4) e with e | e
      · exact s.ne34 e.symm
      · exact (s.newv c4 e).2.2 rfl
    have r4' : jobC.rep h' (fun b => (b ≠ c3 ∧ hv.blk ≠ some b) ∧ b < h'.length) d4 (newF oneRun 9 3 4) := jobC.lt r4
    refine ⟨d4, k.at g4 h4, jobC.mono (jobC.keep r4' k fun b hb e => ?_) fun b hb => ⟨hb.1.1, fun e => ?_⟩⟩
    · rcases hS b hb.2 e with e | e
      · exact hb.1.1 e
      · exact hb.1.2 e
    · rcases hv2 b e with e | e
      · exact hb.1.2 e
      · omega
  own := o
  new3 := s.new3
  ne34 := s.ne34
  newv b e := by
    have := s.lt3
    have := s.lt4
    have := s.keep.len
    rcases hv2 b e with e | e
    · exact s.newv b e
    · exact ⟨by omega, by omega, by omega⟩

def HoldsInv (v0 : CV) (l : List Int) (h : Heap) (c3 c4 : Nat) (m : Nat) (e : Env) (h' : Heap) : Prop :=
  ∃ (i : Nat) (hv : CV) (Hs : List Int), i ≤ l.length ∧ m = l.length - i ∧ e = [(0, v0), (3, .ptr c3 0), (4, .ptr c4 0), (5, hv), (6, .int .i64 i)] ∧ Hs.length ≤ i ∧ HoldS h h' c3 c4 hv Hs

def HoldsInv2 (v0 : CV) (h : Heap) (c3 c4 : Nat) (hv : CV) (Hs : List Int) (i k : Int) (Ks : List Int) (h1 : Heap) (m : Nat) (e : Env) (h' : Heap) : Prop :=
  ∃ (j : Nat) (nv : CV), j ≤ Hs.length ∧ m = Hs.length - j ∧ e = [(0, v0), (3, .ptr c3 0), (4, .ptr c4 0), (5, hv), (6, .int .i64 i), (7, .int .i64 k), (8, nv), (9, .int .i64 j)] ∧ Keep NoneOf h1 h' ∧
    OwnL (.int .i64) h' NoneOf nv ((Hs.take j).filter fun y => decide (y ≠ k)) ∧ ∀ b, nv.blk = some b → h1.length ≤ b

theorem jobHolds_law (hpg : p.Pg = S.pg) (hpr : p.pr = addKnown [27] noPr) {h : Heap} {v0 : CV} {l : List Int} (r0 : Read h 1 v0 (ints .u8 l)) (hx : ∀ x ∈ l, 0 ≤ x ∧ x ≤ 255) :
    WF p 49 [v0] h fun r _ => r = .bool true := by
  have q : ∀ K, K ≠ 27 → p.pr K = none := by
    intro K hK
    rw [hpr]
    show (match [27].contains K with | true => _ | false => noPr K) = none
    have : [27].contains K = false := by simp [hK]
    rw [this]; rfl
  have pg : ∀ K sf, S.pg K = some sf → p.Pg K = some sf := fun K sf e => by rw [hpg]; exact e
  refine WF_of (pg 49 _ S.pg49) (q 49 (by decide)) ?_
  show W p S.b49 _ _ (retQ [.t 2] _)
  unfold S.b49
  have n0 := readI_len r0
  have kap : ∀ (h : Heap) g, Keep NoneOf h (h ++ g) := fun h g => Keep.app _ _ _
  simp
  refine WF_known hpr rfl ?_
  by_cases g1 : 40 < (l.length : Int)
  · simp [n0, g1]
  simp [n0, g1, fillC, splice]
  have s1 : Sl opC (h ++ [.arr [.int .i64 1, .int .i64 5, .int .i64 0, .int .i64 0, .nils] .tight]) (fun b => b = h.length) (.sl h.length 0 1 1) oneRun := by
    refine ⟨[.int .i64 1, .int .i64 5, .int .i64 0, .int .i64 0, .nils], .inr ⟨h.length, 0, 1, 1, _, .tight, rfl, rfl, get_new, by simp [opC], rfl⟩, ⟨Nat.le_refl 1, fun b hb => by simp [CV.blk] at hb; exact hb.symm⟩, ?_⟩
    exact Rows.one (e := opC) ⟨.nils, rfl, Sl.nil⟩
  refine (jobNew_spec hpg (q 48 (by decide)) (q 65 (by decide)) s1 (by simp [big, oneRun]) (by simp [oneRun])).mono ?_
  rintro r h2 ⟨k2, d, rfl, rd⟩
  have ld2 := jobC.len rd
  have fd2 := jobC.flat rd
  simp only [jobC] at ld2
  have st := store_new (h := h2) (z := [.bool false, .nils, .int .i64 0, .int .i64 0, .int .i64 0, .int .i64 0, .int .i64 0, .int .i64 0, .bool false, .nils]) (row := d) (by simpa using ld2) fd2
  have st2 := store_new2 (h := h2) (o := .arr d .tight) (z := [.bool false, .nils, .int .i64 0, .int .i64 0, .int .i64 0, .int .i64 0, .int .i64 0, .int .i64 0, .bool false, .nils]) (row := d) (by simpa using ld2) fd2
  simp [ld2, st, load_new, st2]
  have hl2 := k2.len
  simp at hl2
  have rd2 := jobC.mono (jobC.lt rd) (Q := fun b => b < h2.length) fun b hb => hb.2
  refine W_loop (HoldsInv v0 l h h2.length (h2.length + 1)) ?_ l.length ⟨0, .nils, [], by omega, by omega, rfl, by simp, ?_⟩
  · rintro m e h3 ⟨i, hv, Hs, hi, rfl, rfl, hHs, s3⟩
    have m0 := readI_len (r0.keep s3.keep fun _ _ => id)
    obtain ⟨d3, g3, r3⟩ := s3.at3
    have l3 := lt_of_get g3
    by_cases hil : i = l.length
    · subst hil
      obtain ⟨d4, g4, r4⟩ := s3.at4
      obtain ⟨fv, hv3, rfl, sf, sh⟩ := r3
      have s3f := sto1 g3 (o := 9) (v := .nils) (by simp [jobCells]) rfl
      simp only [jobCells, List.set_cons_succ, List.set_cons_zero] at s3f
      simp [m0, s3f]
      have ke : Keep (fun b => b = h2.length) h3 (h3.set h2.length (.arr [.bool (newF oneRun 9 3 4).live, fv, .int .i64 (newF oneRun 9 3 4).pc, .int .i64 (newF oneRun 9 3 4).left, .int .i64 (newF oneRun 9 3 4).used, .int .i64 (newF oneRun 9 3 4).most, .int .i64 (newF oneRun 9 3 4).since, .int .i64 (newF oneRun 9 3 4).seq, .bool (newF oneRun 9 3 4).waits, .nils] .tight)) := Keep.set _ _ rfl
      have w3 := ldw (get_set_self (o := .arr [.bool (newF oneRun 9 3 4).live, fv, .int .i64 (newF oneRun 9 3 4).pc, .int .i64 (newF oneRun 9 3 4).left, .int .i64 (newF oneRun 9 3 4).used, .int .i64 (newF oneRun 9 3 4).most, .int .i64 (newF oneRun 9 3 4).since, .int .i64 (newF oneRun 9 3 4).seq, .bool (newF oneRun 9 3 4).waits, .nils] .tight) l3) (n := 10) rfl
      have g4' := ke.at g4 (fun e => by omega)
      have w4 := ldw g4' (jobC.len r4)
      simp only [jobC] at w4
      simp [w3, w4]
      have r3' : jobC.rep _ (fun b => b ≠ h2.length) _ (newF oneRun 9 3 4) := ⟨fv, .nils, rfl, (sf.keep ke fun b hb e => hb.1 e).mono fun b hb => hb.1, Sl.nil⟩
      refine (jobSame_spec hpg (q 34 (by decide)) (q 61 (by decide)) (q 62 (by decide)) (q 51 (by decide)) (q 66 (by decide)) r3' (jobC.keep r4 ke fun b hb e => hb.1 e) (by simp [big, newF, oneRun]) (by simp [newF, oneRun]) (by simp [newF])).mono ?_
      rintro r h5 ⟨k5, rfl⟩
      obtain ⟨fv4, hv4, rfl, sf4, sh4⟩ := r4
      have l4 := ld (k5.at g4' id)
      have n4 := ((sh4.keep ke fun b hb e => hb.1 e).on k5).len (by decide)
      simp [l4, jobCells, n4]
      simp [newF]
    · have hlt : i < l.length := by omega
      have hlt' : (i : Int) < l.length := by omega
      obtain ⟨b, o, x1, x2, x3⟩ := readI_idx (k' := .i64) (r0.keep s3.keep fun _ _ => id) hlt
      have hx0 := hx l[i] (List.getElem_mem hlt)
      obtain ⟨x, hxx⟩ := Int.eq_ofNat_of_zero_le hx0.1
      rw [hxx] at x3
      have hx1 : x ≤ 255 := by omega
      have hwi : IntKind.i64.wrap ((i : Int) + 1) = ((i + 1 : Nat) : Int) := by rw [w64 (by omega) (by omega)]; omega
      obtain ⟨m8, hm8⟩ : ∃ m8, m8 = x % 8 := ⟨_, rfl⟩
      have e6 : (x : Int).tmod 8 = (m8 : Int) := by rw [hm8]; rfl
      have e7 : IntKind.i64.wrap (m8 : Int) = m8 := w64 (by omega) (by omega)
      have w3 := ldw g3 (jobC.len r3)
      simp only [jobC] at w3
      by_cases hb : (x : Int) < 160
      · simp [m0, hlt', x1, x3, e6, e7, hb, w3]
        refine (take_spec (.inl (pg 43 _ S.pg43)) (q 43 (by decide)) (pg 55 _ S.pg55) (q 55 (by decide)) r3 (by simp [big]; omega)).mono ?_
        rintro r h4 ⟨k4, d4, rfl, r4⟩
        have l4 := jobC.len r4
        simp only [jobC] at l4
        have g4 := k4.at g3 id
        have st4 := sto g4 (vs := d4) (by rw [l4, jobC.len r3]; rfl) (jobC.flat r4)
        obtain ⟨H4, hH4⟩ : ∃ H4, H4 = h4.set h2.length (Obj.arr d4 .tight) := ⟨_, rfl⟩
        have ke : Keep (fun b => b = h2.length) h4 H4 := by rw [hH4]; exact Keep.set _ _ rfl
        have G4 : H4[h2.length]? = some (.arr d4 .tight) := by rw [hH4]; exact get_set_self (lt_of_get g4)
        have hl34 := k4.len
        have r5 := jobC.keep (jobC.lt r4) ke fun b hb e => by
          rcases hb.1 with hb | hb
          · exact hb.1 e
          · omega
        simp [l4, st4]
        rw [← hH4]
        have hlen : H4.length = h4.length := by rw [hH4]; simp
        have e8 : (H4 ++ [Obj.arr [.int .i64 m8] .tight])[h4.length]? = some (.arr [.int .i64 m8] .tight) := by rw [← hlen]; simp
        simp [fillC, splice, spread, cellsAt, e8]
        have own4 := (s3.own.on k4).keep ke (fun b hb e => (s3.newv b hb).2.1 e) fun b hb => hb.elim
        refine OV_push (e := .int .i64) (x := (m8 : Int)) (own4.on (kap H4 _)) rfl (fun b hb => hb.elim) (by simp [big]; omega) (by decide) ?_
        intro v6 h6 o6 k6 hb6
        have hv6 : ∀ b, v6.blk = some b → hv.blk = some b ∨ h4.length ≤ b := fun b hb => by
          rcases hb6 b hb with q | q
          · exact .inl q
          · right; have := ke.len; simp at q; omega
        have hnv : ∀ b, hv.blk = some b → b < h3.length := s3.own.blk
        have nv3 : hv.blk ≠ some h2.length := fun e => (s3.newv _ e).2.1 rfl
        have G6 := k6.at (get_app (g := [.arr [.int .i64 m8] .tight]) G4) nv3
        have r6 := jobC.keep (jobC.on r5 (kap H4 [.arr [.int .i64 m8] .tight])) k6 fun b hb e => by
          rcases hb.1 with hb | hb
          · exact hb.2 e
          · have := hnv b e; omega
        have S6 : HoldS h h6 h2.length (h2.length + 1) v6 (Hs ++ [(m8 : Int)]) := by
          refine s3.turn G6 (fun b => b = h2.length ∨ hv.blk = some b) ?_ (fun b _ hb => hb) (jobC.mono r6 fun b hb => ⟨fun e => ?_, fun e => ?_⟩) o6 fun b hb => ?_
          · exact (((k4.mono (T := fun b => b = h2.length ∨ hv.blk = some b) fun _ _ e => e.elim).then ke fun b _ e => .inl e).then (kap H4 _) fun _ _ e => e.elim).then k6 fun b _ e => .inr e
          · rcases hb.1 with hb | hb
            · exact hb.1 e
            · omega
          · rcases hv6 b e with q | q
            · rcases hb.1 with hb | hb
              · exact hb.2 q
              · have := hnv b q; omega
            · omega
          · rcases hv6 b hb with q | q
            · exact .inl q
            · right; omega
        have w6 := ld G6
        obtain ⟨fv6, hv6', rfl, sf6, sh6⟩ := r6
        have i9 := w6 9
        simp only [jobCells] at i9
        simp at i9
        simp [i9]
        refine (ints_spec (pg 20 _ S.pg20) (q 20 (by decide)) sh6.ints o6.sl.ints (by simp [takeF, big]; omega)).mono ?_
        rintro r h7 ⟨rfl, rfl⟩
        simp [takeF, hwi]
        exact ⟨l.length - (i + 1), by omega, i + 1, v6, Hs ++ [(m8 : Int)], by omega, rfl, rfl, by simp; omega, S6⟩
      · simp [m0, hlt', x1, x3, e6, e7, hb, w3]
        refine (give_spec (.inl (pg 45 _ S.pg45)) (q 45 (by decide)) r3 (by simp [big]; omega)).mono ?_
        rintro r h4 ⟨k4, d4, rfl, r4⟩
        have l4 := jobC.len r4
        simp only [jobC] at l4
        have g4 := k4.at g3 id
        have st4 := sto g4 (vs := d4) (by rw [l4, jobC.len r3]; rfl) (jobC.flat r4)
        obtain ⟨H4, hH4⟩ : ∃ H4, H4 = h4.set h2.length (Obj.arr d4 .tight) := ⟨_, rfl⟩
        have ke : Keep (fun b => b = h2.length) h4 H4 := by rw [hH4]; exact Keep.set _ _ rfl
        have G4 : H4[h2.length]? = some (.arr d4 .tight) := by rw [hH4]; exact get_set_self (lt_of_get g4)
        have hl34 := k4.len
        have r5 := jobC.keep (jobC.lt r4) ke fun b hb e => by
          rcases hb.1 with hb | hb
          · exact hb.1 e
          · omega
        simp [l4, st4]
        rw [← hH4]
        have hlen : H4.length = h4.length := by rw [hH4]; simp
        have own4 := (s3.own.on k4).keep ke (fun b hb e => (s3.newv b hb).2.1 e) fun b hb => hb.elim
        have k34 : Keep (fun b => b = h2.length ∨ hv.blk = some b) h3 H4 := (k4.mono (T := fun b => b = h2.length ∨ hv.blk = some b) fun _ _ e => e.elim).then ke fun b _ e => .inl e
        refine W_loop (HoldsInv2 v0 h h2.length (h2.length + 1) hv Hs i m8 [] H4) ?_ Hs.length ⟨0, .nils, by omega, by omega, rfl, Keep.refl _ _, OwnL.nil, by simp [CV.blk]⟩
        rintro m e h6 ⟨j, nv, hj, rfl, rfl, k6, o6, hnv6⟩
        have nH := (own4.on k6).sl.len (by decide)
        by_cases hjl : j = Hs.length
        · subst hjl
          rw [List.take_length] at o6
          have G6 := k6.at G4 id
          have w6 := ld G6
          have r6 := jobC.on r5 k6
          have hnv : ∀ b, hv.blk = some b → b < h3.length := s3.own.blk
          have S6 : HoldS h h6 h2.length (h2.length + 1) nv (Hs.filter fun y => decide (y ≠ (m8 : Int))) := by
            refine s3.turn G6 (fun b => b = h2.length ∨ hv.blk = some b) (k34.then k6 fun _ _ e => e.elim) (fun b _ hb => hb) (jobC.mono r6 fun b hb => ⟨fun e => ?_, fun e => ?_⟩) o6 fun b hb => ?_
            · rcases hb.1 with hb | hb
              · exact hb.1 e
              · omega
            · have := hnv6 b e; omega
            · right; have := hnv6 b hb; omega
          obtain ⟨fv6, hv6', rfl, sf6, sh6⟩ := r6
          have i9 := w6 9
          simp only [jobCells] at i9
          simp at i9
          simp [nH, i9]
          refine (ints_spec (pg 20 _ S.pg20) (q 20 (by decide)) sh6.ints o6.sl.ints (Nat.le_trans (List.length_filter_le _ _) (by show Hs.length ≤ big; simp [big]; omega))).mono ?_
          rintro r h7 ⟨rfl, rfl⟩
          simp [giveF, hwi]
          refine ⟨l.length - (i + 1), by omega, i + 1, nv, Hs.filter fun y => decide (y ≠ (m8 : Int)), by omega, rfl, rfl, ?_, S6⟩
          have := List.length_filter_le (fun y => decide (y ≠ (m8 : Int))) Hs
          omega
        · have hjlt : j < Hs.length := by omega
          have hjlt' : (j : Int) < Hs.length := by omega
          obtain ⟨b0, o0, z1, z2, z3⟩ := readI_idx (k' := .i64) (own4.on k6).sl.ints hjlt
          have hwj : IntKind.i64.wrap ((j : Int) + 1) = ((j + 1 : Nat) : Int) := by rw [w64 (by omega) (by omega)]; omega
          by_cases he : Hs[j] = (m8 : Int)
          · simp [nH, hjlt', z1, z3, he, hwj]
            refine ⟨Hs.length - (j + 1), by omega, j + 1, nv, by omega, rfl, rfl, k6, ?_, hnv6⟩
            rw [← List.take_append_getElem hjlt, List.filter_append]
            simpa [he] using o6
          · simp [nH, hjlt', z1, z3, he, hwj, fillC, splice, spread, cellsAt]
            refine OV_push (e := .int .i64) (x := Hs[j]) (o6.on (kap h6 _)) rfl (fun b hb => hb.elim) (filter_len (by simp [big]; omega)) (by decide) ?_
            intro v' h8 o8 k8 hb8
            simp
            refine ⟨Hs.length - (j + 1), by omega, j + 1, v', by omega, rfl, rfl, (k6.trans (kap h6 _)).then k8 fun b hb e => by have := hnv6 b e; omega, ?_, fun b hb => ?_⟩
            · rw [← List.take_append_getElem hjlt, List.filter_append]
              simpa [he] using o8
            · rcases hb8 b hb with q | q
              · exact hnv6 b q
              · have := k6.len; simp at q; omega
  · refine ⟨?_, ⟨d, by simp, ?_⟩, ⟨d, by simp, ?_⟩, OwnL.nil, by omega, by omega, by simp [CV.blk]⟩
    · exact ((kap h _).trans k2).trans (kap h2 _)
    · exact jobC.mono (jobC.on rd2 (kap h2 _)) fun b hb => ⟨by omega, by simp [CV.blk]⟩
    · exact jobC.mono (jobC.on rd2 (kap h2 _)) fun b hb => ⟨by omega, by simp [CV.blk]⟩

end Go.Cl
