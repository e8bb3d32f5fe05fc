/-
  JobRuns, on the clean evaluator.
-/
import Derived.Test.YtofpioacialnkaaAJobS
import Derived.Test.YtofpioacialnkaaAJobN
namespace Go.Cl
open Go
set_option linter.unusedSimpArgs false
set_option linter.unusedVariables false
set_option maxHeartbeats 8000000

variable {p : PP}

/-! ### the plain law -/

structure RunS (ns : List Nat) (most pc left used it : Nat) (over : Bool) : Prop where
  hpc : pc ≤ ns.length
  hused : used + left = (ns.take pc).sum + (if left = 0 then 0 else ns.getD pc 0)
  on : 0 < left → pc < ns.length ∧ left ≤ ns.getD pc 0
  hmost : used ≤ most
  yes : over = true → 0 < left ∧ used = most
  no : over = false → 0 < left → used < most
  hit : it = used + pc + (if left = 0 then 0 else 1)

theorem sum_take_succ {ns : List Nat} {i : Nat} (h : i < ns.length) : (ns.take (i + 1)).sum = (ns.take i).sum + ns.getD i 0 := by
  rw [← List.take_append_getElem h, List.sum_append]
  simp [List.getD, h]
theorem sum_take_le {ns : List Nat} {i : Nat} : (ns.take i).sum ≤ ns.sum := by
  have := congrArg List.sum (List.take_append_drop i ns)
  rw [List.sum_append] at this
  omega

theorem RunS.bound {ns : List Nat} {most pc left used it : Nat} {over : Bool} (s : RunS ns most pc left used it over) : used ≤ ns.sum := by
  have h1 := s.hused
  by_cases hl : left = 0
  · subst hl
    have := sum_take_le (ns := ns) (i := pc)
    simp at h1; omega
  · have h2 := s.on (by omega)
    have := sum_take_succ h2.1
    have := sum_take_le (ns := ns) (i := pc + 1)
    rw [if_neg hl] at h1
    omega

theorem RunS.start {ns : List Nat} {most : Nat} : RunS ns most 0 0 0 0 false := ⟨by omega, by simp, by omega, by omega, by simp, by omega, by simp⟩

theorem RunS.begin {ns : List Nat} {most pc used it : Nat} (s : RunS ns most pc 0 used it false) (hp : pc < ns.length) (hu : used < most) (h1 : 0 < ns.getD pc 0) : RunS ns most pc (ns.getD pc 0) used (it + 1) false where
  hpc := s.hpc
  hused := by
    have := s.hused
    rw [if_neg (by omega)]
    simp at this; omega
  on _ := ⟨hp, Nat.le_refl _⟩
  hmost := s.hmost
  yes := by simp
  no _ _ := hu
  hit := by
    have := s.hit
    rw [if_neg (by omega)]
    simp at this; omega

theorem RunS.tick {ns : List Nat} {most pc left used it : Nat} (s : RunS ns most pc (left + 1) used it false) : if left = 0 then RunS ns most (pc + 1) 0 (used + 1) (it + 1) false else RunS ns most pc left (used + 1) (it + 1) (decide (used + 1 = most)) := by
  have h2 := s.on (by omega)
  have h3 := s.hused
  have h4 := s.no rfl (by omega)
  have h5 := s.hit
  rw [if_neg (by omega)] at h3 h5
  split
  · rename_i h
    subst h
    refine ⟨by omega, ?_, by omega, by omega, by simp, by omega, ?_⟩
    · rw [sum_take_succ h2.1, if_pos rfl]; omega
    · rw [if_pos rfl]; omega
  · rename_i h
    refine ⟨by omega, ?_, fun _ => ⟨h2.1, by omega⟩, by omega, fun e => ⟨by omega, by simpa using e⟩, fun e _ => ?_, ?_⟩
    · rw [if_neg h]; omega
    · simp at e; omega
    · rw [if_neg h]; omega

theorem RunS.done {ns : List Nat} {most pc left used it : Nat} {over : Bool} (s : RunS ns most pc left used it over) (hpos : ∀ i, i < ns.length → 0 < ns.getD i 0) (h : over = true ∨ (over = false ∧ pc = ns.length) ∨ (over = false ∧ left = 0 ∧ most ≤ used ∧ pc < ns.length)) :
    used = min ns.sum most ∧ (over = true ↔ most < ns.sum ∧ 0 < left) := by
  have hb := s.bound
  have hm := s.hmost
  rcases h with h | ⟨h, h2⟩ | ⟨h, h2, h3, h4⟩
  · have h1 := s.yes h
    have h2 := s.on h1.1
    have h3 := s.hused
    rw [if_neg (by omega)] at h3
    have := sum_take_succ h2.1
    have := sum_take_le (ns := ns) (i := pc + 1)
    exact ⟨by omega, fun _ => ⟨by omega, h1.1⟩, fun _ => h⟩
  · have hl : left = 0 := by
      apply Classical.byContradiction
      intro hn
      have := s.on (by omega)
      omega
    subst hl
    have h3 := s.hused
    rw [h2, List.take_length] at h3
    simp at h3
    exact ⟨by omega, fun e => by rw [h] at e; simp at e, fun e => by omega⟩
  · subst h2
    have h5 := s.hused
    simp at h5
    have := sum_take_succ h4
    have := hpos pc h4
    have := sum_take_le (ns := ns) (i := pc + 1)
    exact ⟨by omega, fun e => by rw [h] at e; simp at e, fun e => by omega⟩

theorem tickF_go {x : JobV} (h1 : x.live = true) (h2 : x.left ≠ 0) {l u c : Int} (hl : IntKind.i64.wrap (x.left - 1) = l) (hu : IntKind.i64.wrap (x.used + 1) = u) (hp : IntKind.i64.wrap (x.pc + 1) = c) :
    tickF x = if l = 0 then ({ x with left := 0, used := u, pc := c }, false) else ({ x with left := l, used := u }, decide (u = x.most)) := by
  unfold tickF
  rw [if_pos ⟨h1, h2⟩, hl, hu, hp]

/-! ### the walk -/

def runCost (x : Int) : Nat := 1 + x.toNat % 9
def runOp (n : Nat) : OpV := ⟨1, (n : Int), 0, 0, []⟩

def RunsInv1 (v0 : CV) (mst : Int) (l : List Int) (h : Heap) (m : Nat) (e : Env) (h' : Heap) : Prop :=
  ∃ (i : Nat) (pv : CV), i ≤ l.length ∧ m = l.length - i ∧ e = [(0, v0), (1, .int .u8 mst), (5, pv), (6, .int .i64 (((l.map runCost).take i).sum : Nat)), (7, .int .i64 i)] ∧ Keep NoneOf h h' ∧
    OwnL opC h' NoneOf pv (((l.map runCost).map runOp).take i) ∧ ∀ b, pv.blk = some b → h.length ≤ b

def runJ (ns : List Nat) (most pc left used : Nat) : JobV := { newF (ns.map runOp) most 0 1 with pc := (pc : Int), left := (left : Int), used := (used : Int) }

def RunsInv2 (mst : Int) (ns : List Nat) (most : Nat) (c : Nat) (m : Nat) (e : Env) (h' : Heap) : Prop :=
  ∃ (pc left used it : Nat) (over : Bool) (d : List CV), m = 300 - it ∧ e = [(1, .int .u8 mst), (6, .int .i64 (ns.sum : Nat)), (9, .ptr c 0), (10, .int .i64 used), (11, .bool over), (12, .int .i64 it)] ∧ h'[c]? = some (.arr d .tight) ∧
    jobC.rep h' (fun b => b ≠ c) d (runJ ns most pc left used) ∧ RunS ns most pc left used it over

/-- behind the loop -/
def RunsM (mst : Int) (ns : List Nat) (most : Nat) (c : Nat) (e : Env) (h' : Heap) : Prop :=
  ∃ (pc left used : Nat) (over : Bool) (d : List CV), e.get 1 = some (.int .u8 mst) ∧ e.get 6 = some (.int .i64 (ns.sum : Nat)) ∧ e.get 9 = some (.ptr c 0) ∧ e.get 10 = some (.int .i64 used) ∧ e.get 11 = some (.bool over) ∧ h'[c]? = some (.arr d .tight) ∧
    jobC.rep h' (fun b => b ≠ c) d (runJ ns most pc left used) ∧ used = min ns.sum most ∧ (over = true ↔ most < ns.sum ∧ 0 < left)

theorem jobRuns_law (hpg : p.Pg = S.pg) (hpr : p.pr = addKnown [27] noPr) {h : Heap} {v0 : CV} {l : List Int} {mst : Int} (r0 : Read h 1 v0 (ints .u8 l)) (hx : ∀ x ∈ l, 0 ≤ x ∧ x ≤ 255) (hmst : 0 ≤ mst ∧ mst ≤ 255) :
    WF p 47 [v0, .int .u8 mst] h fun r _ => r = .bool true := by
  have q : ∀ K, K ≠ 27 → p.pr K = none := by
    intro K hK
    rw [hpr]
    show (match [27].contains K with | true => _ | false => noPr K) = none
    have : [27].contains K = false := by simp [hK]
    rw [this]; rfl
  have pg : ∀ K sf, S.pg K = some sf → p.Pg K = some sf := fun K sf e => by rw [hpg]; exact e
  refine WF_of (pg 47 _ S.pg47) (q 47 (by decide)) ?_
  show W p S.b47 _ _ (retQ [.t 4] _)
  unfold S.b47
  have n0 := readI_len r0
  have kap : ∀ (h : Heap) g, Keep NoneOf h (h ++ g) := fun h g => Keep.app _ _ _
  simp
  refine WF_known hpr rfl ?_
  by_cases g1 : 20 < (l.length : Int)
  · simp [n0, g1]
  simp [n0, g1]
  obtain ⟨most, hmost⟩ := Int.eq_ofNat_of_zero_le hmst.1
  have wm : IntKind.i64.wrap mst = (most : Int) := by rw [w64 (by omega) (by omega)]; exact hmost
  obtain ⟨ns, hns⟩ : ∃ ns, ns = l.map runCost := ⟨_, rfl⟩
  have hnl : ns.length = l.length := by rw [hns]; simp
  have hn9 : ∀ n ∈ ns, 1 ≤ n ∧ n ≤ 9 := by
    intro n hn
    rw [hns] at hn
    obtain ⟨x, _, rfl⟩ := List.mem_map.1 hn
    simp only [runCost]; omega
  have hpos : ∀ i, i < ns.length → 0 < ns.getD i 0 ∧ ns.getD i 0 ≤ 9 := by
    intro i hi
    have := hn9 ns[i] (List.getElem_mem hi)
    simp [List.getD, hi]; omega
  have hsum : ∀ i, i ≤ ns.length → (ns.take i).sum ≤ 9 * i := by
    intro i
    induction i with
    | zero => simp
    | succ i ih =>
      intro hi
      have := ih (by omega)
      rw [sum_take_succ (by omega)]
      have := hpos i (by omega)
      omega
  have hs180 : ns.sum ≤ 180 := by
    have := hsum ns.length (Nat.le_refl _)
    rw [List.take_length] at this
    omega
  refine W_loop (RunsInv1 v0 mst l h) ?_ l.length ⟨0, .nils, by omega, by omega, by simp, Keep.refl _ _, OwnL.nil, by simp [CV.blk]⟩
  rintro m e h1 ⟨i, pv, hi, rfl, rfl, k1, ow, hpv⟩
  rw [← hns] at ow ⊢
  have m0 := readI_len (r0.keep k1 fun _ _ => id)
  by_cases hil : i = l.length
  · subst hil
    rw [List.take_of_length_le (by simp; omega)] at ow
    rw [List.take_of_length_le (by omega)]
    simp [m0, wm]
    have hk : ∀ o ∈ ns.map runOp, o.kind ≠ 8 := by
      intro o ho
      obtain ⟨n, _, rfl⟩ := List.mem_map.1 ho
      simp [runOp]
    refine (jobNew_spec hpg (q 48 (by decide)) (q 65 (by decide)) ow.sl' (by simp [big]; omega) hk).mono ?_
    rintro r h2 ⟨k2, d, rfl, rd⟩
    have ld2 := jobC.len rd
    have fd2 := jobC.flat rd
    simp only [jobC] at ld2
    have st := store_new (h := h2) (z := [.bool false, .nils, .int .i64 0, .int .i64 0, .int .i64 0, .int .i64 0, .int .i64 0, .int .i64 0, .bool false, .nils]) (row := d) (by simpa using ld2) fd2
    simp [ld2, st]
    refine W_toB (RunsM mst ns most h2.length) ?_ ?_
    · refine W_loop (RunsInv2 mst ns most h2.length) ?_ 300 ⟨0, 0, 0, 0, false, d, rfl, by simp, by simp, jobC.on (jobC.mono (jobC.lt rd) fun b hb => by have := hb.2; omega) (kap _ _), RunS.start⟩
      rintro m e h3 ⟨pc, left, used, it, over, d3, rfl, rfl, g3, r3, s3⟩
      have hb := s3.bound
      have hpc := s3.hpc
      have hit0 : it < 300 := by
        have := s3.hit
        split at this <;> omega
      have hit : (it : Int) < 300 := by omega
      have w3 := ldw g3 (jobC.len r3)
      simp only [jobC] at w3
      have lc := lt_of_get g3
      cases over with
      | true =>
        simp [hit]
        exact ⟨pc, left, used, true, d3, by simp, by simp, by simp, by simp, by simp, g3, r3, s3.done (fun i hi => (hpos i hi).1) (.inl rfl)⟩
      | false =>
      simp [hit, w3]
      refine (now_spec (pg 30 _ S.pg30) (q 30 (by decide)) r3).mono ?_
      rintro r h4 ⟨k4, d4, rfl, r4⟩
      have l4 := opC.len r4
      simp only [opC] at l4
      have st4 := store_new (h := h4) (z := [.int .i64 0, .int .i64 0, .int .i64 0, .int .i64 0, .nils]) (row := d4) (by simpa using l4) (opC.flat r4)
      obtain ⟨H4, hH4⟩ : ∃ H4, H4 = h4 ++ [Obj.arr d4 .tight] := ⟨_, rfl⟩
      have K4 : Keep NoneOf h3 H4 := by rw [hH4]; exact k4.trans (kap h4 _)
      have g4 := K4.at g3 id
      have r4' := jobC.on r3 K4
      simp [l4, st4]
      rw [← hH4]
      by_cases hp : pc = ns.length
      · have hN : (nowF (runJ ns most pc left used)).2 = false := by simp [nowF, runJ, newF, hp]
        simp [hN]
        exact ⟨pc, left, used, false, d3, by simp, by simp, by simp, by simp, by simp, g4, r4', s3.done (fun i hi => (hpos i hi).1) (.inr (.inl ⟨rfl, hp⟩))⟩
      · have hp2 : pc < ns.length := by omega
        have hN : nowF (runJ ns most pc left used) = (runOp (ns.getD pc 0), true) := by simp [nowF, runJ, newF, hp2, List.getD]
        have hN2 : (nowF (runJ ns most pc left used)).2 = true := by rw [hN]
        simp [hN2]
        have w4 := ldw g4 (jobC.len r4')
        simp only [jobC] at w4
        obtain ⟨fv, hv, hd3, sf, sh⟩ := id r4'
        have hd33 : d3[3]? = some (.int .i64 left) := by rw [hd3]; rfl
        have l3 := ld g4 3
        rw [hd33] at l3
        have hwi : IntKind.i64.wrap ((it : Int) + 1) = ((it + 1 : Nat) : Int) := by rw [w64 (by omega) (by omega)]; omega
        by_cases hl : left = 0
        · subst hl
          simp [l3, w4]
          refine (begin_spec (.inl ⟨pg 36 _ S.pg36, pg 30 _ S.pg30, q 30 (by decide)⟩) (q 36 (by decide)) r4').mono ?_
          rintro r h5 ⟨k5, d5, rfl, r5⟩
          have l5 := jobC.len r5
          simp only [jobC] at l5
          have f5 := jobC.flat r5
          have st5 := store_new (h := h5) (z := [.bool false, .nils, .int .i64 0, .int .i64 0, .int .i64 0, .int .i64 0, .int .i64 0, .int .i64 0, .bool false, .nils]) (row := d5) (by simpa using l5) f5
          simp [l5, st5]
          obtain ⟨H5, hH5⟩ : ∃ H5, H5 = h5 ++ [Obj.arr d5 .tight] := ⟨_, rfl⟩
          have K5 : Keep NoneOf H4 H5 := by rw [hH5]; exact k5.trans (kap h5 _)
          have g5 := K5.at g4 id
          have gy : H5[h5.length]? = some (.arr d5 .tight) := by rw [hH5]; simp
          rw [← hH5]
          have r5' := jobC.on r5 (show Keep NoneOf h5 H5 by rw [hH5]; exact kap h5 _)
          by_cases hu : most ≤ used
          · have hB : (beginF (runJ ns most pc 0 used)).2 = false := by
              unfold beginF
              rw [if_neg]
              intro hh
              have := hh.2.2.2
              simp [runJ, newF] at this; omega
            simp [hB]
            exact ⟨pc, 0, used, false, d3, by simp, by simp, by simp, by simp, by simp, g5, jobC.on r4' K5, s3.done (fun i hi => (hpos i hi).1) (.inr (.inr ⟨rfl, rfl, hu, hp2⟩))⟩
          · have hB : beginF (runJ ns most pc 0 used) = (runJ ns most pc (ns.getD pc 0) used, true) := by
              unfold beginF
              rw [hN, if_pos ⟨rfl, rfl, rfl, by simp [runJ, newF]; omega⟩]
              rfl
            have hB2 : (beginF (runJ ns most pc 0 used)).2 = true := by rw [hB]
            rw [hB] at r5'
            have wy := ldw gy l5
            have s5 := sto g5 (vs := d5) (by rw [l5, jobC.len r4']; rfl) f5
            simp [hB2, wy, l5, s5, hwi]
            have ke : Keep (fun b => b = h2.length) H5 (H5.set h2.length (.arr d5 .tight)) := Keep.set _ _ rfl
            exact ⟨300 - (it + 1), by omega, pc, ns.getD pc 0, used, it + 1, false, d5, rfl, rfl, get_set_self (lt_of_get g5), jobC.keep r5' ke fun b hb e => hb e, s3.begin hp2 (by omega) (hpos pc hp2).1⟩
        · obtain ⟨lf, rfl⟩ : ∃ lf, left = lf + 1 := ⟨left - 1, by omega⟩
          have hon := s3.on (by omega)
          have hu9 := hpos pc hp2
          have hno := s3.no rfl (by omega)
          have hl1 : ¬ ((lf : Int) + 1 = 0) := by omega
          simp [l3, w4, hl1]
          have hwl : IntKind.i64.wrap (((lf + 1 : Nat) : Int) - 1) = (lf : Int) := by rw [w64 (by omega) (by omega)]; omega
          have hwu : IntKind.i64.wrap ((used : Int) + 1) = ((used + 1 : Nat) : Int) := by rw [w64 (by omega) (by omega)]; omega
          have hwp : IntKind.i64.wrap ((pc : Int) + 1) = ((pc + 1 : Nat) : Int) := by rw [w64 (by omega) (by omega)]; omega
          have hT : ∃ pc' left' over', tickF (runJ ns most pc (lf + 1) used) = (runJ ns most pc' left' (used + 1), over') ∧ RunS ns most pc' left' (used + 1) (it + 1) over' := by
            have ht := s3.tick
            by_cases hlf : lf = 0
            · subst hlf
              refine ⟨pc + 1, 0, false, ?_, by simpa using ht⟩
              rw [tickF_go (x := runJ ns most pc (0 + 1) used) rfl (by simp [runJ, newF]) hwl hwu hwp, if_pos (show ((0 : Nat) : Int) = 0 from rfl)]
              rfl
            · rw [if_neg hlf] at ht
              refine ⟨pc, lf, decide (used + 1 = most), ?_, ht⟩
              rw [tickF_go (x := runJ ns most pc (lf + 1) used) rfl (by simp [runJ, newF]; omega) hwl hwu hwp, if_neg (by omega)]
              have e9 : decide (((used + 1 : Nat) : Int) = ((runJ ns most pc (lf + 1) used).most)) = decide (used + 1 = most) := by
                show decide (((used + 1 : Nat) : Int) = (most : Int)) = _
                by_cases hq : used + 1 = most
                · rw [decide_eq_true hq, decide_eq_true (by omega)]
                · rw [decide_eq_false hq, decide_eq_false (by omega)]
              rw [e9]
              rfl
          obtain ⟨pc', left', over', hT1, hT2⟩ := hT
          refine (tick_spec (pg 39 _ S.pg39) (q 39 (by decide)) r4').mono ?_
          rintro r h5 ⟨k5, d5, rfl, r5⟩
          rw [hT1] at r5 ⊢
          have l5 := jobC.len r5
          simp only [jobC] at l5
          have f5 := jobC.flat r5
          have g5 := k5.at g4 id
          have s5 := sto g5 (vs := d5) (by rw [l5, jobC.len r4']; rfl) f5
          simp [l5, s5, hwi, hwu]
          have ke : Keep (fun b => b = h2.length) h5 (h5.set h2.length (.arr d5 .tight)) := Keep.set _ _ rfl
          exact ⟨300 - (it + 1), by omega, pc', left', used + 1, it + 1, over', d5, rfl, rfl, get_set_self (lt_of_get g5), jobC.keep r5 ke fun b hb e => hb e, hT2⟩
    · rintro e h3 ⟨pc, left, used, over, d3, e1, e6, e9, e10, e11, g3, r3, hu, ho⟩
      obtain ⟨fv, hv, rfl, sf, sh⟩ := r3
      have l3 := ld g3
      have hmn : mnL [.int .i64 ((ns.sum : Nat) : Int), .int .i64 (most : Int)] = some (.int .i64 (used : Int)) := by
        simp only [mnL, mnR, if_true]
        congr 2
        split <;> omega
      rw [W_seq, W_ops]
      by_cases hc : (most : Int) < (ns.sum : Nat)
      · have hov : over = decide (0 < left) := by
          cases over with
          | true => have := (ho.1 rfl).2; simp [this]
          | false =>
            have : ¬ 0 < left := fun hl => by have := ho.2 ⟨by omega, hl⟩; simp at this
            simp [this]
        simp [e1, e6, e9, e10, e11, wm, hmn, l3, jobCells, runJ, newF, hc, hov]
      · have hov : over = false := by
          cases over with
          | true => have := (ho.1 rfl).1; omega
          | false => rfl
        simp [e1, e6, e9, e10, e11, wm, hmn, l3, jobCells, runJ, newF, hc, hov]
  · have hlt : i < l.length := by omega
    have hlt' : (i : Int) < l.length := by omega
    obtain ⟨b, o, x1, x2, x3⟩ := readI_idx (k' := .i64) (r0.keep k1 fun _ _ => id) hlt
    have hx0 := hx l[i] (List.getElem_mem hlt)
    obtain ⟨x, hxx⟩ := Int.eq_ofNat_of_zero_le hx0.1
    rw [hxx] at x3
    have hx1 : x ≤ 255 := by omega
    have hwi : IntKind.i64.wrap ((i : Int) + 1) = ((i + 1 : Nat) : Int) := by rw [w64 (by omega) (by omega)]; omega
    obtain ⟨m9, hm9⟩ : ∃ m9, m9 = x % 9 := ⟨_, rfl⟩
    have e6 : (x : Int).tmod 9 = (m9 : Int) := by rw [hm9]; rfl
    have e7 : IntKind.i64.wrap (m9 : Int) = m9 := w64 (by omega) (by omega)
    have e8 : IntKind.i64.wrap (1 + (m9 : Int)) = ((1 + m9 : Nat) : Int) := by rw [w64 (by omega) (by omega)]; omega
    have hin : i < ns.length := by omega
    have hni : ns[i] = 1 + m9 := by
      have : ns[i] = runCost l[i] := by subst hns; simp
      rw [this, hxx]; simp only [runCost, Int.toNat_natCast, hm9]
    have hs1 := hsum i (by omega)
    have hsu : (ns.take (i + 1)).sum = (ns.take i).sum + (1 + m9) := by
      rw [← List.take_append_getElem hin, List.sum_append, hni]; simp
    obtain ⟨sm, hsm⟩ : ∃ sm, sm = (ns.take i).sum := ⟨_, rfl⟩
    rw [← hsm] at hs1 hsu ⊢
    have e9 : IntKind.i64.wrap ((sm : Int) + ((1 + m9 : Nat) : Int)) = ((sm + (1 + m9) : Nat) : Int) := by rw [w64 (by omega) (by omega)]; omega
    obtain ⟨nn, hnn⟩ : ∃ nn, nn = 1 + m9 := ⟨_, rfl⟩
    rw [← hnn] at e8 e9 hsu hni
    simp [m0, hlt', x1, x3, e6, e7, e8, fillC, splice, spread, cellsAt]
    refine OV_push (e := opC) (x := runOp nn) (ow.on (kap h1 _)) ⟨.nils, rfl, Sl.nil⟩ (fun b hb => hb.elim) (by simp [big]; omega) (by decide) ?_
    intro v' h3 o3 k3 hb3
    simp [e9, hwi]
    refine ⟨l.length - (i + 1), by omega, i + 1, v', by omega, rfl, ?_, (k1.trans (kap h1 _)).then k3 fun b hb e => by have := hpv b e; omega, ?_, fun b hb => ?_⟩
    · rw [← hns, hsu]; rfl
    · rw [← hns]
      have hm1 : i < (ns.map runOp).length := by simpa using hin
      have := List.take_append_getElem hm1
      rw [← this]
      simpa [hni] using o3
    · rcases hb3 b hb with q | q
      · exact hpv b q
      · have := k1.len; simp at q; omega

end Go.Cl
