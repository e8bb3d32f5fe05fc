/-
  JobSteps, on the clean evaluator.
-/
import Derived.Test.YtofpioacialnkaaAJobS
import Derived.Test.YtofpioacialnkaaAJobN
namespace Go.Cl
open Go
set_option linter.unusedSimpArgs false
set_option linter.unusedVariables false
set_option maxHeartbeats 8000000

variable {p : PP}

/-- an op that takes no time -/
def quickOp (x : Int) : OpV := ⟨if x.toNat % 3 = 0 then 4 else if x.toNat % 3 = 1 then 5 else 6, ((x.toNat / 3 % 8 : Nat) : Int), 0, 0, []⟩

def StepsInv1 (v0 : CV) (l : List Int) (h : Heap) (m : Nat) (e : Env) (h' : Heap) : Prop :=
  ∃ (i : Nat) (pv : CV), i ≤ l.length ∧ m = l.length - i ∧ e = [(0, v0), (3, pv), (4, .int .i64 i)] ∧ Keep NoneOf h h' ∧ OwnL opC h' NoneOf pv ((l.map quickOp).take i) ∧ ∀ b, pv.blk = some b → h.length ≤ b

def StepsInv2 (pv : CV) (ops : List OpV) (c : Nat) (m : Nat) (e : Env) (h' : Heap) : Prop :=
  ∃ (i : Nat) (d : List CV), i ≤ ops.length ∧ m = ops.length - i ∧ e = [(3, pv), (5, .ptr c 0), (6, .int .i64 i)] ∧ h'[c]? = some (.arr d .tight) ∧ Sl opC h' (fun b => b ≠ c) pv ops ∧ jobC.rep h' (fun b => b ≠ c) d { newF ops 5 1 2 with pc := (i : Int) }

theorem jobSteps_law (hpg : p.Pg = S.pg) (hpr : p.pr = addKnown [27] noPr) {h : Heap} {v0 : CV} {l : List Int} (r0 : Read h 1 v0 (ints .u8 l)) (hx : ∀ x ∈ l, 0 ≤ x ∧ x ≤ 255) :
    WF p 50 [v0] h fun r _ => r = .bool true := by
  have q : ∀ K, K ≠ 27 → p.pr K = none := by
    intro K hK
    rw [hpr]
    show (match [27].contains K with | true => _ | false => noPr K) = none
    have : [27].contains K = false := by simp [hK]
    rw [this]; rfl
  have pg : ∀ K sf, S.pg K = some sf → p.Pg K = some sf := fun K sf e => by rw [hpg]; exact e
  refine WF_of (pg 50 _ S.pg50) (q 50 (by decide)) ?_
  show W p S.b50 _ _ (retQ [.t 2] _)
  unfold S.b50
  have n0 := readI_len r0
  simp
  refine WF_known hpr rfl ?_
  by_cases g1 : 40 < (l.length : Int)
  · simp [n0, g1]
  simp [n0, g1]
  refine W_loop (StepsInv1 v0 l h) ?_ l.length ⟨0, .nils, by omega, by omega, rfl, Keep.refl _ _, OwnL.nil, by simp [CV.blk]⟩
  rintro m e h1 ⟨i, pv, hi, rfl, rfl, k1, ow, hpv⟩
  have m0 := readI_len (r0.keep k1 fun _ _ => id)
  have kap : ∀ (h : Heap) g, Keep NoneOf h (h ++ g) := fun h g => Keep.app _ _ _
  by_cases hil : i = l.length
  · subst hil
    rw [List.take_of_length_le (by simp)] at ow
    obtain ⟨ops, hops⟩ : ∃ ops, ops = l.map quickOp := ⟨_, rfl⟩
    rw [← hops] at ow
    have hlen : ops.length = l.length := by rw [hops]; simp
    have hk : ∀ o ∈ ops, o.kind ≠ 8 ∧ o.kind ≠ 1 ∧ o.cases = [] := by
      intro o ho
      rw [hops] at ho
      obtain ⟨x, _, rfl⟩ := List.mem_map.1 ho
      simp only [quickOp]
      refine ⟨?_, ?_, trivial⟩ <;> split <;> (try decide) <;> split <;> decide
    simp [m0]
    refine (jobNew_spec hpg (q 48 (by decide)) (q 65 (by decide)) ow.sl' (by simp [big]; omega) fun o ho => (hk o ho).1).mono ?_
    rintro r h2 ⟨k2, d, rfl, rd⟩
    have ld2 := jobC.len rd
    have fd2 := jobC.flat rd
    simp only [jobC] at ld2
    have st := store_new (h := h2) (z := [.bool false, .nils, .int .i64 0, .int .i64 0, .int .i64 0, .int .i64 0, .int .i64 0, .int .i64 0, .bool false, .nils]) (row := d) (by simpa using ld2) fd2
    simp [ld2, st]
    refine W_loop (StepsInv2 pv ops h2.length) ?_ ops.length ⟨0, d, by omega, by omega, rfl, by simp, ?_, ?_⟩
    · rintro m e h3 ⟨i, d3, hi, rfl, rfl, g3, s3, r3⟩
      have lc := lt_of_get g3
      have w3 := ldw g3 (jobC.len r3)
      simp only [jobC] at w3
      by_cases hie : i = ops.length
      · subst hie
        have hF : nowF { newF ops 5 1 2 with pc := (ops.length : Int) } = (noOp, false) := by simp [nowF, newF]
        have ns := s3.len (by decide)
        simp [ns, w3]
        refine (now_spec (pg 30 _ S.pg30) (q 30 (by decide)) r3).mono ?_
        rintro r h4 ⟨k4, d4, rfl, r4⟩
        rw [hF] at r4 ⊢
        have l4 := opC.len r4
        simp only [opC] at l4
        have st4 := store_new (h := h4) (z := [.int .i64 0, .int .i64 0, .int .i64 0, .int .i64 0, .nils]) (row := d4) (by simpa using l4) (opC.flat r4)
        obtain ⟨fv, hv, rfl, sf, sh⟩ := r3
        have g4 := get_app (g := [.arr d4 .tight]) (k4.at g3 id)
        have l5 := ld g4
        have ns4 := ((s3.on k4).on (kap h4 [.arr d4 .tight])).len (by decide)
        simp [l4, st4, l5, jobCells, newF, ns4]
      · have hlt : i < ops.length := by omega
        have hlt' : (i : Int) < ops.length := by omega
        obtain ⟨o, ho⟩ : ∃ o, o = ops[i] := ⟨_, rfl⟩
        have hko := hk o (by rw [ho]; exact List.getElem_mem hlt)
        have hN : nowF { newF ops 5 1 2 with pc := (i : Int) } = (o, true) := by simp [nowF, newF, hlt, ho]
        have hB : beginF { newF ops 5 1 2 with pc := (i : Int) } = ({ newF ops 5 1 2 with pc := (i : Int) }, false) := by
          unfold beginF
          rw [hN]
          rw [if_neg]
          exact fun h => hko.2.1 h.2.1
        have hT : tickF { newF ops 5 1 2 with pc := (i : Int) } = ({ newF ops 5 1 2 with pc := (i : Int) }, false) := by simp [tickF, newF]
        have hS : stepF { newF ops 5 1 2 with pc := (i : Int) } = { newF ops 5 1 2 with pc := ((i + 1 : Nat) : Int) } := by
          simp only [stepF, newF]
          rw [w64 (by omega) (by omega)]; rfl
        have ns := s3.len (by decide)
        simp [ns, w3, hlt']
        refine (now_spec (pg 30 _ S.pg30) (q 30 (by decide)) r3).mono ?_
        rintro r h4 ⟨k4, d4, rfl, r4⟩
        rw [hN] at r4 ⊢
        have l4 := opC.len r4
        simp only [opC] at l4
        have st4 := store_new (h := h4) (z := [.int .i64 0, .int .i64 0, .int .i64 0, .int .i64 0, .nils]) (row := d4) (by simpa using l4) (opC.flat r4)
        simp [l4, st4]
        obtain ⟨H4, hH4⟩ : ∃ H4, H4 = h4 ++ [Obj.arr d4 .tight] := ⟨_, rfl⟩
        have k44 : Keep NoneOf h4 H4 := by rw [hH4]; exact Keep.app _ _ _
        have K4 : Keep NoneOf h3 H4 := k4.trans k44
        have go : H4[h4.length]? = some (.arr d4 .tight) := by rw [hH4]; simp
        rw [← hH4]
        have sc : ∀ h', Keep NoneOf h3 h' → loadAt h' h2.length 0 (some 10) = some (.agg d3) := fun h' k => ldw (k.at g3 id) (jobC.len r3)
        simp [sc H4 K4]
        refine (begin_spec (.inl ⟨pg 36 _ S.pg36, pg 30 _ S.pg30, q 30 (by decide)⟩) (q 36 (by decide)) (jobC.on r3 K4)).mono ?_
        rintro r h5 ⟨k5, d5, rfl, r5⟩
        rw [hB] at r5 ⊢
        have l5 := jobC.len r5
        simp only [jobC] at l5
        have st5 := store_new (h := h5) (z := [.bool false, .nils, .int .i64 0, .int .i64 0, .int .i64 0, .int .i64 0, .int .i64 0, .int .i64 0, .bool false, .nils]) (row := d5) (by simpa using l5) (jobC.flat r5)
        simp [l5, st5]
        obtain ⟨H5, hH5⟩ : ∃ H5, H5 = h5 ++ [Obj.arr d5 .tight] := ⟨_, rfl⟩
        have k55 : Keep NoneOf h5 H5 := by rw [hH5]; exact Keep.app _ _ _
        have K5 : Keep NoneOf H4 H5 := k5.trans k55
        rw [← hH5]
        simp [sc H5 (K4.trans K5)]
        refine (tick_spec (pg 39 _ S.pg39) (q 39 (by decide)) (jobC.on r3 (K4.trans K5))).mono ?_
        rintro r h6 ⟨k6, d6, rfl, r6⟩
        rw [hT] at r6 ⊢
        have l6 := jobC.len r6
        simp only [jobC] at l6
        have st6 := store_new (h := h6) (z := [.bool false, .nils, .int .i64 0, .int .i64 0, .int .i64 0, .int .i64 0, .int .i64 0, .int .i64 0, .bool false, .nils]) (row := d6) (by simpa using l6) (jobC.flat r6)
        simp [l6, st6]
        obtain ⟨H6, hH6⟩ : ∃ H6, H6 = h6 ++ [Obj.arr d6 .tight] := ⟨_, rfl⟩
        have k66 : Keep NoneOf h6 H6 := by rw [hH6]; exact Keep.app _ _ _
        have K6 : Keep NoneOf H5 H6 := k6.trans k66
        rw [← hH6]
        have KA : Keep NoneOf h3 H6 := (K4.trans K5).trans K6
        have go6 := ldw ((K5.trans K6).at go id) l4
        obtain ⟨bb, oo, row, x1, x2, x3⟩ := s3.rowK (k := .i64) (by decide) hlt
        have x2 := (x2 H6 KA).1
        simp only [opC] at x1 x2
        simp [go6, x1, x2]
        rw [← ho] at x3
        refine (opSame_spec hpg (q 51 (by decide)) (q 66 (by decide)) (opC.on (opC.on r4 k44) (K5.trans K6)) (opC.on x3 KA) (by rw [hko.2.2]; simp)).mono ?_
        rintro r h7 ⟨rfl, k7⟩
        have K7 := KA.trans k7
        have r3' := r3
        obtain ⟨fv, hv, rfl, sf, sh⟩ := r3
        have l7 := ld (K7.at g3 id)
        have w7 := ldw (K7.at g3 id) (n := 10) rfl
        simp [l7, jobCells, newF]
        simp only [jobCells, newF] at w7
        simp [w7]
        refine (step_spec (.inl (pg 41 _ S.pg41)) (q 41 (by decide)) (jobC.on r3' K7)).mono ?_
        rintro r h8 ⟨k8, d8, rfl, r8⟩
        rw [hS] at r8
        have l8 := jobC.len r8
        simp only [jobC] at l8
        have g8 := (K7.trans k8).at g3 id
        have st8 := sto g8 (vs := d8) (by rw [l8]; rfl) (jobC.flat r8)
        have hw : IntKind.i64.wrap ((i : Int) + 1) = ((i + 1 : Nat) : Int) := by rw [w64 (by omega) (by omega)]; omega
        have ke : Keep (fun b => b = h2.length) h8 (h8.set h2.length (.arr d8 .tight)) := Keep.set _ _ rfl
        simp [l8, st8, hw]
        exact ⟨ops.length - (i + 1), by omega, i + 1, d8, by omega, rfl, rfl, get_set_self (lt_of_get g8), (s3.on (K7.trans k8)).keep ke fun b hb e => hb e, jobC.keep r8 ke fun b hb e => hb e⟩
    · exact (((ow.sl'.on k2).on (kap _ _)).mono fun b hb => by have := k2.len; omega)
    · exact jobC.on (jobC.mono (jobC.lt rd) fun b hb => by have := hb.2; omega) (kap _ _)
  · have hlt : i < l.length := by omega
    have hlt' : (i : Int) < l.length := by omega
    have r1 := r0.keep k1 fun _ _ => id
    obtain ⟨b, o, x1, x2, x3⟩ := readI_idx (k' := .i64) r1 hlt
    have hx0 := hx l[i] (List.getElem_mem hlt)
    obtain ⟨x, hxx⟩ := Int.eq_ofNat_of_zero_le hx0.1
    rw [hxx] at x3
    have hx1 : x ≤ 255 := by omega
    have hwi : IntKind.i64.wrap ((i : Int) + 1) = ((i + 1 : Nat) : Int) := by rw [w64 (by omega) (by omega)]; omega
    obtain ⟨m3, hm3⟩ : ∃ m3, m3 = x % 3 := ⟨_, rfl⟩
    obtain ⟨q3, hq3⟩ : ∃ q3, q3 = x / 3 := ⟨_, rfl⟩
    obtain ⟨m8, hm8⟩ : ∃ m8, m8 = q3 % 8 := ⟨_, rfl⟩
    have e3 : (x : Int).tmod 3 = (m3 : Int) := by rw [hm3]; rfl
    have e4 : (x : Int).tdiv 3 = (q3 : Int) := by rw [hq3]; rfl
    have e5 : IntKind.u8.wrap (q3 : Int) = (q3 : Int) := by
      have : q3 ≤ 255 := by omega
      simp [IntKind.wrap, IntKind.signed, IntKind.bits]
      omega
    have e6 : (q3 : Int).tmod 8 = (m8 : Int) := by rw [hm8]; rfl
    have e7 : IntKind.i64.wrap (m8 : Int) = m8 := w64 (by omega) (by omega)
    have hm : m3 < 3 := by omega
    have hmi : (m3 : Int) < 3 := by omega
    have hget : ([.int .i64 4, .int .i64 5, .int .i64 6] : List CV)[m3]? = some (.int .i64 (quickOp l[i]).kind) := by
      have : (quickOp l[i]).kind = if m3 = 0 then 4 else if m3 = 1 then 5 else 6 := by
        simp only [quickOp, hxx, Int.toNat_natCast, ← hm3]
      rw [this]
      rcases (by omega : m3 = 0 ∨ m3 = 1 ∨ m3 = 2) with h | h | h <;> subst h <;> rfl
    have x4 : ∀ g, loadAt (h1 ++ g) b o none = some (.int .u8 x) := fun g => by rw [load_on x3 (kap h1 g)]; exact x3
    have l3 : ∀ g, loadAt (h1 ++ .arr [.int .i64 4, .int .i64 5, .int .i64 6] .tight :: g) h1.length m3 none = some (.int .i64 (quickOp l[i]).kind) := fun g => by
      rw [← hget]; simp [loadAt]
    have l30 := l3 []
    simp [m0, hlt', x1, x4, fillC, splice, e3, hm, hmi, l30, e4, e5, e6, e7]
    simp [spread, cellsAt, hwi]
    have hrow : ∀ h' : Heap, opC.rep h' NoneOf [.int .i64 (quickOp l[i]).kind, .int .i64 m8, .int .i64 0, .int .i64 0, .nils] (quickOp l[i]) := fun h' => ⟨.nils, by simp only [quickOp, hxx, Int.toNat_natCast, hm8, hq3], Sl.nil⟩
    refine OV_push (e := opC) (x := quickOp l[i]) (ow.on (kap h1 _)) (hrow _) (fun b hb => hb.elim) (by simp [big]; omega) (by decide) ?_
    intro v' h3 o3 k3 hb3
    simp
    refine ⟨l.length - (i + 1), by omega, i + 1, v', by omega, rfl, rfl, (k1.trans (kap h1 _)).then k3 fun b hb e => by have := hpv b e; omega, ?_, fun b hb => ?_⟩
    · have hm1 : i < (l.map quickOp).length := by simpa using hlt
      have := List.take_append_getElem hm1
      rw [← this]
      simpa using o3
    · rcases hb3 b hb with q | q
      · exact hpv b q
      · have := k1.len; simp at q; omega

end Go.Cl
