/-
  The operations that change nothing in memory: the whole of them.
-/
import Derived.Test.YtiegjnklhafloaaDoorCl5
namespace Go.Cl
open Go
set_option linter.unusedSimpArgs false
set_option linter.unusedVariables false

/-- the model answers v's own, and nothing turns -/
def Quiet (P : Program) (G : Gam) (o : Oper) (a : Act) (m : Mp) (w : World) (v : CV) : Prop :=
  ∃ rv, (execOp a.eval o).run P w = .ok (.value rv) w ∧ tr G m v = some rv

section
variable {P : Program} {G : Gam} {o : Oper} {e : Env} {m : Mp} {N : Nat} {a : Act} {w : World} {h h' : Heap} {v : CV} {call : CallF}

theorem q_move {x : Opd} (hM : opM P G o.op (.move x) = true) (hev : evOp call (.move x) e h = some (v, h')) (he : ER G m N e a) : Quiet P G o a m w v := by
  simp only [evOp] at hev
  obtain ⟨hx, _⟩ := withH_some hev
  cases hop : o.op <;> simp [opM, hop, isCallS] at hM
  all_goals exact ⟨_, by simp [execOp, hop], opd_sim he hM hx⟩

theorem q_pick {c x y : Opd} (hM : opM P G o.op (.pick c x y) = true) (hev : evOp call (.pick c x y) e h = some (v, h')) (he : ER G m N e a) : Quiet P G o a m w v := by
  simp only [evOp] at hev
  cases hop : o.op <;> simp [opM, hop, isCallS] at hM
  obtain ⟨⟨h1, h2⟩, h3⟩ := hM
  cases hc : c.ev e with
  | none => simp [hc] at hev
  | some cv =>
    cases cv <;> simp [hc] at hev
    rename_i t
    have hb := tr_bool (opd_sim he h1 hc)
    obtain ⟨hx, _⟩ := withH_some hev
    refine ⟨_, by simp [execOp, hop, hb, asBool]; rfl, ?_⟩
    cases t
    · simpa using opd_sim he h3 hx
    · simpa using opd_sim he h2 hx

theorem q_bin {op : BinOp} {x y : Opd} (hM : opM P G o.op (.bin op x y) = true) (hev : evOp call (.bin op x y) e h = some (v, h')) (he : ER G m N e a) : Quiet P G o a m w v := by
  simp only [evOp] at hev
  cases hop : o.op <;> simp [opM, hop, isCallS] at hM
  rename_i op' t X Y _
  obtain ⟨⟨rfl, h2⟩, h3⟩ := hM
  cases hx : x.ev e with
  | none => simp [hx] at hev
  | some xv =>
    cases hy : y.ev e with
    | none => simp [hx, hy] at hev
    | some yv =>
      simp [hx, hy] at hev
      obtain ⟨hb, _⟩ := withH_some hev
      obtain ⟨rv, g1, g2⟩ := bin_sim (P := P) hb (opd_sim he h2 hx) (opd_sim he h3 hy) t X Y w
      refine ⟨rv, ?_, g2⟩
      rw [Sem.run_bind] at g1
      simp only [execOp, hop, Sem.run_bind]
      rw [g1]; rfl

theorem q_eq {neg : Bool} {et : EqT} {x y : Opd} (hM : opM P G o.op (.eq neg et x y) = true) (hev : evOp call (.eq neg et x y) e h = some (v, h')) (he : ER G m N e a) : Quiet P G o a m w v := by
  simp only [evOp] at hev
  cases hop : o.op <;> simp [opM, hop, isCallS] at hM
  rename_i op' t X Y _
  obtain ⟨⟨⟨⟨rfl, h2⟩, h3⟩, h4⟩, h5⟩ := hM
  cases hx : x.ev e with
  | none => simp [hx] at hev
  | some xv =>
    cases hy : y.ev e with
    | none => simp [hx, hy] at hev
    | some yv =>
      simp [hx, hy] at hev
      cases hb : eqv et xv yv with
      | none => simp [hb] at hev
      | some r =>
        simp [hb] at hev
        obtain ⟨rfl, _⟩ := hev
        have g1 := eqv_sim (P := P) h4 hb (opd_sim he h2 hx) (opd_sim he h3 hy) (X := X) (Y := Y) (fun hi => by subst hi; simpa using h5) neg w
        refine ⟨_, ?_, rfl⟩
        rw [Sem.run_bind] at g1
        simp only [execOp, hop, Sem.run_bind]
        rw [g1]; rfl

theorem q_neg {x : Opd} (hM : opM P G o.op (.neg x) = true) (hev : evOp call (.neg x) e h = some (v, h')) (he : ER G m N e a) : Quiet P G o a m w v := by
  simp only [evOp] at hev
  cases hop : o.op <;> simp [opM, hop, isCallS] at hM
  rename_i op' t X
  cases op' <;> simp [opM] at hM
  cases hx : x.ev e with
  | none => simp [hx] at hev
  | some xv =>
    cases xv <;> simp [hx] at hev
    obtain ⟨rfl, _⟩ := hev
    have hb := tr_int (opd_sim he hM hx)
    exact ⟨_, by simp [execOp, hop, hb, Op.unary, Op.intArith]; rfl, by simp [tr]⟩

theorem q_not {x : Opd} (hM : opM P G o.op (.not x) = true) (hev : evOp call (.not x) e h = some (v, h')) (he : ER G m N e a) : Quiet P G o a m w v := by
  simp only [evOp] at hev
  cases hop : o.op <;> simp [opM, hop, isCallS] at hM
  rename_i op' t X
  cases op' <;> simp [opM] at hM
  cases hx : x.ev e with
  | none => simp [hx] at hev
  | some xv =>
    cases xv <;> simp [hx] at hev
    obtain ⟨rfl, _⟩ := hev
    have hb := tr_bool (opd_sim he hM hx)
    exact ⟨_, by simp [execOp, hop, hb, Op.unary]; rfl, by simp [tr]⟩

theorem q_conv {k : IntKind} {x : Opd} (hM : opM P G o.op (.conv k x) = true) (hev : evOp call (.conv k x) e h = some (v, h')) (he : ER G m N e a) : Quiet P G o a m w v := by
  simp only [evOp] at hev
  cases hop : o.op <;> simp [opM, hop, isCallS] at hM
  rename_i src dst X
  obtain ⟨⟨h1, h2⟩, h3⟩ := hM
  cases hd : P.underlying dst with
  | none => simp [hd] at h3
  | some d =>
    cases d <;> simp [hd] at h3
    subst h3
    obtain ⟨ds, hs⟩ := Option.isSome_iff_exists.1 h2
    cases hx : x.ev e with
    | none => simp [hx] at hev
    | some xv =>
      cases xv <;> simp [hx] at hev
      obtain ⟨rfl, _⟩ := hev
      have hb := tr_int (opd_sim he h1 hx)
      exact ⟨_, by simp [execOp, hop, hb, convert, run_underlying hs, run_underlying hd, Conv.intToInt]; rfl, by simp [tr]⟩

theorem q_same {x : Opd} (hM : opM P G o.op (.same x) = true) (hev : evOp call (.same x) e h = some (v, h')) (he : ER G m N e a) : Quiet P G o a m w v := by
  simp only [evOp] at hev
  cases hop : o.op <;> simp [opM, hop, isCallS] at hM
  rename_i src dst X
  obtain ⟨⟨h1, h2⟩, h3⟩ := hM
  cases hd : P.underlying dst with
  | none => simp [hd] at h3
  | some d =>
    cases d <;> simp [hd] at h3
    obtain ⟨ds, hs⟩ := Option.isSome_iff_exists.1 h2
    cases hx : x.ev e with
    | none => simp [hx] at hev
    | some xv =>
      cases xv <;> simp [hx] at hev
      obtain ⟨rfl, _⟩ := hev
      have hb := tr_str (opd_sim he h1 hx)
      exact ⟨_, by simp [execOp, hop, hb, convert, run_underlying hs, run_underlying hd]; rfl, by simp [tr]⟩

theorem q_nilck {x : Opd} (hM : opM P G o.op (.nilck x) = true) (hev : evOp call (.nilck x) e h = some (v, h')) (he : ER G m N e a) : Quiet P G o a m w v := by
  simp only [evOp] at hev
  cases hop : o.op <;> simp [opM, hop, isCallS] at hM
  cases hx : x.ev e with
  | none => simp [hx] at hev
  | some xv =>
    have ht := opd_sim he hM hx
    cases xv <;> simp [hx] at hev <;> obtain ⟨rfl, _⟩ := hev
    · obtain ⟨L, _, hr⟩ := tr_ptr ht
      exact ⟨_, by simp [execOp, hop, hr]; rfl, by rw [← hr]; exact ht⟩
    · obtain ⟨f, vs, _, _, hr⟩ := tr_fn ht
      exact ⟨_, by simp [execOp, hop, hr]; rfl, by rw [← hr]; exact ht⟩
    · obtain ⟨y, _, hr⟩ := tr_ifc ht
      exact ⟨_, by simp [execOp, hop, hr]; rfl, by rw [← hr]; exact ht⟩

theorem q_fld {off : Nat} {n : Option Nat} {x : Opd} (hM : opM P G o.op (.fld off n x) = true) (hev : evOp call (.fld off n x) e h = some (v, h')) (he : ER G m N e a) : Quiet P G o a m w v := by
  simp only [evOp] at hev
  cases hop : o.op <;> simp [opM, hop, isCallS] at hM
  rename_i t X f
  obtain ⟨h1, h2⟩ := hM
  cases hu : P.underlying t with
  | none => simp [hu] at h2
  | some d =>
    cases d <;> simp [hu] at h2
    rename_i fs
    cases hf : fs[f]? with
    | none => simp [hf] at h2
    | some fd =>
      simp [hf] at h2
      obtain ⟨rfl, h3⟩ := h2
      cases hx : x.ev e with
      | none => simp [hx] at hev
      | some xv =>
        cases xv <;> simp [hx] at hev
        obtain ⟨hp, _⟩ := withH_some hev
        obtain ⟨vs, g1, g2⟩ := tr_agg (opd_sim he h1 hx)
        obtain ⟨rv, k1, k2⟩ := partOf_sim (P := P) h3 g1 hp w
        exact ⟨rv, by simp [execOp, hop, g2, Instr.field, run_underlying hu, hf, asAgg, k1], k2⟩

theorem q_fldAddr {off : Nat} {x : Opd} (hM : opM P G o.op (.fldAddr off x) = true) (hev : evOp call (.fldAddr off x) e h = some (v, h')) (he : ER G m N e a) : Quiet P G o a m w v := by
  simp only [evOp] at hev
  cases hop : o.op <;> simp [opM, hop, isCallS] at hM
  rename_i t X f
  obtain ⟨h1, h2⟩ := hM
  cases hu : P.underlying t with
  | none => simp [hu] at h2
  | some d =>
    cases d <;> simp [hu] at h2
    rename_i fs
    cases hf : fs[f]? with
    | none => simp [hf] at h2
    | some fd =>
      simp [hf] at h2
      obtain ⟨rfl, h3⟩ := h2
      cases hs : szOf P fd.type with
      | none => simp [hs] at h3
      | some s =>
        cases s <;> simp [hs] at h3
        rename_i s
        cases hx : x.ev e with
        | none => simp [hx] at hev
        | some xv =>
          cases xv <;> simp [hx] at hev
          obtain ⟨rfl, _⟩ := hev
          obtain ⟨L, g1, g2⟩ := tr_ptr (opd_sim he h1 hx)
          refine ⟨_, by simp [execOp, hop, g2, Instr.fieldAt, run_underlying hu, hf, Instr.sureAddr, fieldPlace, run_sizeOf hs, Loc.ad_add]; rfl, by simp [tr, g1]⟩

theorem q_idxAddr {esz : Nat} {x i : Opd} (hM : opM P G o.op (.idxAddr esz x i) = true) (hev : evOp call (.idxAddr esz x i) e h = some (v, h')) (he : ER G m N e a) : Quiet P G o a m w v := by
  simp only [evOp] at hev
  cases hop : o.op <;> simp [opM, hop, isCallS] at hM
  rename_i t X I
  obtain ⟨⟨h1, h2⟩, h3⟩ := hM
  cases hu : P.underlying t with
  | none => simp [hu] at h3
  | some d =>
    cases d <;> simp [hu] at h3
    rename_i el
    cases hx : x.ev e with
    | none => simp [hx] at hev
    | some xv =>
      cases xv <;> simp [hx] at hev
      cases hi : i.ev e with
      | none => simp [hi] at hev
      | some iv =>
        cases iv <;> simp [hi] at hev
        obtain ⟨hb, rfl, _⟩ := hev
        obtain ⟨L, g1, g2⟩ := tr_sl (opd_sim he h1 hx)
        have g3 := tr_int (opd_sim he h2 hi)
        refine ⟨_, by simp [execOp, hop, g2, g3, Instr.indexAt, run_underlying hu, asIntOf, hb, run_sizeOf h3, Loc.ad_add]; rfl, by simp [tr, g1]⟩

theorem q_idxArrAddr {esz len : Nat} {x i : Opd} (hM : opM P G o.op (.idxArrAddr esz len x i) = true) (hev : evOp call (.idxArrAddr esz len x i) e h = some (v, h')) (he : ER G m N e a) : Quiet P G o a m w v := by
  simp only [evOp] at hev
  cases hop : o.op <;> simp [opM, hop, isCallS] at hM
  rename_i t X I
  obtain ⟨⟨h1, h2⟩, h3⟩ := hM
  cases hu : P.underlying t with
  | none => simp [hu] at h3
  | some d =>
    cases d <;> simp [hu] at h3
    rename_i n el
    obtain ⟨rfl, h3⟩ := h3
    cases hx : x.ev e with
    | none => simp [hx] at hev
    | some xv =>
      cases xv <;> simp [hx] at hev
      cases hi : i.ev e with
      | none => simp [hi] at hev
      | some iv =>
        cases iv <;> simp [hi] at hev
        obtain ⟨hb, rfl, _⟩ := hev
        obtain ⟨L, g1, g2⟩ := tr_ptr (opd_sim he h1 hx)
        have g3 := tr_int (opd_sim he h2 hi)
        refine ⟨_, by simp [execOp, hop, g2, g3, Instr.indexAt, run_underlying hu, asIntOf, Instr.sureAddr, hb, run_sizeOf h3, Loc.ad_add]; rfl, by simp [tr, g1]⟩

theorem q_idxStr {x i : Opd} (hM : opM P G o.op (.idxStr x i) = true) (hev : evOp call (.idxStr x i) e h = some (v, h')) (he : ER G m N e a) : Quiet P G o a m w v := by
  simp only [evOp] at hev
  cases hop : o.op <;> simp [opM, hop, isCallS] at hM
  rename_i t X I
  obtain ⟨⟨h1, h2⟩, h3⟩ := hM
  cases hu : P.underlying t with
  | none => simp [hu] at h3
  | some d =>
    cases d <;> simp [hu] at h3
    cases hx : x.ev e with
    | none => simp [hx] at hev
    | some xv =>
      cases xv <;> simp [hx] at hev
      rename_i s
      cases hi : i.ev e with
      | none => simp [hi] at hev
      | some iv =>
        cases iv <;> simp [hi] at hev
        rename_i k n
        obtain ⟨hb, hev⟩ := hev
        cases hs : s[n.toNat]? with
        | none => simp [hs] at hev
        | some b =>
          simp [hs] at hev
          obtain ⟨rfl, _⟩ := hev
          have g2 := tr_str (opd_sim he h1 hx)
          have g3 := tr_int (opd_sim he h2 hi)
          have g4 : (⟨s.toArray⟩ : ByteArray)[n.toNat]? = some b := by rw [bytes_get]; exact hs
          refine ⟨_, by simp [execOp, hop, g2, g3, Instr.index, run_underlying hu, asIntOf, hb, g4]; rfl, by simp [tr]⟩

theorem q_idxArr {esz len : Nat} {n : Option Nat} {x i : Opd} (hM : opM P G o.op (.idxArr esz len n x i) = true) (hev : evOp call (.idxArr esz len n x i) e h = some (v, h')) (he : ER G m N e a) : Quiet P G o a m w v := by
  simp only [evOp] at hev
  cases hop : o.op <;> simp [opM, hop, isCallS] at hM
  rename_i t X I
  obtain ⟨⟨h1, h2⟩, h3⟩ := hM
  cases hu : P.underlying t with
  | none => simp [hu] at h3
  | some d =>
    cases d <;> simp [hu] at h3
    rename_i k el
    obtain ⟨⟨rfl, h3⟩, h4⟩ := h3
    cases hx : x.ev e with
    | none => simp [hx] at hev
    | some xv =>
      cases xv <;> simp [hx] at hev
      cases hi : i.ev e with
      | none => simp [hi] at hev
      | some iv =>
        cases iv <;> simp [hi] at hev
        obtain ⟨hb, hev⟩ := hev
        obtain ⟨hp, _⟩ := withH_some hev
        obtain ⟨vs, g1, g2⟩ := tr_agg (opd_sim he h1 hx)
        have g3 := tr_int (opd_sim he h2 hi)
        obtain ⟨rv, k1, k2⟩ := partOf_sim (P := P) h4 g1 hp w
        exact ⟨rv, by simp [execOp, hop, g2, g3, Instr.index, run_underlying hu, asIntOf, hb, run_sizeOf h3, k1], k2⟩

theorem q_build {z : List CV} {ps : List (Nat × Nat × Opd)} (hM : opM P G o.op (.build z ps) = true) (hev : evOp call (.build z ps) e h = some (v, h')) (he : ER G m N e a) : Quiet P G o a m w v := by
  simp only [evOp] at hev
  cases hop : o.op <;> simp [opM, hop, isCallS] at hM
  rename_i t qs
  obtain ⟨hz, h2⟩ := hM
  cases hq : evParts e ps with
  | none => simp [hq] at hev
  | some vs =>
    cases hf : fillC z vs with
    | none => simp [hq, hf] at hev
    | some cs =>
      simp [hq, hf] at hev
      obtain ⟨rfl, _⟩ := hev
      obtain ⟨zv, Z, g1, ⟨inf, gi, gz⟩, g2, g3⟩ := zeroL_run (m := m) hz w
      cases hu : P.underlying t with
      | none => simp [hu] at h2
      | some d =>
        cases d <;> simp [hu] at h2
        · rename_i k el
          cases hs : szOf P el with
          | none => simp [hs] at h2
          | some s =>
            simp [hs] at h2
            obtain ⟨C', k1, k2⟩ := fill_sim he (fun i => some (i * s, s)) _ (fun i x hx => hx) qs.toList ps h2 vs hq z cs Z g3 hf
            refine ⟨.agg C'.toArray, ?_, by simp [tr, k2]⟩
            cases hi : P.info? el with
            | none => simp [szOf, hi] at hs
            | some ie =>
              simp [szOf, hi] at hs; subst hs
              simp only [execOp, hop, Sem.run_bind]
              rw [run_build w t _ C'.toArray]
              · rfl
              · simp only [Program.built, gi, hu, gz, hi, g2]
                rw [← k1]; congr 1; simp
        · rename_i fs
          obtain ⟨hall, h2⟩ := h2
          obtain ⟨C', k1, k2⟩ := fill_sim he (fieldPl P fs) _ (fun i x hx => hx) qs.toList ps h2 vs hq z cs Z g3 hf
          refine ⟨.agg C'.toArray, ?_, by simp [tr, k2]⟩
          simp only [execOp, hop, Sem.run_bind]
          have hplaces : ∀ l : List Field, (∀ f ∈ l, (szOf P f.type).isSome = true) → ∃ pl, l.mapM (fun f => (P.info? f.type).map fun i => (f.offset, i.size)) = some pl ∧ pl.length = l.length ∧ ∀ (i : Nat) (f : Field), l[i]? = some f → ∀ s, szOf P f.type = some s → pl[i]? = some (f.offset, s) := by
            intro l
            induction l with
            | nil => intro _; exact ⟨[], rfl, rfl, by simp⟩
            | cons f l ih =>
              intro hl
              obtain ⟨pl, q1, q2, q3⟩ := ih fun x hx => hl x (List.mem_cons_of_mem _ hx)
              obtain ⟨s, hs⟩ := Option.isSome_iff_exists.1 (hl f (List.mem_cons_self ..))
              cases hi : P.info? f.type with
              | none => simp [szOf, hi] at hs
              | some inf =>
                have hs' : inf.size = s := by simpa [szOf, hi] using hs
                refine ⟨(f.offset, s) :: pl, by simp [List.mapM_cons, hi, q1, hs'], by simp [q2], ?_⟩
                intro i f' hf' s' hs''
                cases i with
                | zero => simp at hf'; subst hf'; rw [hs] at hs''; cases hs''; rfl
                | succ i => simpa using q3 i f' (by simpa using hf') s' hs''
          obtain ⟨pl, q1, q2, q3⟩ := hplaces fs.toList (fun f hf => by
            obtain ⟨i, hi, rfl⟩ := List.getElem_of_mem hf
            simpa using hall i (by simpa using hi))
          have hfe : (fun i => (pl.toArray)[i]?) = fieldPl P fs := by
            funext i
            simp only [fieldPl]
            cases hfi : fs[i]? with
            | none =>
              have : fs.toList.length ≤ i := by simpa using hfi
              simp; omega
            | some f =>
              have hmem : (szOf P f.type).isSome = true := by
                obtain ⟨hlt, rfl⟩ := Array.getElem?_eq_some_iff.1 hfi
                exact hall i hlt
              obtain ⟨s, hs⟩ := Option.isSome_iff_exists.1 hmem
              simp [hs]
              exact q3 i f (by simpa using hfi) s hs
          rw [run_build w t _ C'.toArray]
          · rfl
          · simp only [Program.built, gi, hu, gz, q1, g2]
            rw [← k1, ← hfe]; congr 1; simp

theorem bytes_all (s : List UInt8) : (⟨s.toArray⟩ : ByteArray).extract 0 s.length = ⟨s.toArray⟩ := by rw [bytes_extract]; simp

theorem q_slStr {x : Opd} {lo hi : Option Opd} (hM : opM P G o.op (.slStr x lo hi) = true) (hev : evOp call (.slStr x lo hi) e h = some (v, h')) (he : ER G m N e a) : Quiet P G o a m w v := by
  simp only [evOp] at hev
  cases hop : o.op <;> simp [opM, hop, isCallS] at hM
  rename_i t X LO HI MX
  cases MX <;> simp [opM] at hM
  obtain ⟨⟨⟨h1, h2⟩, h3⟩, h4⟩ := hM
  cases hu : P.underlying t with
  | none => simp [hu] at h4
  | some d =>
    cases d <;> simp [hu] at h4
    cases hx : x.ev e with
    | none => simp [hx] at hev
    | some xv =>
      cases xv <;> simp [hx] at hev
      rename_i s
      cases hl : optEv e lo with
      | none => simp [hl] at hev
      | some lv =>
        cases hh : optEv e hi with
        | none => simp [hl, hh] at hev
        | some hv =>
          simp [hl, hh] at hev
          obtain ⟨hp, _⟩ := withH_some hev
          simp only [slStr] at hp
          cases hb1 : bound hv s.length s.length with
          | none => simp [hb1] at hp
          | some H =>
            cases hb2 : bound lv 0 H with
            | none => simp [hb1, hb2] at hp
            | some L =>
              simp [hb1, hb2] at hp; subst hp
              have g2 := tr_str (opd_sim he h1 hx)
              refine ⟨.string ((⟨s.toArray⟩ : ByteArray).extract L H), ?_, by rw [bytes_extract]; rfl⟩
              have c1 := bound_sim he h3 hh hb1
              have c2 := bound_sim he h2 hl hb2
              rcases c1 with ⟨rfl, rfl⟩ | ⟨hx', hk, hn, rfl, he1, hp1, hp2, rfl⟩ <;> rcases c2 with ⟨rfl, rfl⟩ | ⟨lx, lk, ln, rfl, he2, hq1, hq2, rfl⟩
              · simp [execOp, hop, g2, Instr.sliceAt, Instr.slice, run_underlying hu, Instr.sliceBounds, bytes_size, bytes_all]
              · simp [execOp, hop, g2, Instr.sliceAt, Instr.slice, run_underlying hu, Instr.sliceBounds, bytes_size, he2, run_sliceBound w lk ln s.length _ hq1 hq2]
              · simp [execOp, hop, g2, Instr.sliceAt, Instr.slice, run_underlying hu, Instr.sliceBounds, bytes_size, he1, run_sliceBound w hk hn s.length _ hp1 hp2]
              · simp [execOp, hop, g2, Instr.sliceAt, Instr.slice, run_underlying hu, Instr.sliceBounds, bytes_size, he1, he2, run_sliceBound w hk hn s.length _ hp1 hp2, run_sliceBound w lk ln hn.toNat _ hq1 hq2]

theorem q_mx {xs : List Opd} (hM : opM P G o.op (.mx xs) = true) (hev : evOp call (.mx xs) e h = some (v, h')) (he : ER G m N e a) : Quiet P G o a m w v := by
  simp only [evOp] at hev
  cases hop : o.op <;> simp [opM, hop, isCallS] at hM
  rename_i c
  obtain ⟨callee, args, ats⟩ := c
  cases callee <;> simp [callM] at hM
  rename_i b
  cases b <;> simp [builtinM] at hM
  cases hx : evs e xs with
  | none => simp [hx] at hev
  | some vs =>
    simp [hx] at hev
    obtain ⟨hp, _⟩ := withH_some hev
    have g1 := opds_sim he hM hx
    cases vs with
    | nil => simp [mxL] at hp
    | cons c vs =>
      obtain ⟨y, ys, hy, hr, hyl⟩ := trL_cons g1
      cases c <;> simp [mxL] at hp
      obtain rfl := tr_int hy
      obtain ⟨rv, k1, k2⟩ := mxR_sim (P := P) w vs _ v ys hp hr
      refine ⟨rv, ?_, k2⟩
      simp [execOp, hop, resolve, invoke, builtin, Builtin.max_, hyl, k1]

theorem q_mn {xs : List Opd} (hM : opM P G o.op (.mn xs) = true) (hev : evOp call (.mn xs) e h = some (v, h')) (he : ER G m N e a) : Quiet P G o a m w v := by
  simp only [evOp] at hev
  cases hop : o.op <;> simp [opM, hop, isCallS] at hM
  rename_i c
  obtain ⟨callee, args, ats⟩ := c
  cases callee <;> simp [callM] at hM
  rename_i b
  cases b <;> simp [builtinM] at hM
  cases hx : evs e xs with
  | none => simp [hx] at hev
  | some vs =>
    simp [hx] at hev
    obtain ⟨hp, _⟩ := withH_some hev
    have g1 := opds_sim he hM hx
    cases vs with
    | nil => simp [mnL] at hp
    | cons c vs =>
      obtain ⟨y, ys, hy, hr, hyl⟩ := trL_cons g1
      cases c <;> simp [mnL] at hp
      obtain rfl := tr_int hy
      obtain ⟨rv, k1, k2⟩ := mnR_sim (P := P) w vs _ v ys hp hr
      refine ⟨rv, ?_, k2⟩
      simp [execOp, hop, resolve, invoke, builtin, Builtin.min_, hyl, k1]

theorem q_mkfn {f : Nat} {xs : List Opd} (hM : opM P G o.op (.mkfn f xs) = true) (hev : evOp call (.mkfn f xs) e h = some (v, h')) (he : ER G m N e a) : Quiet P G o a m w v := by
  simp only [evOp] at hev
  cases hop : o.op <;> simp [opM, hop, isCallS] at hM
  rename_i fn first caps
  cases fn <;> simp [opM] at hM
  obtain ⟨⟨h1, h2⟩, h3⟩ := hM
  cases hx : evs e xs with
  | none => simp [hx] at hev
  | some vs =>
    simp [hx] at hev
    obtain ⟨rfl, _⟩ := hev
    have g1 := opds_sim he h3 hx
    subst h2
    refine ⟨_, by simp [execOp, hop, Instr.makeFunc]; rfl, ?_⟩
    have : (List.map a.eval caps.toList).toArray = Array.map a.eval caps := by rw [← Array.toList_inj]; simp
    simp [tr, h1, g1, this]

theorem q_ext {i : Nat} {x : Opd} (hM : opM P G o.op (.ext i x) = true) (hev : evOp call (.ext i x) e h = some (v, h')) (he : ER G m N e a) : Quiet P G o a m w v := by
  simp only [evOp] at hev
  cases hop : o.op <;> simp [opM, hop, isCallS] at hM
  obtain ⟨rfl, h2⟩ := hM
  cases hx : x.ev e with
  | none => simp [hx] at hev
  | some xv =>
    cases xv <;> simp [hx] at hev
    obtain ⟨hp, _⟩ := withH_some hev
    obtain ⟨vs, g1, g2⟩ := tr_tup (opd_sim he h2 hx)
    obtain ⟨rv, k1, k2⟩ := trL_get g1 _ v hp
    exact ⟨rv, by simp [execOp, hop, g2, Instr.extract, k2], k1⟩

theorem q_mkifc {t : Nat} {x : Opd} (hM : opM P G o.op (.mkifc t x) = true) (hev : evOp call (.mkifc t x) e h = some (v, h')) (he : ER G m N e a) : Quiet P G o a m w v := by
  simp only [evOp] at hev
  cases hop : o.op <;> simp [opM, hop, isCallS] at hM
  rename_i T X
  obtain ⟨⟨rfl, h2⟩, h3⟩ := hM
  cases hx : x.ev e with
  | none => simp [hx] at hev
  | some xv =>
    simp [hx] at hev
    obtain ⟨rfl, _⟩ := hev
    have g1 := opd_sim he h2 hx
    refine ⟨.iface (G.T t) (a.eval X), ?_, by simp [tr, g1]⟩
    cases hu : P.underlying (G.T t) with
    | none => simp [hu] at h3
    | some d => cases d <;> simp [hu] at h3 <;> simp [execOp, hop, Instr.makeInterface, run_underlying hu]

theorem q_tas {t : Nat} {x : Opd} (hM : opM P G o.op (.tas t x) = true) (hev : evOp call (.tas t x) e h = some (v, h')) (he : ER G m N e a) : Quiet P G o a m w v := by
  simp only [evOp] at hev
  cases hop : o.op <;> simp [opM, hop, isCallS] at hM
  rename_i X XT T ok
  obtain ⟨⟨⟨rfl, rfl⟩, h2⟩, h3⟩ := hM
  cases hx : x.ev e with
  | none => simp [hx] at hev
  | some xv =>
    cases xv <;> simp [hx] at hev
    rename_i t' u
    obtain ⟨rfl, rfl, _⟩ := hev
    have g1 := opd_sim he h2 hx
    simp only [tr] at g1
    cases hu : tr G m u with
    | none => simp [hu] at g1
    | some rv =>
      simp [hu] at g1
      refine ⟨rv, ?_, hu⟩
      cases hd : P.underlying (G.T t') with
      | none => simp [hd] at h3
      | some d => cases d <;> simp [hd] at h3 <;> simp [execOp, hop, Instr.typeAssert, run_underlying hd, ← g1]

/-! ### reads -/

theorem q_load {n : Option Nat} {x : Opd} (hM : opM P G o.op (.load n x) = true) (hev : evOp call (.load n x) e h = some (v, h')) (he : ER G m N e a) (hs : Sim G m h w) : Quiet P G o a m w v := by
  simp only [evOp] at hev
  cases hop : o.op <;> simp [opM, hop, isCallS] at hM
  rename_i t X
  obtain ⟨h1, h2⟩ := hM
  cases hx : x.ev e with
  | none => simp [hx] at hev
  | some xv =>
    cases xv <;> simp [hx] at hev
    obtain ⟨hp, _⟩ := withH_some hev
    obtain ⟨L, g1, g2⟩ := tr_ptr (opd_sim he h1 hx)
    obtain ⟨rv, k1, k2⟩ := loadAt_sim (P := P) hs g1 h2 hp
    exact ⟨rv, by simp [execOp, hop, g2, Instr.loadAt, Instr.sureAddr, k1], k2⟩

theorem q_len {k : LK} {x : Opd} (hM : opM P G o.op (.len k x) = true) (hev : evOp call (.len k x) e h = some (v, h')) (he : ER G m N e a) (hs : Sim G m h w) : Quiet P G o a m w v := by
  simp only [evOp] at hev
  cases hop : o.op <;> simp [opM, hop, isCallS] at hM
  rename_i c
  obtain ⟨callee, args, ats⟩ := c
  cases callee <;> simp [callM] at hM
  rename_i b
  cases b <;> simp [builtinM] at hM
  obtain ⟨h1, h2⟩ := hM
  cases hx : x.ev e with
  | none => simp [hx] at hev
  | some xv =>
    have g1 := opds_sim he h1 (vs := [xv]) (by simp [evs, hx])
    obtain ⟨y, ys, hy, hr, hyl⟩ := trL_cons g1
    simp [trL] at hr; subst hr
    have hargs : args.map a.eval = #[y] := by rw [← Array.toList_inj]; simpa using hyl
    cases ht : ats[0]? with
    | none => simp [lenM, ht] at h2
    | some t =>
      cases hu : P.underlying t with
      | none => simp [lenM, ht, hu] at h2
      | some d =>
        have R : ∀ (q : Value), (Builtin.len_ ats o.type #[y]).run P w = .ok q w → tr G m v = some q → Quiet P G o a m w v := fun q g k => ⟨q, by simp [execOp, hop, resolve, invoke, builtin, hargs, g], k⟩
        simp only [lenM, ht, hu] at h2
        cases k
        · cases d <;> simp at h2
          cases xv <;> simp [hx] at hev
          obtain ⟨rfl, _⟩ := hev
          obtain rfl := tr_str hy
          exact R (goInt _) (by simp [Builtin.len_, ht, run_underlying hu, bytes_size]) rfl
        · cases d <;> simp at h2
          cases xv <;> simp [hx] at hev
          · obtain ⟨rfl, _⟩ := hev
            obtain ⟨L, _, rfl⟩ := tr_sl hy
            exact R (goInt _) (by simp [Builtin.len_, ht, run_underlying hu]) rfl
          · obtain ⟨rfl, _⟩ := hev
            obtain rfl := tr_nils hy
            exact R (goInt 0) (by simp [Builtin.len_, ht, run_underlying hu]) rfl
        · cases d <;> simp at h2
          cases xv <;> simp [hx] at hev
          · rename_i b
            obtain ⟨L, hL, rfl⟩ := tr_mp hy
            cases hb : h[b]? with
            | none => simp [hb] at hev
            | some ob =>
              cases ob <;> simp [hb] at hev
              rename_i es clock
              obtain ⟨rfl, _⟩ := hev
              obtain ⟨ES, k1, k2, k3⟩ := hs.obj b L _ hL hb
              exact R (goInt ES.size) (by simp [Builtin.len_, ht, run_underlying hu, getObj, Sem.run, k1]) (by simp [tr, i64, goInt, k2])
          · obtain ⟨rfl, _⟩ := hev
            obtain rfl := tr_nilm hy
            exact R (goInt 0) (by simp [Builtin.len_, ht, run_underlying hu]) rfl

theorem q_lookup {ok : Bool} {bk : BK} {z : CV} {x k : Opd} (hM : opM P G o.op (.lookup ok bk z x k) = true) (hev : evOp call (.lookup ok bk z x k) e h = some (v, h')) (he : ER G m N e a) (hs : Sim G m h w) : Quiet P G o a m w v := by
  simp only [evOp] at hev
  cases hop : o.op <;> simp [opM, hop, isCallS] at hM
  rename_i t X K ok'
  obtain ⟨⟨⟨rfl, h1⟩, h2⟩, h3⟩ := hM
  cases hu : P.underlying t with
  | none => simp [hu] at h3
  | some d =>
    cases d <;> simp [hu] at h3
    rename_i kt et
    obtain ⟨hbk, hz⟩ := h3
    obtain ⟨zv, z1, z2⟩ := zeroM_run (m := m) hz w
    obtain ⟨dd, hd⟩ : ∃ dd, P.underlying kt = some dd := by
      cases hk : P.underlying kt with
      | none => simp [bkM, hk] at hbk
      | some dd => exact ⟨dd, rfl⟩
    have RES : ∀ (q : CV) (rq : Value) (b : Bool), tr G m q = some rq → tr G m (if ok' = true then .tup [q, .bool b] else q) = some (if ok' = true then .tuple #[rq, .bool b] else rq) := by
      intro q rq b hq
      cases ok' <;> simp [tr, trL, hq]
    cases hx : x.ev e with
    | none => simp [hx] at hev
    | some xv =>
      cases hk : k.ev e with
      | none => cases xv <;> simp [hx, hk] at hev
      | some kv =>
        have hkr := opd_sim he h2 hk
        cases xv <;> simp [hx, hk] at hev
        · rename_i b
          obtain ⟨L, hL, hr⟩ := tr_mp (opd_sim he h1 hx)
          cases hb : h[b]? with
          | none => simp [hb] at hev
          | some ob =>
            cases ob <;> simp [hb] at hev
            rename_i es clock
            obtain ⟨ES, k1, k2, k3⟩ := hs.obj b L _ hL hb
            cases hf : findKey bk kv es 0 with
            | none => simp [hf] at hev
            | some r =>
              have hfn := findNow_sim hbk hd hkr es ES.toList 0 r (by simpa using k2) (fun i y hy => by simpa using k3 i y hy) hf
              cases r with
              | none =>
                simp [hf] at hev
                obtain ⟨rfl, _⟩ := hev
                simp only at hfn
                refine ⟨_, ?_, RES z zv false z2⟩
                simp [execOp, hop, hr, Instr.lookup, run_underlying hu, getObj, Sem.run, k1, checkKey_sim hbk, Instr.findKey, run_underlying hd, hfn, z1]
              | some p =>
                obtain ⟨j, pv, pb⟩ := p
                simp [hf] at hev
                obtain ⟨rfl, _⟩ := hev
                simp only at hfn
                obtain ⟨_, _, y, _, g4, _, g6, _⟩ := hfn
                refine ⟨_, ?_, RES pv y.val true g4⟩
                simp [execOp, hop, hr, Instr.lookup, run_underlying hu, getObj, Sem.run, k1, checkKey_sim hbk, Instr.findKey, run_underlying hd, g6]
        · obtain ⟨rfl, _⟩ := hev
          have hr := tr_nilm (opd_sim he h1 hx)
          have hfn := findNow_sim hbk hd hkr [] [] 0 none rfl (by simp) rfl
          simp only at hfn
          refine ⟨_, ?_, RES z zv false z2⟩
          simp [execOp, hop, hr, Instr.lookup, run_underlying hu, checkKey_sim hbk, Instr.findKey, run_underlying hd, hfn, z1]

theorem q_toStr {x : Opd} (hM : opM P G o.op (.toStr x) = true) (hev : evOp call (.toStr x) e h = some (v, h')) (he : ER G m N e a) (hs : Sim G m h w) : Quiet P G o a m w v := by
  simp only [evOp] at hev
  cases hop : o.op <;> simp [opM, hop, isCallS] at hM
  rename_i src dst X
  obtain ⟨⟨h1, h2⟩, h3⟩ := hM
  cases hd : P.underlying dst with
  | none => simp [hd] at h2
  | some d =>
    cases d <;> simp [hd] at h2
    cases hsr : P.underlying src with
    | none => simp [hsr] at h3
    | some d =>
      cases d <;> simp [hsr] at h3
      rename_i el
      have hel : P.underlying el = some (.int .u8) := by
        cases hh : P.underlying el with
        | none => simp [hh] at h3
        | some d =>
          cases d <;> simp [hh] at h3
          rename_i k
          cases k <;> simp at h3
          rfl
      cases hx : x.ev e with
      | none => simp [hx] at hev
      | some xv =>
        cases xv <;> simp [hx] at hev
        · rename_i b oo n c
          obtain ⟨L, hL, hr⟩ := tr_sl (opd_sim he h1 hx)
          cases hc : cellsAt h b oo n with
          | none => simp [hc] at hev
          | some cs =>
            cases hb : ofBytes cs with
            | none => simp [hc, hb] at hev
            | some s =>
              simp [hc, hb] at hev
              obtain ⟨rfl, _⟩ := hev
              simp only [cellsAt] at hc
              cases hbb : h[b]? with
              | none => simp [hbb] at hc
              | some ob =>
                cases ob <;> simp [hbb] at hc
                rename_i cc st
                obtain ⟨hle, rfl⟩ := hc
                have hld : ∃ vs, (loadCells (L.ad oo) n).run P w = .ok vs.toArray w ∧ trL G m ((cc.drop oo).take n) = some vs := by
                  rcases cells_sim hs hL hbb hle with rfl | ⟨C, t', fr, vs, hsp, q1, q2, q3, q4⟩
                  · exact ⟨[], by simp [loadCells, loadCellsFrom], by simp [trL]⟩
                  · have := loadCells_run (P := P) (off := L.off + oo) q1 q4
                    rw [q3, ← Loc.ad_none hsp] at this
                    exact ⟨vs, this, q2⟩
                obtain ⟨vs, q1, q2⟩ := hld
                obtain ⟨ns, rfl, rfl⟩ := ofBytes_sim _ s vs hb q2
                refine ⟨_, ?_, rfl⟩
                simp only [execOp, hop, Sem.run_bind, hr]
                rw [run_convert_bytes_string w src dst el _ _ _ hsr hel hd, run_bytesToString w _ _ _ ns q1, foldl_push]
                rfl
        · obtain ⟨rfl, _⟩ := hev
          have hr := tr_nils (opd_sim he h1 hx)
          refine ⟨.string .empty, ?_, rfl⟩
          simp only [execOp, hop, Sem.run_bind, hr]
          rw [run_convert_bytes_string w src dst el _ _ _ hsr hel hd]
          rfl

/-- what changes nothing: the model answers the same, and nothing turns -/
theorem quiet_sim {sop : SOp} (hc : cls sop = 0 ∨ cls sop = 1) (hM : opM P G o.op sop = true) (hev : evOp call sop e h = some (v, h')) (he : ER G m N e a) (hs : Sim G m h w) : h' = h ∧ Quiet P G o a m w v := by
  have hh : h' = h := by
    rcases hc with hc | hc
    · exact (evOp_pure hc hev).1
    · cases sop <;> simp [cls] at hc <;> simp only [evOp] at hev
      all_goals (repeat' (first | (exact (withH_some hev).2) | (simp at hev; done) | (simp at hev; exact hev.2.symm) | (split at hev)))
  refine ⟨hh, ?_⟩
  cases sop <;> simp only [cls] at hc <;> (try (exact absurd hc (by decide)))
  · exact q_move hM hev he
  · exact q_pick hM hev he
  · exact q_bin hM hev he
  · exact q_eq hM hev he
  · exact q_neg hM hev he
  · exact q_not hM hev he
  · exact q_conv hM hev he
  · exact q_same hM hev he
  · exact q_toStr hM hev he hs
  · exact q_load hM hev he hs
  · exact q_nilck hM hev he
  · exact q_fld hM hev he
  · exact q_fldAddr hM hev he
  · exact q_idxAddr hM hev he
  · exact q_idxArrAddr hM hev he
  · exact q_idxStr hM hev he
  · exact q_idxArr hM hev he
  · exact q_build hM hev he
  · exact q_slStr hM hev he
  · exact q_len hM hev he hs
  · exact q_mx hM hev he
  · exact q_mn hM hev he
  · exact q_mkfn hM hev he
  · exact q_lookup hM hev he hs
  · exact q_ext hM hev he
  · exact q_mkifc hM hev he
  · exact q_tas hM hev he

end
end Go.Cl
