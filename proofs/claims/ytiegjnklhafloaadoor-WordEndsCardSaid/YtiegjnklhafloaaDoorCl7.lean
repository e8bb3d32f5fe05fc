/-
  The operations that make an object.
-/
import Derived.Test.YtiegjnklhafloaaDoorCl6
import Derived.Laws.BitsLemmas
namespace Go.Cl
open Go
set_option linter.unusedSimpArgs false
set_option linter.unusedVariables false

theorem wrap_in (n : Int) (h0 : -9223372036854775808 ≤ n) (h1 : n ≤ 9223372036854775807) : IntKind.i64.wrap n = n := by rw [IntKind.wrap_i64]; omega

/-- real memory that only has more blocks -/
structure WGrow (w w' : World) : Prop where
  os : w'.os = w.os
  out : w'.output = w.output
  size : w.heap.size ≤ w'.heap.size
  old : ∀ r, r < w.heap.size → w'.heap[r]? = w.heap[r]?

theorem WGrow.refl (w : World) : WGrow w w := ⟨rfl, rfl, Nat.le_refl _, fun _ _ => rfl⟩

theorem WGrow.alloc (w : World) (o : Go.Obj) : WGrow w (w.alloc o) := by
  refine ⟨rfl, rfl, by simp, fun r hr => ?_⟩
  show (w.heap.push o)[r]? = _
  rw [Array.getElem?_push, if_neg (by omega)]

theorem alloc_get (w : World) (o : Go.Obj) : (w.alloc o).heap[w.heap.size]? = some o := by
  show (w.heap.push o)[w.heap.size]? = _
  simp

structure Makes (P : Program) (G : Gam) (o : Oper) (a : Act) (m : Mp) (hq : Heap) (w : World) (k : Nat) (g : List Obj) (v : CV) : Prop where
  go : ∃ m' rv w', (execOp a.eval o).run P w = .ok (.value rv) w' ∧ tr G m' v = some rv ∧ Sim G m' hq w' ∧ WGrow w w' ∧ (g = [] → m' = m) ∧ (∀ ob, g = [ob] → ∃ L, m' = m.upd k L ∧ (ownedO ob = true → w.heap.size ≤ L.blk))

theorem Sim.newObj {G : Gam} {m : Mp} {hq : Heap} {w w' : World} (s : Sim G m hq w) {k : Nat} {o : Obj} (hk : m k = none) (ho : hq[k]? = some o) {L : Loc} (hL : L.blk = w.heap.size)
    (hg : WGrow w w') (hr : ObjR G (m.upd k L) L w' o) : Sim G (m.upd k L) hq w' :=
  s.new hk ho (fun b L' e l => hg.old _ (s.blk_lt e l)) (fun _ b L' e l => by have := s.blk_lt e l; omega) hr

theorem objR_tight {G : Gam} {m : Mp} {w : World} {b : Nat} {cs : List CV} {vs : List Value} {C : Array Value} {t : TypeId} (hb : w.heap[b]? = some (.cells C t (0, 0))) (hv : trL G m cs = some vs) (hC : C.toList = vs) :
    ObjR G m ⟨b, 0, 0, none⟩ w (.arr cs .tight) := by
  refine .inr ⟨C, t, (0, 0), rfl, hb, fun i v hi => ?_, fun _ => ⟨fun _ => rfl, ?_, ?_⟩⟩
  · obtain ⟨rv, g1, g2⟩ := trL_get hv i v hi
    refine ⟨rv, g1, ?_⟩
    rw [Nat.zero_add, ← Array.getElem?_toList, hC]; exact g2
  · have := trL_length hv
    have : C.size = vs.length := by rw [← hC]; simp
    simp [slackCells]; omega
  · intro j _ h; simp at h

section
variable {P : Program} {G : Gam} {o : Oper} {e : Env} {m : Mp} {N : Nat} {a : Act} {w : World} {hp hp' hq : Heap} {v : CV} {call : CallF}

theorem mk_tight {cs : List CV} {vs : List Value} {t : TypeId} {rv : Value} (s : Sim G m hq w) (ho : hq[hp.length]? = some (.arr cs .tight)) (hm : m hp.length = none) (hv : trL G m cs = some vs) (hV : ∀ m' : Mp, m' hp.length = some ⟨w.heap.size, 0, 0, none⟩ → tr G m' v = some rv)
    (hrun : (execOp a.eval o).run P w = .ok (.value rv) (w.alloc (.cells vs.toArray t))) : Makes P G o a m hq w hp.length [.arr cs .tight] v := by
  refine ⟨m.upd hp.length ⟨w.heap.size, 0, 0, none⟩, rv, _, hrun, hV _ (Mp.upd_same ..), ?_, WGrow.alloc w _, (fun h => by cases h), fun ob h => ⟨_, rfl, fun _ => Nat.le_refl _⟩⟩
  exact s.newObj hm ho rfl (WGrow.alloc w _) (objR_tight (alloc_get w _) (trL_mono G (Mp.upd_le hm) _ _ hv) (by simp))

theorem m_alloc {z : CV} (hM : opM P G o.op (.alloc z) = true) (hev : evOp call (.alloc z) e hp = some (v, hp')) (s : Sim G m hq w) :
    ∃ g, hp' = hp ++ g ∧ g.length ≤ 1 ∧ ((∀ ob, g = [ob] → hq[hp.length]? = some ob ∧ m hp.length = none) → Makes P G o a m hq w hp.length g v) := by
  simp only [evOp] at hev
  simp at hev
  obtain ⟨rfl, rfl⟩ := hev
  refine ⟨_, rfl, by simp, fun hg => ?_⟩
  obtain ⟨ho, hm⟩ := hg _ rfl
  cases hop : o.op <;> simp [opM, hop, isCallS] at hM
  rename_i t
  obtain ⟨zv, z1, z2⟩ := zeroM_run (m := m) hM w
  obtain ⟨vs, c1, c2⟩ := cells_one z2
  exact mk_tight (t := t) (rv := .pointer (some ⟨w.heap.size, 0, none⟩)) s ho hm c1 (fun m' hm' => by simp [tr, hm']) (by simp [execOp, hop, Instr.alloc, z1, newVar, newRow, c2])

theorem m_box {x : Opd} (hM : opM P G o.op (.box x) = true) (hev : evOp call (.box x) e hp = some (v, hp')) (he : ER G m N e a) (s : Sim G m hq w) :
    ∃ g, hp' = hp ++ g ∧ g.length ≤ 1 ∧ ((∀ ob, g = [ob] → hq[hp.length]? = some ob ∧ m hp.length = none) → Makes P G o a m hq w hp.length g v) := by
  simp only [evOp] at hev
  cases hx : x.ev e with
  | none => simp [hx] at hev
  | some xv =>
    simp [hx] at hev
    obtain ⟨rfl, rfl⟩ := hev
    refine ⟨_, rfl, by simp, fun hg => ?_⟩
    obtain ⟨ho, hm⟩ := hg _ rfl
    cases hop : o.op <;> simp [opM, hop, isCallS] at hM
    rename_i t X
    obtain ⟨vs, c1, c2⟩ := cells_one (opd_sim he hM hx)
    exact mk_tight (t := t) (rv := .pointer (some ⟨w.heap.size, 0, none⟩)) s ho hm c1 (fun m' hm' => by simp [tr, hm']) (by simp [execOp, hop, Instr.box, newVar, newRow, c2])

theorem m_mkmap (hM : opM P G o.op .mkmap = true) (hev : evOp call .mkmap e hp = some (v, hp')) (s : Sim G m hq w) :
    ∃ g, hp' = hp ++ g ∧ g.length ≤ 1 ∧ ((∀ ob, g = [ob] → hq[hp.length]? = some ob ∧ m hp.length = none) → Makes P G o a m hq w hp.length g v) := by
  simp only [evOp] at hev
  simp at hev
  obtain ⟨rfl, rfl⟩ := hev
  refine ⟨_, rfl, by simp, fun hg => ?_⟩
  obtain ⟨ho, hm⟩ := hg _ rfl
  cases hop : o.op <;> simp [opM, hop, isCallS] at hM
  rename_i t r
  refine ⟨m.upd hp.length ⟨w.heap.size, 0, 0, none⟩, .map (some w.heap.size), w.alloc (.map #[] 0), ?_, by simp [tr, Mp.upd_same], ?_, WGrow.alloc w _, (fun h => by cases h), fun ob h => ⟨_, rfl, fun _ => Nat.le_refl _⟩⟩
  · cases r with
    | none => simp [execOp, hop, Instr.makeMap]
    | some r =>
      cases r <;> (try (simp at hM; done))
      rename_i cv
      cases cv <;> (try (simp at hM; done))
      cases hu : P.underlying t with
      | none => simp [hu] at hM
      | some d => cases d <;> simp [hu] at hM; simp [execOp, hop, Instr.makeMap, run_underlying hu, Act.eval, asInt, asIntOf]
  · exact s.newObj hm ho rfl (WGrow.alloc w _) ⟨#[], alloc_get w _, rfl, fun i x hx => by simp at hx⟩

theorem range_mod (Z : List Value) (n : Nat) : (Array.range (n * Z.length)).map (fun i => Z.toArray[i % Z.toArray.size]!) = (List.replicate n Z).flatten.toArray := by
  rw [← Array.toList_inj]
  simp only [Array.toList_map, Array.toList_range]
  apply List.ext_getElem?
  intro i
  by_cases hZ : Z.length = 0
  · have : Z = [] := List.eq_nil_of_length_eq_zero hZ
    subst this; simp
  have hlen : (List.replicate n Z).flatten.length = n * Z.length := by simp
  by_cases hi : i < n * Z.length
  · rw [List.getElem?_map, List.getElem?_range hi]
    have hmod : i % Z.length < Z.length := Nat.mod_lt _ (by omega)
    have key : ∀ (n i : Nat), i < n * Z.length → (List.replicate n Z).flatten[i]? = Z[i % Z.length]? := by
      intro n
      induction n with
      | zero => intro i h; simp at h
      | succ n ih =>
        intro i h
        rw [List.replicate_succ, List.flatten_cons]
        by_cases hlt : i < Z.length
        · rw [List.getElem?_append_left hlt, Nat.mod_eq_of_lt hlt]
        · rw [List.getElem?_append_right (by omega), ih _ (by rw [Nat.succ_mul] at h; omega), ← Nat.mod_eq_sub_mod (by omega)]
    simp only [List.toList_toArray, key n i hi, Option.map_some]
    simp [hmod]
  · rw [List.getElem?_eq_none (by simp; omega), List.getElem?_eq_none (by simp; omega)]

theorem trL_replicate {z : List CV} {Z : List Value} (h : trL G m z = some Z) : ∀ n, trL G m (List.replicate n z).flatten = some (List.replicate n Z).flatten
  | 0 => by simp [trL]
  | n + 1 => by
    rw [List.replicate_succ, List.flatten_cons, List.replicate_succ, List.flatten_cons]
    exact trL_append h (trL_replicate h n)

theorem m_mksl {z : List CV} {l c : Opd} (hM : opM P G o.op (.mksl z l c) = true) (hev : evOp call (.mksl z l c) e hp = some (v, hp')) (he : ER G m N e a) (s : Sim G m hq w) :
    ∃ g, hp' = hp ++ g ∧ g.length ≤ 1 ∧ ((∀ ob, g = [ob] → hq[hp.length]? = some ob ∧ m hp.length = none) → Makes P G o a m hq w hp.length g v) := by
  simp only [evOp] at hev
  cases hl : l.ev e with
  | none => simp [hl] at hev
  | some lv =>
    cases hc : c.ev e with
    | none => simp [hl, hc] at hev
    | some cv =>
      cases lv <;> simp [hl, hc] at hev
      rename_i lk ln
      cases cv <;> (try (simp at hev; done))
      rename_i ck cn
      cases lk <;> cases ck <;> simp at hev
      obtain ⟨⟨b1, b2, b3⟩, rfl, rfl⟩ := hev
      refine ⟨_, rfl, by simp, fun hg => ?_⟩
      obtain ⟨ho, hm⟩ := hg _ rfl
      cases hop : o.op <;> simp [opM, hop, isCallS] at hM
      rename_i t X Y
      obtain ⟨⟨h1, h2⟩, h3⟩ := hM
      cases hu : P.underlying t with
      | none => simp [hu] at h3
      | some d =>
        cases d <;> simp [hu] at h3
        rename_i el
        obtain ⟨⟨⟨h4, h5⟩, h6⟩, h7⟩ := h3
        cases hb : byOf P el with
        | none => simp [hb] at h7
        | some nb =>
          simp [hb] at h7
          obtain ⟨inf, i1, i2⟩ := run_bytesOf hb w
          have e1 := tr_int (opd_sim he h1 hl)
          have e2 := tr_int (opd_sim he h2 hc)
          obtain ⟨zv, Z, z1, _, z3, z4⟩ := zeroL_run (m := m) h4 w
          have hzl : Z.length = z.length := trL_length z4
          have hbig : (big : Int) = 4294967296 := rfl
          have w1 : IntKind.i64.wrap ln = ln := wrap_in ln (by omega) (by omega)
          have w2 : IntKind.i64.wrap cn = cn := wrap_in cn (by omega) (by omega)
          have htl : ∀ n : Int, 0 ≤ n → n ≤ cn → (decide (n < 0) || decide ((nb : Int) * n > 2 ^ 48)) = false := by
            intro n q1 q2
            have : (nb : Int) * n ≤ 65536 * 4294967296 := Int.mul_le_mul (by omega) (by omega) q1 (by decide)
            simp; omega
          refine mk_tight (t := el) (vs := (List.replicate cn.toNat Z).flatten) (rv := .slice (some ⟨w.heap.size, 0, none⟩) ln.toNat cn.toNat) s ho hm (trL_replicate z4 _) (fun m' hm' => by simp [tr, hm']) ?_
          have hR : (Instr.makeSlice t (.int .i64 ln) (.int .i64 cn)).run P w = .ok (.slice (some ⟨w.heap.size, 0, none⟩) ln.toNat cn.toNat) (w.alloc (.cells (List.replicate cn.toNat Z).flatten.toArray el)) := by
            simp only [Instr.makeSlice, Sem.run_bind, run_underlying hu, Result.andThen_ok, asInt, asIntOf, Sem.run_pure, i1, w1, w2, i2, htl cn (by omega) (by omega)]
            have q1 : ¬ (ln < 0) := by omega
            have q2 : ¬ (ln > cn) := by omega
            simp only [q1, q2, decide_false, Bool.or_self, Bool.false_eq_true, if_false, Sem.run_bind, run_askRoom, Result.andThen_ok, run_sizeOf h5]
            by_cases hn : cn.toNat * z.length = 0
            · have hc0 : cn.toNat = 0 := by rcases Nat.mul_eq_zero.1 hn with h | h; exact h; exact absurd (List.eq_nil_of_length_eq_zero h) h6
              simp [hn, hc0, newRow]
              rw [Array.range_zero']; simp
            · rw [if_neg hn]
              simp only [Sem.run_bind, z1, Result.andThen_ok, Sem.run_pure, newRow, run_newObj, z3]
              rw [← hzl, range_mod Z cn.toNat]
              rfl
          simp [execOp, hop, e1, e2, hR]

theorem m_buildSl {len : Nat} {z : List CV} {ps : List (Nat × Nat × Opd)} (hM : opM P G o.op (.buildSl len z ps) = true) (hev : evOp call (.buildSl len z ps) e hp = some (v, hp')) (he : ER G m N e a) (s : Sim G m hq w) :
    ∃ g, hp' = hp ++ g ∧ g.length ≤ 1 ∧ ((∀ ob, g = [ob] → hq[hp.length]? = some ob ∧ m hp.length = none) → Makes P G o a m hq w hp.length g v) := by
  simp only [evOp] at hev
  cases hps : evParts e ps with
  | none => simp [hps] at hev
  | some qs =>
    cases hf : fillC z qs with
    | none => simp [hps, hf] at hev
    | some cs =>
      simp [hps, hf] at hev
      obtain ⟨rfl, rfl⟩ := hev
      refine ⟨_, rfl, by simp, fun hg => ?_⟩
      obtain ⟨ho, hm⟩ := hg _ rfl
      cases hop : o.op <;> simp [opM, hop, isCallS] at hM
      rename_i t n parts
      obtain ⟨rfl, h1⟩ := hM
      cases hu : P.underlying t with
      | none => simp [hu] at h1
      | some d =>
        cases d <;> simp [hu] at h1
        rename_i el
        cases hs : szOf P el with
        | none => simp [hs] at h1
        | some sz =>
          simp [hs] at h1
          obtain ⟨⟨h2, h3⟩, h4⟩ := h1
          have hZ : ∃ Z : List Value, trL G m z = some Z ∧ ∃ zc : Array Value, ((if n * sz = 0 then pure #[] else do pure (← zeroValue el).cells : Sem (Array Value)).run P w = .ok zc w) ∧ (Array.range (n * sz)).map (fun i => zc[i % zc.size]!) = Z.toArray := by
            rcases h3 with ⟨h3, rfl⟩ | h3
            · refine ⟨[], by simp [trL], #[], ?_, ?_⟩
              · rw [if_pos h3]; rfl
              · rw [h3, Array.range_zero']; simp
            · cases hi : P.info? el with
              | none => simp [hi] at h3
              | some inf =>
                cases hz : inf.zero with
                | none => simp [hi, hz] at h3
                | some zv =>
                  simp [hi, hz] at h3
                  obtain ⟨h5, h6⟩ := h3
                  refine ⟨_, vML_tr z _ h6, zv.cells, ?_, ?_⟩
                  · rw [if_neg h5]; simp [zeroValue, typeInfo, hi, hz]
                  · rw [← Array.toList_inj]; simp
          obtain ⟨Z, z1, zc, z2, z3⟩ := hZ
          obtain ⟨C', k1, k2⟩ := fill_sim he (fun i => some (i * sz, sz)) _ (fun i x hx => hx) parts.toList ps h4 qs hps z cs Z z1 hf
          refine mk_tight (t := el) (vs := C') (rv := .slice (some ⟨w.heap.size, 0, none⟩) n n) s ho hm k2 (fun m' hm' => by simp [tr, hm']) ?_
          have hle : ¬ (n * sz > 2 ^ 24) := by simpa using h2
          have k1' : Instr.fill (fun i => some (i * sz, sz)) ((Array.range (n * sz)).map (fun i => zc[i % zc.size]!)) ((parts.map fun x => (x.1, a.eval x.2)).toList) = some C'.toArray := by
            rw [z3, ← k1]; congr 1; simp
          have hR : (Instr.buildSlice t n (parts.map fun x => (x.1, a.eval x.2))).run P w = .ok (.slice (some ⟨w.heap.size, 0, none⟩) n n) (w.alloc (.cells C'.toArray el)) := by
            simp only [Instr.buildSlice, Sem.run_bind, run_underlying hu, Result.andThen_ok, run_sizeOf hs, if_neg hle, Sem.run_pure]
            by_cases h0 : n * sz = 0
            · rw [if_pos h0] at z2 ⊢
              simp only [Sem.run_pure] at z2
              cases z2
              simp only [Sem.run_bind, Sem.run_pure, Result.andThen_ok, k1', newRow, run_newObj]
              rfl
            · rw [if_neg h0] at z2 ⊢
              simp only [Sem.run_bind] at z2 ⊢
              cases hz : (zeroValue el).run P w with
              | halt _ _ => rw [hz] at z2; cases z2
              | ok zv wz =>
                rw [hz] at z2
                simp only [Result.andThen_ok, Sem.run_pure] at z2 ⊢
                cases z2
                simp only [Sem.run_bind, Sem.run_pure, Result.andThen_ok, k1', newRow, run_newObj]
                rfl
          simp [execOp, hop, hR]

theorem m_toBytes {x : Opd} (hM : opM P G o.op (.toBytes x) = true) (hev : evOp call (.toBytes x) e hp = some (v, hp')) (he : ER G m N e a) (s : Sim G m hq w) :
    ∃ g, hp' = hp ++ g ∧ g.length ≤ 1 ∧ ((∀ ob, g = [ob] → hq[hp.length]? = some ob ∧ m hp.length = none) → Makes P G o a m hq w hp.length g v) := by
  simp only [evOp] at hev
  cases hx : x.ev e with
  | none => simp [hx] at hev
  | some xv =>
    cases xv <;> simp [hx] at hev
    rename_i str
    obtain ⟨hbig, rfl, rfl⟩ := hev
    refine ⟨_, rfl, by simp, fun hg => ?_⟩
    obtain ⟨ho, hm⟩ := hg _ rfl
    cases hop : o.op <;> simp [opM, hop, isCallS] at hM
    rename_i src dst X
    obtain ⟨⟨h1, h2⟩, h3⟩ := hM
    obtain ⟨ds, hs⟩ := Option.isSome_iff_exists.1 h2
    cases hd : P.underlying dst with
    | none => simp [hd] at h3
    | some d =>
      cases d <;> simp [hd] at h3
      rename_i el
      have hel : P.underlying el = some (.int .u8) := by
        cases hh : P.underlying el with
        | none => simp [hh] at h3
        | some d =>
          cases d <;> simp [hh] at h3
          rename_i k
          cases k <;> simp at h3
          rfl
      have hX := tr_str (opd_sim he h1 hx)
      let cap := (Question.appendCap str.length 0 el).cut (w.tape w.drawn (.appendCap str.length 0 el))
      have hcap : str.length ≤ cap := by simp only [cap, Question.cut]; omega
      let C : Array Value := str.toArray.map (fun b => Value.int .u8 b.toNat) ++ Array.replicate (cap - str.length) (.int .u8 0)
      have hCs : C.size = cap := by simp [C]; omega
      let w' : World := (w.drew.alloc (.cells C el)).freeze { block := w.heap.size, off := C.size } 1
      have hw'new : w'.heap[w.heap.size]? = some (.cells C el (C.size, C.size + 1)) := by
        have : (w.drew.alloc (.cells C el)).heap[w.heap.size]? = some (.cells C el) := alloc_get w.drew _
        simp only [w', World.freeze]
        rw [if_neg (by decide), Array.getElem?_modify, if_pos rfl, this]
        rfl
      have hw'old : ∀ r, r < w.heap.size → w'.heap[r]? = w.heap[r]? := by
        intro r hr
        simp only [w', World.freeze]
        rw [if_neg (by decide), Array.getElem?_modify, if_neg (by omega)]
        exact (WGrow.alloc w.drew _).old r hr
      have hsz' : w'.heap.size = w.heap.size + 1 := by
        simp only [w', World.freeze]
        rw [if_neg (by decide)]
        simp
      have hgrow : WGrow w w' := ⟨rfl, rfl, by omega, hw'old⟩
      have hvs : trL G m (str.map fun x => CV.int .u8 x.toNat) = some (str.map fun b => Value.int .u8 b.toNat) := by
        refine trL_mk (by simp) fun i u hu => ?_
        rw [List.getElem?_map] at hu ⊢
        cases hs : str[i]? with
        | none => simp [hs] at hu
        | some b => simp [hs] at hu; subst hu; exact ⟨_, rfl, by simp⟩
      refine ⟨m.upd hp.length ⟨w.heap.size, 0, cap - str.length, none⟩, .slice (some ⟨w.heap.size, 0, none⟩) str.length cap, w', ?_, ?_, ?_, hgrow, (fun h => by cases h), fun ob h => ⟨_, rfl, fun _ => Nat.le_refl _⟩⟩
      · have hR : (convert src dst (.string ⟨str.toArray⟩)).run P w = .ok (.slice (some ⟨w.heap.size, 0, none⟩) str.length cap) w' := by
          simp only [convert, Sem.run_bind, run_underlying hs, run_underlying hd, Result.andThen_ok, run_underlying hel, Conv.stringToBytes, run_choose, Question.forced, Bool.false_eq_true, if_false, bytes_size, newRow, run_newObj, Sem.run_pure, markStringish]
          simp only [run_shape, Result.andThen_ok]
          have hsh : (World.shape? { w with drawn := w.drawn + 1, heap := w.heap.push (.cells C el) } w.heap.size) = some (el, C.size) := by
            simp [World.shape?]
          show (Result.andThen (Sem.run P (match World.shape? { w with drawn := w.drawn + 1, heap := w.heap.push (.cells C el) } w.heap.size with | some (_, n) => freeze { block := w.heap.size, off := n } 1 | _ => pure ()) _) _) = _
          rw [hsh]
          rfl
        simp [execOp, hop, hX, hR]
      · simp [tr, Mp.upd_same]; omega
      · refine s.newObj hm ho rfl hgrow (.inr ⟨C, el, _, rfl, hw'new, fun i u hu => ?_, fun _ => ⟨(fun h => by cases h), (by simp only [slackCells, List.length_map, hCs]; omega), fun j hj => by simp only [slackCells, List.length_map] at hj; simp only [hCs]; omega⟩⟩)
        obtain ⟨rv, g1, g2⟩ := trL_get hvs i u hu
        refine ⟨rv, tr_mono G (Mp.upd_le hm) _ _ g1, ?_⟩
        have hlt : i < str.length := by
          have := (List.getElem?_eq_some_iff.1 hu).1; simpa using this
        rw [Nat.zero_add, Array.getElem?_append_left (by simpa using hlt)]
        rw [← Array.getElem?_toList]
        simpa using g2

theorem m_slSl {esz : Nat} {x : Opd} {lo hi : Option Opd} (hM : opM P G o.op (.slSl esz x lo hi) = true) (hev : evOp call (.slSl esz x lo hi) e hp = some (v, hp')) (he : ER G m N e a) (s : Sim G m hq w) :
    ∃ g, hp' = hp ++ g ∧ g.length ≤ 1 ∧ ((∀ ob, g = [ob] → hq[hp.length]? = some ob ∧ m hp.length = none) → Makes P G o a m hq w hp.length g v) := by
  simp only [evOp] at hev
  cases hop : o.op <;> simp [opM, hop, isCallS] at hM
  rename_i t X LO HI MX
  cases MX <;> (try (simp at hM; done))
  simp at hM
  obtain ⟨⟨⟨h1, h2⟩, h3⟩, h4⟩ := hM
  cases hu : P.underlying t with
  | none => simp [hu] at h4
  | some d =>
    cases d <;> simp [hu] at h4
    rename_i el
    cases hx : x.ev e with
    | none => simp [hx] at hev
    | some xv =>
      cases hl : optEv e lo with
      | none => simp [hx, hl] at hev
      | some lv =>
        cases hh : optEv e hi with
        | none => simp [hx, hl, hh] at hev
        | some hv =>
          simp [hx, hl, hh] at hev
          have hX := opd_sim he h1 hx
          cases xv <;> simp [slSl] at hev
          · rename_i b ob n c
            obtain ⟨hcn, hev⟩ := hev
            cases hb1 : bound hv n c with
            | none => simp [hb1] at hev
            | some H =>
              cases hb2 : bound lv 0 H with
              | none => simp [hb1, hb2] at hev
              | some L =>
                simp [hb1, hb2] at hev
                obtain ⟨Lc, hLc, hr⟩ := tr_sl hX
                have c1 := bound_sim he h3 hh hb1
                have c2 := bound_sim he h2 hl hb2
                have hLH : L ≤ H := by rcases c2 with ⟨_, rfl⟩ | ⟨_, _, _, _, _, q1, q2, rfl⟩ <;> omega
                have hrun : (execOp a.eval o).run P w = .ok (.value (.slice (if c + Lc.slack = L then some (Lc.ad ob) else some ((Lc.ad ob).add (L * esz))) (H - L) (c + Lc.slack - L))) w := by
                  rcases c1 with ⟨rfl, rfl⟩ | ⟨hx', hk, hn, rfl, he1, hp1, hp2, rfl⟩ <;> rcases c2 with ⟨rfl, rfl⟩ | ⟨lx, lk, ln, rfl, he2, hq1, hq2, rfl⟩
                  · simp [execOp, hop, hr, Instr.sliceAt, Instr.slice, run_underlying hu, Instr.sliceBounds, run_sizeOf h4]
                  · simp [execOp, hop, hr, Instr.sliceAt, Instr.slice, run_underlying hu, Instr.sliceBounds, run_sizeOf h4, he2, run_sliceBound w lk ln H _ hq1 hq2]
                  · simp [execOp, hop, hr, Instr.sliceAt, Instr.slice, run_underlying hu, Instr.sliceBounds, run_sizeOf h4, he1, run_sliceBound w hk hn (c + Lc.slack) _ hp1 (by omega)]
                  · simp [execOp, hop, hr, Instr.sliceAt, Instr.slice, run_underlying hu, Instr.sliceBounds, run_sizeOf h4, he1, he2, run_sliceBound w hk hn (c + Lc.slack) _ hp1 (by omega), run_sliceBound w lk ln hn.toNat _ hq1 hq2]
                have hHc : H ≤ c := by rcases c1 with ⟨_, rfl⟩ | ⟨_, _, _, _, _, q1, q2, rfl⟩ <;> omega
                split at hev
                · rename_i hcl
                  simp at hev
                  obtain ⟨rfl, rfl⟩ := hev
                  refine ⟨_, rfl, by simp, fun hg => ?_⟩
                  obtain ⟨ho, hm⟩ := hg _ rfl
                  obtain ⟨rfl, _⟩ := hcl
                  obtain rfl : H = L := by omega
                  let A : Addr := if H + Lc.slack = H then Lc.ad ob else (Lc.ad ob).add (H * esz)
                  refine ⟨m.upd hp.length ⟨A.block, A.off, Lc.slack, A.spot⟩, _, w, hrun, ?_, ?_, WGrow.refl w, (fun h => by cases h), fun ob h => ⟨_, rfl, fun hO => by cases h; simp [ownedO] at hO⟩⟩
                  · simp only [tr, Mp.upd_same, Option.map_some]
                    have hA : Loc.ad ⟨A.block, A.off, Lc.slack, A.spot⟩ 0 = A := by simp [Loc.ad, Addr.add]
                    rw [hA]
                    have hz : 0 + Lc.slack = H + Lc.slack - H := by omega
                    rw [hz, Nat.sub_self]
                    simp only [A]
                    split <;> rfl
                  · exact s.new hm ho (fun _ _ _ _ => rfl) (fun hl => by simp [liveO] at hl) (.inl ⟨rfl, rfl⟩)
                · rename_i hcl
                  simp at hev
                  obtain ⟨rfl, rfl⟩ := hev
                  refine ⟨[], by simp, by simp, fun _ => ?_⟩
                  refine ⟨m, _, w, hrun, ?_, s, WGrow.refl w, fun _ => rfl, fun ob h => by cases h⟩
                  simp only [tr, hLc, Option.map_some]
                  have hsl : c + Lc.slack - L = c - L + Lc.slack := by omega
                  rw [hsl]
                  split
                  · rename_i hc0
                    have : L = 0 := by omega
                    subst this; simp
                  · simp [Loc.ad_add]
          · cases hb1 : bound hv 0 0 with
            | none => simp [hb1] at hev
            | some H =>
              cases hb2 : bound lv 0 H with
              | none => simp [hb1, hb2] at hev
              | some L =>
                simp [hb1, hb2] at hev
                obtain ⟨rfl, rfl⟩ := hev
                refine ⟨[], by simp, by simp, fun _ => ?_⟩
                refine ⟨m, .slice none 0 0, w, ?_, rfl, s, WGrow.refl w, fun _ => rfl, fun ob h => by cases h⟩
                have hr := tr_nils hX
                have c1 := bound_sim he h3 hh hb1
                have c2 := bound_sim he h2 hl hb2
                rcases c1 with ⟨rfl, rfl⟩ | ⟨hx', hk, hn, rfl, he1, hp1, hp2, rfl⟩ <;> rcases c2 with ⟨rfl, rfl⟩ | ⟨lx, lk, ln, rfl, he2, hq1, hq2, rfl⟩
                · simp [execOp, hop, hr, Instr.sliceAt, Instr.slice, run_underlying hu, Instr.sliceBounds, run_sizeOf h4]
                · have : ln = 0 := by omega
                  subst this
                  simp [execOp, hop, hr, Instr.sliceAt, Instr.slice, run_underlying hu, Instr.sliceBounds, run_sizeOf h4, he2, run_sliceBound w lk 0 0 _ hq1 hq2]
                · have : hn = 0 := by omega
                  subst this
                  simp [execOp, hop, hr, Instr.sliceAt, Instr.slice, run_underlying hu, Instr.sliceBounds, run_sizeOf h4, he1, run_sliceBound w hk 0 0 _ hp1 (by omega)]
                · have : hn = 0 := by omega
                  subst this
                  have : ln = 0 := by omega
                  subst this
                  simp [execOp, hop, hr, Instr.sliceAt, Instr.slice, run_underlying hu, Instr.sliceBounds, run_sizeOf h4, he1, he2, run_sliceBound w hk 0 0 _ hp1 (by omega), run_sliceBound w lk 0 0 _ hq1 hq2]

end
end Go.Cl
