/-
  Which operation of the clean evaluator stands for which of the model's ('opM', a test), and the operations that write nothing that is there: what the model does at them.
-/
import Derived.Test.YtiegjnklhafloaaDoorCl1
namespace Go.Cl
open Go
set_option linter.unusedSimpArgs false
set_option linter.unusedVariables false

/-! ### the test -/

mutual
def vM (G : Gam) : CV → Value → Bool
  | .int k n, .int k' n' => k == k' && n == n'
  | .bool a, .bool b => a == b
  | .str s, .string t => t.data.toList == s
  | .nilp, .pointer none => true
  | .nils, .slice none 0 0 => true
  | .nilm, .map none => true
  | .nilc, .chan none => true
  | .nilf, .nilFunc => true
  | .nili, .nilIface => true
  | .fn f [], .func (.func g) x y => G.F f == some g && x.size == 0 && y.size == 0
  | .agg l, .agg vs => vML G l vs.toList
  | .tup l, .tuple vs => vML G l vs.toList
  | _, _ => false
def vML (G : Gam) : List CV → List Value → Bool
  | [], [] => true
  | c :: cs, v :: vs => vM G c v && vML G cs vs
  | _, _ => false
end

mutual
theorem vM_tr {G : Gam} {m : Mp} : ∀ (c : CV) (v : Value), vM G c v = true → tr G m c = some v
  | .int k n, v, h => by cases v <;> simp [vM] at h; obtain ⟨rfl, rfl⟩ := h; rfl
  | .bool b, v, h => by cases v <;> simp [vM] at h; subst h; rfl
  | .str s, v, h => by cases v <;> simp [vM] at h; subst h; simp [tr]
  | .ptr _ _, v, h => by cases v <;> simp [vM] at h
  | .nilp, v, h => by
    cases v with
    | pointer a => cases a with
      | none => rfl
      | some _ => simp [vM] at h
    | _ => simp [vM] at h
  | .sl _ _ _ _, v, h => by cases v <;> simp [vM] at h
  | .nils, v, h => by
    cases v with
    | slice a n c =>
      cases a with
      | some _ => simp [vM] at h
      | none => cases n with
        | succ _ => simp [vM] at h
        | zero => cases c with
          | succ _ => simp [vM] at h
          | zero => rfl
    | _ => simp [vM] at h
  | .mp _, v, h => by cases v <;> simp [vM] at h
  | .nilm, v, h => by
    cases v with
    | map a => cases a with
      | none => rfl
      | some _ => simp [vM] at h
    | _ => simp [vM] at h
  | .ch _, v, h => by cases v <;> simp [vM] at h
  | .nilc, v, h => by
    cases v with
    | chan a => cases a with
      | none => rfl
      | some _ => simp [vM] at h
    | _ => simp [vM] at h
  | .fn f [], v, h => by
    cases v with
    | func fn x y => cases fn with
      | func g =>
        simp [vM] at h
        obtain ⟨⟨h1, h2⟩, h3⟩ := h
        simp [tr, trL, h1, h2, h3]
      | _ => simp [vM] at h
    | _ => simp [vM] at h
  | .fn f (_ :: _), v, h => by cases v <;> simp [vM] at h
  | .nilf, v, h => by cases v <;> simp [vM] at h; rfl
  | .ifc _ _, v, h => by cases v <;> simp [vM] at h
  | .nili, v, h => by cases v <;> simp [vM] at h; rfl
  | .agg l, v, h => by
    cases v <;> simp [vM] at h
    simp [tr, vML_tr l _ h]
  | .tup l, v, h => by
    cases v <;> simp [vM] at h
    simp [tr, vML_tr l _ h]
theorem vML_tr {G : Gam} {m : Mp} : ∀ (l : List CV) (vs : List Value), vML G l vs = true → trL G m l = some vs
  | [], vs, h => by cases vs <;> simp [vML] at h; rfl
  | c :: cs, vs, h => by
    cases vs <;> simp [vML] at h
    exact trL_cons_mk (vM_tr c _ h.1) (vML_tr cs _ h.2)
end

def opdM (G : Gam) : Operand → Opd → Bool
  | .tmp t, .t n => t == n
  | .const v, .c c => vM G c v
  | .func f, .c (.fn g []) => G.F g == some f
  | _, _ => false

def opdsM (G : Gam) : List Operand → List Opd → Bool
  | [], [] => true
  | x :: xs, y :: ys => opdM G x y && opdsM G xs ys
  | _, _ => false

def oopdM (G : Gam) : Option Operand → Option Opd → Bool
  | none, none => true
  | some x, some y => opdM G x y
  | _, _ => false

theorem opd_sim {G : Gam} {m : Mp} {N : Nat} {e : Env} {a : Act} (he : ER G m N e a) {x : Operand} {y : Opd} (hM : opdM G x y = true) {v : CV} (hv : y.ev e = some v) : tr G m v = some (a.eval x) := by
  cases y with
  | t n =>
    cases x <;> simp [opdM] at hM
    subst hM
    obtain ⟨rv, h1, h2⟩ := he.get _ v hv
    simp [Act.eval, Array.getD, h1]
    have hlt := (Array.getElem?_eq_some_iff.1 h2).1
    have := (Array.getElem?_eq_some_iff.1 h2).2
    simp [hlt, this]
  | c c =>
    simp [Opd.ev] at hv; subst hv
    cases x with
    | const u => exact vM_tr c u hM
    | func f =>
      cases c <;> simp [opdM] at hM
      rename_i g l
      cases l <;> simp [opdM] at hM
      simp [tr, trL, hM, Act.eval]
    | _ => simp [opdM] at hM

theorem opds_sim {G : Gam} {m : Mp} {N : Nat} {e : Env} {a : Act} (he : ER G m N e a) : ∀ {xs : List Operand} {ys : List Opd}, opdsM G xs ys = true → ∀ {vs : List CV}, evs e ys = some vs → trL G m vs = some (xs.map a.eval)
  | [], [], _, vs, h => by simp [evs] at h; subst h; rfl
  | [], _ :: _, h, _, _ => by simp [opdsM] at h
  | _ :: _, [], h, _, _ => by simp [opdsM] at h
  | x :: xs, y :: ys, hM, vs, h => by
    simp only [opdsM, Bool.and_eq_true] at hM
    simp only [evs] at h
    cases hy : y.ev e with
    | none => simp [hy] at h
    | some v =>
      cases hl : evs e ys with
      | none => simp [hy, hl] at h
      | some us =>
        simp [hy, hl] at h; subst h
        exact trL_cons_mk (opd_sim he hM.1 hy) (opds_sim he hM.2 hl)

/-! ### types -/

def szOf (P : Program) (t : TypeId) : Option Nat := (P.info? t).map (·.size)
def byOf (P : Program) (t : TypeId) : Option Nat := (P.info? t).map (·.bytes)

def ldM (P : Program) (t : TypeId) : Option Nat → Bool
  | none => (match P.underlying t with | some (.struct _) | some (.array _ _) | none => false | _ => true) && szOf P t == some 1
  | some n => (match P.underlying t with | some (.struct _) | some (.array _ _) => true | _ => false) && szOf P t == some n

theorem run_sizeOf {P : Program} {t : TypeId} {n : Nat} (h : szOf P t = some n) (w : World) : (sizeOf t).run P w = .ok n w := by
  cases hi : P.info? t with
  | none => simp [szOf, hi] at h
  | some i => simp [szOf, hi] at h; simp [sizeOf, typeInfo, hi, h]

theorem run_bytesOf {P : Program} {t : TypeId} {n : Nat} (h : byOf P t = some n) (w : World) : ∃ i, (typeInfo t).run P w = .ok i w ∧ i.bytes = n := by
  cases hi : P.info? t with
  | none => simp [byOf, hi] at h
  | some i => simp [byOf, hi] at h; exact ⟨i, by simp [typeInfo, hi], h⟩

theorem run_isAgg_false {P : Program} {t : TypeId} (h : ldM P t none = true) (w : World) : (isAgg t).run P w = .ok false w ∧ szOf P t = some 1 := by
  simp [ldM] at h
  obtain ⟨h1, h2⟩ := h
  refine ⟨?_, h2⟩
  cases hu : P.underlying t with
  | none => simp [hu] at h1
  | some d => cases d <;> simp [hu] at h1 <;> simp [isAgg, underlying, hu]

theorem run_isAgg_true {P : Program} {t : TypeId} {n : Nat} (h : ldM P t (some n) = true) (w : World) : (isAgg t).run P w = .ok true w ∧ szOf P t = some n := by
  simp [ldM] at h
  obtain ⟨h1, h2⟩ := h
  refine ⟨?_, h2⟩
  cases hu : P.underlying t with
  | none => simp [hu] at h1
  | some d => cases d <;> simp [hu] at h1 <;> simp [isAgg, underlying, hu]

/-! ### loads -/

theorem loadCellsFrom_run {P : Program} {w : World} {b : Nat} {C : Array Value} {e : TypeId} {fr : Nat × Nat} (hb : w.heap[b]? = some (.cells C e fr)) (off : Nat) :
    ∀ (n i : Nat) (acc : Array Value) (vs : List Value), vs.length = n → (∀ j v, vs[j]? = some v → C[off + i + j]? = some v) →
      (loadCellsFrom ⟨b, off, none⟩ i n acc).run P w = .ok (acc ++ vs.toArray) w
  | 0, i, acc, vs, hl, _ => by
    cases vs with
    | nil => simp [loadCellsFrom]
    | cons _ _ => simp at hl
  | n + 1, i, acc, vs, hl, hv => by
    cases vs with
    | nil => simp at hl
    | cons v vs =>
      have h0 := hv 0 v (by simp)
      have hc : w.cell? (Addr.add ⟨b, off, none⟩ i) = some v := by
        rw [Addr.add_lit]; simpa [World.cell?, hb] using h0
      simp only [loadCellsFrom, Sem.run_bind, run_load, hc, Result.andThen_ok]
      rw [loadCellsFrom_run hb off n (i + 1) (acc.push v) vs (by simpa using hl) (fun j u hu => by
        have := hv (j + 1) u (by simpa using hu)
        rw [show off + (i + 1) + j = off + i + (j + 1) by omega]; exact this)]
      congr 1
      simp

theorem loadCells_run {P : Program} {w : World} {b off : Nat} {C : Array Value} {e : TypeId} {fr : Nat × Nat} (hb : w.heap[b]? = some (.cells C e fr)) {vs : List Value}
    (hv : ∀ (j : Nat) v, vs[j]? = some v → C[off + j]? = some v) : (loadCells ⟨b, off, none⟩ vs.length).run P w = .ok vs.toArray w := by
  have := loadCellsFrom_run (P := P) hb off vs.length 0 #[] vs rfl (fun j v h => by simpa using hv j v h)
  simpa [loadCells] using this

/-- cells of a clean object, in the model's memory -/
theorem cells_sim {G : Gam} {m : Mp} {h : Heap} {w : World} (s : Sim G m h w) {b : Nat} {L : Loc} (e : m b = some L) {cs : List CV} {st : St} (ho : h[b]? = some (.arr cs st)) {o n : Nat} (hn : o + n ≤ cs.length) :
    n = 0 ∨ ∃ C t fr vs, L.spot = none ∧ w.heap[L.blk]? = some (.cells C t fr) ∧ trL G m ((cs.drop o).take n) = some vs ∧ vs.length = n ∧ ∀ (j : Nat) v, vs[j]? = some v → C[L.off + o + j]? = some v := by
  rcases s.obj b L _ e ho with ⟨rfl, _⟩ | ⟨C, t, fr, hsp, h1, h2, _⟩
  · left; simp at hn; omega
  · right
    have key : ∀ (n o : Nat), o + n ≤ cs.length → ∃ vs, trL G m ((cs.drop o).take n) = some vs ∧ vs.length = n ∧ ∀ (j : Nat) v, vs[j]? = some v → C[L.off + o + j]? = some v := by
      intro n
      induction n with
      | zero => intro o _; exact ⟨[], by simp [trL], rfl, by simp⟩
      | succ n ih =>
        intro o ho
        obtain ⟨vs, g1, g2, g3⟩ := ih (o + 1) (by omega)
        have hlt : o < cs.length := by omega
        obtain ⟨rv, k1, k2⟩ := h2 o cs[o] (by simp [hlt])
        refine ⟨rv :: vs, ?_, by simp [g2], ?_⟩
        · rw [List.drop_eq_getElem_cons hlt, List.take_succ_cons]
          exact trL_cons_mk k1 g1
        · intro j v hj
          cases j with
          | zero => simp at hj; subst hj; exact k2
          | succ j => have := g3 j v (by simpa using hj); rw [show L.off + o + (j + 1) = L.off + (o + 1) + j by omega]; exact this
    obtain ⟨vs, g1, g2, g3⟩ := key n o hn
    exact ⟨C, t, fr, vs, hsp, h1, g1, g2, g3⟩

theorem loadAt_sim {P : Program} {G : Gam} {m : Mp} {h : Heap} {w : World} (s : Sim G m h w) {b o : Nat} {L : Loc} (e : m b = some L) {n : Option Nat} {t : TypeId} (ht : ldM P t n = true) {v : CV} (hv : loadAt h b o n = some v) :
    ∃ rv, (loadVar t (L.ad o)).run P w = .ok rv w ∧ tr G m v = some rv := by
  cases n with
  | none =>
    simp only [loadAt] at hv
    cases ho : h[b]? with
    | none => simp [ho] at hv
    | some x =>
      cases x <;> simp [ho] at hv
      rename_i cs st
      rcases s.obj b L _ e ho with ⟨rfl, _⟩ | ⟨C, t', fr, hsp, h1, h2, _⟩
      · simp at hv
      · obtain ⟨rv, k1, k2⟩ := h2 o v hv
        refine ⟨rv, ?_, k1⟩
        have hc : w.cell? (L.ad o) = some rv := by rw [Loc.ad_none hsp]; simpa [World.cell?, h1] using k2
        simp [loadVar, (run_isAgg_false ht w).1, hc]
  | some n =>
    simp only [loadAt] at hv
    cases ho : h[b]? with
    | none => simp [ho] at hv
    | some x =>
      cases x <;> simp [ho] at hv
      rename_i cs st
      obtain ⟨hle, rfl⟩ := hv
      obtain ⟨ha, hsz⟩ := run_isAgg_true ht w
      rcases cells_sim s e ho hle with rfl | ⟨C, t', fr, vs, hsp, h1, h2, h3, h4⟩
      · refine ⟨.agg #[], ?_, by simp [tr, trL]⟩
        simp [loadVar, ha, run_sizeOf hsz, loadCells, loadCellsFrom]
      · refine ⟨.agg vs.toArray, ?_, by simp [tr, h2]⟩
        have := loadCells_run (P := P) (off := L.off + o) h1 h4
        rw [h3, ← Loc.ad_none hsp] at this
        simp [loadVar, ha, run_sizeOf hsz, this]

end Go.Cl
