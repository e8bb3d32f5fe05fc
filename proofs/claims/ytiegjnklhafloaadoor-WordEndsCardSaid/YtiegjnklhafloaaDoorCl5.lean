/-
  The operations that change nothing in memory, together: 'quiet_sim'.
-/
import Derived.Test.YtiegjnklhafloaaDoorCl4
import Derived.Laws.Tables
import Derived.Laws.BytesString
import Derived.Laws.Slices
namespace Go.Cl
open Go
set_option linter.unusedSimpArgs false
set_option linter.unusedVariables false

theorem withH_some {h h' : Heap} {x : Option CV} {v : CV} (k : withH h x = some (v, h')) : x = some v ∧ h' = h := by
  cases x with
  | none => simp [withH] at k
  | some y => simp [withH] at k; exact ⟨by rw [k.1], k.2.symm⟩

theorem bytes_get (s : List UInt8) (i : Nat) : (⟨s.toArray⟩ : ByteArray)[i]? = s[i]? := by
  by_cases h : i < s.length
  · rw [getElem?_pos (⟨s.toArray⟩ : ByteArray) i h, getElem?_pos s i h]; rfl
  · rw [getElem?_neg (⟨s.toArray⟩ : ByteArray) i h, getElem?_neg s i h]

theorem bytes_extract (s : List UInt8) (l h : Nat) : (⟨s.toArray⟩ : ByteArray).extract l h = ⟨((s.take h).drop l).toArray⟩ := by
  apply ByteArray.ext
  rw [ByteArray.data_extract]
  simp [List.extract_eq_take_drop, List.drop_take]

theorem mxR_sim {P : Program} {G : Gam} {m : Mp} (w : World) {k : IntKind} : ∀ (vs : List CV) (a : Int) (v : CV) (rs : List Value), mxR k a vs = some v → trL G m vs = some rs → ∃ rv, (rs.foldlM Builtin.max2 (.int k a) : Sem Value).run P w = .ok rv w ∧ tr G m v = some rv
  | [], a, v, rs, h, hl => by
    simp [trL] at hl; subst hl
    simp [mxR] at h; subst h
    exact ⟨_, rfl, rfl⟩
  | x :: r, a, v, rs, h, hl => by
    obtain ⟨y, ys, hy, hr, rfl⟩ := trL_cons hl
    cases x <;> simp [mxR] at h
    obtain ⟨rfl, h⟩ := h
    obtain rfl := tr_int hy
    simp only [List.foldlM_cons, Sem.run_bind, Builtin.max2, Sem.run_pure, Result.andThen_ok]
    exact mxR_sim w r _ v ys h hr

theorem mnR_sim {P : Program} {G : Gam} {m : Mp} (w : World) {k : IntKind} : ∀ (vs : List CV) (a : Int) (v : CV) (rs : List Value), mnR k a vs = some v → trL G m vs = some rs → ∃ rv, (rs.foldlM Builtin.min2 (.int k a) : Sem Value).run P w = .ok rv w ∧ tr G m v = some rv
  | [], a, v, rs, h, hl => by
    simp [trL] at hl; subst hl
    simp [mnR] at h; subst h
    exact ⟨_, rfl, rfl⟩
  | x :: r, a, v, rs, h, hl => by
    obtain ⟨y, ys, hy, hr, rfl⟩ := trL_cons hl
    cases x <;> simp [mnR] at h
    obtain ⟨rfl, h⟩ := h
    obtain rfl := tr_int hy
    simp only [List.foldlM_cons, Sem.run_bind, Builtin.min2, Sem.run_pure, Result.andThen_ok]
    exact mnR_sim w r _ v ys h hr

theorem bound_sim {G : Gam} {m : Mp} {N : Nat} {e : Env} {a : Act} (he : ER G m N e a) {X : Option Operand} {Y : Option Opd} (hM : oopdM G X Y = true) {o : Option CV} (ho : optEv e Y = some o) {d top i : Nat} (hb : bound o d top = some i) :
    (X = none ∧ i = d) ∨ ∃ x k n, X = some x ∧ a.eval x = .int k n ∧ 0 ≤ n ∧ n ≤ top ∧ i = n.toNat := by
  cases Y with
  | none =>
    cases X <;> simp [oopdM] at hM
    simp [optEv] at ho; subst ho
    simp [bound] at hb; exact .inl ⟨rfl, hb.symm⟩
  | some y =>
    cases X <;> simp [oopdM] at hM
    rename_i x
    simp only [optEv] at ho
    cases hy : y.ev e with
    | none => simp [hy] at ho
    | some v =>
      simp [hy] at ho; subst ho
      cases v <;> simp [bound] at hb
      rename_i k n
      obtain ⟨⟨h1, h2⟩, rfl⟩ := hb
      have := tr_int (opd_sim he hM hy)
      exact .inr ⟨x, k, n, rfl, this, h1, h2, rfl⟩


theorem ofBytes_sim {G : Gam} {m : Mp} : ∀ (cs : List CV) (s : List UInt8) (vs : List Value), ofBytes cs = some s → trL G m cs = some vs → ∃ ns : List Int, vs = ns.map (Value.int .u8) ∧ s = ns.map (fun n => UInt8.ofNat n.toNat)
  | [], s, vs, h, hl => by
    simp [ofBytes] at h; subst h
    simp [trL] at hl; subst hl
    exact ⟨[], rfl, rfl⟩
  | x :: r, s, vs, h, hl => by
    obtain ⟨y, ys, hy, hr, rfl⟩ := trL_cons hl
    cases x with
    | int k n =>
      cases k <;> simp [ofBytes] at h
      cases hq : ofBytes r with
      | none => simp [hq] at h
      | some q =>
        simp [hq] at h; subst h
        obtain ⟨ns, rfl, rfl⟩ := ofBytes_sim r q ys hq hr
        obtain rfl := tr_int hy
        exact ⟨n :: ns, rfl, rfl⟩
    | _ => simp [ofBytes] at h

theorem foldl_push (ns : List Int) : ∀ (b : ByteArray), ns.foldl (fun r n => r.push (UInt8.ofNat n.toNat)) b = ⟨(b.data.toList ++ ns.map (fun n => UInt8.ofNat n.toNat)).toArray⟩ := by
  induction ns with
  | nil => intro b; apply ByteArray.ext; simp
  | cons n ns ih => intro b; rw [List.foldl_cons, ih]; apply ByteArray.ext; simp

/-! ### parts of a composite literal -/

theorem set_splice : ∀ (vs : List Value) (off : Nat) (C : List Value), off + vs.length ≤ C.length →
    ((vs.zipIdx.foldl (fun (cs : Array Value) (p : Value × Nat) => cs.setIfInBounds (off + p.2) p.1) C.toArray)).toList = C.take off ++ vs ++ C.drop (off + vs.length) := by
  have key : ∀ (vs : List Value) (k off : Nat) (C : Array Value), off + k + vs.length ≤ C.size →
      ((vs.zipIdx k).foldl (fun (cs : Array Value) (p : Value × Nat) => cs.setIfInBounds (off + p.2) p.1) C).toList = C.toList.take (off + k) ++ vs ++ C.toList.drop (off + k + vs.length) := by
    intro vs
    induction vs with
    | nil => intro k off C h; simp
    | cons v vs ih =>
      intro k off C h
      simp only [List.length_cons] at h
      simp only [List.zipIdx_cons, List.foldl_cons]
      rw [ih (k + 1) off _ (by simp; omega)]
      simp only [Array.toList_setIfInBounds, List.length_cons]
      have hlt : off + k < C.toList.length := by simp; omega
      rw [List.take_set, List.drop_set_of_lt (by omega), show off + (k + 1) = off + k + 1 by omega, show off + k + 1 + vs.length = off + k + (vs.length + 1) by omega]
      have : (C.toList.take (off + k + 1)).set (off + k) v = C.toList.take (off + k) ++ [v] := by
        rw [List.take_succ_eq_append_getElem hlt, List.set_append_right _ _ (by simp; omega)]
        have hsz : C.toList.length = C.size := by simp
        have hmin : min (off + k) C.size = off + k := by omega
        simp [hmin]
      rw [this]
      simp
  intro vs off C h
  have := key vs 0 off C.toArray (by simpa using h)
  simpa using this

theorem splice_tr {G : Gam} {m : Mp} {cs vs : List CV} {C V : List Value} (hc : trL G m cs = some C) (hv : trL G m vs = some V) (off : Nat) :
    trL G m (splice cs off vs) = some (C.take off ++ V ++ C.drop (off + V.length)) := by
  have hl := trL_length hv
  have ht : ∀ n, trL G m (cs.take n) = some (C.take n) := fun n => by
    refine trL_mk (by simp [trL_length hc]) fun i u hu => ?_
    rw [List.getElem?_take] at hu ⊢
    split at hu
    · rename_i hi; obtain ⟨ru, g1, g2⟩ := trL_get hc i u hu; exact ⟨ru, g1, by rw [if_pos hi]; exact g2⟩
    · simp at hu
  have hd : ∀ n, trL G m (cs.drop n) = some (C.drop n) := fun n => by
    refine trL_mk (by simp [trL_length hc]) fun i u hu => ?_
    rw [List.getElem?_drop] at hu ⊢
    exact trL_get hc _ u hu
  unfold splice
  rw [hl]
  exact trL_append (trL_append (ht off) hv) (hd _)

theorem fill_sim {G : Gam} {m : Mp} {N : Nat} {e : Env} {a : Act} (he : ER G m N e a) (pl pl' : Nat → Option (Nat × Nat)) (hpl : ∀ i x, pl' i = some x → pl i = some x) :
    ∀ (ps : List (Nat × Operand)) (ps' : List (Nat × Nat × Opd)), partsM G pl' ps ps' = true → ∀ (qs : List (Nat × Nat × CV)), evParts e ps' = some qs → ∀ (cs cs' : List CV) (C : List Value), trL G m cs = some C → fillC cs qs = some cs' →
      ∃ C', Instr.fill pl C.toArray (ps.map fun p => (p.1, a.eval p.2)) = some C'.toArray ∧ trL G m cs' = some C'
  | [], [], _, qs, hq, cs, cs', C, hC, hf => by
    simp [evParts] at hq; subst hq
    simp [fillC] at hf; subst hf
    exact ⟨C, rfl, hC⟩
  | [], _ :: _, hM, _, _, _, _, _, _, _ => by simp [partsM] at hM
  | _ :: _, [], hM, _, _, _, _, _, _, _ => by simp [partsM] at hM
  | (i, x) :: ps, (off, size, y) :: ps', hM, qs, hq, cs, cs', C, hC, hf => by
    simp only [partsM, Bool.and_eq_true] at hM
    obtain ⟨⟨h1, h2⟩, h3⟩ := hM
    have h1 : pl i = some (off, size) := hpl i _ (by simpa using h1)
    simp only [evParts] at hq
    cases hy : y.ev e with
    | none => simp [hy] at hq
    | some v =>
      cases hr : evParts e ps' with
      | none => simp [hy, hr] at hq
      | some rs =>
        simp [hy, hr] at hq; subst hq
        simp only [fillC] at hf
        split at hf
        · rename_i hcond
          obtain ⟨hsz, hle⟩ := hcond
          obtain ⟨V, hV, hVc⟩ := cells_one (opd_sim he h2 hy)
          have hVl : V.length = size := by rw [trL_length hV]; exact hsz
          have hCl := trL_length hC
          obtain ⟨C', g1, g2⟩ := fill_sim he pl pl' hpl ps ps' h3 rs hr (splice cs off v.cells) cs' _ (splice_tr hC hV off) hf
          refine ⟨C', ?_, g2⟩
          simp only [List.map_cons, Instr.fill, h1, hVc]
          have hs1 : V.toArray.size = size := by simpa using hVl
          rw [if_neg (by simp [hVl, hCl]; omega)]
          rw [← g1]
          congr 1
          have := set_splice V off C (by omega)
          rw [← Array.toList_inj]
          simpa using this
        · simp at hf

theorem zeroL_run {P : Program} {G : Gam} {m : Mp} {t : TypeId} {z : List CV} (h : zeroL P G t z = true) (w : World) : ∃ v Z, (zeroValue t).run P w = .ok v w ∧ (∃ i, P.info? t = some i ∧ i.zero = some v) ∧ v.cells = Z.toArray ∧ trL G m z = some Z := by
  cases hi : P.info? t with
  | none => simp [zeroL, hi] at h
  | some i =>
    cases hz : i.zero with
    | none => simp [zeroL, hi, hz] at h
    | some v =>
      simp [zeroL, hi, hz] at h
      exact ⟨v, v.cells.toList, by simp [zeroValue, typeInfo, hi, hz], ⟨i, rfl, hz⟩, by simp, vML_tr z _ h⟩

theorem zeroM_run {P : Program} {G : Gam} {m : Mp} {t : TypeId} {z : CV} (h : zeroM P G t z = true) (w : World) : ∃ v, (zeroValue t).run P w = .ok v w ∧ tr G m z = some v := by
  cases hi : P.info? t with
  | none => simp [zeroM, hi] at h
  | some i =>
    cases hz : i.zero with
    | none => simp [zeroM, hi, hz] at h
    | some v =>
      simp [zeroM, hi, hz] at h
      exact ⟨v, by simp [zeroValue, typeInfo, hi, hz], vM_tr z _ h⟩

/-! ### maps -/

theorem sameNow_sim {P : Program} {G : Gam} {m : Mp} {t : TypeId} {bk : BK} (ht : bkM P t bk = true) {x y : CV} {r : Bool} (h : eqKind bk x y = some r) {rx ry : Value} (hx : tr G m x = some rx) (hy : tr G m y = some ry) :
    ∃ d, P.underlying t = some d ∧ Instr.sameNow d rx ry = some r := by
  cases hu : P.underlying t with
  | none => simp [bkM, hu] at ht
  | some d =>
    refine ⟨d, rfl, ?_⟩
    cases bk <;> cases d <;> simp [bkM, hu] at ht <;> cases x <;> cases y <;> simp [eqKind] at h
    · obtain ⟨rfl, rfl⟩ := h; rw [tr_int hx, tr_int hy]; simp [Instr.sameNow]
    · subst h; rw [tr_str hx, tr_str hy]; simp [Instr.sameNow, beq_toListBytes, bytes_toList]
    · subst h; rw [tr_bool hx, tr_bool hy]; simp [Instr.sameNow]

theorem findNow_sim {P : Program} {G : Gam} {m : Mp} {t : TypeId} {bk : BK} (ht : bkM P t bk = true) {d : TypeDesc} (hu : P.underlying t = some d) {k : CV} {rk : Value} (hk : tr G m k = some rk) :
    ∀ (es : List (CV × CV × Nat)) (ES : List MapEntry) (i : Nat) (r : Option (Nat × CV × Nat)), ES.length = es.length → (∀ (i : Nat) x, es[i]? = some x → ∃ y, ES[i]? = some y ∧ Entry.rel G m x y) → findKey bk k es i = some r →
      match r with
      | none => Instr.findNow d rk ES i = some none
      | some (j, v, born) => i ≤ j ∧ j < i + es.length ∧ ∃ y, ES[j - i]? = some y ∧ tr G m v = some y.val ∧ born = y.born ∧ Instr.findNow d rk ES i = some (some (j, y.val)) ∧ tr G m k = some y.key
  | [], ES, i, r, hl, _, h => by
    simp [findKey] at h; subst h
    cases ES with
    | nil => simp [Instr.findNow]
    | cons _ _ => simp at hl
  | x :: es, [], i, r, hl, _, h => by simp at hl
  | (k', v, born) :: es, Y :: ES, i, r, hl, hE, h => by
    obtain ⟨y, hy, h1, h2, h3⟩ := hE 0 (k', v, born) (by simp)
    simp at hy; subst hy
    simp only [findKey] at h
    cases hq : eqKind bk k k' with
    | none => simp [hq] at h
    | some q =>
      obtain ⟨d', hd', hs⟩ := sameNow_sim ht hq hk h1
      rw [hu] at hd'; cases hd'
      cases q with
      | true =>
        simp [hq] at h; subst h
        refine ⟨Nat.le_refl _, by simp, Y, by simp, h2, h3, by simp [Instr.findNow, hs], ?_⟩
        have : k = k' := by
          cases bk <;> cases k <;> cases k' <;> simp [eqKind] at hq <;> simp_all
        rw [this]; exact h1
      | false =>
        simp [hq] at h
        have ih := findNow_sim ht hu hk es ES (i + 1) r (by simpa using hl) (fun j x hx => by simpa using hE (j + 1) x (by simpa using hx)) h
        cases r with
        | none => simpa [Instr.findNow, hs] using ih
        | some p =>
          obtain ⟨j, v', b'⟩ := p
          obtain ⟨g1, g2, y, g3, g4, g5, g6, g7⟩ := ih
          refine ⟨by omega, by simp; omega, y, ?_, g4, g5, by simpa [Instr.findNow, hs] using g6, g7⟩
          rw [show j - i = (j - (i + 1)) + 1 by omega]; simpa using g3

theorem checkKey_sim {P : Program} {t : TypeId} {bk : BK} (ht : bkM P t bk = true) (b : Bool) (v : Value) (w : World) : (Instr.checkKey b 10000 t v).run P w = .ok () w := by
  have key : ∀ n, (Instr.checkKey b (n + 1) t v).run P w = .ok () w := fun n => by
    cases hu : P.underlying t with
    | none => simp [bkM, hu] at ht
    | some d => cases bk <;> cases d <;> simp [bkM, hu] at ht <;> simp [Instr.checkKey, run_underlying hu]
  exact key 9999

end Go.Cl
