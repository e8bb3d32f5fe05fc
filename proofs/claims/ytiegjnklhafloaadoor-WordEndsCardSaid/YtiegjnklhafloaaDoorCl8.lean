/-
  The operations that write: a store, an append.
-/
import Derived.Test.YtiegjnklhafloaaDoorCl7
namespace Go.Cl
open Go
set_option linter.unusedSimpArgs false
set_option linter.unusedVariables false

/-- the model does it, and memory stands for the clean one again -/
def Heavy (P : Program) (G : Gam) (o : Oper) (a : Act) (m : Mp) (h : Heap) (w : World) (v : CV) (h' : Heap) : Prop :=
  ∃ m' nx rv w', (execOp a.eval o).run P w = .ok nx w' ∧ (nx = .value rv ∨ (nx = .skip ∧ rv = undef)) ∧ tr G m' v = some rv ∧ Sim G m' h' w' ∧ Evo m h w m' h' w'

theorem storeCells_run {P : Program} {b off : Nat} {e : TypeId} {fr : Nat × Nat} : ∀ (vs : List Value) (i : Nat) (w : World) (C : Array Value), w.heap[b]? = some (.cells C e fr) → off + i + vs.length ≤ C.size →
    (∀ j, j < vs.length → ¬ (fr.1 ≤ off + i + j ∧ off + i + j < fr.2)) → (∀ v ∈ vs, v.oneCell' = true) →
    ∃ w', (storeCells ⟨b, off, none⟩ vs i).run P w = .ok () w' ∧ w'.os = w.os ∧ w'.output = w.output ∧ w'.heap.size = w.heap.size ∧ (∀ r, r ≠ b → w'.heap[r]? = w.heap[r]?) ∧
      ∃ C', w'.heap[b]? = some (.cells C' e fr) ∧ C'.size = C.size ∧ ∀ j, C'[j]? = if off + i ≤ j ∧ j < off + i + vs.length then vs[j - (off + i)]? else C[j]?
  | [], i, w, C, hb, _, _, _ => ⟨w, rfl, rfl, rfl, rfl, fun _ _ => rfl, C, hb, rfl, fun j => by rw [if_neg (by simp only [List.length_nil]; omega)]⟩
  | v :: vs, i, w, C, hb, hle, hfr, ho => by
    simp only [List.length_cons] at hle hfr
    have hlt : off + i < C.size := by omega
    have hc : w.cell? (Addr.add ⟨b, off, none⟩ i) = some C[off + i] := by
      rw [Addr.add_lit]; simp [World.cell?, hb, hlt]
    have hf : w.frozen? (Addr.add ⟨b, off, none⟩ i) = false := by
      rw [Addr.add_lit]
      have := hfr 0 (by omega)
      simp only [World.frozen?, hb]
      simp only [Nat.add_zero] at this
      simp only [Bool.and_eq_false_iff, decide_eq_false_iff_not]
      omega
    have hs1 : (w.setCell (Addr.add ⟨b, off, none⟩ i) v).heap[b]? = some (.cells (C.setIfInBounds (off + i) v) e fr) := by
      rw [Addr.add_lit]
      simp only [World.setCell, Array.getElem?_modify, if_pos rfl, hb]
      simp
    have hs2 : ∀ r, r ≠ b → (w.setCell (Addr.add ⟨b, off, none⟩ i) v).heap[r]? = w.heap[r]? := by
      intro r hr
      rw [Addr.add_lit]
      simp only [World.setCell, Array.getElem?_modify]
      rw [if_neg (Ne.symm hr)]
    have q1 : off + (i + 1) + vs.length ≤ (C.setIfInBounds (off + i) v).size := by rw [Array.size_setIfInBounds]; omega
    have q2 : ∀ j, j < vs.length → ¬ (fr.1 ≤ off + (i + 1) + j ∧ off + (i + 1) + j < fr.2) := fun j hj => by
      have := hfr (j + 1) (by omega)
      rw [show off + (i + 1) + j = off + i + (j + 1) by omega]; exact this
    obtain ⟨w', g1, g2, g3, g4, g5, C', g6, g7, g8⟩ := storeCells_run (P := P) vs (i + 1) (w.setCell (Addr.add ⟨b, off, none⟩ i) v) (C.setIfInBounds (off + i) v) hs1 q1 q2 (fun u hu => ho u (List.mem_cons_of_mem _ hu))
    refine ⟨w', ?_, g2, g3, by rw [g4]; simp, fun r hr => (g5 r hr).trans (hs2 r hr), C', g6, by rw [g7]; simp, ?_⟩
    · simp only [storeCells, Sem.run_bind]
      rw [run_store P w _ v .plain (ho v (List.mem_cons_self ..)), hc, hf]
      simpa using g1
    · intro j
      rw [g8 j]
      by_cases h1 : off + (i + 1) ≤ j ∧ j < off + (i + 1) + vs.length
      · rw [if_pos h1, if_pos (by simp only [List.length_cons]; omega)]
        rw [show j - (off + i) = (j - (off + (i + 1))) + 1 by omega]
        simp
      · rw [if_neg h1]
        by_cases h2 : j = off + i
        · subst h2
          rw [if_pos (by simp only [List.length_cons]; omega), Array.getElem?_setIfInBounds_self_of_lt hlt]
          simp
        · rw [if_neg (by simp only [List.length_cons]; omega), Array.getElem?_setIfInBounds_ne (Ne.symm h2)]

theorem Evo.turn {m : Mp} {h : Heap} {w w' : World} {b : Nat} {L : Loc} {o' : Obj} (e : m b = some L) (hO : owned h b) (h1 : w'.os = w.os) (h2 : w'.output = w.output) (h3 : w'.heap.size = w.heap.size)
    (h4 : ∀ r, r ≠ L.blk → w'.heap[r]? = w.heap[r]?) : Evo m h w m (h.set b o') w' where
  mono := Mp.le_refl m
  len := by simp
  un x hx e' := ⟨e', List.getElem?_set_ne (fun hb => by subst hb; rw [e] at e'; cases e')⟩
  os := h1
  out := h2
  size := Nat.le_of_eq h3.symm
  frame r hr hn := h4 r (fun he => hn b L e hO he.symm)
  own x L' e' o1 := by
    by_cases hxb : x = b
    · subst hxb; rw [e] at e'; cases e'; exact .inr ⟨x, L, e, hO, rfl⟩
    · obtain ⟨ob, g1, g2⟩ := o1
      rw [List.getElem?_set_ne (Ne.symm hxb)] at g1
      exact .inr ⟨x, L', e', ⟨ob, g1, g2⟩, rfl⟩

theorem owned_arr {h : Heap} {b : Nat} {cs : List CV} {st : St} (hb : h[b]? = some (.arr cs st)) (hs : st ≠ .ro) : owned h b := ⟨_, hb, by simp [ownedO, hs]⟩

/-- a run of cells is written -/
theorem storeAt_sim {P : Program} {G : Gam} {m : Mp} {h h' : Heap} {w : World} (s : Sim G m h w) {b o : Nat} {L : Loc} (e : m b = some L) {vs : List CV} {V : List Value} (hv : trL G m vs = some V) (hst : storeAt h b o vs = some h') :
    ∃ w', (storeCells (L.ad o) V).run P w = .ok () w' ∧ Sim G m h' w' ∧ Evo m h w m h' w' := by
  simp only [storeAt] at hst
  cases hb : h[b]? with
  | none => simp [hb] at hst
  | some ob =>
    cases ob <;> simp [hb] at hst
    rename_i cs st
    obtain ⟨⟨hst1, hle, hsc⟩, rfl⟩ := hst
    rcases s.obj b L _ e hb with ⟨_, h0⟩ | ⟨C, t, fr, hsp, h1, h2, h3⟩
    rotate_left
    rw [Loc.ad_none hsp]
    rotate_left
    · exact absurd h0 hst1
    · obtain ⟨h4, h5, h6⟩ := h3 hst1
      have hVl := trL_length hv
      obtain ⟨w', g1, g2, g3, g4, g5, C', g6, g7, g8⟩ := storeCells_run (P := P) (b := L.blk) (off := L.off + o) V 0 w C h1 (by omega)
        (fun j hj => by have := h6 (o + j) (by omega); rw [show L.off + o + 0 + j = L.off + (o + j) by omega]; exact this)
        (fun v hv' => by
          obtain ⟨i, hi, rfl⟩ := List.getElem_of_mem hv'
          obtain ⟨rv, k1, k2⟩ := trL_get hv i vs[i] (by simp)
          have : V[i]? = some V[i] := by simp
          rw [this] at k2; cases k2
          exact tr_scalar k1 (hsc _ (List.getElem_mem _)))
      refine ⟨w', g1, ?_, Evo.turn e (owned_arr hb hst1) g2 g3 g4 g5⟩
      have hO : owned h b := owned_arr hb hst1
      refine s.turn e hb (by simp [ownedO, hst1]) (fun b' L' hne e' l' => g5 _ (s.apart b b' L L' (Ne.symm hne) e e' hO l').symm) (.inr ⟨C', t, fr, hsp, g6, ?_, fun _ => ⟨h4, ?_, ?_⟩⟩)
      · intro i u hu
        rw [g8]
        simp only [splice, List.append_assoc] at hu
        by_cases c1 : i < o
        · rw [List.getElem?_append_left (by simp; omega), List.getElem?_take_of_lt c1] at hu
          obtain ⟨rv, k1, k2⟩ := h2 i u hu
          exact ⟨rv, k1, by rw [if_neg (by omega)]; exact k2⟩
        · rw [List.getElem?_append_right (by simp; omega)] at hu
          have hlen : (List.take o cs).length = o := by simp; omega
          rw [hlen] at hu
          by_cases c2 : i < o + vs.length
          · rw [List.getElem?_append_left (by omega)] at hu
            obtain ⟨rv, k1, k2⟩ := trL_get hv _ u hu
            exact ⟨rv, k1, by rw [if_pos (by omega), show L.off + i - (L.off + o + 0) = i - o by omega]; exact k2⟩
          · rw [List.getElem?_append_right (by omega), List.getElem?_drop, show o + vs.length + (i - o - vs.length) = i by omega] at hu
            obtain ⟨rv, k1, k2⟩ := h2 i u hu
            exact ⟨rv, k1, by rw [if_neg (by omega)]; exact k2⟩
      · have : (splice cs o vs).length = cs.length := by simp [splice]; omega
        rw [this, g7]; exact h5
      · have : (splice cs o vs).length = cs.length := by simp [splice]; omega
        rw [this]; exact h6

section
variable {P : Program} {G : Gam} {o : Oper} {e : Env} {m : Mp} {N : Nat} {a : Act} {w : World} {h h' : Heap} {v : CV} {call : CallF}

theorem h_store {n : Option Nat} {x y : Opd} (hM : opM P G o.op (.store n x y) = true) (hev : evOp call (.store n x y) e h = some (v, h')) (he : ER G m N e a) (s : Sim G m h w) : Heavy P G o a m h w v h' := by
  simp only [evOp] at hev
  cases hop : o.op <;> simp [opM, hop, isCallS] at hM
  rename_i t X Y
  obtain ⟨⟨h1, h2⟩, h3⟩ := hM
  cases hx : x.ev e with
  | none => simp [hx] at hev
  | some xv =>
    cases hy : y.ev e with
    | none => cases xv <;> simp [hx, hy] at hev
    | some yv =>
      cases xv <;> simp [hx, hy] at hev
      rename_i b off
      obtain ⟨hk, hev⟩ := hev
      · cases hst : storeAt h b off yv.cells with
        | none => simp [hst] at hev
        | some hh =>
          simp [hst] at hev
          obtain ⟨rfl, rfl⟩ := hev
          obtain ⟨L, g1, g2⟩ := tr_ptr (opd_sim he h1 hx)
          obtain ⟨V, c1, c2⟩ := cells_one (opd_sim he h2 hy)
          have hVl := trL_length c1
          obtain ⟨w', k1, k2, k3⟩ := storeAt_sim (P := P) s g1 c1 hst
          have hsz : szOf P t = some V.length := by
            cases n with
            | none =>
              simp at h3
              cases yv <;> simp [fits] at hk <;> simp [CV.cells] at hVl <;> rw [h3, hVl]
            | some n =>
              simp at h3
              cases yv <;> simp [fits] at hk
              simp [CV.cells] at hVl
              rw [h3, hVl, hk]
          refine ⟨m, .skip, undef, w', ?_, .inr ⟨rfl, rfl⟩, rfl, k2, k3⟩
          have hs2 : (a.eval Y).cells.size = V.length := by rw [c2]; simp
          simp [execOp, hop, g2, Instr.storeAt, Instr.sureAddr, storeVar, run_sizeOf hsz, c2, k1]

theorem spread_sim {esz k : Nat} {y : CV} {ys : List CV} (hy : spread h esz y = some (k, ys)) {ry : Value} (hr : tr G m y = some ry) (s : Sim G m h w) :
    (Builtin.lenOf ry).run P w = .ok k w ∧ ∃ vs, (Builtin.firstCells esz k ry).run P w = .ok vs.toArray w ∧ trL G m ys = some vs ∧ ys.length = k * esz := by
  cases y <;> simp only [spread] at hy <;> (try (cases hy; done))
  · rename_i q
    simp at hy
    obtain ⟨rfl, rfl, rfl⟩ := hy
    obtain rfl := tr_str hr
    refine ⟨by simp [Builtin.lenOf, bytes_size], q.map (fun b => Value.int .u8 b.toNat), ?_, ?_, by simp⟩
    · simp [Builtin.firstCells, bytes_all]
    · refine trL_mk (by simp) fun i u hu => ?_
      rw [List.getElem?_map] at hu ⊢
      cases hs : q[i]? with
      | none => simp [hs] at hu
      | some b => simp [hs] at hu; subst hu; exact ⟨_, rfl, by simp⟩
  · rename_i b off n c
    split at hy
    · rename_i cs hcs
      simp at hy
      obtain ⟨rfl, rfl⟩ := hy
      obtain ⟨L, hL, rfl⟩ := tr_sl hr
      simp only [cellsAt] at hcs
      cases hbb : h[b]? with
      | none => simp [hbb] at hcs
      | some ob =>
        cases ob <;> simp [hbb] at hcs
        rename_i cc st
        obtain ⟨hle, rfl⟩ := hcs
        refine ⟨by simp [Builtin.lenOf], ?_⟩
        rcases cells_sim s hL hbb hle with h0 | ⟨C, t', fr, vs, hsp, q1, q2, q3, q4⟩
        · exact ⟨[], by simp [Builtin.firstCells, h0, loadCells, loadCellsFrom], by simp [h0, trL], by simp [h0]⟩
        · have := loadCells_run (P := P) (off := L.off + off) q1 q4
          rw [q3, ← Loc.ad_none hsp] at this
          exact ⟨vs, by simpa [Builtin.firstCells] using this, q2, by simp; omega⟩
    · cases hy
  · simp at hy
    obtain ⟨rfl, rfl⟩ := hy
    obtain rfl := tr_nils hr
    exact ⟨by simp [Builtin.lenOf], [], by simp [Builtin.firstCells], by simp [trL], by simp⟩

theorem growBy_le (n : Nat) : ∀ (r c : Nat), c ≤ 2 * n + 1000 → Builtin.growBy n r c ≤ 2 * n + 1000
  | 0, c, h => h
  | r + 1, c, h => by
    simp only [Builtin.growBy]
    split
    · exact h
    · exact growBy_le n r _ (by omega)

theorem nextcap_le (n c : Nat) (h : c < n) : Builtin.nextslicecap n c ≤ 2 * n + 1000 := by
  unfold Builtin.nextslicecap
  split
  · omega
  · split
    · omega
    · exact growBy_le n 4 c (by omega)

theorem zeroCells_size (z : Array Value) (n : Nat) : (Builtin.zeroCells z n).size = n * z.size := by simp [Builtin.zeroCells]


theorem kill_get {h : Heap} {b x : Nat} (hx : x ≠ b) : (kill h b)[x]? = h[x]? := by
  unfold kill
  split
  · exact List.getElem?_set_ne (Ne.symm hx)
  · rfl

theorem kill_length (h : Heap) (b : Nat) : (kill h b).length = h.length := by
  unfold kill
  split <;> simp

theorem kill_sim {b : Nat} {L : Loc} (s : Sim G m h w) (e1 : m b = some L) {cs : List CV} {st : St} (hb : h[b]? = some (.arr cs st)) (hst : st ≠ .ro) : Sim G m (kill h b) w ∧ Evo m h w m (kill h b) w := by
  unfold kill
  rw [hb]
  cases st with
  | loose z => exact ⟨s.turn e1 hb (by simp [ownedO]) (fun _ _ _ _ _ => rfl) trivial, Evo.turn e1 (owned_arr hb (by simp)) rfl rfl rfl fun _ _ => rfl⟩
  | tight => exact ⟨s, Evo.refl ..⟩
  | ro => exact absurd rfl hst

/-- a new object behind all, in a new block -/
theorem push_sim {L : Loc} {ob : Obj} {w' : World} (s : Sim G m h w) (hL : L.blk = w.heap.size) (hg : WGrow w w') (hr : ObjR G (m.upd h.length L) L w' ob) :
    Sim G (m.upd h.length L) (h ++ [ob]) w' ∧ Evo m h w (m.upd h.length L) (h ++ [ob]) w' := by
  have hm : m h.length = none := by
    cases hk : m h.length with
    | none => rfl
    | some L' => exact absurd (s.dom _ _ hk) (by omega)
  refine ⟨(s.more [ob]).newObj hm (by simp) hL hg hr, ?_⟩
  refine ⟨Mp.upd_le hm, by simp, fun b hb e1 => ⟨?_, List.getElem?_append_left hb⟩, hg.os, hg.out, hg.size, fun r hr _ => hg.old r hr, ?_⟩
  · have : b ≠ h.length := by omega
    simp [Mp.upd, this, e1]
  · intro b L' e1 o1
    by_cases hb : b = h.length
    · subst hb; rw [Mp.upd_same] at e1; cases e1; exact .inl (by omega)
    · simp [Mp.upd, hb] at e1
      obtain ⟨x, g1, g2⟩ := o1
      rw [List.getElem?_append_left (s.dom b L' e1)] at g1
      exact .inr ⟨b, L', e1, ⟨x, g1, g2⟩, rfl⟩

theorem appM_facts {ts : Array TypeId} {esz : Nat} (hM : appM P ts esz = true) : ∃ t u el nb zi, ts[0]? = some t ∧ ts[1]? = some u ∧ P.underlying t = some (.slice el) ∧ ((∃ e2, P.underlying u = some (.slice e2)) ∨ (P.underlying u = some .string ∧ esz = 1)) ∧
    esz ≠ 0 ∧ szOf P el = some esz ∧ byOf P el = some nb ∧ nb ≤ 4096 ∧ P.info? el = some zi ∧ ∃ z, zi.zero = some z ∧ z.cells.size = esz := by
  unfold appM at hM
  cases ht : ts[0]? with
  | none => simp [ht] at hM
  | some t =>
    cases hu : ts[1]? with
    | none => simp [ht, hu] at hM
    | some u =>
      simp only [ht, hu] at hM
      cases hpt : P.underlying t with
      | none => simp [hpt] at hM
      | some d =>
        cases d <;> simp [hpt] at hM
        rename_i el
        cases hpu : P.underlying u with
        | none => simp [hpu] at hM
        | some d =>
          cases d <;> simp [hpu] at hM
          all_goals
            obtain ⟨⟨⟨a1, a2⟩, a3⟩, a4⟩ := hM
            cases hb : byOf P el with
            | none => simp [hb] at a3
            | some nb =>
              simp [hb] at a3
              cases hi : P.info? el with
              | none => simp [hi] at a4
              | some zi =>
                cases hz : zi.zero with
                | none => simp [hi, hz] at a4
                | some z =>
                  simp [hi, hz] at a4
                  refine ⟨t, u, el, nb, zi, rfl, rfl, hpt, ?_, ?_, a2, hb, a3, hi, z, hz, a4⟩
                  first
                  | exact .inr ⟨hpu, a1⟩
                  | exact .inl ⟨_, hpu⟩
                  first
                  | exact a1
                  | omega

/-- the model's append, when the slice grows into a new array -/
theorem append_grow {t u el : TypeId} {esz nb : Nat} {zi : TypeInfo} {z : Value} {base : Option Addr} {n C k : Nat} {rx : Value} {old new : List Value} (ty : TypeId)
    (ht : P.underlying t = some (.slice el)) (hu : ∃ d, P.underlying u = some d ∧ ∀ kk, d ≠ .int kk) (hs : szOf P el = some esz) (hb : byOf P el = some nb) (hnb : nb ≤ 4096) (hi : P.info? el = some zi) (hz : zi.zero = some z) (hzs : z.cells.size = esz)
    (hl : (Builtin.lenOf rx).run P w = .ok k w) (hgrow : C < n + k) (hbig : n + k ≤ 2 * big) (ho : ∀ w' : World, w'.heap = w.heap → (Builtin.firstCells esz n (.slice base n C)).run P w' = .ok old.toArray w') (hn : ∀ w' : World, w'.heap = w.heap → (Builtin.firstCells esz k rx).run P w' = .ok new.toArray w') (hol : old.length = n * esz) (hnl : new.length = k * esz) :
    ∃ cap R, n + k ≤ cap ∧ R.size = (cap - (n + k)) * esz ∧ (Builtin.append_ #[t, u] ty #[.slice base n C, rx]).run P w = .ok (.slice (some ⟨w.heap.size, 0, none⟩) (n + k) cap) (w.drew.alloc (.cells (old.toArray ++ new.toArray ++ R) el)) := by
  obtain ⟨d, hd, hdn⟩ := hu
  obtain ⟨inf, i1, i2⟩ := run_bytesOf hb w
  let cap := (Question.appendCap (n + k) C el).cut (w.tape w.drawn (.appendCap (n + k) C el))
  have hcap : n + k ≤ cap := by simp only [cap, Question.cut]; omega
  refine ⟨cap, Builtin.zeroCells z.cells (cap - (n + k)), hcap, by rw [zeroCells_size, hzs], ?_⟩
  have hzero : (match d with | .int _ => true | _ => false) = false := by cases d <;> first | rfl | exact absurd rfl (hdn _)
  have hbb : big = 4294967296 := rfl
  have hnc := nextcap_le (n + k) C hgrow
  have hprod : Builtin.nextslicecap (n + k) C * nb ≤ 2 ^ 48 := by
    have : Builtin.nextslicecap (n + k) C * nb ≤ (2 * (2 * big) + 1000) * 4096 := Nat.mul_le_mul (by omega) hnb
    rw [hbb] at this
    omega
  have hti : ∀ w' : World, (typeInfo el).run P w' = .ok zi w' := fun w' => by simp [typeInfo, hi]
  have hzb : zi.bytes = nb := by simpa [byOf, hi] using hb
  have hzv : ∀ w' : World, (zeroValue el).run P w' = .ok z w' := fun w' => by simp [zeroValue, typeInfo, hi, hz]
  unfold Builtin.append_
  simp only [List.getElem?_toArray, List.getElem?_cons_zero, List.getElem?_cons_succ, Sem.run_bind, run_underlying ht, run_underlying hd, Result.andThen_ok, run_sizeOf hs, Sem.run_pure]
  have h1 : ¬ (((n + k : Nat) : Int) > IntKind.i64.max) := by rw [IntKind.max_i64]; omega
  have h2 : ¬ (n + k ≤ C) := by omega
  have h3 : ¬ (Builtin.nextslicecap (n + k) C * zi.bytes > 2 ^ 48) := by rw [hzb]; omega
  simp only [Bool.false_eq_true, if_false, Sem.run_bind, hl, Result.andThen_ok, h2, hti, h1, false_and, h3, run_choose, Question.forced, run_askRoom]
  have g1 := ho w.drew rfl
  have g2 := hn w.drew rfl
  simp only [World.drew_eq, g1, Result.andThen_ok, Bool.not_false, if_true, g2, hzv, newRow, Sem.run_bind, run_newObj, Sem.run_pure]
  rfl

/-- the model's append, where there is room -/
theorem append_room {t u el : TypeId} {esz : Nat} {A : Addr} {n C k : Nat} {rx : Value} {new : List Value} {w' : World} (ty : TypeId)
    (ht : P.underlying t = some (.slice el)) (hu : ∃ d, P.underlying u = some d ∧ ∀ kk, d ≠ .int kk) (hs : szOf P el = some esz)
    (hl : (Builtin.lenOf rx).run P w = .ok k w) (hroom : n + k ≤ C) (hn : (Builtin.firstCells esz k rx).run P w = .ok new.toArray w)
    (hst : (storeCells (A.add (n * esz)) new).run P w = .ok () w') :
    (Builtin.append_ #[t, u] ty #[.slice (some A) n C, rx]).run P w = .ok (.slice (some A) (n + k) C) w' := by
  obtain ⟨d, hd, hdn⟩ := hu
  have hzero : (match d with | .int _ => true | _ => false) = false := by cases d <;> first | rfl | exact absurd rfl (hdn _)
  unfold Builtin.append_
  simp only [List.getElem?_toArray, List.getElem?_cons_zero, List.getElem?_cons_succ, Sem.run_bind, run_underlying ht, run_underlying hd, Result.andThen_ok, run_sizeOf hs, Sem.run_pure]
  simp only [Bool.false_eq_true, if_false, Sem.run_bind, hl, Result.andThen_ok, hroom, if_true, Bool.not_false, hn, hst, Sem.run_pure]

theorem append_nil {t u el : TypeId} {esz : Nat} {rx : Value} (ty : TypeId)
    (ht : P.underlying t = some (.slice el)) (hu : ∃ d, P.underlying u = some d ∧ ∀ kk, d ≠ .int kk) (hs : szOf P el = some esz)
    (hl : (Builtin.lenOf rx).run P w = .ok 0 w) (hn : ∃ new, (Builtin.firstCells esz 0 rx).run P w = .ok new w) :
    (Builtin.append_ #[t, u] ty #[.slice none 0 0, rx]).run P w = .ok (.slice none 0 0) w := by
  obtain ⟨d, hd, hdn⟩ := hu
  obtain ⟨new, hn⟩ := hn
  have hzero : (match d with | .int _ => true | _ => false) = false := by cases d <;> first | rfl | exact absurd rfl (hdn _)
  unfold Builtin.append_
  simp only [List.getElem?_toArray, List.getElem?_cons_zero, List.getElem?_cons_succ, Sem.run_bind, run_underlying ht, run_underlying hd, Result.andThen_ok, run_sizeOf hs, Sem.run_pure]
  simp only [Bool.false_eq_true, if_false, Sem.run_bind, hl, Result.andThen_ok, Nat.add_zero, Nat.le_refl, if_true, Bool.not_false, hn, Sem.run_pure]

theorem ats_two {ts : Array TypeId} {t u : TypeId} (h0 : ts[0]? = some t) (h1 : ts[1]? = some u) (ty : TypeId) (x y : Value) (w : World) : (Builtin.append_ ts ty #[x, y]).run P w = (Builtin.append_ #[t, u] ty #[x, y]).run P w := by
  unfold Builtin.append_
  rw [h0, h1]
  rfl

theorem objR_loose {b off : Nat} {cs : List CV} {vs : List Value} {C : Array Value} {t : TypeId} {fr : Nat × Nat} {slack esz : Nat} (hb : w.heap[b]? = some (.cells C t fr)) (hv : trL G m cs = some vs) (hC : ∀ (i : Nat) v, vs[i]? = some v → C[off + i]? = some v)
    (hroom : off + cs.length + slack * esz ≤ C.size) (hfr : ∀ j, j < cs.length + slack * esz → ¬ (fr.1 ≤ off + j ∧ off + j < fr.2)) : ObjR G m ⟨b, off, slack, none⟩ w (.arr cs (.loose esz)) := by
  refine .inr ⟨C, t, fr, rfl, hb, fun i v hi => ?_, fun _ => ⟨(fun h => by cases h), hroom, hfr⟩⟩
  obtain ⟨rv, g1, g2⟩ := trL_get hv i v hi
  exact ⟨rv, g1, hC i rv g2⟩

/-- an object whose cells another one takes over -/
theorem over_sim {b : Nat} {L L' : Loc} {cs : List CV} {st : St} {ob : Obj} (s : Sim G m h w) (hL : m b = some L) (hb : h[b]? = some (.arr cs st)) (hro : st ≠ .ro) (hbk : L'.blk = L.blk) (hR : ObjR G (m.upd h.length L') L' w ob) :
    Sim G (m.upd h.length L') (h.set b .dead ++ [ob]) w ∧ Evo m h w (m.upd h.length L') (h.set b .dead ++ [ob]) w := by
  have s1 : Sim G m (h.set b .dead) w := s.turn hL hb (by simp [ownedO, hro]) (fun _ _ _ _ _ => rfl) trivial
  have hm : m h.length = none := by
    cases hk : m h.length with
    | none => rfl
    | some L' => exact absurd (s.dom _ _ hk) (by omega)
  have hO : owned h b := owned_arr hb hro
  have hlt := s.dom b L hL
  have hkb : (h.set b .dead)[b]? = some .dead := List.getElem?_set_self hlt
  have hget : ∀ x, x ≠ b → (h.set b .dead)[x]? = h[x]? := fun x hx => List.getElem?_set_ne (Ne.symm hx)
  have ho' : (h.set b .dead ++ [ob])[h.length]? = some ob := by
    have : h.length = (h.set b .dead).length := by simp
    rw [this]; simp
  have hliveb : ∀ b', live (h.set b .dead ++ [ob]) b' → b' ≠ h.length → b' ≠ b ∧ live h b' := by
    rintro b' ⟨ox, x1, x2⟩ hne
    have hlt' : b' < h.length := by
      have := (List.getElem?_eq_some_iff.1 x1).1
      simp at this; omega
    rw [List.getElem?_append_left (by simpa using hlt')] at x1
    by_cases hbb : b' = b
    · subst hbb; rw [hkb] at x1; cases x1; simp [liveO] at x2
    · exact ⟨hbb, ox, by rw [hget _ hbb] at x1; exact x1, x2⟩
  refine ⟨(s1.more [ob]).new hm ho' (fun _ _ _ _ => rfl) ?_ hR, ?_⟩
  · intro _ b' L2 em lv
    have hne : b' ≠ h.length := fun hh => by subst hh; rw [hm] at em; cases em
    obtain ⟨x1, x2⟩ := hliveb b' lv hne
    rw [hbk]
    exact (s.apart b b' L L2 (Ne.symm x1) hL em hO x2).symm
  · refine ⟨Mp.upd_le hm, by simp, ?_, rfl, rfl, Nat.le_refl _, fun _ _ _ => rfl, ?_⟩
    · intro b' hb' em
      have hne : b' ≠ h.length := by omega
      have hnb : b' ≠ b := fun hh => by subst hh; rw [hL] at em; cases em
      exact ⟨by simp [Mp.upd, hne, em], by rw [List.getElem?_append_left (by simpa using hb'), hget _ hnb]⟩
    · intro b' L2 em o2
      by_cases hne : b' = h.length
      · subst hne; rw [Mp.upd_same] at em; cases em
        exact .inr ⟨b, L, hL, hO, hbk.symm⟩
      · simp [Mp.upd, hne] at em
        obtain ⟨ox, x1, x2⟩ := o2
        have hlt' := s.dom b' L2 em
        rw [List.getElem?_append_left (by simpa using hlt')] at x1
        by_cases hbb : b' = b
        · subst hbb; rw [hkb] at x1; cases x1; simp [ownedO] at x2
        · rw [hget _ hbb] at x1
          exact .inr ⟨b', L2, em, ⟨ox, x1, x2⟩, rfl⟩

theorem h_slTail {esz : Nat} {x lo : Opd} (hM : opM P G o.op (.slTail esz x lo) = true) (hev : evOp call (.slTail esz x lo) e h = some (v, h')) (he : ER G m N e a) (s : Sim G m h w) : Heavy P G o a m h w v h' := by
  simp only [evOp] at hev
  cases hop : o.op <;> simp [opM, hop, isCallS] at hM
  rename_i t X LO HI MX
  cases MX <;> (try (simp at hM; done))
  simp at hM
  obtain ⟨⟨⟨rfl, h1⟩, h2⟩, h4⟩ := hM
  cases hu : P.underlying t with
  | none => simp [hu] at h4
  | some d =>
    cases d <;> simp [hu] at h4
    rename_i el
    cases hx : x.ev e with
    | none => simp [hx] at hev
    | some xv =>
      cases hl : lo.ev e with
      | none => simp [hx, hl] at hev
      | some lv =>
        simp only [hx, hl] at hev
        cases xv <;> simp only [slTail] at hev <;> (try (cases hev; done))
        rename_i b ob n c
        cases lv <;> simp only at hev <;> (try (cases hev; done))
        rename_i lk ln
        split at hev
        case isFalse => cases hev
        rename_i hc
        obtain ⟨hc1, hc2, hc3⟩ := hc
        have hX := opd_sim he h1 hx
        obtain ⟨Lc, hLc, hr⟩ := tr_sl hX
        have hb2 : bound (some (.int lk ln)) 0 n = some ln.toNat := by simp [bound, hc1, hc2]
        have c2 := bound_sim he h2 (o := some (.int lk ln)) (by simp [optEv, hl]) hb2
        have hrun : (execOp a.eval o).run P w = .ok (.value (.slice (if c + Lc.slack = ln.toNat then some (Lc.ad ob) else some ((Lc.ad ob).add (ln.toNat * esz))) (n - ln.toNat) (c + Lc.slack - ln.toNat))) w := by
          rcases c2 with ⟨q0, _⟩ | ⟨lx, lk', ln', q0, he2, hq1, hq2, q3⟩
          · subst q0; simp [oopdM] at h2
          · subst q0
            rw [q3]
            simp [execOp, hop, hr, Instr.sliceAt, Instr.slice, run_underlying hu, Instr.sliceBounds, run_sizeOf h4, he2, run_sliceBound w lk' ln' n _ hq1 hq2]
        split at hev
        · rename_i hlc
          simp at hev
          obtain ⟨rfl, rfl⟩ := hev
          refine ⟨m, _, _, w, hrun, .inl rfl, ?_, s, Evo.refl ..⟩
          simp only [tr, hLc, Option.map_some]
          rw [if_neg (by omega), Loc.ad_add]
          have hsl : c + Lc.slack - ln.toNat = c - ln.toNat + Lc.slack := by omega
          rw [hsl]
        · rename_i hlc
          cases hb : h[b]? with
          | none => simp [hb] at hev
          | some obj =>
            cases obj <;> simp only [hb] at hev <;> (try (cases hev; done))
            rename_i cs st
            split at hev
            case isFalse => cases hev
            rename_i hk
            obtain ⟨hro, hst, hend⟩ := hk
            simp at hev
            obtain ⟨rfl, rfl⟩ := hev
            rcases s.obj b Lc _ hLc hb with ⟨_, h0⟩ | ⟨C, t', fr, hsp, q1, q2, q3⟩
            · exact absurd h0 hro
            obtain ⟨q4, q5, q6⟩ := q3 hro
            have hcl : ln.toNat = c := by omega
            have hnc : n = c := by omega
            rw [hcl] at hrun
            have hm : m h.length = none := by
              cases hk : m h.length with
              | none => rfl
              | some L' => exact absurd (s.dom _ _ hk) (by omega)
            have q5' : Lc.off + cs.length + Lc.slack * esz ≤ C.size ∧ ∀ j, j < Lc.slack * esz → ¬ (fr.1 ≤ Lc.off + (cs.length + j) ∧ Lc.off + (cs.length + j) < fr.2) := by
              rcases hst with rfl | rfl
              · have := q4 rfl
                simp only [slackCells] at q5
                rw [this]
                exact ⟨by omega, fun j hj => by simp at hj⟩
              · simp only [slackCells] at q5 q6
                exact ⟨q5, fun j hj => q6 (cs.length + j) (by omega)⟩
            let A : Addr := if c + Lc.slack = c then Lc.ad ob else (Lc.ad ob).add (c * esz)
            let L' : Loc := ⟨Lc.blk, if c + Lc.slack = c then Lc.off + ob else Lc.off + ob + c * esz, Lc.slack, none⟩
            have hR' : ObjR G (m.upd h.length L') L' w (.arr [] (.loose esz)) := by
              refine .inr ⟨C, t', fr, rfl, q1, fun i v hi => (by simp at hi), fun _ => ⟨(fun h => by cases h), ?_, ?_⟩⟩
              · simp only [L', slackCells, List.length_nil]
                split
                · rename_i h0
                  have : Lc.slack = 0 := by omega
                  rw [this]; omega
                · omega
              · intro j hj
                simp only [slackCells, List.length_nil, L'] at hj ⊢
                split
                · rename_i h0
                  have : Lc.slack = 0 := by omega
                  rw [this] at hj; simp at hj
                · have := q5'.2 j (by omega)
                  rw [← hend] at this
                  rw [show Lc.off + ob + c * esz + j = Lc.off + (ob + c * esz + j) by omega]; exact this
            obtain ⟨p1, p2⟩ := over_sim (L' := L') s hLc hb hro rfl hR'
            refine ⟨_, _, _, w, hrun, .inl rfl, ?_, p1, p2⟩
            simp only [tr, Mp.upd_same, Option.map_some]
            have hz : c + Lc.slack - c = 0 + Lc.slack := by omega
            rw [hz, hnc, Nat.sub_self]
            congr 3
            simp only [L']
            split
            · rw [Loc.ad_none hsp, Loc.ad_none (L := ⟨Lc.blk, Lc.off + ob, Lc.slack, none⟩) rfl]; rfl
            · rw [Loc.ad_none hsp, Loc.ad_none (L := ⟨Lc.blk, Lc.off + ob + c * esz, Lc.slack, none⟩) rfl]
              simp only [Addr.add]
              split
              · rename_i h0; rw [h0]; rfl
              · rfl

theorem h_append {esz : Nat} {x y : Opd} (hM : opM P G o.op (.append esz x y) = true) (hev : evOp call (.append esz x y) e h = some (v, h')) (he : ER G m N e a) (s : Sim G m h w) : Heavy P G o a m h w v h' := by
  simp only [evOp] at hev
  cases hop : o.op <;> simp [opM, hop, isCallS] at hM
  rename_i c
  obtain ⟨callee, args, ats⟩ := c
  cases callee <;> simp [callM] at hM
  rename_i b
  cases b <;> simp [builtinM] at hM
  obtain ⟨h1, h2⟩ := hM
  obtain ⟨t, u, el, nb, zi, ht0, hu1, ht, hu, hesz, hsz, hby, hnb, hinf, z, hz, hzs⟩ := appM_facts h2
  have hud : ∃ d, P.underlying u = some d ∧ ∀ kk, d ≠ .int kk := by
    rcases hu with ⟨e2, hu⟩ | ⟨hu, _⟩
    · exact ⟨_, hu, fun _ h => by cases h⟩
    · exact ⟨_, hu, fun _ h => by cases h⟩
  cases hx : x.ev e with
  | none => simp [hx] at hev
  | some xv =>
    cases hy : y.ev e with
    | none => simp [hx, hy] at hev
    | some yv =>
      simp only [hx, hy] at hev
      cases hsp : spread h esz yv with
      | none => simp [hsp] at hev
      | some kp =>
        obtain ⟨k, ys⟩ := kp
        simp only [hsp] at hev
        have g1 := opds_sim he h1 (vs := [xv, yv]) (by simp [evs, hx, hy])
        obtain ⟨rx, r1, hrx, g2, hyl⟩ := trL_cons g1
        obtain ⟨ry, r2, hry, g3, rfl⟩ := trL_cons g2
        simp [trL] at g3; subst g3
        have hargs : args.map a.eval = #[rx, ry] := by rw [← Array.toList_inj]; simpa using hyl
        have R : ∀ q w', (Builtin.append_ #[t, u] o.type #[rx, ry]).run P w = .ok q w' → (execOp a.eval o).run P w = .ok (.value q) w' := by
          intro q w' g
          simp [execOp, hop, resolve, invoke, builtin, hargs, ats_two ht0 hu1, g]
        obtain ⟨hlen, new, hnew, htrn, hysl⟩ := spread_sim (P := P) hsp hry s
        have hnewL : new.length = k * esz := by rw [trL_length htrn, hysl]
        have hnewAll : ∀ w' : World, w'.heap = w.heap → (Builtin.firstCells esz k ry).run P w' = .ok new.toArray w' := by
          intro w' hw'
          obtain ⟨_, new', q1, q2, _⟩ := spread_sim (P := P) hsp hry (s.world (w' := w') fun b L _ _ => by rw [hw'])
          rw [htrn] at q2; cases q2; exact q1
        simp only [appendTo] at hev
        split at hev
        · cases hev
        rename_i hcond
        have hkbig : k ≤ big := by omega
        have hsc : ys.all CV.scalar = true := by
          cases hq : ys.all CV.scalar
          · exact absurd (.inr hq) hcond
          · rfl
        cases xv <;> simp at hev
        · rename_i b ob n c
          obtain ⟨hnbig, hev⟩ := hev
          obtain ⟨L, hL, rfl⟩ := tr_sl hrx
          split at hev
          · -- nothing is appended
            rename_i h0
            obtain ⟨rfl, hnc⟩ := h0
            simp at hev
            obtain ⟨rfl, rfl⟩ := hev
            have hnew0 : new = [] := List.eq_nil_of_length_eq_zero (by omega)
            subst hnew0
            refine ⟨m, .value (.slice (some (L.ad ob)) (n + 0) (c + L.slack)), _, w, R _ _ (append_room o.type ht hud hsz hlen (by omega) hnew (w' := w) rfl), .inl rfl, by simp [tr, hL], s, Evo.refl ..⟩
          · split at hev
            · -- in its own cells
              rename_i hnk
              cases hst : storeAt h b (ob + n * esz) ys with
              | none => simp [hst] at hev
              | some hh =>
                simp [hst] at hev
                obtain ⟨rfl, rfl⟩ := hev
                obtain ⟨w', k1, k2, k3⟩ := storeAt_sim (P := P) s hL htrn hst
                rw [← Loc.ad_add] at k1
                exact ⟨m, .value (.slice (some (L.ad ob)) (n + k) (c + L.slack)), _, w', R _ _ (append_room o.type ht hud hsz hlen (by omega) hnew k1), .inl rfl, by simp [tr, hL], k2, k3⟩
            · rename_i hk0 hnk
              cases hb : h[b]? with
              | none => simp [hb] at hev
              | some obj =>
                cases obj <;> simp [hb] at hev
                rename_i cs st
                obtain ⟨⟨hro, hst, hle1, hle2⟩, rfl, rfl⟩ := hev
                obtain ⟨s1, e1⟩ := kill_sim s hL hb hro
                have hkl := kill_length h b
                have htrold : ∃ old, trL G m ((cs.drop ob).take (n * esz)) = some old ∧ old.length = n * esz ∧ ∀ w' : World, w'.heap = w.heap → (Builtin.firstCells esz n (.slice (some (L.ad ob)) n (c + L.slack))).run P w' = .ok old.toArray w' := by
                  rcases cells_sim s hL hb hle1 with h0 | ⟨C, t', fr, vs, hsp, q1, q2, q3, q4⟩
                  · exact ⟨[], by simp [h0, trL], by simp [h0], fun w' _ => by simp [Builtin.firstCells, h0, loadCells, loadCellsFrom]⟩
                  · refine ⟨vs, q2, q3, fun w' hw' => ?_⟩
                    have := loadCells_run (P := P) (w := w') (off := L.off + ob) (by rw [hw']; exact q1) q4
                    rw [q3, ← Loc.ad_none hsp] at this
                    simpa [Builtin.firstCells] using this
                obtain ⟨old, ho1, ho2, ho3⟩ := htrold
                have htrall := trL_append ho1 htrn
                by_cases hroom : n + k ≤ c + L.slack
                · -- in the cells behind it
                  have hloose : st = .loose esz := by
                    rcases hst with rfl | h
                    · rcases s.obj b L _ hL hb with ⟨_, h0⟩ | ⟨C, t', fr, _, _, _, q3⟩
                      · cases h0
                      · have := (q3 (by simp)).1 rfl; omega
                    · exact h
                  subst hloose
                  rcases s.obj b L _ hL hb with ⟨_, h0⟩ | ⟨C, t', fr, hsp, q1, q2, q3⟩
                  · cases h0
                  obtain ⟨_, q5, q6⟩ := q3 hro
                  simp only [slackCells] at q5 q6
                  have hm1 : (n + k) * esz ≤ (c + L.slack) * esz := Nat.mul_le_mul_right _ hroom
                  rw [Nat.add_mul, Nat.add_mul] at hm1
                  obtain ⟨w', k1, k2, k3, k4, k5, C', k6, k7, k8⟩ := storeCells_run (P := P) (b := L.blk) (off := L.off + (ob + n * esz)) new 0 w C q1 (by omega)
                    (fun j hj => by have := q6 (ob + n * esz + j) (by omega); rw [show L.off + (ob + n * esz) + 0 + j = L.off + (ob + n * esz + j) by omega]; exact this)
                    (fun v hv' => by
                      obtain ⟨i, hi, rfl⟩ := List.getElem_of_mem hv'
                      have hlt : i < ys.length := by have := trL_length htrn; omega
                      obtain ⟨rv, g4, g5⟩ := trL_get htrn i ys[i] (by simp)
                      have : new[i]? = some new[i] := by simp
                      rw [this] at g5; cases g5
                      exact tr_scalar g4 (by have := List.all_eq_true.1 hsc ys[i] (List.getElem_mem _); exact this))
                  rw [← Loc.ad_none hsp, ← Loc.ad_add] at k1
                  have hm : m h.length = none := by
                    cases hk : m h.length with
                    | none => rfl
                    | some L' => exact absurd (s.dom _ _ hk) (by omega)
                  have hO : owned h b := owned_arr hb hro
                  have hbl : b ≠ h.length := by have := s.dom b L hL; omega
                  have hkb : (kill h b)[b]? = some .dead := by
                    unfold kill; rw [hb]
                    exact List.getElem?_set_self (s.dom b L hL)
                  have hsum : ((cs.drop ob).take (n * esz) ++ ys).length = n * esz + k * esz := by rw [trL_length htrall |>.symm]; simp; omega
                  let L' : Loc := ⟨L.blk, L.off + ob, c + L.slack - (n + k), none⟩
                  have hsl : (c + L.slack - (n + k)) * esz = c * esz + L.slack * esz - (n * esz + k * esz) := by rw [Nat.sub_mul, Nat.add_mul, Nat.add_mul]
                  have hR' : ObjR G (m.upd h.length L') L' w' (.arr ((cs.drop ob).take (n * esz) ++ ys) (.loose esz)) := by
                    refine objR_loose k6 (trL_mono G (Mp.upd_le hm) _ _ htrall) ?_ ?_ ?_
                    · intro i u hu'
                      rw [k8 (L.off + ob + i)]
                      by_cases c1 : i < n * esz
                      · rw [if_neg (by omega)]
                        rw [List.getElem?_append_left (by omega)] at hu'
                        rcases cells_sim s hL hb hle1 with h0 | ⟨C2, t2, fr2, vs, _, p1, p2, p3, p4⟩
                        · omega
                        · rw [q1] at p1; cases p1
                          rw [ho1] at p2; cases p2
                          exact p4 i u hu'
                      · rw [List.getElem?_append_right (by omega)] at hu'
                        have hlt : i - old.length < new.length := (List.getElem?_eq_some_iff.1 hu').1
                        rw [if_pos (by omega), ← hu']
                        congr 1; omega
                    · rw [k7, hsum]; simp only [L', hsl]; omega
                    · intro j hj
                      rw [hsum] at hj
                      simp only [L', hsl] at hj
                      have := q6 (ob + j) (by omega)
                      show ¬ (fr.1 ≤ L.off + ob + j ∧ L.off + ob + j < fr.2)
                      rw [show L.off + ob + j = L.off + (ob + j) by omega]; exact this
                  refine ⟨m.upd h.length L', .value (.slice (some (L.ad ob)) (n + k) (c + L.slack)), _, w', R _ _ (append_room o.type ht hud hsz hlen hroom hnew k1), .inl rfl, ?_, ?_, ?_⟩
                  · simp only [tr, Mp.upd_same, Option.map_some, Loc.ad_none hsp, L']
                    rw [Loc.ad_none rfl]
                    simp; omega
                  · have hk : m h.length = none := hm
                    have ho' : (kill h b ++ [Obj.arr ((cs.drop ob).take (n * esz) ++ ys) (.loose esz)])[h.length]? = some (.arr ((cs.drop ob).take (n * esz) ++ ys) (.loose esz)) := by
                      rw [← hkl]; simp
                    have hliveb : ∀ b', live (kill h b ++ [Obj.arr ((cs.drop ob).take (n * esz) ++ ys) (.loose esz)]) b' → b' ≠ h.length → b' ≠ b ∧ live h b' := by
                      rintro b' ⟨ox, x1, x2⟩ hne
                      have hlt : b' < h.length := by
                        have := (List.getElem?_eq_some_iff.1 x1).1
                        simp [hkl] at this; omega
                      rw [List.getElem?_append_left (by omega)] at x1
                      by_cases hbb : b' = b
                      · subst hbb; rw [hkb] at x1; cases x1; simp [liveO] at x2
                      · exact ⟨hbb, ox, by rw [kill_get hbb] at x1; exact x1, x2⟩
                    refine (s1.more _).new hk ho' ?_ ?_ hR'
                    · intro b' L2 em lv
                      have hne : b' ≠ h.length := fun hh => by subst hh; rw [hm] at em; cases em
                      obtain ⟨x1, x2⟩ := hliveb b' lv hne
                      exact k5 _ (s.apart b b' L L2 (Ne.symm x1) hL em hO x2).symm
                    · intro _ b' L2 em lv
                      have hne : b' ≠ h.length := fun hh => by subst hh; rw [hm] at em; cases em
                      obtain ⟨x1, x2⟩ := hliveb b' lv hne
                      exact (s.apart b b' L L2 (Ne.symm x1) hL em hO x2).symm
                  · refine ⟨Mp.upd_le hm, by simp [hkl], ?_, k2, k3, by omega, ?_, ?_⟩
                    · intro b' hb' em
                      have hne : b' ≠ h.length := by omega
                      have hnb : b' ≠ b := fun hh => by subst hh; rw [hL] at em; cases em
                      exact ⟨by simp [Mp.upd, hne, em], by rw [List.getElem?_append_left (by omega), kill_get hnb]⟩
                    · intro r _ hn
                      exact k5 r fun hh => hn b L hL hO hh.symm
                    · intro b' L2 em o2
                      by_cases hne : b' = h.length
                      · subst hne; rw [Mp.upd_same] at em; cases em
                        exact .inr ⟨b, L, hL, hO, rfl⟩
                      · simp [Mp.upd, hne] at em
                        obtain ⟨ox, x1, x2⟩ := o2
                        have hlt := s.dom b' L2 em
                        rw [List.getElem?_append_left (by omega)] at x1
                        by_cases hbb : b' = b
                        · subst hbb; rw [hkb] at x1; cases x1; simp [ownedO] at x2
                        · rw [kill_get hbb] at x1
                          exact .inr ⟨b', L2, em, ⟨ox, x1, x2⟩, rfl⟩
                · -- in a new array
                  obtain ⟨cap, RR, a1, a2, a3⟩ := append_grow o.type ht hud hsz hby hnb hinf hz hzs hlen (by omega) (by omega) ho3 hnewAll ho2 hnewL
                  have hgrow : WGrow w (w.drew.alloc (.cells (old.toArray ++ new.toArray ++ RR) el)) := by
                    have := WGrow.alloc w.drew (.cells (old.toArray ++ new.toArray ++ RR) el)
                    exact ⟨this.os, this.out, this.size, this.old⟩
                  have hm : m (kill h b).length = none := by
                    cases hk : m (kill h b).length with
                    | none => rfl
                    | some L' => exact absurd (s1.dom _ _ hk) (by omega)
                  have hsum : ((cs.drop ob).take (n * esz) ++ ys).length = n * esz + k * esz := by rw [trL_length htrall |>.symm]; simp; omega
                  have hsl : (cap - (n + k)) * esz = cap * esz - (n * esz + k * esz) := by rw [Nat.sub_mul, Nat.add_mul]
                  have hcm : (n + k) * esz ≤ cap * esz := Nat.mul_le_mul_right _ a1
                  rw [Nat.add_mul] at hcm
                  have hR' : ObjR G (m.upd (kill h b).length ⟨w.heap.size, 0, cap - (n + k), none⟩) ⟨w.heap.size, 0, cap - (n + k), none⟩ (w.drew.alloc (.cells (old.toArray ++ new.toArray ++ RR) el)) (.arr ((cs.drop ob).take (n * esz) ++ ys) (.loose esz)) := by
                    refine objR_loose (alloc_get w.drew _) (trL_mono G (Mp.upd_le hm) _ _ htrall) ?_ ?_ ?_
                    · intro i u hu'
                      have hlt : i < (old ++ new).length := (List.getElem?_eq_some_iff.1 hu').1
                      rw [Nat.zero_add, ← Array.getElem?_toList]
                      simp only [Array.toList_append, List.toList_toArray]
                      rw [List.getElem?_append_left hlt]; exact hu'
                    · rw [hsum]; simp [a2, ho2, hnewL, hsl]
                    · intro j _ hh; simp at hh
                  obtain ⟨p1, p2⟩ := push_sim s1 rfl hgrow hR'
                  rw [hkl] at p1 p2
                  refine ⟨_, .value (.slice (some ⟨w.heap.size, 0, none⟩) (n + k) cap), _, _, R _ _ a3, .inl rfl, ?_, p1, e1.trans p2⟩
                  simp [tr, Mp.upd_same]; omega
        · obtain rfl := tr_nils hrx
          split at hev
          · rename_i h0
            subst h0
            simp at hev
            obtain ⟨rfl, rfl⟩ := hev
            exact ⟨m, .value (.slice none 0 0), _, w, R _ _ (append_nil o.type ht hud hsz hlen ⟨_, hnew⟩), .inl rfl, rfl, s, Evo.refl ..⟩
          · rename_i h0
            simp at hev
            obtain ⟨rfl, rfl⟩ := hev
            obtain ⟨cap, RR, a1, a2, a3⟩ := append_grow (old := []) (base := none) (n := 0) (C := 0) o.type ht hud hsz hby hnb hinf hz hzs hlen (by omega) (by omega) (fun w' _ => by simp [Builtin.firstCells]) hnewAll (by simp) hnewL
            have hgrow : WGrow w (w.drew.alloc (.cells (([] : List Value).toArray ++ new.toArray ++ RR) el)) := by
              have := WGrow.alloc w.drew (.cells (([] : List Value).toArray ++ new.toArray ++ RR) el)
              exact ⟨this.os, this.out, this.size, this.old⟩
            have hm : m h.length = none := by
              cases hk : m h.length with
              | none => rfl
              | some L' => exact absurd (s.dom _ _ hk) (by omega)
            have hsl : (cap - (0 + k)) * esz = cap * esz - k * esz := by rw [Nat.sub_mul, Nat.zero_add]
            have hcm : k * esz ≤ cap * esz := Nat.mul_le_mul_right _ (by omega)
            have hR' : ObjR G (m.upd h.length ⟨w.heap.size, 0, cap - (0 + k), none⟩) ⟨w.heap.size, 0, cap - (0 + k), none⟩ (w.drew.alloc (.cells (([] : List Value).toArray ++ new.toArray ++ RR) el)) (.arr ys (.loose esz)) := by
              refine objR_loose (alloc_get w.drew _) (trL_mono G (Mp.upd_le hm) _ _ htrn) ?_ ?_ ?_
              · intro i u hu'
                have hlt : i < new.length := (List.getElem?_eq_some_iff.1 hu').1
                rw [Nat.zero_add, ← Array.getElem?_toList]
                simp only [Array.toList_append, List.toList_toArray, List.nil_append]
                rw [List.getElem?_append_left hlt]; exact hu'
              · rw [hysl]; simp [a2, hnewL, hsl]
              · intro j _ hh; simp at hh
            obtain ⟨p1, p2⟩ := push_sim s rfl hgrow hR'
            refine ⟨_, .value (.slice (some ⟨w.heap.size, 0, none⟩) (0 + k) cap), _, _, R _ _ a3, .inl rfl, ?_, p1, p2⟩
            simp [tr, Mp.upd_same]; omega

end
end Go.Cl
