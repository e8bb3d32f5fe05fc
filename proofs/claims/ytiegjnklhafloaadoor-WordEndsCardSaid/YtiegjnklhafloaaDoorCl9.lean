/-
  The operations that write into a map.
-/
import Derived.Test.YtiegjnklhafloaaDoorCl8
namespace Go.Cl
open Go
set_option linter.unusedSimpArgs false
set_option linter.unusedVariables false

section
variable {P : Program} {G : Gam} {o : Oper} {e : Env} {m : Mp} {N : Nat} {a : Act} {w : World} {h h' : Heap} {v : CV} {call : CallF}

def putObj (w : World) (r : Nat) (o : Go.Obj) : World := { w with heap := w.heap.setIfInBounds r o }

theorem run_getMap {r : Nat} {ES : Array MapEntry} {clock : Nat} (hr : w.heap[r]? = some (.map ES clock)) : (getObj r).run P w = .ok (.map ES clock) w := by
  simp [getObj, Sem.run, hr]

theorem run_setMap {r : Nat} {ES : Array MapEntry} {clock : Nat} (hr : w.heap[r]? = some (.map ES clock)) (o : Go.Obj) : (setObj r o).run P w = .ok () (putObj w r o) := by
  simp [setObj, Sem.run, hr, putObj]

theorem putObj_sim (s : Sim G m h w) {b : Nat} {L : Loc} (hL : m b = some L) {es es' : List (CV × CV × Nat)} {c c' : Nat} (hb : h[b]? = some (.map es c)) {ES' : Array MapEntry} (hl : ES'.size = es'.length)
    (hE : ∀ (i : Nat) x, es'[i]? = some x → ∃ y, ES'[i]? = some y ∧ Entry.rel G m x y) : Sim G m (h.set b (.map es' c')) (putObj w L.blk (.map ES' c')) ∧ Evo m h w m (h.set b (.map es' c')) (putObj w L.blk (.map ES' c')) := by
  have hO : owned h b := ⟨_, hb, rfl⟩
  have hlt := s.blk_lt hL hO.live
  have hne : ∀ r, r ≠ L.blk → (putObj w L.blk (.map ES' c')).heap[r]? = w.heap[r]? := fun r hr => by
    simp only [putObj]; rw [Array.getElem?_setIfInBounds_ne (Ne.symm hr)]
  have hself : (putObj w L.blk (.map ES' c')).heap[L.blk]? = some (.map ES' c') := by
    simp only [putObj]; rw [Array.getElem?_setIfInBounds_self_of_lt hlt]
  exact ⟨s.turn hL hb rfl (fun b' L' h1 h2 h3 => hne _ (s.apart b b' L L' (Ne.symm h1) hL h2 hO h3).symm) ⟨ES', hself, hl, hE⟩, Evo.turn hL hO rfl rfl (by simp [putObj]) hne⟩

theorem sameBits_self {bk : BK} {k : CV} {rk : Value} (hk : tr G m k = some rk) {es : List (CV × CV × Nat)} {i : Nat} {r : Nat × CV × Nat} (hf : findKey bk k es i = some (some r)) : Instr.sameBits 10000 rk rk = true := by
  have : ∃ k', eqKind bk k k' = some true := by
    induction es generalizing i with
    | nil => simp [findKey] at hf
    | cons x es ih =>
      obtain ⟨k', v', b'⟩ := x
      simp only [findKey] at hf
      cases hq : eqKind bk k k' with
      | none => simp [hq] at hf
      | some q => cases q with
        | true => exact ⟨k', hq⟩
        | false => simp [hq] at hf; exact ih hf
  obtain ⟨k', hq⟩ := this
  cases bk <;> cases k <;> cases k' <;> simp [eqKind] at hq
  · rw [tr_int hk]; simp [Instr.sameBits]
  · rw [tr_str hk]; simp [Instr.sameBits, beq_toListBytes]
  · rw [tr_bool hk]; simp [Instr.sameBits]

theorem mapUpdate_sim {t kt et : TypeId} {bk : BK} (hu : P.underlying t = some (.map kt et)) (hbk : bkM P kt bk = true) (s : Sim G m h w) {b : Nat} {L : Loc} (hL : m b = some L) {es : List (CV × CV × Nat)} {c : Nat} (hb : h[b]? = some (.map es c))
    {k v : CV} {rk rv : Value} (hk : tr G m k = some rk) (hv : tr G m v = some rv) {r : Option (Nat × CV × Nat)} (hf : findKey bk k es 0 = some r) :
    ∃ w', (Instr.mapUpdate t (.map (some L.blk)) rk rv).run P w = .ok () w' ∧
      (∀ h', (match r with | some (i, _, born) => h' = h.set b (.map (es.set i (k, v, born)) c) | none => h' = h.set b (.map (es ++ [(k, v, c)]) (c + 1))) → Sim G m h' w' ∧ Evo m h w m h' w') := by
  obtain ⟨ES, k1, k2, k3⟩ := s.obj b L _ hL hb
  obtain ⟨dd, hd⟩ : ∃ dd, P.underlying kt = some dd := by
    cases hk : P.underlying kt with
    | none => simp [bkM, hk] at hbk
    | some dd => exact ⟨dd, rfl⟩
  have hfn := findNow_sim hbk hd hk es ES.toList 0 r (by simpa using k2) (fun i y hy => by simpa using k3 i y hy) hf
  cases r with
  | none =>
    simp only at hfn
    refine ⟨putObj w L.blk (.map (ES.push { key := rk, val := rv, born := c }) (c + 1)), ?_, ?_⟩
    · simp [Instr.mapUpdate, run_underlying hu, run_getMap k1, checkKey_sim hbk, Instr.findKey, run_underlying hd, hfn, run_setMap k1]
    · rintro h' rfl
      refine putObj_sim s hL hb (by simp [k2]) fun i x hx => ?_
      by_cases hi : i < es.length
      · rw [List.getElem?_append_left hi] at hx
        obtain ⟨y, g1, g2⟩ := k3 i x hx
        exact ⟨y, by rw [Array.getElem?_push, if_neg (by omega)]; exact g1, g2⟩
      · rw [List.getElem?_append_right (by omega)] at hx
        have : i = es.length := by
          have := (List.getElem?_eq_some_iff.1 hx).1; simp at this; omega
        subst this
        simp at hx; subst hx
        exact ⟨_, by rw [Array.getElem?_push, if_pos k2.symm], hk, hv, rfl⟩
  | some p =>
    obtain ⟨i, pv, born⟩ := p
    simp only at hfn
    obtain ⟨_, g2, y, g3, g4, g5, g6, g7⟩ := hfn
    rw [hk] at g7; cases g7
    have hy : ES[i]? = some y := by simpa using g3
    have hsb := sameBits_self hk hf
    refine ⟨putObj w L.blk (.map (ES.modify i fun e => { e with key := y.key, val := rv }) c), ?_, ?_⟩
    · simp [Instr.mapUpdate, run_underlying hu, run_getMap k1, checkKey_sim hbk, Instr.findKey, run_underlying hd, g6, Instr.keyThatStays, hy, hsb, run_setMap k1]
    · rintro h' rfl
      refine putObj_sim s hL hb (by simp [k2]) fun j x hx => ?_
      by_cases hj : j = i
      · subst hj
        rw [List.getElem?_set_self (by omega)] at hx; cases hx
        exact ⟨{ y with key := y.key, val := rv }, by rw [Array.getElem?_modify, if_pos rfl, hy]; rfl, hk, hv, g5⟩
      · rw [List.getElem?_set_ne (Ne.symm hj)] at hx
        obtain ⟨y', q1, q2⟩ := k3 j x hx
        exact ⟨y', by rw [Array.getElem?_modify, if_neg (Ne.symm hj)]; exact q1, q2⟩

theorem h_mapup {bk : BK} {x y z : Opd} (hM : opM P G o.op (.mapup bk x y z) = true) (hev : evOp call (.mapup bk x y z) e h = some (v, h')) (he : ER G m N e a) (s : Sim G m h w) : Heavy P G o a m h w v h' := by
  simp only [evOp] at hev
  have key : ∀ t X Y Z, (o.op = .mapUpdate t X Y Z ∨ o.op = .insert t X Y Z) → opdM G X x = true → opdM G Y y = true → opdM G Z z = true → (∃ kt et, P.underlying t = some (.map kt et) ∧ bkM P kt bk = true) → Heavy P G o a m h w v h' := by
    rintro t X Y Z hop h1 h2 h3 ⟨kt, et, hu, hbk⟩
    cases hx : x.ev e with
    | none => simp [hx] at hev
    | some xv =>
      cases hy : y.ev e with
      | none => cases xv <;> simp [hx, hy] at hev
      | some yv =>
        cases hz : z.ev e with
        | none => cases xv <;> simp [hx, hy, hz] at hev
        | some zv =>
          cases xv <;> simp [hx, hy, hz] at hev
          rename_i b
          cases hb : h[b]? with
          | none => simp [hb] at hev
          | some ob =>
            cases ob <;> simp [hb] at hev
            rename_i es c
            obtain ⟨L, hL, hr⟩ := tr_mp (opd_sim he h1 hx)
            cases hf : findKey bk yv es 0 with
            | none => simp [hf] at hev
            | some r =>
              obtain ⟨w', g1, g2⟩ := mapUpdate_sim hu hbk s hL hb (opd_sim he h2 hy) (opd_sim he h3 hz) hf
              have hrun : (execOp a.eval o).run P w = .ok .skip w' := by
                rcases hop with hop | hop <;> simp [execOp, hop, hr, g1]
              cases r with
              | none =>
                simp [hf] at hev
                obtain ⟨rfl, rfl⟩ := hev
                obtain ⟨q1, q2⟩ := g2 _ rfl
                exact ⟨m, .skip, undef, w', hrun, .inr ⟨rfl, rfl⟩, rfl, q1, q2⟩
              | some p =>
                obtain ⟨i, pv, born⟩ := p
                simp [hf] at hev
                obtain ⟨rfl, rfl⟩ := hev
                obtain ⟨q1, q2⟩ := g2 _ rfl
                exact ⟨m, .skip, undef, w', hrun, .inr ⟨rfl, rfl⟩, rfl, q1, q2⟩
  cases hop : o.op <;> simp [opM, hop, isCallS] at hM
  all_goals
    rename_i t X Y Z
    obtain ⟨⟨⟨h1, h2⟩, h3⟩, h4⟩ := hM
    cases hu : P.underlying t with
    | none => simp [hu] at h4
    | some d =>
      cases d <;> simp [hu] at h4
      rename_i kt et
      first
      | exact key t X Y Z (.inl hop) h1 h2 h3 ⟨kt, et, hu, h4⟩
      | exact key t X Y Z (.inr hop) h1 h2 h3 ⟨kt, et, hu, h4⟩

theorem h_mapent {bk : BK} {z : CV} {x y : Opd} (hM : opM P G o.op (.mapent bk z x y) = true) (hev : evOp call (.mapent bk z x y) e h = some (v, h')) (he : ER G m N e a) (s : Sim G m h w) : Heavy P G o a m h w v h' := by
  simp only [evOp] at hev
  cases hop : o.op <;> simp [opM, hop, isCallS] at hM
  rename_i t X Y
  obtain ⟨⟨h1, h2⟩, h3⟩ := hM
  cases hu : P.underlying t with
  | none => simp [hu] at h3
  | some d =>
    cases d <;> simp [hu] at h3
    rename_i kt et
    obtain ⟨hbk, hz⟩ := h3
    obtain ⟨zv, z1, z2⟩ := zeroM_run (m := m) hz w
    obtain ⟨dd, hd⟩ : ∃ dd, P.underlying kt = some dd := by
      cases hk : P.underlying kt with
      | none => simp [bkM, hk] at hbk
      | some dd => exact ⟨dd, rfl⟩
    cases hx : x.ev e with
    | none => simp [hx] at hev
    | some xv =>
      cases hy : y.ev e with
      | none => cases xv <;> simp [hx, hy] at hev
      | some yv =>
        cases xv <;> simp [hx, hy] at hev
        rename_i b
        cases hb : h[b]? with
        | none => simp [hb] at hev
        | some ob =>
          cases ob <;> simp [hb] at hev
          rename_i es c
          obtain ⟨L, hL, hr⟩ := tr_mp (opd_sim he h1 hx)
          have hk := opd_sim he h2 hy
          obtain ⟨ES, k1, k2, k3⟩ := s.obj b L _ hL hb
          cases hf : findKey bk yv es 0 with
          | none => simp [hf] at hev
          | some r =>
            have hfn := findNow_sim hbk hd hk es ES.toList 0 r (by simpa using k2) (fun i y hy => by simpa using k3 i y hy) hf
            cases r with
            | none =>
              simp [hf] at hev
              obtain ⟨rfl, rfl⟩ := hev
              simp only at hfn
              have hS := putObj_sim (w := w) (c' := c + 1) s hL hb (es' := es ++ [(yv, z, c)]) (ES' := ES.push { key := a.eval Y, val := zv, born := c }) (by simp [k2]) fun i x hx => by
                by_cases hi : i < es.length
                · rw [List.getElem?_append_left hi] at hx
                  obtain ⟨y, g1, g2⟩ := k3 i x hx
                  exact ⟨y, by rw [Array.getElem?_push, if_neg (by omega)]; exact g1, g2⟩
                · rw [List.getElem?_append_right (by omega)] at hx
                  have : i = es.length := by
                    have := (List.getElem?_eq_some_iff.1 hx).1; simp at this; omega
                  subst this
                  simp at hx; subst hx
                  exact ⟨_, by rw [Array.getElem?_push, if_pos k2.symm], hk, z2, rfl⟩
              refine ⟨m, .value (.tuple #[zv, goInt c]), _, _, ?_, .inl rfl, by simp [tr, trL, z2, i64, goInt], hS.1, hS.2⟩
              simp [execOp, hop, hr, Instr.mapEntry, run_underlying hu, run_getMap k1, checkKey_sim hbk, Instr.findKey, run_underlying hd, hfn, z1, run_setMap k1]
            | some p =>
              obtain ⟨i, pv, born⟩ := p
              simp [hf] at hev
              obtain ⟨rfl, rfl⟩ := hev
              simp only at hfn
              obtain ⟨_, g2, y', g3, g4, g5, g6, g7⟩ := hfn
              rw [hk] at g7
              have g7 : a.eval Y = y'.key := by simpa using g7
              have hy' : ES[i]? = some y' := by simpa using g3
              have hsb := sameBits_self hk hf
              have hS := putObj_sim (w := w) (c' := c) s hL hb (es' := es.set i (yv, pv, born)) (ES' := ES.modify i fun e => { e with key := a.eval Y }) (by simp [k2]) fun j x hx => by
                by_cases hj : j = i
                · subst hj
                  rw [List.getElem?_set_self (by omega)] at hx; cases hx
                  exact ⟨{ y' with key := a.eval Y }, by rw [Array.getElem?_modify, if_pos rfl, hy']; rfl, hk, g4, g5⟩
                · rw [List.getElem?_set_ne (Ne.symm hj)] at hx
                  obtain ⟨y2, q1, q2⟩ := k3 j x hx
                  exact ⟨y2, by rw [Array.getElem?_modify, if_neg (Ne.symm hj)]; exact q1, q2⟩
              refine ⟨m, .value (.tuple #[y'.val, goInt born]), _, _, ?_, .inl rfl, by simp [tr, trL, g4, i64, goInt], hS.1, hS.2⟩
              rw [g7] at hsb g6
              simp [execOp, hop, hr, Instr.mapEntry, run_underlying hu, run_getMap k1, checkKey_sim hbk, Instr.findKey, run_underlying hd, g6, Instr.keyThatStays, hy', g7, hsb, run_setMap k1, g5]

theorem h_entst {x y z : Opd} (hM : opM P G o.op (.entst x y z) = true) (hev : evOp call (.entst x y z) e h = some (v, h')) (he : ER G m N e a) (s : Sim G m h w) : Heavy P G o a m h w v h' := by
  simp only [evOp] at hev
  cases hop : o.op <;> simp [opM, hop, isCallS] at hM
  rename_i t X Y Z
  obtain ⟨⟨h1, h2⟩, h3⟩ := hM
  cases hx : x.ev e with
  | none => simp [hx] at hev
  | some xv =>
    cases hy : y.ev e with
    | none => cases xv <;> simp [hx, hy] at hev
    | some yv =>
      cases hz : z.ev e with
      | none => cases xv <;> cases yv <;> simp [hx, hy, hz] at hev
      | some zv =>
        cases xv <;> simp [hx, hy, hz] at hev
        cases yv <;> simp at hev
        rename_i b kk n
        cases hb : h[b]? with
        | none => simp [hb] at hev
        | some ob =>
          cases ob <;> simp [hb] at hev
          rename_i es c
          obtain ⟨L, hL, hr⟩ := tr_mp (opd_sim he h1 hx)
          have hn := tr_int (opd_sim he h2 hy)
          have hv := opd_sim he h3 hz
          obtain ⟨ES, k1, k2, k3⟩ := s.obj b L _ hL hb
          have hfi : ES.findIdx? (fun e => (e.born : Int) == n) = es.findIdx? (fun x => (x.2.2 : Int) == n) := by
            have hmap : ES.toList.map (fun e => (e.born : Int)) = es.map (fun x => (x.2.2 : Int)) := by
              apply List.ext_getElem?
              intro i
              rw [List.getElem?_map, List.getElem?_map]
              by_cases hi : i < es.length
              · obtain ⟨y, g1, g2⟩ := k3 i es[i] (by simp [hi])
                rw [show ES.toList[i]? = some y by simpa using g1, List.getElem?_eq_getElem hi]
                simp [g2.2.2]
              · rw [List.getElem?_eq_none (by simp; omega), List.getElem?_eq_none (by omega)]; rfl
            have e1 : ES.findIdx? (fun e => (e.born : Int) == n) = (ES.toList.map (fun e => (e.born : Int))).findIdx? (fun q => q == n) := by
              rw [List.findIdx?_map]
              rcases ES with ⟨l⟩
              simp [Function.comp_def]
            have e2 : es.findIdx? (fun x => (x.2.2 : Int) == n) = (es.map (fun x => (x.2.2 : Int))).findIdx? (fun q => q == n) := by
              rw [List.findIdx?_map]; rfl
            rw [e1, e2, hmap]
          cases hq : es.findIdx? (fun x => (x.2.2 : Int) == n) with
          | none => simp [hq] at hev
          | some i =>
            simp [hq] at hev
            obtain ⟨rfl, rfl⟩ := hev
            have hS := putObj_sim (w := w) (c' := c) s hL hb (es' := es.modify i fun x => (x.1, zv, x.2.2)) (ES' := ES.modify i fun e => { e with val := a.eval Z }) (by simp [k2]) fun j x hx => by
              rw [List.getElem?_modify] at hx
              cases hj : es[j]? with
              | none => simp [hj] at hx
              | some xj =>
                obtain ⟨y', q1, q2, q3, q4⟩ := k3 j xj hj
                by_cases hji : i = j
                · subst hji
                  simp [hj] at hx; subst hx
                  exact ⟨{ y' with val := a.eval Z }, by rw [Array.getElem?_modify, if_pos rfl, q1]; rfl, q2, hv, q4⟩
                · simp [hj, hji] at hx; subst hx
                  exact ⟨y', by rw [Array.getElem?_modify, if_neg hji]; exact q1, q2, q3, q4⟩
            refine ⟨m, .skip, undef, _, ?_, .inr ⟨rfl, rfl⟩, rfl, hS.1, hS.2⟩
            simp [execOp, hop, hr, hn, Instr.entryStore, run_getMap k1, asInt, asIntOf, hfi, hq, run_setMap k1]

theorem h_del {bk : BK} {x y : Opd} (hM : opM P G o.op (.del bk x y) = true) (hev : evOp call (.del bk x y) e h = some (v, h')) (he : ER G m N e a) (s : Sim G m h w) : Heavy P G o a m h w v h' := by
  simp only [evOp] at hev
  cases hop : o.op <;> simp [opM, hop, isCallS] at hM
  rename_i cl
  obtain ⟨callee, args, ats⟩ := cl
  cases callee <;> simp [callM] at hM
  rename_i bi
  cases bi <;> simp [builtinM] at hM
  obtain ⟨h1, h2⟩ := hM
  cases ht0 : ats[0]? with
  | none => simp [delM, ht0] at h2
  | some t =>
    cases hu : P.underlying t with
    | none => simp [delM, ht0, hu] at h2
    | some d =>
      cases d <;> simp [delM, ht0, hu] at h2
      rename_i kt et
      obtain ⟨dd, hd⟩ : ∃ dd, P.underlying kt = some dd := by
        cases hk : P.underlying kt with
        | none => simp [bkM, hk] at h2
        | some dd => exact ⟨dd, rfl⟩
      cases hx : x.ev e with
      | none => simp [hx] at hev
      | some xv =>
        cases hy : y.ev e with
        | none => cases xv <;> simp [hx, hy] at hev
        | some yv =>
          have g1 := opds_sim he h1 (vs := [xv, yv]) (by simp [evs, hx, hy])
          obtain ⟨rx, r1, hrx, g2, hyl⟩ := trL_cons g1
          obtain ⟨ry, r2, hry, g3, rfl⟩ := trL_cons g2
          simp [trL] at g3; subst g3
          have hargs : args.map a.eval = #[rx, ry] := by rw [← Array.toList_inj]; simpa using hyl
          have R : ∀ w', (Builtin.delete_ ats o.type #[rx, ry]).run P w = .ok (.tuple #[]) w' → (execOp a.eval o).run P w = .ok (.value (.tuple #[])) w' := by
            intro w' g
            simp [execOp, hop, resolve, invoke, builtin, hargs, g]
          cases xv <;> simp [hx, hy] at hev
          · rename_i b
            cases hb : h[b]? with
            | none => simp [hb] at hev
            | some ob =>
              cases ob <;> simp [hb] at hev
              rename_i es c
              obtain ⟨L, hL, rfl⟩ := tr_mp hrx
              obtain ⟨ES, k1, k2, k3⟩ := s.obj b L _ hL hb
              cases hf : findKey bk yv es 0 with
              | none => simp [hf] at hev
              | some r =>
                have hfn := findNow_sim h2 hd hry es ES.toList 0 r (by simpa using k2) (fun i y hy => by simpa using k3 i y hy) hf
                cases r with
                | none =>
                  simp [hf] at hev
                  obtain ⟨rfl, rfl⟩ := hev
                  simp only at hfn
                  have hS := putObj_sim (w := w) (c' := c) s hL hb (es' := es) (ES' := ES) k2 k3
                  have hset : h.set b (.map es c) = h := by
                    apply List.ext_getElem?
                    intro i
                    by_cases hi : i = b
                    · subst hi; rw [List.getElem?_set_self (s.dom i L hL), hb]
                    · rw [List.getElem?_set_ne (Ne.symm hi)]
                  rw [hset] at hS
                  refine ⟨m, _, undef, _, R (putObj w L.blk (.map ES c)) ?_, .inl rfl, rfl, hS.1, hS.2⟩
                  simp [Builtin.delete_, ht0, run_underlying hu, run_getMap k1, checkKey_sim h2, Instr.findKey, run_underlying hd, hfn, run_setMap k1]
                | some p =>
                  obtain ⟨i, pv, born⟩ := p
                  simp [hf] at hev
                  obtain ⟨rfl, rfl⟩ := hev
                  simp only at hfn
                  obtain ⟨_, g2, y', g3, g4, g5, g6, g7⟩ := hfn
                  have hlt : i < ES.size := by omega
                  have hS := putObj_sim (w := w) (c' := c) s hL hb (es' := es.eraseIdx i) (ES' := ES.eraseIdxIfInBounds i) (by rw [Array.eraseIdxIfInBounds, dif_pos hlt, Array.size_eraseIdx, List.length_eraseIdx, if_pos (by omega)]; omega) fun j x hx => by
                    rw [List.getElem?_eraseIdx] at hx
                    rw [Array.eraseIdxIfInBounds, dif_pos hlt, Array.getElem?_eraseIdx]
                    split at hx
                    · rename_i hj; rw [if_pos hj]; exact k3 j x hx
                    · rename_i hj; rw [if_neg hj]; exact k3 _ x hx
                  refine ⟨m, _, undef, _, R (putObj w L.blk (.map (ES.eraseIdxIfInBounds i) c)) ?_, .inl rfl, rfl, hS.1, hS.2⟩
                  simp [Builtin.delete_, ht0, run_underlying hu, run_getMap k1, checkKey_sim h2, Instr.findKey, run_underlying hd, g6, run_setMap k1]
          · obtain ⟨rfl, rfl⟩ := hev
            obtain rfl := tr_nilm hrx
            refine ⟨m, _, undef, w, R _ ?_, .inl rfl, rfl, s, Evo.refl ..⟩
            simp [Builtin.delete_, ht0, run_underlying hu, checkKey_sim h2]

end
end Go.Cl
