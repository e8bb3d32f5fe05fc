/-
  Texts laid together: Cl9 Cl10 Cl11 Cl12 Cl13 Cl14 ClM Cl15.
-/
import Derived.Test.YtlndogibbgibgaaGreatDoorM1
import Derived.Deep.LoopGhost
import Derived.Scope
namespace Go.Cl
open Go
set_option linter.unusedSimpArgs false
set_option linter.unusedVariables false
section
variable {P : Program} {G : Gam} {o : Oper} {e : Env} {m : Mp} {N : Nat} {a : Act} {w : World} {h h' : Heap} {v : CV} {call : CallF}
def putObj (w : World) (r : Nat) (o : Go.Obj) : World := { w with heap := w.heap.setIfInBounds r o }
theorem run_getMap {r : Nat} {ES : Array MapEntry} {clock : Nat} (hr : w.heap[r]? = some (.map ES clock)) : (getObj r).run P w = .ok (.map ES clock) w := by
 simp [getObj, Sem.run, hr]
theorem run_setMap {r : Nat} {ES : Array MapEntry} {clock : Nat} (hr : w.heap[r]? = some (.map ES clock)) (o : Go.Obj) : (setObj r o).run P w = .ok () (putObj w r o) := by
 simp [setObj, Sem.run, hr, putObj]
theorem putObj_sim (s : Sim G m h w) {b : Nat} {L : Loc} (hL : m b = some L) {es es' : List (CV × CV × Nat)} {c c' : Nat} (hb : h[b]? = some (.map es c)) {ES' : Array MapEntry} (hl : ES'.size = es'.length)
  (hE : ∀ (i : Nat) x, es'[i]? = some x → ∃ y, ES'[i]? = some y ∧ Entry.rel G m x y) : Sim G m (h.set b (.map es' c')) (putObj w L.blk (.map ES' c')) ∧ Evo m h w m (h.set b (.map es' c')) (putObj w L.blk (.map ES' c')) := by
 have hO : owned h b := ⟨_, hb, rfl⟩
 have hlt := s.blk_lt hL hO.live
 have hne : ∀ r, r ≠ L.blk → (putObj w L.blk (.map ES' c')).heap[r]? = w.heap[r]? := fun r hr => by
  simp only [putObj]; rw [Array.getElem?_setIfInBounds_ne (Ne.symm hr)]
 have hself : (putObj w L.blk (.map ES' c')).heap[L.blk]? = some (.map ES' c') := by
  simp only [putObj]; rw [Array.getElem?_setIfInBounds_self_of_lt hlt]
 exact ⟨s.turn hL hb rfl (fun b' L' h1 h2 h3 => hne _ (s.apart b b' L L' (Ne.symm h1) hL h2 hO h3).symm) ⟨ES', hself, hl, hE⟩, Evo.turn hL hO rfl rfl (by simp [putObj]) hne⟩
theorem sameBits_self {bk : BK} {k : CV} {rk : Value} (hk : tr G m k = some rk) {es : List (CV × CV × Nat)} {i : Nat} {r : Nat × CV × Nat} (hf : findKey bk k es i = some (some r)) : Instr.sameBits 10000 rk rk = true := by
 have : ∃ k', eqKind bk k k' = some true := by
  induction es generalizing i with
  | nil => simp [findKey] at hf
  | cons x es ih =>
    obtain ⟨k', v', b'⟩ := x
    simp only [findKey] at hf
    cases hq : eqKind bk k k' with
    | none => simp [hq] at hf
    | some q => cases q with
      | true => exact ⟨k', hq⟩
      | false => simp [hq] at hf; exact ih hf
 obtain ⟨k', hq⟩ := this
 cases bk <;> cases k <;> cases k' <;> simp [eqKind] at hq
 ·rw [tr_int hk]; simp [Instr.sameBits]
 ·rw [tr_str hk]; simp [Instr.sameBits, beq_toListBytes]
 ·rw [tr_bool hk]; simp [Instr.sameBits]
theorem mapUpdate_sim {t kt et : TypeId} {bk : BK} (hu : P.underlying t = some (.map kt et)) (hbk : bkM P kt bk = true) (s : Sim G m h w) {b : Nat} {L : Loc} (hL : m b = some L) {es : List (CV × CV × Nat)} {c : Nat} (hb : h[b]? = some (.map es c))
  {k v : CV} {rk rv : Value} (hk : tr G m k = some rk) (hv : tr G m v = some rv) {r : Option (Nat × CV × Nat)} (hf : findKey bk k es 0 = some r) :
  ∃ w', (Instr.mapUpdate t (.map (some L.blk)) rk rv).run P w = .ok () w' ∧
   (∀ h', (match r with | some (i, _, born) => h' = h.set b (.map (es.set i (k, v, born)) c) | none => h' = h.set b (.map (es ++ [(k, v, c)]) (c + 1))) → Sim G m h' w' ∧ Evo m h w m h' w') := by
 obtain ⟨ES, k1, k2, k3⟩ := s.obj b L _ hL hb
 obtain ⟨dd, hd⟩ : ∃ dd, P.underlying kt = some dd := by
  cases hk : P.underlying kt with
  | none => simp [bkM, hk] at hbk
  | some dd => exact ⟨dd, rfl⟩
 have hfn := findNow_sim hbk hd hk es ES.toList 0 r (by simpa using k2) (fun i y hy => by simpa using k3 i y hy) hf
 cases r with
 | none =>
   simp only at hfn
   refine ⟨putObj w L.blk (.map (ES.push { key := rk, val := rv, born := c }) (c + 1)), ?_, ?_⟩
   ·simp [Instr.mapUpdate, run_underlying hu, run_getMap k1, checkKey_sim hbk, Instr.findKey, run_underlying hd, hfn, run_setMap k1]
   ·rintro h' rfl
    refine putObj_sim s hL hb (by simp [k2]) fun i x hx => ?_
    by_cases hi : i < es.length
    ·rw [List.getElem?_append_left hi] at hx
     obtain ⟨y, g1, g2⟩ := k3 i x hx
     exact ⟨y, by rw [Array.getElem?_push, if_neg (by omega)]; exact g1, g2⟩
    ·rw [List.getElem?_append_right (by omega)] at hx
     have : i = es.length := by
      have := (List.getElem?_eq_some_iff.1 hx).1; simp at this; omega
     subst this
     simp at hx; subst hx
     exact ⟨_, by rw [Array.getElem?_push, if_pos k2.symm], hk, hv, rfl⟩
 | some p =>
   obtain ⟨i, pv, born⟩ := p
   simp only at hfn
   obtain ⟨_, g2, y, g3, g4, g5, g6, g7⟩ := hfn
   rw [hk] at g7; cases g7
   have hy : ES[i]? = some y := by simpa using g3
   have hsb := sameBits_self hk hf
   refine ⟨putObj w L.blk (.map (ES.modify i fun e => { e with key := y.key, val := rv }) c), ?_, ?_⟩
   ·simp [Instr.mapUpdate, run_underlying hu, run_getMap k1, checkKey_sim hbk, Instr.findKey, run_underlying hd, g6, Instr.keyThatStays, hy, hsb, run_setMap k1]
   ·rintro h' rfl
    refine putObj_sim s hL hb (by simp [k2]) fun j x hx => ?_
    by_cases hj : j = i
    ·subst hj
     rw [List.getElem?_set_self (by omega)] at hx; cases hx
     exact ⟨{ y with key := y.key, val := rv }, by rw [Array.getElem?_modify, if_pos rfl, hy]; rfl, hk, hv, g5⟩
    ·rw [List.getElem?_set_ne (Ne.symm hj)] at hx
     obtain ⟨y', q1, q2⟩ := k3 j x hx
     exact ⟨y', by rw [Array.getElem?_modify, if_neg (Ne.symm hj)]; exact q1, q2⟩
theorem h_mapup {bk : BK} {x y z : Opd} (hM : opM P G o.op (.mapup bk x y z) = true) (hev : evOp call (.mapup bk x y z) e h = some (v, h')) (he : ER G m N e a) (s : Sim G m h w) : Heavy P G o a m h w v h' := by
 simp only [evOp] at hev
 have key : ∀ t X Y Z, (o.op = .mapUpdate t X Y Z ∨ o.op = .insert t X Y Z) → opdM G X x = true → opdM G Y y = true → opdM G Z z = true → (∃ kt et, P.underlying t = some (.map kt et) ∧ bkM P kt bk = true) → Heavy P G o a m h w v h' := by
  rintro t X Y Z hop h1 h2 h3 ⟨kt, et, hu, hbk⟩
  cases hx : x.ev e with
  | none => simp [hx] at hev
  | some xv =>
    cases hy : y.ev e with
    | none => cases xv <;> simp [hx, hy] at hev
    | some yv =>
      cases hz : z.ev e with
      | none => cases xv <;> simp [hx, hy, hz] at hev
      | some zv =>
        cases xv <;> simp [hx, hy, hz] at hev
        rename_i b
        cases hb : h[b]? with
        | none => simp [hb] at hev
        | some ob =>
          cases ob <;> simp [hb] at hev
          rename_i es c
          obtain ⟨L, hL, hr⟩ := tr_mp (opd_sim he h1 hx)
          cases hf : findKey bk yv es 0 with
          | none => simp [hf] at hev
          | some r =>
            obtain ⟨w', g1, g2⟩ := mapUpdate_sim hu hbk s hL hb (opd_sim he h2 hy) (opd_sim he h3 hz) hf
            have hrun : (execOp a.eval o).run P w = .ok .skip w' := by
             rcases hop with hop | hop <;> simp [execOp, hop, hr, g1]
            cases r with
            | none =>
              simp [hf] at hev
              obtain ⟨rfl, rfl⟩ := hev
              obtain ⟨q1, q2⟩ := g2 _ rfl
              exact ⟨m, .skip, undef, w', hrun, .inr ⟨rfl, rfl⟩, rfl, q1, q2⟩
            | some p =>
              obtain ⟨i, pv, born⟩ := p
              simp [hf] at hev
              obtain ⟨rfl, rfl⟩ := hev
              obtain ⟨q1, q2⟩ := g2 _ rfl
              exact ⟨m, .skip, undef, w', hrun, .inr ⟨rfl, rfl⟩, rfl, q1, q2⟩
 cases hop : o.op <;> simp [opM, hop, isCallS] at hM
 all_goals
  rename_i t X Y Z
  obtain ⟨⟨⟨h1, h2⟩, h3⟩, h4⟩ := hM
  cases hu : P.underlying t with
  | none => simp [hu] at h4
  | some d =>
    cases d <;> simp [hu] at h4
    rename_i kt et
    first
    | exact key t X Y Z (.inl hop) h1 h2 h3 ⟨kt, et, hu, h4⟩
    | exact key t X Y Z (.inr hop) h1 h2 h3 ⟨kt, et, hu, h4⟩
theorem h_mapent {bk : BK} {z : CV} {x y : Opd} (hM : opM P G o.op (.mapent bk z x y) = true) (hev : evOp call (.mapent bk z x y) e h = some (v, h')) (he : ER G m N e a) (s : Sim G m h w) : Heavy P G o a m h w v h' := by
 simp only [evOp] at hev
 cases hop : o.op <;> simp [opM, hop, isCallS] at hM
 rename_i t X Y
 obtain ⟨⟨h1, h2⟩, h3⟩ := hM
 cases hu : P.underlying t with
 | none => simp [hu] at h3
 | some d =>
   cases d <;> simp [hu] at h3
   rename_i kt et
   obtain ⟨hbk, hz⟩ := h3
   obtain ⟨zv, z1, z2⟩ := zeroM_run (m := m) hz w
   obtain ⟨dd, hd⟩ : ∃ dd, P.underlying kt = some dd := by
    cases hk : P.underlying kt with
    | none => simp [bkM, hk] at hbk
    | some dd => exact ⟨dd, rfl⟩
   cases hx : x.ev e with
   | none => simp [hx] at hev
   | some xv =>
     cases hy : y.ev e with
     | none => cases xv <;> simp [hx, hy] at hev
     | some yv =>
       cases xv <;> simp [hx, hy] at hev
       rename_i b
       cases hb : h[b]? with
       | none => simp [hb] at hev
       | some ob =>
         cases ob <;> simp [hb] at hev
         rename_i es c
         obtain ⟨L, hL, hr⟩ := tr_mp (opd_sim he h1 hx)
         have hk := opd_sim he h2 hy
         obtain ⟨ES, k1, k2, k3⟩ := s.obj b L _ hL hb
         cases hf : findKey bk yv es 0 with
         | none => simp [hf] at hev
         | some r =>
           have hfn := findNow_sim hbk hd hk es ES.toList 0 r (by simpa using k2) (fun i y hy => by simpa using k3 i y hy) hf
           cases r with
           | none =>
             simp [hf] at hev
             obtain ⟨rfl, rfl⟩ := hev
             simp only at hfn
             have hS := putObj_sim (w := w) (c' := c + 1) s hL hb (es' := es ++ [(yv, z, c)]) (ES' := ES.push { key := a.eval Y, val := zv, born := c }) (by simp [k2]) fun i x hx => by
              by_cases hi : i < es.length
              ·rw [List.getElem?_append_left hi] at hx
               obtain ⟨y, g1, g2⟩ := k3 i x hx
               exact ⟨y, by rw [Array.getElem?_push, if_neg (by omega)]; exact g1, g2⟩
              ·rw [List.getElem?_append_right (by omega)] at hx
               have : i = es.length := by
                have := (List.getElem?_eq_some_iff.1 hx).1; simp at this; omega
               subst this
               simp at hx; subst hx
               exact ⟨_, by rw [Array.getElem?_push, if_pos k2.symm], hk, z2, rfl⟩
             refine ⟨m, .value (.tuple #[zv, goInt c]), _, _, ?_, .inl rfl, by simp [tr, trL, z2, i64, goInt], hS.1, hS.2⟩
             simp [execOp, hop, hr, Instr.mapEntry, run_underlying hu, run_getMap k1, checkKey_sim hbk, Instr.findKey, run_underlying hd, hfn, z1, run_setMap k1]
           | some p =>
             obtain ⟨i, pv, born⟩ := p
             simp [hf] at hev
             obtain ⟨rfl, rfl⟩ := hev
             simp only at hfn
             obtain ⟨_, g2, y', g3, g4, g5, g6, g7⟩ := hfn
             rw [hk] at g7
             have g7 : a.eval Y = y'.key := by simpa using g7
             have hy' : ES[i]? = some y' := by simpa using g3
             have hsb := sameBits_self hk hf
             have hS := putObj_sim (w := w) (c' := c) s hL hb (es' := es.set i (yv, pv, born)) (ES' := ES.modify i fun e => { e with key := a.eval Y }) (by simp [k2]) fun j x hx => by
              by_cases hj : j = i
              ·subst hj
               rw [List.getElem?_set_self (by omega)] at hx; cases hx
               exact ⟨{ y' with key := a.eval Y }, by rw [Array.getElem?_modify, if_pos rfl, hy']; rfl, hk, g4, g5⟩
              ·rw [List.getElem?_set_ne (Ne.symm hj)] at hx
               obtain ⟨y2, q1, q2⟩ := k3 j x hx
               exact ⟨y2, by rw [Array.getElem?_modify, if_neg (Ne.symm hj)]; exact q1, q2⟩
             refine ⟨m, .value (.tuple #[y'.val, goInt born]), _, _, ?_, .inl rfl, by simp [tr, trL, g4, i64, goInt], hS.1, hS.2⟩
             rw [g7] at hsb g6
             simp [execOp, hop, hr, Instr.mapEntry, run_underlying hu, run_getMap k1, checkKey_sim hbk, Instr.findKey, run_underlying hd, g6, Instr.keyThatStays, hy', g7, hsb, run_setMap k1, g5]
theorem h_entst {x y z : Opd} (hM : opM P G o.op (.entst x y z) = true) (hev : evOp call (.entst x y z) e h = some (v, h')) (he : ER G m N e a) (s : Sim G m h w) : Heavy P G o a m h w v h' := by
 simp only [evOp] at hev
 cases hop : o.op <;> simp [opM, hop, isCallS] at hM
 rename_i t X Y Z
 obtain ⟨⟨h1, h2⟩, h3⟩ := hM
 cases hx : x.ev e with
 | none => simp [hx] at hev
 | some xv =>
   cases hy : y.ev e with
   | none => cases xv <;> simp [hx, hy] at hev
   | some yv =>
     cases hz : z.ev e with
     | none => cases xv <;> cases yv <;> simp [hx, hy, hz] at hev
     | some zv =>
       cases xv <;> simp [hx, hy, hz] at hev
       cases yv <;> simp at hev
       rename_i b kk n
       cases hb : h[b]? with
       | none => simp [hb] at hev
       | some ob =>
         cases ob <;> simp [hb] at hev
         rename_i es c
         obtain ⟨L, hL, hr⟩ := tr_mp (opd_sim he h1 hx)
         have hn := tr_int (opd_sim he h2 hy)
         have hv := opd_sim he h3 hz
         obtain ⟨ES, k1, k2, k3⟩ := s.obj b L _ hL hb
         have hfi : ES.findIdx? (fun e => (e.born : Int) == n) = es.findIdx? (fun x => (x.2.2 : Int) == n) := by
          have hmap : ES.toList.map (fun e => (e.born : Int)) = es.map (fun x => (x.2.2 : Int)) := by
           apply List.ext_getElem?
           intro i
           rw [List.getElem?_map, List.getElem?_map]
           by_cases hi : i < es.length
           ·obtain ⟨y, g1, g2⟩ := k3 i es[i] (by simp [hi])
            rw [show ES.toList[i]? = some y by simpa using g1, List.getElem?_eq_getElem hi]
            simp [g2.2.2]
           ·rw [List.getElem?_eq_none (by simp; omega), List.getElem?_eq_none (by omega)]; rfl
          have e1 : ES.findIdx? (fun e => (e.born : Int) == n) = (ES.toList.map (fun e => (e.born : Int))).findIdx? (fun q => q == n) := by
           rw [List.findIdx?_map]
           rcases ES with ⟨l⟩
           simp [Function.comp_def]
          have e2 : es.findIdx? (fun x => (x.2.2 : Int) == n) = (es.map (fun x => (x.2.2 : Int))).findIdx? (fun q => q == n) := by
           rw [List.findIdx?_map]; rfl
          rw [e1, e2, hmap]
         cases hq : es.findIdx? (fun x => (x.2.2 : Int) == n) with
         | none => simp [hq] at hev
         | some i =>
           simp [hq] at hev
           obtain ⟨rfl, rfl⟩ := hev
           have hS := putObj_sim (w := w) (c' := c) s hL hb (es' := es.modify i fun x => (x.1, zv, x.2.2)) (ES' := ES.modify i fun e => { e with val := a.eval Z }) (by simp [k2]) fun j x hx => by
            rw [List.getElem?_modify] at hx
            cases hj : es[j]? with
            | none => simp [hj] at hx
            | some xj =>
              obtain ⟨y', q1, q2, q3, q4⟩ := k3 j xj hj
              by_cases hji : i = j
              ·subst hji
               simp [hj] at hx; subst hx
               exact ⟨{ y' with val := a.eval Z }, by rw [Array.getElem?_modify, if_pos rfl, q1]; rfl, q2, hv, q4⟩
              ·simp [hj, hji] at hx; subst hx
               exact ⟨y', by rw [Array.getElem?_modify, if_neg hji]; exact q1, q2, q3, q4⟩
           refine ⟨m, .skip, undef, _, ?_, .inr ⟨rfl, rfl⟩, rfl, hS.1, hS.2⟩
           simp [execOp, hop, hr, hn, Instr.entryStore, run_getMap k1, asInt, asIntOf, hfi, hq, run_setMap k1]
theorem h_cpy {q : Nat} {x y : Opd} (hM : opM P G o.op (.cpy q x y) = true) (hev : evOp call (.cpy q x y) e h = some (v, h')) (he : ER G m N e a) (s : Sim G m h w) : Heavy P G o a m h w v h' := by
 simp only [evOp] at hev
 cases hop : o.op <;> simp [opM, hop, isCallS] at hM
 rename_i cl
 obtain ⟨callee, args, ats⟩ := cl
 cases callee <;> simp [callM] at hM
 rename_i bi
 cases bi <;> simp [builtinM] at hM
 obtain ⟨h1, h2⟩ := hM
 cases ht0 : ats[0]? with
 | none => simp [ht0] at h2
 | some t =>
   cases ht1 : ats[1]? with
   | none => simp [ht0, ht1] at h2
   | some u =>
     cases hu : P.underlying t with
     | none => simp [ht0, ht1, hu] at h2
     | some d =>
       cases d <;> simp [ht0, ht1, hu] at h2
       rename_i el
       have hsz : szOf P el = some q := by
        cases hu2 : P.underlying u with
        | none => simp [hu2] at h2
        | some d2 => cases d2 <;> simp [hu2] at h2; exact h2
       cases hx : x.ev e with
       | none => simp [hx] at hev
       | some xv =>
         cases hy : y.ev e with
         | none => simp [hx, hy] at hev
         | some yv =>
           simp only [hx, hy] at hev
           have g1 := opds_sim he h1 (vs := [xv, yv]) (by simp [evs, hx, hy])
           obtain ⟨rx, r1, hrx, g2, hyl⟩ := trL_cons g1
           obtain ⟨ry, r2, hry, g3, rfl⟩ := trL_cons g2
           simp [trL] at g3; subst g3
           have hargs : args.map a.eval = #[rx, ry] := by rw [← Array.toList_inj]; simpa using hyl
           have R : ∀ (n : Nat) w', (Builtin.copy_ ats o.type #[rx, ry]).run P w = .ok (goInt n) w' → (execOp a.eval o).run P w = .ok (.value (goInt n)) w' := by
            intro n w' g
            simp [execOp, hop, resolve, invoke, builtin, hargs, g]
           cases xv <;> simp only [copyTo] at hev <;> (try (cases hev; done))
           ·rename_i b off n c
            obtain ⟨L, hL, rfl⟩ := tr_sl hrx
            cases yv <;> simp only [copyTo] at hev <;> (try (cases hev; done))
            ·rename_i b2 off2 n2 c2
             obtain ⟨L2, hL2, rfl⟩ := tr_sl hry
             by_cases h0 : min n2 n = 0
             ·rw [if_pos h0] at hev
              simp at hev
              obtain ⟨rfl, rfl⟩ := hev
              refine ⟨m, _, _, w, R 0 w ?_, .inl rfl, rfl, s, Evo.refl ..⟩
              simp [Builtin.copy_, ht0, run_underlying hu, Builtin.lenOf, run_sizeOf hsz, Builtin.firstCells, h0, loadCells, loadCellsFrom, storeCells]
             ·rw [if_neg h0] at hev
              cases hcs : cellsAt h b2 off2 (min n2 n * q) with
              | none => simp [hcs] at hev
              | some cs =>
                simp only [hcs] at hev
                cases hst : storeAt h b off cs with
                | none => simp [hst] at hev
                | some hh =>
                  simp [hst] at hev
                  obtain ⟨rfl, rfl⟩ := hev
                  obtain ⟨vs, f1, f2⟩ : ∃ vs, (Builtin.firstCells q (min n2 n) (.slice (some (L2.ad off2)) n2 (c2 + L2.slack))).run P w = .ok vs.toArray w ∧ trL G m cs = some vs := by
                   obtain ⟨_, vs, f1, f2, _⟩ := spread_sim (P := P) (esz := q) (y := .sl b2 off2 (min n2 n) c2) (k := min n2 n) (ys := cs) (by simp [spread, hcs]) (ry := .slice (some (L2.ad off2)) (min n2 n) (c2 + L2.slack)) (by simp [tr, hL2]) s
                   exact ⟨vs, f1, f2⟩
                  obtain ⟨w', k1, k2, k3⟩ := storeAt_sim (P := P) s hL f2 hst
                  refine ⟨m, _, _, w', R (min n2 n) w' ?_, .inl rfl, rfl, k2, k3⟩
                  simp [Builtin.copy_, ht0, run_underlying hu, Builtin.lenOf, run_sizeOf hsz, f1, k1]
            ·obtain rfl := tr_nils hry
             simp at hev
             obtain ⟨rfl, rfl⟩ := hev
             refine ⟨m, _, _, w, R 0 w ?_, .inl rfl, rfl, s, Evo.refl ..⟩
             simp [Builtin.copy_, ht0, run_underlying hu, Builtin.lenOf, run_sizeOf hsz, Builtin.firstCells, storeCells]
           ·obtain rfl := tr_nils hrx
            cases yv <;> simp only [copyTo] at hev <;> (try (cases hev; done))
            ·rename_i b2 off2 n2 c2
             obtain ⟨L2, hL2, rfl⟩ := tr_sl hry
             simp at hev
             obtain ⟨rfl, rfl⟩ := hev
             refine ⟨m, _, _, w, R 0 w ?_, .inl rfl, rfl, s, Evo.refl ..⟩
             simp [Builtin.copy_, ht0, run_underlying hu, Builtin.lenOf, run_sizeOf hsz, Builtin.firstCells, loadCells, loadCellsFrom]
            ·obtain rfl := tr_nils hry
             simp at hev
             obtain ⟨rfl, rfl⟩ := hev
             refine ⟨m, _, _, w, R 0 w ?_, .inl rfl, rfl, s, Evo.refl ..⟩
             simp [Builtin.copy_, ht0, run_underlying hu, Builtin.lenOf, run_sizeOf hsz, Builtin.firstCells]
theorem h_clr {z : List CV} {x : Opd} (hM : opM P G o.op (.clr z x) = true) (hev : evOp call (.clr z x) e h = some (v, h')) (he : ER G m N e a) (s : Sim G m h w) : Heavy P G o a m h w v h' := by
 simp only [evOp] at hev
 cases hop : o.op <;> simp [opM, hop, isCallS] at hM
 rename_i cl
 obtain ⟨callee, args, ats⟩ := cl
 cases callee <;> simp [callM] at hM
 rename_i bi
 cases bi <;> simp [builtinM] at hM
 obtain ⟨h1, h2⟩ := hM
 cases ht0 : ats[0]? with
 | none => simp [ht0] at h2
 | some t =>
   cases hu : P.underlying t with
   | none => simp [ht0, hu] at h2
   | some d =>
     cases d <;> simp [ht0, hu] at h2
     rename_i el
     cases hx : x.ev e with
     | none => simp [hx] at hev
     | some xv =>
       have g1 := opds_sim he h1 (vs := [xv]) (by simp [evs, hx])
       obtain ⟨rx, r1, hrx, g2, hyl⟩ := trL_cons g1
       simp [trL] at g2; subst g2
       have hargs : args.map a.eval = #[rx] := by rw [← Array.toList_inj]; simpa using hyl
       have R : ∀ w', (Builtin.clear_ ats o.type #[rx]).run P w = .ok (.tuple #[]) w' → (execOp a.eval o).run P w = .ok (.value (.tuple #[])) w' := by
        intro w' g
        simp [execOp, hop, resolve, invoke, builtin, hargs, g]
       cases xv <;> simp [hx] at hev
       ·rename_i b off n c
        obtain ⟨L, hL, rfl⟩ := tr_sl hrx
        cases n with
        | zero =>
          simp at hev
          obtain ⟨rfl, rfl⟩ := hev
          exact ⟨m, _, _, w, R w (by simp [Builtin.clear_, ht0, run_underlying hu]), .inl rfl, rfl, s, Evo.refl ..⟩
        | succ n =>
          simp at hev
          cases hst : storeAt h b off (List.replicate (n + 1) z).flatten with
          | none => simp [hst] at hev
          | some hh =>
            simp [hst] at hev
            obtain ⟨rfl, rfl⟩ := hev
            obtain ⟨zv, Z, z1, _, z3, z4⟩ := zeroL_run (m := m) h2 w
            obtain ⟨w', k1, k2, k3⟩ := storeAt_sim (P := P) s hL (trL_replicate z4 (n + 1)) hst
            refine ⟨m, _, _, w', R w' ?_, .inl rfl, rfl, k2, k3⟩
            have hz : (Builtin.zeroCells zv.cells (n + 1)).toList = (List.replicate (n + 1) Z).flatten := by
             rw [z3]
             have := range_mod Z (n + 1)
             simp only [Builtin.zeroCells]
             rw [show Z.toArray.size = Z.length by simp] at this ⊢
             rw [this]
            simp [Builtin.clear_, ht0, run_underlying hu, z1, hz, k1]
       ·obtain ⟨rfl, rfl⟩ := hev
        obtain rfl := tr_nils hrx
        exact ⟨m, _, _, w, R w (by simp [Builtin.clear_, ht0, run_underlying hu]), .inl rfl, rfl, s, Evo.refl ..⟩
theorem h_del {bk : BK} {x y : Opd} (hM : opM P G o.op (.del bk x y) = true) (hev : evOp call (.del bk x y) e h = some (v, h')) (he : ER G m N e a) (s : Sim G m h w) : Heavy P G o a m h w v h' := by
 simp only [evOp] at hev
 cases hop : o.op <;> simp [opM, hop, isCallS] at hM
 rename_i cl
 obtain ⟨callee, args, ats⟩ := cl
 cases callee <;> simp [callM] at hM
 rename_i bi
 cases bi <;> simp [builtinM] at hM
 obtain ⟨h1, h2⟩ := hM
 cases ht0 : ats[0]? with
 | none => simp [delM, ht0] at h2
 | some t =>
   cases hu : P.underlying t with
   | none => simp [delM, ht0, hu] at h2
   | some d =>
     cases d <;> simp [delM, ht0, hu] at h2
     rename_i kt et
     obtain ⟨dd, hd⟩ : ∃ dd, P.underlying kt = some dd := by
      cases hk : P.underlying kt with
      | none => simp [bkM, hk] at h2
      | some dd => exact ⟨dd, rfl⟩
     cases hx : x.ev e with
     | none => simp [hx] at hev
     | some xv =>
       cases hy : y.ev e with
       | none => cases xv <;> simp [hx, hy] at hev
       | some yv =>
         have g1 := opds_sim he h1 (vs := [xv, yv]) (by simp [evs, hx, hy])
         obtain ⟨rx, r1, hrx, g2, hyl⟩ := trL_cons g1
         obtain ⟨ry, r2, hry, g3, rfl⟩ := trL_cons g2
         simp [trL] at g3; subst g3
         have hargs : args.map a.eval = #[rx, ry] := by rw [← Array.toList_inj]; simpa using hyl
         have R : ∀ w', (Builtin.delete_ ats o.type #[rx, ry]).run P w = .ok (.tuple #[]) w' → (execOp a.eval o).run P w = .ok (.value (.tuple #[])) w' := by
          intro w' g
          simp [execOp, hop, resolve, invoke, builtin, hargs, g]
         cases xv <;> simp [hx, hy] at hev
         ·rename_i b
          cases hb : h[b]? with
          | none => simp [hb] at hev
          | some ob =>
            cases ob <;> simp [hb] at hev
            rename_i es c
            obtain ⟨L, hL, rfl⟩ := tr_mp hrx
            obtain ⟨ES, k1, k2, k3⟩ := s.obj b L _ hL hb
            cases hf : findKey bk yv es 0 with
            | none => simp [hf] at hev
            | some r =>
              have hfn := findNow_sim h2 hd hry es ES.toList 0 r (by simpa using k2) (fun i y hy => by simpa using k3 i y hy) hf
              cases r with
              | none =>
                simp [hf] at hev
                obtain ⟨rfl, rfl⟩ := hev
                simp only at hfn
                have hS := putObj_sim (w := w) (c' := c) s hL hb (es' := es) (ES' := ES) k2 k3
                have hset : h.set b (.map es c) = h := by
                 apply List.ext_getElem?
                 intro i
                 by_cases hi : i = b
                 ·subst hi; rw [List.getElem?_set_self (s.dom i L hL), hb]
                 ·rw [List.getElem?_set_ne (Ne.symm hi)]
                rw [hset] at hS
                refine ⟨m, _, undef, _, R (putObj w L.blk (.map ES c)) ?_, .inl rfl, rfl, hS.1, hS.2⟩
                simp [Builtin.delete_, ht0, run_underlying hu, run_getMap k1, checkKey_sim h2, Instr.findKey, run_underlying hd, hfn, run_setMap k1]
              | some p =>
                obtain ⟨i, pv, born⟩ := p
                simp [hf] at hev
                obtain ⟨rfl, rfl⟩ := hev
                simp only at hfn
                obtain ⟨_, g2, y', g3, g4, g5, g6, g7⟩ := hfn
                have hlt : i < ES.size := by omega
                have hS := putObj_sim (w := w) (c' := c) s hL hb (es' := es.eraseIdx i) (ES' := ES.eraseIdxIfInBounds i) (by rw [Array.eraseIdxIfInBounds, dif_pos hlt, Array.size_eraseIdx, List.length_eraseIdx, if_pos (by omega)]; omega) fun j x hx => by
                 rw [List.getElem?_eraseIdx] at hx
                 rw [Array.eraseIdxIfInBounds, dif_pos hlt, Array.getElem?_eraseIdx]
                 split at hx
                 ·rename_i hj; rw [if_pos hj]; exact k3 j x hx
                 ·rename_i hj; rw [if_neg hj]; exact k3 _ x hx
                refine ⟨m, _, undef, _, R (putObj w L.blk (.map (ES.eraseIdxIfInBounds i) c)) ?_, .inl rfl, rfl, hS.1, hS.2⟩
                simp [Builtin.delete_, ht0, run_underlying hu, run_getMap k1, checkKey_sim h2, Instr.findKey, run_underlying hd, g6, run_setMap k1]
         ·obtain ⟨rfl, rfl⟩ := hev
          obtain rfl := tr_nilm hrx
          refine ⟨m, _, undef, w, R _ ?_, .inl rfl, rfl, s, Evo.refl ..⟩
          simp [Builtin.delete_, ht0, run_underlying hu, checkKey_sim h2]
end
def CallSim (P : Program) (G : Gam) (fid : FuncId) (vs : List CV) (h : Heap) (r : CV) (h' : Heap) : Prop :=
 ∀ (m : Mp) (w : World) (rvs : List Value), Sim G m h w → trL G m vs = some rvs →
  Calls P fid rvs.toArray w fun e w' => ∃ m' rv, e = .returned rv ∧ tr G m' r = some rv ∧ Sim G m' h' w' ∧ Evo m h w m' h' w'
def CallOK (P : Program) (G : Gam) (call : CallF) : Prop :=
 ∀ f vs h r h', call f vs h = some (r, h') → ∀ fid, G.F f = some fid → CallSim P G fid vs h r h'
def Good (P : Program) (G : Gam) : Prop :=
 ∀ g fid, G.F g = some fid → ∃ fn, P.funcs[fid]? = some fn ∧ fn.body.isNone = false ∧ (fn.name == "runtime.NumGoroutine") = false
def guardM (ops : Array Oper) : Option (Nat × Bool) → Option (Nat × Bool) → Bool
 | none, none => true
 | some (j, x), some (t, y) => x == y && ((ops[j]?).bind (·.dst)) == some t
 | _, _ => false
def operM (P : Program) (G : Gam) (N : Nat) (ops : Array Oper) (o : Oper) (s : SOper) : Bool :=
 opM P G o.op s.op && o.dst == s.dst && (match s.dst with | some d => decide (d < N) | none => true) && guardM ops o.guard s.guard
section
variable {P : Program} {G : Gam} {m : Mp} {N : Nat} {e : Env} {a : Act} {w : World} {h h' : Heap} {v : CV} {call : CallF}
theorem guard_sim {ops : Array Oper} {g : Option (Nat × Bool)} {g' : Option (Nat × Bool)} (hM : guardM ops g g' = true) (he : ER G m N e a) {o : Oper} (ho : o.guard = g) {b : Bool} (hw : wanted e g' = some b) : Region.wanted o (yielded ops a.tmps) = b := by
 unfold Region.wanted
 rw [ho]
 cases g with
 | none =>
   cases g' with
   | none => simp [wanted] at hw; subst hw; rfl
   | some _ => simp [guardM] at hM
 | some p =>
   obtain ⟨j, x⟩ := p
   cases g' with
   | none => simp [guardM] at hM
   | some q =>
     obtain ⟨t, y⟩ := q
     simp [guardM] at hM
     obtain ⟨rfl, hj⟩ := hM
     simp only [wanted] at hw
     have hy : ∀ rv, a.tmps[t]? = some rv → yielded ops a.tmps j = (match rv with | .bool b => some b | _ => none) := by
      intro rv hrv
      unfold yielded
      have : ((ops[j]?).bind (·.dst)).bind (a.tmps[·]?) = some rv := by rw [hj]; simpa using hrv
      rw [this]
      cases rv <;> rfl
     cases hg : e.get t with
     | none => simp [hg] at hw
     | some c =>
       obtain ⟨rv, h1, h2⟩ := he.get t c hg
       cases c <;> simp [hg] at hw
       ·rename_i b'
        obtain rfl := tr_bool h1
        show (yielded ops a.tmps j == some x) = b
        rw [hy _ h2, ← hw]; cases b' <;> cases x <;> rfl
       ·rename_i l
        cases l <;> simp at hw
        subst hw
        obtain ⟨vs, q1, rfl⟩ := tr_tup h1
        show (yielded ops a.tmps j == some x) = false
        rw [hy _ h2]; rfl
theorem heavy_wp {o : Oper} (hh : Heavy P G o a m h w v h') {K : Act → World → Prop} {Q : Exit → Act → World → Prop}
  (hK : ∀ m' rv w', tr G m' v = some rv → Sim G m' h' w' → Evo m h w m' h' w' → K (a.put o.dst rv) w') : o.wp P a w K Q := by
 obtain ⟨m', nx, rv, w', g1, g2, g3, g4, g5⟩ := hh
 unfold Oper.wp
 rw [g1]
 rcases g2 with rfl | ⟨rfl, rfl⟩
 ·exact hK m' rv w' g3 g4 g5
 ·exact hK m' undef w' g3 g4 g5
theorem quiet_heavy {o : Oper} (hq : Quiet P G o a m w v) (s : Sim G m h w) : Heavy P G o a m h w v h := by
 obtain ⟨rv, g1, g2⟩ := hq
 exact ⟨m, _, rv, w, g1, .inl rfl, g2, s, Evo.refl ..⟩
theorem WGrow.evo {w w' : World} (g : WGrow w w') (hs : Sim G m h w) {g' : List Obj} {m' : Mp} (hm : (g' = [] → m' = m) ∧ ∀ ob, g' = [ob] → ∃ L, m' = m.upd h.length L ∧ (ownedO ob = true → w.heap.size ≤ L.blk)) (hl : g'.length ≤ 1) :
  Evo m h w m' (h ++ g') w' := by
 have hnone : m h.length = none := by
  cases hk : m h.length with
  | none => rfl
  | some L' => exact absurd (hs.dom _ _ hk) (by omega)
 have hcase : g' = [] ∨ ∃ ob, g' = [ob] := by
  cases g' with
  | nil => exact .inl rfl
  | cons x l => cases l with
    | nil => exact .inr ⟨x, rfl⟩
    | cons _ _ => simp at hl
 rcases hcase with rfl | ⟨ob, rfl⟩
 ·obtain rfl := hm.1 rfl
  refine ⟨Mp.le_refl _, by simp, fun b hb e => ⟨e, by simp⟩, g.os, g.out, g.size, fun r hr _ => g.old r hr, fun b L e o => .inr ⟨b, L, e, by simpa using o, rfl⟩⟩
 ·obtain ⟨L, rfl, hO⟩ := hm.2 ob rfl
  refine ⟨Mp.upd_le hnone, by simp, fun b hb e => ⟨?_, List.getElem?_append_left hb⟩, g.os, g.out, g.size, fun r hr _ => g.old r hr, ?_⟩
  ·have : b ≠ h.length := by omega
   simp [Mp.upd, this, e]
  ·intro b L' e o
   by_cases hb : b = h.length
   ·subst hb; rw [Mp.upd_same] at e; cases e
    obtain ⟨x, q1, q2⟩ := o
    simp at q1; subst q1
    exact .inl (hO q2)
   ·simp [Mp.upd, hb] at e
    obtain ⟨x, q1, q2⟩ := o
    rw [List.getElem?_append_left (hs.dom b L' e)] at q1
    exact .inr ⟨b, L', e, ⟨x, q1, q2⟩, rfl⟩
theorem makes_any {o : Oper} {sop : SOp} {hp hp' hq : Heap} (hc : cls sop = 2) (hM : opM P G o.op sop = true) (hev : evOp call sop e hp = some (v, hp')) (he : ER G m N e a) (s : Sim G m hq w) :
  ∃ g, hp' = hp ++ g ∧ g.length ≤ 1 ∧ ((∀ ob, g = [ob] → hq[hp.length]? = some ob ∧ m hp.length = none) → Makes P G o a m hq w hp.length g v) := by
 cases sop <;> simp only [cls] at hc <;> (try (exact absurd hc (by decide)))
 ·exact m_toBytes hM hev he s
 ·exact m_alloc hM hev s
 ·exact m_box hM hev he s
 ·exact m_buildSl hM hev he s
 ·exact m_slSl hM hev he s
 ·exact m_mkmap hM hev s
 ·exact m_mksl hM hev he s
 ·exact m_allocB hM hev s
 ·exact m_mkch hM hev he s
 ·exact m_slMax hM hev he s
theorem makes_heavy {o : Oper} {sop : SOp} (hc : cls sop = 2) (hM : opM P G o.op sop = true) (hev : evOp call sop e h = some (v, h')) (he : ER G m N e a) (s : Sim G m h w) : Heavy P G o a m h w v h' := by
 obtain ⟨g, h1, h2, _⟩ := makes_any (hq := h) hc hM hev he s
 obtain ⟨g', h1', h2', h3⟩ := makes_any (hq := h ++ g) hc hM hev he (s.more g)
 have hgg : g' = g := by rw [h1] at h1'; exact (List.append_cancel_left h1').symm
 subst hgg
 have hnone : m h.length = none := by
  cases hk : m h.length with
  | none => rfl
  | some L' => exact absurd (s.dom _ _ hk) (by omega)
 obtain ⟨m', rv, w', q1, q2, q3, q4, q5, q6⟩ := (h3 fun ob hob => ⟨by rw [hob]; simp, hnone⟩).go
 subst h1
 exact ⟨m', _, rv, w', q1, .inl rfl, q2, q3, q4.evo s ⟨q5, q6⟩ h2⟩
theorem call_wp {o : Oper} {K : Act → World → Prop} {Q : Exit → Act → World → Prop} (hG : Good P G) {f : Nat} {fid : FuncId} (hf : G.F f = some fid) {vs : List CV} {rvs : List Value} (hv : trL G m vs = some rvs) (s : Sim G m h w)
  (hc : CallSim P G fid vs h v h') (hrun : (execOp a.eval o).run P w = (callFunc fid rvs.toArray).run P w)
  (hK : ∀ m' rv w', tr G m' v = some rv → Sim G m' h' w' → Evo m h w m' h' w' → K (a.put o.dst rv) w') : o.wp P a w K Q := by
 obtain ⟨fn, h1, h2, h3⟩ := hG f fid hf
 have hr : (callFunc fid rvs.toArray).run P w = .ok (.enter fid rvs.toArray) w := by
  simp only [callFunc, Sem.run_bind, run_program, Result.andThen_ok, h1, h3, h2, Bool.false_eq_true, if_false, Sem.run_pure]
 unfold Oper.wp
 rw [hrun, hr, Oper.upon_enter]
 refine (hc m w rvs s hv).mono ?_
 rintro e w' ⟨m', rv, rfl, g1, g2, g3⟩
 exact hK m' rv w' g1 g2 g3
theorem op_wp {o : Oper} {sop : SOp} {K : Act → World → Prop} {Q : Exit → Act → World → Prop} (hG : Good P G) (hC : CallOK P G call) (hM : opM P G o.op sop = true) (hev : evOp call sop e h = some (v, h')) (he : ER G m N e a) (s : Sim G m h w)
  (hK : ∀ m' rv w', tr G m' v = some rv → Sim G m' h' w' → Evo m h w m' h' w' → K (a.put o.dst rv) w') : o.wp P a w K Q := by
 by_cases h01 : cls sop = 0 ∨ cls sop = 1
 ·obtain ⟨rfl, hq⟩ := quiet_sim h01 hM hev he s
  exact heavy_wp (quiet_heavy hq s) hK
 by_cases h2 : cls sop = 2
 ·exact heavy_wp (makes_heavy h2 hM hev he s) hK
 have hev0 := hev
 cases sop <;> simp only [cls] at h01 h2 <;> (try (exact absurd (by decide) h01)) <;> (try (exact absurd (by decide) h2))
 ·exact heavy_wp (h_store hM hev he s) hK
 ·exact heavy_wp (h_append hM hev he s) hK
 ·rename_i f args
  simp only [evOp] at hev
  cases hvs : evs e args with
  | none => simp [hvs] at hev
  | some vs =>
    simp [hvs] at hev
    cases hop : o.op <;> simp [opM, hop, isCallS] at hM
    rename_i c
    obtain ⟨callee, cargs, ats⟩ := c
    cases callee <;> simp [callM] at hM
    ·rename_i F
     cases F <;> simp at hM
     rename_i fid
     obtain ⟨hf, hA⟩ := hM
     have hv := opds_sim he hA hvs
     refine call_wp hG hf hv s (hC f vs h v h' hev fid hf) ?_ hK
     have : (cargs.map a.eval) = (List.map a.eval cargs.toList).toArray := by rw [← Array.toList_inj]; simp
     simp [execOp, hop, resolve, Act.eval, Deferred.ofValue, invoke, this]
    ·rename_i b; cases b <;> simp [builtinM] at hM
 ·rename_i F args
  simp only [evOp] at hev
  cases hf : F.ev e with
  | none => simp [hf] at hev
  | some fv =>
    cases hvs : evs e args with
    | none => cases fv <;> simp [hf, hvs] at hev
    | some vs =>
      cases fv <;> simp [hf, hvs] at hev
      rename_i f caps
      cases hop : o.op <;> simp [opM, hop, isCallS] at hM
      rename_i c
      obtain ⟨callee, cargs, ats⟩ := c
      cases callee <;> simp [callM] at hM
      ·rename_i FF
       obtain ⟨hf1, hA⟩ := hM
       have hv := opds_sim he hA hvs
       obtain ⟨fid, cs, g1, g2, g3⟩ := tr_fn (opd_sim he hf1 hf)
       refine call_wp hG g1 (trL_append hv g2) s (hC f _ h v h' hev fid g1) ?_ hK
       have : (cargs.map a.eval) ++ cs.toArray = (List.map a.eval cargs.toList ++ cs).toArray := by rw [← Array.toList_inj]; simp
       simp [execOp, hop, resolve, g3, Deferred.ofValue, invoke, this]
      ·rename_i b; cases b <;> simp [builtinM] at hM
 ·exact heavy_wp (h_mapup hM hev he s) hK
 ·exact heavy_wp (h_mapent hM hev he s) hK
 ·exact heavy_wp (h_entst hM hev he s) hK
 ·exact heavy_wp (h_del hM hev he s) hK
 ·exact heavy_wp (h_slTail hM hev he s) hK
 ·exact heavy_wp (h_appZ hM hev he s) hK
 ·exact heavy_wp (h_clr hM hev he s) hK
 ·exact heavy_wp (h_cpy hM hev he s) hK
theorem oper_wp {ops : Array Oper} {o : Oper} {so : SOper} {K : Act → World → Prop} {Q : Exit → Act → World → Prop} (hG : Good P G) (hC : CallOK P G call) (hM : operM P G N ops o so = true) {e' : Env} {all : List SOper} (hev : evOper call all so e h = some (e', h')) (he : ER G m N e a) (s : Sim G m h w)
  (hK : ∀ m' a' w', ER G m' N e' a' → a'.defers = a.defers → Sim G m' h' w' → Evo m h w m' h' w' → K a' w') :
  if Region.wanted o (yielded ops a.tmps) then o.wp P a w K Q ∨ (o.asks P a w ∧ LetsOut Q) else K (a.put o.dst undef) w := by
 simp only [operM, Bool.and_eq_true] at hM
 obtain ⟨⟨⟨h1, h2⟩, h3⟩, h4⟩ := hM
 have hd : o.dst = so.dst := by simpa using h2
 have hdN : ∀ k, so.dst = some k → k < N := by
  intro k hk; rw [hk] at h3; simpa using h3
 have hdef : ∀ (d : Option Nat) (rv : Value), (a.put d rv).defers = a.defers := by intro d rv; cases d <;> rfl
 simp only [evOper] at hev
 cases hw : wanted e so.guard with
 | none => simp [hw] at hev
 | some b =>
   rw [guard_sim h4 he rfl hw]
   cases b with
   | false =>
     simp [hw] at hev
     obtain ⟨rfl, rfl⟩ := hev
     simp only [Bool.false_eq_true, if_false]
     rw [hd]
     exact hK m _ w (he.put (v := .undef) (rv := undef) rfl hdN) (hdef _ _) s (Evo.refl ..)
   | true =>
     simp only [hw] at hev
     cases hop : evOp call so.op e h with
     | none => simp [hop] at hev
     | some p =>
       obtain ⟨v, h1'⟩ := p
       simp only [hop] at hev
       split at hev
       ·simp at hev
        obtain ⟨rfl, rfl⟩ := hev
        simp only [if_true]
        refine .inl (op_wp hG hC h1 hop he s ?_)
        intro m' rv w' g1 g2 g3
        rw [hd]
        exact hK m' _ w' ((he.mono g3.mono).put g1 hdN) (hdef _ _) g2 g3
       ·cases hev
end
def Opd.slots : Opd → List Nat
 | .t n => [n]
 | .c _ => []
def oslots : Option Opd → List Nat
 | none => []
 | some x => x.slots
def SOp.slots : SOp → List Nat
 | .move x | .neg x | .not x | .conv _ x | .same x | .toBytes x | .toStr x | .box x | .load _ x | .nilck x | .fld _ _ x | .fldAddr _ x | .len _ x | .ext _ x | .mkifc _ x | .tas _ x | .capn x | .capc x | .mkch x | .clr _ x => x.slots
 | .pick c a b => c.slots ++ a.slots ++ b.slots
 | .bin _ x y | .eq _ _ x y | .store _ x y | .idxAddr _ x y | .idxArrAddr _ _ x y | .idxStr x y | .idxArr _ _ _ x y | .append _ x y | .mksl _ x y | .lookup _ _ _ x y | .mapent _ _ x y | .del _ x y | .slTail _ x y | .appZ _ x y | .cpy _ x y => x.slots ++ y.slots
 | .alloc _ | .mkmap | .allocB _ | .stuck => []
 | .build _ ps | .buildSl _ _ ps => ps.flatMap fun p => p.2.2.slots
 | .slStr x lo hi | .slSl _ x lo hi => x.slots ++ oslots lo ++ oslots hi
 | .slMax _ x lo hi q => x.slots ++ oslots lo ++ hi.slots ++ q.slots
 | .mx xs | .mn xs | .call _ xs | .mkfn _ xs => xs.flatMap Opd.slots
 | .callv f xs => f.slots ++ xs.flatMap Opd.slots
 | .mapup _ x y z | .entst x y z => x.slots ++ y.slots ++ z.slots
def gslots : Option (Nat × Bool) → List Nat
 | none => []
 | some (t, _) => [t]
theorem Opd.ev_congr {x : Opd} {e e' : Env} (h : ∀ t ∈ x.slots, Env.get e t = Env.get e' t) : x.ev e = x.ev e' := by
 cases x with
 | t n => exact h n (by simp [Opd.slots])
 | c v => rfl
theorem optEv_congr {x : Option Opd} {e e' : Env} (h : ∀ t ∈ oslots x, Env.get e t = Env.get e' t) : optEv e x = optEv e' x := by
 cases x with
 | none => rfl
 | some x => simp only [optEv, Opd.ev_congr (x := x) h]
theorem evs_congr {xs : List Opd} {e e' : Env} (h : ∀ t ∈ xs.flatMap Opd.slots, Env.get e t = Env.get e' t) : evs e xs = evs e' xs := by
 induction xs with
 | nil => rfl
 | cons x xs ih =>
   simp only [evs]
   rw [Opd.ev_congr (x := x) fun t ht => h t (by simp [ht]), ih fun t ht => h t (by rw [List.flatMap_cons]; exact List.mem_append_right _ ht)]
theorem evParts_congr {ps : List (Nat × Nat × Opd)} {e e' : Env} (h : ∀ t ∈ ps.flatMap (fun p => p.2.2.slots), Env.get e t = Env.get e' t) : evParts e ps = evParts e' ps := by
 induction ps with
 | nil => rfl
 | cons x xs ih =>
   obtain ⟨o, s, x⟩ := x
   simp only [evParts]
   rw [Opd.ev_congr (x := x) fun t ht => h t (by simp [ht]), ih fun t ht => h t (by rw [List.flatMap_cons]; exact List.mem_append_right _ ht)]
theorem evOp_congr {call : CallF} {op : SOp} {e e' : Env} {h : Heap} (hs : ∀ t ∈ op.slots, Env.get e t = Env.get e' t) : evOp call op e h = evOp call op e' h := by
 have one : ∀ {x : Opd}, (∀ t ∈ x.slots, t ∈ op.slots) → x.ev e = x.ev e' := fun hx => Opd.ev_congr fun t ht => hs t (hx t ht)
 have two : ∀ {x : Option Opd}, (∀ t ∈ oslots x, t ∈ op.slots) → optEv e x = optEv e' x := fun hx => optEv_congr fun t ht => hs t (hx t ht)
 have three : ∀ {x : List Opd}, (∀ t ∈ x.flatMap Opd.slots, t ∈ op.slots) → evs e x = evs e' x := fun hx => evs_congr fun t ht => hs t (hx t ht)
 have four : ∀ {x : List (Nat × Nat × Opd)}, (∀ t ∈ x.flatMap (fun p => p.2.2.slots), t ∈ op.slots) → evParts e x = evParts e' x := fun hx => evParts_congr fun t ht => hs t (hx t ht)
 cases op <;> simp only [evOp]
 case move x => rw [one (x := x) (by simp [SOp.slots])]
 case pick c a b => rw [one (x := c) (by simp +contextual [SOp.slots]), one (x := a) (by simp +contextual [SOp.slots]), one (x := b) (by simp +contextual [SOp.slots])]
 case bin x y => rw [one (x := x) (by simp +contextual [SOp.slots]), one (x := y) (by simp +contextual [SOp.slots])]
 case eq x y => rw [one (x := x) (by simp +contextual [SOp.slots]), one (x := y) (by simp +contextual [SOp.slots])]
 case neg x => rw [one (x := x) (by simp [SOp.slots])]
 case not x => rw [one (x := x) (by simp [SOp.slots])]
 case conv k x => rw [one (x := x) (by simp [SOp.slots])]
 case same x => rw [one (x := x) (by simp [SOp.slots])]
 case toBytes x => rw [one (x := x) (by simp [SOp.slots])]
 case toStr x => rw [one (x := x) (by simp [SOp.slots])]
 case box x => rw [one (x := x) (by simp [SOp.slots])]
 case load n x => rw [one (x := x) (by simp [SOp.slots])]
 case store n x y => rw [one (x := x) (by simp +contextual [SOp.slots]), one (x := y) (by simp +contextual [SOp.slots])]
 case nilck x => rw [one (x := x) (by simp [SOp.slots])]
 case fld x => rw [one (x := x) (by simp [SOp.slots])]
 case fldAddr x => rw [one (x := x) (by simp [SOp.slots])]
 case idxAddr z x y => rw [one (x := x) (by simp +contextual [SOp.slots]), one (x := y) (by simp +contextual [SOp.slots])]
 case idxArrAddr z l x y => rw [one (x := x) (by simp +contextual [SOp.slots]), one (x := y) (by simp +contextual [SOp.slots])]
 case idxStr x y => rw [one (x := x) (by simp +contextual [SOp.slots]), one (x := y) (by simp +contextual [SOp.slots])]
 case idxArr z l n x y => rw [one (x := x) (by simp +contextual [SOp.slots]), one (x := y) (by simp +contextual [SOp.slots])]
 case build z ps => rw [four (x := ps) (by simp only [SOp.slots]; exact fun t h => h)]
 case buildSl n z ps => rw [four (x := ps) (by simp only [SOp.slots]; exact fun t h => h)]
 case slStr x lo hi => rw [one (x := x) (by simp +contextual [SOp.slots]), two (x := lo) (by simp +contextual [SOp.slots]), two (x := hi) (by simp +contextual [SOp.slots])]
 case slSl z x lo hi => rw [one (x := x) (by simp +contextual [SOp.slots]), two (x := lo) (by simp +contextual [SOp.slots]), two (x := hi) (by simp +contextual [SOp.slots])]
 case len k x => rw [one (x := x) (by simp [SOp.slots])]
 case mx xs => rw [three (x := xs) (by simp only [SOp.slots]; exact fun t h => h)]
 case mn xs => rw [three (x := xs) (by simp only [SOp.slots]; exact fun t h => h)]
 case append z x y => rw [one (x := x) (by simp +contextual [SOp.slots]), one (x := y) (by simp +contextual [SOp.slots])]
 case call f xs => rw [three (x := xs) (by simp only [SOp.slots]; exact fun t h => h)]
 case callv f xs => rw [one (x := f) (by simp +contextual [SOp.slots]), three (x := xs) (by simp only [SOp.slots]; exact fun t h => List.mem_append_right _ h)]
 case mkfn f xs => rw [three (x := xs) (by simp only [SOp.slots]; exact fun t h => h)]
 case mksl z x y => rw [one (x := x) (by simp +contextual [SOp.slots]), one (x := y) (by simp +contextual [SOp.slots])]
 case lookup ok bk z x y => rw [one (x := x) (by simp +contextual [SOp.slots]), one (x := y) (by simp +contextual [SOp.slots])]
 case mapup bk x y z => rw [one (x := x) (by simp +contextual [SOp.slots]), one (x := y) (by simp +contextual [SOp.slots]), one (x := z) (by simp +contextual [SOp.slots])]
 case mapent bk z x y => rw [one (x := x) (by simp +contextual [SOp.slots]), one (x := y) (by simp +contextual [SOp.slots])]
 case entst x y z => rw [one (x := x) (by simp +contextual [SOp.slots]), one (x := y) (by simp +contextual [SOp.slots]), one (x := z) (by simp +contextual [SOp.slots])]
 case del bk x y => rw [one (x := x) (by simp +contextual [SOp.slots]), one (x := y) (by simp +contextual [SOp.slots])]
 case ext i x => rw [one (x := x) (by simp [SOp.slots])]
 case mkifc t x => rw [one (x := x) (by simp [SOp.slots])]
 case tas t x => rw [one (x := x) (by simp [SOp.slots])]
 case capn x => rw [one (x := x) (by simp [SOp.slots])]
 case capc x => rw [one (x := x) (by simp [SOp.slots])]
 case mkch x => rw [one (x := x) (by simp [SOp.slots])]
 case clr z x => rw [one (x := x) (by simp [SOp.slots])]
 case slMax z x lo hi mx => rw [one (x := x) (by simp +contextual [SOp.slots]), two (x := lo) (by simp +contextual [SOp.slots]), one (x := hi) (by simp +contextual [SOp.slots]), one (x := mx) (by simp +contextual [SOp.slots])]
 case appZ z x y => rw [one (x := x) (by simp +contextual [SOp.slots]), one (x := y) (by simp +contextual [SOp.slots])]
 case cpy q x y => rw [one (x := x) (by simp +contextual [SOp.slots]), one (x := y) (by simp +contextual [SOp.slots])]
 case slTail z x y => rw [one (x := x) (by simp +contextual [SOp.slots]), one (x := y) (by simp +contextual [SOp.slots])]
theorem wanted_congr {g : Option (Nat × Bool)} {e e' : Env} (h : ∀ t ∈ gslots g, Env.get e t = Env.get e' t) : wanted e g = wanted e' g := by
 cases g with
 | none => rfl
 | some p => obtain ⟨t, b⟩ := p; simp only [wanted]; rw [h t (by simp [gslots])]
theorem get_more {h : Heap} {b : Nat} {ob : Obj} (hb : h[b]? = some ob) (g : List Obj) : (h ++ g)[b]? = some ob := by
 have := (List.getElem?_eq_some_iff.1 hb).1
 rw [List.getElem?_append_left this]; exact hb
theorem read_more {call : CallF} {op : SOp} {e : Env} {h : Heap} {v : CV} (hc : cls op = 0 ∨ cls op = 1) (hev : evOp call op e h = some (v, h)) (g : List Obj) : evOp call op e (h ++ g) = some (v, h ++ g) := by
 rcases hc with hc | hc
 ·exact (evOp_pure hc hev).2 _
 ·have LA : ∀ {b o : Nat} {n : Option Nat} {v : CV}, loadAt h b o n = some v → loadAt (h ++ g) b o n = some v := by
   intro b o n v hl
   cases n <;> simp only [loadAt] at hl ⊢
   all_goals
    cases hb : h[b]? with
    | none => simp [hb] at hl
    | some ob => rw [get_more hb g]; rw [hb] at hl; exact hl
  have CA : ∀ {b o n : Nat} {cs : List CV}, cellsAt h b o n = some cs → cellsAt (h ++ g) b o n = some cs := by
   intro b o n cs hl
   simp only [cellsAt] at hl ⊢
   cases hb : h[b]? with
   | none => simp [hb] at hl
   | some ob => rw [get_more hb g]; rw [hb] at hl; exact hl
  cases op <;> simp only [cls] at hc <;> (try (exact absurd hc (by decide))) <;> simp only [evOp] at hev ⊢
  case toStr x =>
   cases hx : x.ev e with
   | none => simp [hx] at hev
   | some xv =>
     cases xv <;> simp [hx] at hev ⊢
     ·rename_i b o n c
      cases hcs : cellsAt h b o n with
      | none => simp [hcs] at hev
      | some cs => rw [CA hcs]; simp only [hcs] at hev; cases hq : ofBytes cs <;> simp [hq] at hev ⊢; exact hev
     ·exact hev
  case load n x =>
   cases hx : x.ev e with
   | none => simp [hx] at hev
   | some xv =>
     cases xv <;> simp [hx] at hev ⊢
     obtain ⟨q, _⟩ := withH_some hev
     rw [LA q]; rfl
  case len k x =>
   cases k <;> cases hx : x.ev e with
   | none => simp [hx] at hev
   | some xv =>
     cases xv <;> simp [hx] at hev ⊢ <;> (try exact hev)
     all_goals
      rename_i b
      cases hb : h[b]? with
      | none => simp [hb] at hev
      | some ob => rw [get_more hb g]; rw [hb] at hev; cases ob <;> simp at hev ⊢; exact hev
  case capc x =>
   cases hx : x.ev e with
   | none => simp [hx] at hev
   | some xv =>
     cases xv <;> simp [hx] at hev ⊢
     rename_i b
     cases hb : h[b]? with
     | none => simp [hb] at hev
     | some ob => rw [get_more hb g]; rw [hb] at hev; cases ob <;> simp at hev ⊢; exact hev
  case lookup ok bk z x k =>
   cases hx : x.ev e with
   | none => simp [hx] at hev
   | some xv =>
     cases hk : k.ev e with
     | none => cases xv <;> simp [hx, hk] at hev
     | some kv =>
       cases xv <;> simp [hx, hk] at hev ⊢
       ·rename_i b
        cases hb : h[b]? with
        | none => simp [hb] at hev
        | some ob =>
          rw [get_more hb g]; rw [hb] at hev
          cases ob <;> simp at hev ⊢
          rename_i es c
          cases hq : findKey bk kv es 0 with
          | none => simp [hq] at hev
          | some r => cases r <;> simp [hq] at hev ⊢ <;> exact hev
       ·exact hev
theorem quiet_heap {call : CallF} {op : SOp} {e : Env} {h h' : Heap} {v : CV} (hc : cls op = 0 ∨ cls op = 1) (hev : evOp call op e h = some (v, h')) : h' = h := by
 rcases hc with hc | hc
 ·exact (evOp_pure hc hev).1
 ·cases op <;> simp [cls] at hc <;> simp only [evOp] at hev
  all_goals (repeat' (first | (exact (withH_some hev).2) | (simp at hev; done) | (simp at hev; exact hev.2.symm) | (split at hev)))
theorem make_heap {call : CallF} {op : SOp} {e : Env} {h h' : Heap} {v : CV} (hc : cls op = 2) (hev : evOp call op e h = some (v, h')) : ∃ g, h' = h ++ g ∧ g.length ≤ 1 := by
 cases op <;> simp only [cls] at hc <;> (try (exact absurd hc (by decide))) <;> simp only [evOp] at hev
 case slSl z x lo hi =>
  split at hev
  ·rename_i xv l r _ _ _
   cases xv <;> simp [slSl] at hev
   ·obtain ⟨_, hev⟩ := hev
    split at hev
    ·split at hev
     ·split at hev
      ·simp at hev; exact ⟨_, hev.2.symm, by simp⟩
      ·simp at hev; exact ⟨[], by simp [hev.2], by simp⟩
     ·cases hev
    ·cases hev
   ·split at hev
    ·split at hev
     ·simp at hev; exact ⟨[], by simp [hev.2], by simp⟩
     ·cases hev
    ·cases hev
  ·cases hev
 case slMax z x lo hi mx =>
  split at hev
  ·simp only [slMax] at hev
   repeat' (first | (simp at hev; done) | (simp at hev; exact ⟨_, hev.2.symm, by simp⟩) | (split at hev))
  ·cases hev
 all_goals (repeat' (first | (simp at hev; done) | (simp at hev; exact ⟨_, hev.2.symm, by simp⟩) | (simp at hev; exact ⟨_, hev.2.2.symm, by simp⟩) | (split at hev)))
def opsM (P : Program) (G : Gam) (N : Nat) (ops : Array Oper) : List Oper → List SOper → Bool
 | [], [] => true
 | o :: os, s :: ss => operM P G N ops o s && opsM P G N ops os ss
 | _, _ => false
section
variable {P : Program} {G : Gam} {N : Nat} {call : CallF}
theorem ops_wp {ops : Array Oper} (hG : Good P G) (hC : CallOK P G call) {Q : Exit → Act → World → Prop} :
  ∀ (os : List Oper) (l : List SOper) (i : Nat), ops.toList.drop i = os → opsM P G N ops os l = true →
  ∀ (m : Mp) (e : Env) (h : Heap) (a : Act) (w : World) (e' : Env) (h' : Heap) (all : List SOper), evOps call all l e h = some (e', h') → ER G m N e a → Sim G m h w →
   (∀ m' a' w', ER G m' N e' a' → a'.defers = a.defers → Sim G m' h' w' → Evo m h w m' h' w' → Q .normal a' w') →
   wpOps P ops Q (List.range' i os.length) a w
 | [], [], i, _, _, m, e, h, a, w, e', h', all, hev, he, s, hQ => by
   simp [evOps] at hev
   obtain ⟨rfl, rfl⟩ := hev
   exact hQ m a w he rfl s (Evo.refl ..)
 | [], _ :: _, _, _, hM, _, _, _, _, _, _, _, _, _, _, _, _ => by simp [opsM] at hM
 | _ :: _, [], _, _, hM, _, _, _, _, _, _, _, _, _, _, _, _ => by simp [opsM] at hM
 | o :: os, so :: l, i, hd, hM, m, e, h, a, w, e', h', all, hev, he, s, hQ => by
   simp only [opsM, Bool.and_eq_true] at hM
   simp only [evOps] at hev
   cases h1 : evOper call all so e h with
   | none => simp [h1] at hev
   | some p =>
     obtain ⟨e1, h1'⟩ := p
     simp [h1] at hev
     have hoi : ops[i]? = some o := by
      have := congrArg (·[0]?) hd
      simpa using this
     have hrest : ops.toList.drop (i + 1) = os := by rw [← List.drop_drop, hd]; rfl
     rw [List.length_cons, List.range'_succ, wpOps_cons]
     unfold wpOp
     rw [hoi]
     refine oper_wp hG hC hM.1 h1 he s ?_
     intro m1 a1 w1 g1 g2 g3 g4
     exact ops_wp hG hC os l (i + 1) hrest hM.2 m1 e1 h1' a1 w1 e' h' all hev g1 g3 fun m' a' w' k1 k2 k3 k4 => hQ m' a' w' k1 (k2.trans g2) k3 (g4.trans k4)
def edges (ops : Array Oper) (i : Nat) : List Nat :=
 match ops[i]? with
 | some o => (o.after.toList.filter (Region.binds .any ·)).map (·.on)
 | none => []
def dflt : SOper := { dst := none, op := .mkmap }
def opAt (l : List SOper) (p : Nat) : SOper := l.getD p dflt
def idx (D : List (Nat × List Nat)) (p : Nat) : Nat := (D.getD p (0, [])).1
def anc (D : List (Nat × List Nat)) (p : Nat) : List Nat := (D.getD p (0, [])).2
def uses (s : SOper) : List Nat := s.op.slots ++ gslots s.guard
def isHeavy (s : SOper) : Bool := cls s.op == 3
def drawM (P : Program) (G : Gam) (N : Nat) (ops : Array Oper) (l : List SOper) (D : List (Nat × List Nat)) : Bool :=
 let n := ops.size
 let R := List.range n
 l.length == n && D.length == n &&
 (R.all fun p => decide (idx D p < n) && (match ops[idx D p]? with | some o => operM P G N ops o (opAt l p) | none => false)) &&
 (R.all fun i => R.any fun p => idx D p == i) &&
 (R.all fun p => R.all fun q => p == q || idx D p != idx D q) &&
 (R.all fun p => ((edges ops (idx D p)).all fun i => (List.range p).any fun j => idx D j == i) &&
  (anc D p).all fun x => decide (x < p) && ((edges ops (idx D p)).any fun i => idx D x == i || (List.range p).any fun j => idx D j == i && (anc D j).contains x)) &&
 (R.all fun p => R.all fun q => p == q || (match (opAt l q).dst with
  | some d => (opAt l p).dst != some d && (!(uses (opAt l p)).contains d || (if q < p then (anc D p).contains q else (anc D q).contains p))
  | none => true)) &&
 (R.all fun p => !isHeavy (opAt l p) || R.all fun q => decide (q ≤ p) || (anc D q).contains p) &&
 (R.all fun p => cls (opAt l p).op != 1 || R.all fun q => decide (q ≤ p) || !isHeavy (opAt l q) || (anc D q).contains p ||
  ((opAt l p).dst.isSome && (opAt l q).re.contains p &&
    R.all fun r => decide (r < p) || decide (q < r) || (match (opAt l r).dst with | some d => !(uses (opAt l p)).contains d | none => true)))
structure Draw (P : Program) (G : Gam) (N : Nat) (ops : Array Oper) (l : List SOper) (D : List (Nat × List Nat)) : Prop where
 len : l.length = ops.size
 lt : ∀ p, p < ops.size → idx D p < ops.size
 match_ : ∀ p, p < ops.size → ∃ o, ops[idx D p]? = some o ∧ operM P G N ops o (opAt l p) = true
 onto : ∀ i, i < ops.size → ∃ p, p < ops.size ∧ idx D p = i
 inj : ∀ p q, p < ops.size → q < ops.size → idx D p = idx D q → p = q
 edge : ∀ p, p < ops.size → ∀ i ∈ edges ops (idx D p), ∃ j, j < p ∧ idx D j = i
 anc : ∀ p, p < ops.size → ∀ x ∈ Cl.anc D p, x < p ∧ ((idx D x ∈ edges ops (idx D p)) ∨ ∃ j, j < p ∧ idx D j ∈ edges ops (idx D p) ∧ x ∈ Cl.anc D j)
 dst : ∀ p q d, p < ops.size → q < ops.size → p ≠ q → (opAt l q).dst = some d → (opAt l p).dst ≠ some d
 use : ∀ p q d, p < ops.size → q < ops.size → p ≠ q → (opAt l q).dst = some d → d ∈ uses (opAt l p) → (q < p → q ∈ Cl.anc D p) ∧ (p < q → p ∈ Cl.anc D q)
 heavy : ∀ p q, p < ops.size → q < ops.size → isHeavy (opAt l p) = true → p < q → p ∈ Cl.anc D q
 read : ∀ p q, p < ops.size → q < ops.size → cls (opAt l p).op = 1 → p < q → isHeavy (opAt l q) = true → p ∉ Cl.anc D q →
  (∃ d, (opAt l p).dst = some d) ∧ p ∈ (opAt l q).re ∧ ∀ r d, r < ops.size → p ≤ r → r ≤ q → (opAt l r).dst = some d → d ∉ uses (opAt l p)
theorem drawM_spec {ops : Array Oper} {l : List SOper} {D : List (Nat × List Nat)} (h : drawM P G N ops l D = true) : Draw P G N ops l D := by
 simp only [drawM, Bool.and_eq_true, List.all_eq_true, List.mem_range, List.any_eq_true, Bool.or_eq_true, beq_iff_eq, decide_eq_true_eq, Bool.not_eq_true', bne_iff_ne, List.contains_iff_mem] at h
 obtain ⟨⟨⟨⟨⟨⟨⟨⟨h1, h2⟩, h3⟩, h4⟩, h5⟩, h6⟩, h7⟩, h8⟩, h9⟩ := h
 refine ⟨h1, fun p hp => (h3 p hp).1, fun p hp => ?_, fun i hi => ?_, fun p q hp hq he => ?_, fun p hp i hi => ?_, fun p hp x hx => ?_, fun p q d hp hq hne hd => ?_, fun p q d hp hq hne hd hu => ?_, fun p q hp hq hh hlt => ?_, fun p q hp hq hc hlt hh hna => ?_⟩
 ·have := (h3 p hp).2
  cases ho : ops[idx D p]? with
  | none => simp [ho] at this
  | some o => simp [ho] at this; exact ⟨o, rfl, this⟩
 ·obtain ⟨p, hp, e⟩ := h4 i hi; exact ⟨p, hp, e⟩
 ·rcases h5 p hp q hq with h | h
  ·exact h
  ·exact absurd he h
 ·obtain ⟨j, hj, e⟩ := (h6 p hp).1 i hi; exact ⟨j, hj, e⟩
 ·obtain ⟨hx1, i, hi, hx2⟩ := (h6 p hp).2 x hx
  refine ⟨hx1, ?_⟩
  rcases hx2 with hx2 | ⟨j, hj, e, hx3⟩
  ·exact .inl (hx2 ▸ hi)
  ·exact .inr ⟨j, hj, e ▸ hi, hx3⟩
 ·rcases h7 p hp q hq with h | h
  ·exact absurd h hne
  ·rw [hd] at h
   simp only [Bool.and_eq_true, bne_iff_ne] at h
   exact h.1
 ·rcases h7 p hp q hq with h | h
  ·exact absurd h hne
  ·rw [hd] at h
   simp only [Bool.and_eq_true, Bool.or_eq_true, bne_iff_ne, Bool.not_eq_true'] at h
   rcases h.2 with h | h
   ·rw [← Bool.not_eq_true, List.contains_iff_mem] at h; exact absurd hu h
   ·constructor
    ·intro hlt; rw [if_pos hlt] at h; simpa using h
    ·intro hlt; rw [if_neg (by omega)] at h; simpa using h
 ·rcases h8 p hp with h | h
  ·rw [hh] at h; cases h
  ·rcases h q hq with h | h
   ·omega
   ·exact h
 ·rcases h9 p hp with h | h
  ·exact absurd hc h
  ·rcases h q hq with ((h | h) | h) | h
   ·omega
   ·rw [hh] at h; cases h
   ·exact absurd h hna
   ·refine ⟨Option.isSome_iff_exists.1 h.1.1, h.1.2, fun r d hr h1 h2 hd => ?_⟩
    rcases h.2 r hr with (h | h) | h
    ·omega
    ·omega
    ·rw [hd] at h
     simp only at h
     intro hm
     rw [Bool.not_eq_true', ← Bool.not_eq_true, List.contains_iff_mem] at h
     exact h hm
end
def CallLen (call : CallF) : Prop := ∀ f vs h r h', call f vs h = some (r, h') → h.length ≤ h'.length
theorem storeAt_len {h h' : Heap} {b o : Nat} {vs : List CV} (hs : storeAt h b o vs = some h') : h'.length = h.length := by
 simp only [storeAt] at hs
 split at hs
 ·split at hs
  ·simp at hs; subst hs; simp
  ·cases hs
 ·cases hs
theorem appendTo_len {h h' : Heap} {esz k : Nat} {x v : CV} {ys : List CV} (hs : appendTo h esz x k ys = some (v, h')) : h.length ≤ h'.length := by
 simp only [appendTo] at hs
 split at hs
 ·cases hs
 ·cases x <;> simp at hs
  ·obtain ⟨_, hs⟩ := hs
   split at hs
   ·simp at hs; rw [← hs.2]; exact Nat.le_refl _
   ·split at hs
    ·split at hs
     ·rename_i h'' hst
      simp at hs; rw [← hs.2, storeAt_len hst]; exact Nat.le_refl _
     ·cases hs
    ·split at hs
     ·simp at hs
      obtain ⟨_, _, rfl⟩ := hs
      simp [kill_length]
     ·cases hs
  ·split at hs
   ·simp at hs; rw [← hs.2]; exact Nat.le_refl _
   ·simp at hs; rw [← hs.2]; simp
theorem evOp_len {call : CallF} (hL : CallLen call) {op : SOp} {e : Env} {h h' : Heap} {v : CV} (hev : evOp call op e h = some (v, h')) : h.length ≤ h'.length := by
 by_cases h01 : cls op = 0 ∨ cls op = 1
 ·rw [quiet_heap h01 hev]; exact Nat.le_refl _
 by_cases h2 : cls op = 2
 ·obtain ⟨g, rfl, _⟩ := make_heap h2 hev; simp
 cases op <;> simp only [cls] at h01 h2 <;> (try (exact absurd (by decide) h01)) <;> (try (exact absurd (by decide) h2)) <;> simp only [evOp] at hev
 case store n x y =>
  split at hev
  ·split at hev
   ·split at hev
    ·rename_i h'' hst
     simp at hev; rw [← hev.2, storeAt_len hst]; exact Nat.le_refl _
    ·cases hev
   ·cases hev
  ·cases hev
 case append z x y =>
  split at hev
  ·split at hev
   ·exact appendTo_len hev
   ·cases hev
  ·cases hev
 case appZ z x y =>
  split at hev
  ·split at hev
   ·split at hev
    ·simp at hev; rw [← hev.2]; exact Nat.le_refl _
    ·simp at hev; rw [← hev.2]; simp
   ·cases hev
  ·cases hev
 case clr z x =>
  split at hev
  ·simp at hev; rw [← hev.2]; exact Nat.le_refl _
  ·split at hev
   ·simp at hev; rw [← hev.2]; exact Nat.le_refl _
   ·split at hev
    ·rename_i h'' hst
     simp at hev; rw [← hev.2, storeAt_len hst]; exact Nat.le_refl _
    ·cases hev
  ·cases hev
 case cpy q x y =>
  split at hev
  ·rename_i a b _ _
   cases a <;> simp only [copyTo] at hev <;> (try (cases hev; done))
   all_goals cases b <;> simp only [copyTo] at hev <;> (try (cases hev; done))
   all_goals (try (simp at hev; rw [← hev.2]; exact Nat.le_refl _))
   split at hev
   ·simp at hev; rw [← hev.2]; exact Nat.le_refl _
   ·split at hev
    ·split at hev
     ·rename_i h'' hst
      simp at hev; rw [← hev.2, storeAt_len hst]; exact Nat.le_refl _
     ·cases hev
    ·cases hev
  ·cases hev
 case slTail z x lo =>
  split at hev
  ·simp only [slTail] at hev
   split at hev
   ·split at hev
    ·split at hev
     ·simp at hev; rw [← hev.2]; exact Nat.le_refl _
     ·split at hev
      ·split at hev
       ·simp at hev; rw [← hev.2]; simp
       ·cases hev
      ·cases hev
    ·cases hev
   ·cases hev
  ·cases hev
 case call f xs =>
  split at hev
  ·exact hL _ _ _ _ _ hev
  ·cases hev
 case callv f xs =>
  split at hev
  ·exact hL _ _ _ _ _ hev
  ·cases hev
 all_goals (repeat' (first | (simp at hev; done) | (simp at hev; rw [← hev.2]; simp; done) | (split at hev)))
structure Traj (call : CallF) (l : List SOper) (e0 : Env) (h0 : Heap) (eF : Env) (hF : Heap) (E : Nat → Env) (H : Nat → Heap) (V : Nat → CV) : Prop where
 e0 : E 0 = e0
 h0 : H 0 = h0
 eF : E l.length = eF
 hF : H l.length = hF
 env : ∀ p, p < l.length → E (p + 1) = Env.put (E p) (opAt l p).dst (V p)
 step : ∀ p, p < l.length → (wanted (E p) (opAt l p).guard = some false ∧ V p = .undef ∧ H (p + 1) = H p) ∨
  (wanted (E p) (opAt l p).guard = some true ∧ evOp call (opAt l p).op (E p) (H p) = some (V p, H (p + 1)) ∧ Recheck call l (E (p + 1)) (H (p + 1)) (opAt l p).re)
theorem traj_of {call : CallF} {all : List SOper} : ∀ (l : List SOper) (e0 : Env) (h0 : Heap) (eF : Env) (hF : Heap), evOps call all l e0 h0 = some (eF, hF) →
  ∃ (E : Nat → Env) (H : Nat → Heap), E 0 = e0 ∧ H 0 = h0 ∧ E l.length = eF ∧ H l.length = hF ∧ ∀ p, p < l.length → evOper call all (opAt l p) (E p) (H p) = some (E (p + 1), H (p + 1))
 | [], e0, h0, eF, hF, h => by
   simp [evOps] at h
   exact ⟨fun _ => e0, fun _ => h0, rfl, rfl, h.1, h.2, fun p hp => by simp at hp⟩
 | o :: l, e0, h0, eF, hF, h => by
   simp only [evOps] at h
   cases h1 : evOper call all o e0 h0 with
   | none => simp [h1] at h
   | some q =>
     obtain ⟨e1, h1'⟩ := q
     simp [h1] at h
     obtain ⟨E, H, a1, a2, a3, a4, a5⟩ := traj_of l e1 h1' eF hF h
     refine ⟨fun n => match n with | 0 => e0 | n + 1 => E n, fun n => match n with | 0 => h0 | n + 1 => H n, rfl, rfl, a3, a4, fun p hp => ?_⟩
     cases p with
     | zero => simpa [opAt, a1, a2] using h1
     | succ p => simpa [opAt] using a5 p (by simpa using hp)
theorem traj {call : CallF} {l : List SOper} {e0 : Env} {h0 : Heap} {eF : Env} {hF : Heap} (h : evOps call l l e0 h0 = some (eF, hF)) : ∃ E H V, Traj call l e0 h0 eF hF E H V := by
 obtain ⟨E, H, a1, a2, a3, a4, a5⟩ := traj_of l e0 h0 eF hF h
 have key : ∀ p, ∃ v, p < l.length → E (p + 1) = Env.put (E p) (opAt l p).dst v ∧ ((wanted (E p) (opAt l p).guard = some false ∧ v = .undef ∧ H (p + 1) = H p) ∨
  (wanted (E p) (opAt l p).guard = some true ∧ evOp call (opAt l p).op (E p) (H p) = some (v, H (p + 1)) ∧ Recheck call l (E (p + 1)) (H (p + 1)) (opAt l p).re)) := by
  intro p
  by_cases hp : p < l.length
  ·have hev := a5 p hp
   simp only [evOper] at hev
   cases hw : wanted (E p) (opAt l p).guard with
   | none => simp [hw] at hev
   | some b =>
     cases b with
     | false =>
       simp [hw] at hev
       exact ⟨.undef, fun _ => ⟨hev.1.symm, .inl ⟨rfl, rfl, hev.2.symm⟩⟩⟩
     | true =>
       simp only [hw] at hev
       cases hop : evOp call (opAt l p).op (E p) (H p) with
       | none => simp [hop] at hev
       | some q =>
         obtain ⟨v, h1⟩ := q
         simp only [hop] at hev
         split at hev
         ·rename_i hre
          simp at hev
          obtain ⟨e1, e2⟩ := hev
          subst e2
          exact ⟨v, fun _ => ⟨e1.symm, .inr ⟨rfl, rfl, e1 ▸ recheckB_spec hre⟩⟩⟩
         ·cases hev
  ·exact ⟨.undef, fun h => absurd h hp⟩
 obtain ⟨V, hV⟩ := Classical.axiomOfChoice key
 exact ⟨E, H, V, a1, a2, a3, a4, fun p hp => (hV p hp).1, fun p hp => (hV p hp).2⟩
section
variable {P : Program} {G : Gam} {N : Nat} {call : CallF} {ops : Array Oper} {l : List SOper} {D : List (Nat × List Nat)} {e0 eF : Env} {h0 hF : Heap} {E : Nat → Env} {H : Nat → Heap} {V : Nat → CV}
theorem put_get_ne {e : Env} {d : Option Nat} {v : CV} {t : Nat} (h : d ≠ some t) : Env.get (Env.put e d v) t = Env.get e t := by
 cases d with
 | none => rfl
 | some k =>
   have : ¬ t = k := fun x => h (by rw [x])
   simp [Env.put, Env.get, this]
theorem put_get_eq {e : Env} {v : CV} {t : Nat} : Env.get (Env.put e (some t) v) t = some v := by simp [Env.put, Env.get]
theorem Traj.keep (T : Traj call l e0 h0 eF hF E H V) {t r s : Nat} (hrs : r ≤ s) (hs : s ≤ l.length) (h : ∀ p, r ≤ p → p < s → (opAt l p).dst ≠ some t) : Env.get (E s) t = Env.get (E r) t := by
 induction s with
 | zero => have : r = 0 := by omega
           subst this; rfl
 | succ s ih =>
   by_cases hh : r = s + 1
   ·subst hh; rfl
   ·rw [T.env s (by omega), put_get_ne (h s (by omega) (by omega)), ih (by omega) (by omega) fun p h1 h2 => h p h1 (by omega)]
theorem Traj.written (T : Traj call l e0 h0 eF hF E H V) (hD : Draw P G N ops l D) {t p s : Nat} (hp : (opAt l p).dst = some t) (hps : p < s) (hs : s ≤ l.length) : Env.get (E s) t = some (V p) := by
 rw [T.keep (r := p + 1) (by omega) hs, T.env p (by omega), hp, put_get_eq]
 intro q h1 h2
 have := hD.len
 exact hD.dst q p t (by omega) (by omega) (by omega) hp
theorem Traj.before (T : Traj call l e0 h0 eF hF E H V) {t s : Nat} (hs : s ≤ l.length) (h : ∀ p, p < s → (opAt l p).dst ≠ some t) : Env.get (E s) t = Env.get e0 t := by
 rw [T.keep (r := 0) (by omega) hs fun p _ h2 => h p h2, T.e0]
theorem Traj.grow (T : Traj call l e0 h0 eF hF E H V) {r s : Nat} (hrs : r ≤ s) (hs : s ≤ l.length) (h : ∀ p, r ≤ p → p < s → isHeavy (opAt l p) = false) : ∃ g, H s = H r ++ g := by
 induction s with
 | zero => have : r = 0 := by omega
           subst this; exact ⟨[], by simp⟩
 | succ s ih =>
   by_cases hh : r = s + 1
   ·subst hh; exact ⟨[], by simp⟩
   ·obtain ⟨g, hg⟩ := ih (by omega) (by omega) fun p h1 h2 => h p h1 (by omega)
    rcases T.step s (by omega) with ⟨_, _, h1⟩ | ⟨_, h1, _⟩
    ·exact ⟨g, by rw [h1, hg]⟩
    ·have hc := h s (by omega) (by omega)
     have : cls (opAt l s).op = 0 ∨ cls (opAt l s).op = 1 ∨ cls (opAt l s).op = 2 := by
      simp [isHeavy] at hc
      have : cls (opAt l s).op ≤ 3 := by cases (opAt l s).op <;> simp [cls]
      omega
     rcases this with hc | hc | hc
     ·exact ⟨g, by rw [quiet_heap (.inl hc) h1, hg]⟩
     ·exact ⟨g, by rw [quiet_heap (.inr hc) h1, hg]⟩
     ·obtain ⟨g', hg', _⟩ := make_heap hc h1
      exact ⟨g ++ g', by rw [hg', hg, List.append_assoc]⟩
theorem Traj.len (T : Traj call l e0 h0 eF hF E H V) (hL : CallLen call) {r s : Nat} (hrs : r ≤ s) (hs : s ≤ l.length) : (H r).length ≤ (H s).length := by
 induction s with
 | zero => have : r = 0 := by omega
           subst this; exact Nat.le_refl _
 | succ s ih =>
   by_cases hh : r = s + 1
   ·subst hh; exact Nat.le_refl _
   ·have := ih (by omega) (by omega)
    rcases T.step s (by omega) with ⟨_, _, h1⟩ | ⟨_, h1, _⟩
    ·rw [h1]; exact this
    ·exact Nat.le_trans this (evOp_len hL h1)
theorem recheck_mem {all : List SOper} {e : Env} {h : Heap} : ∀ {re : List Nat}, Recheck call all e h re → ∀ p ∈ re, p < all.length → ∀ d, (opAt all p).dst = some d →
  wanted e (opAt all p).guard = some false ∨ (wanted e (opAt all p).guard = some true ∧ ∃ v, e.get d = some v ∧ evOp call (opAt all p).op e h = some (v, h))
 | [], _, p, hp, _, _, _ => by simp at hp
 | q :: re, hR, p, hp, hlt, d, hd => by
   simp only [Recheck] at hR
   rcases List.mem_cons.1 hp with rfl | hp
   ·have hg : all[p]? = some (opAt all p) := by simp [opAt, List.getD, hlt]
    have := hR.1
    rw [hg] at this
    simp only [hd] at this
    exact this
   ·exact recheck_mem hR.2 p hp hlt d hd
theorem Traj.readAt (T : Traj call l e0 h0 eF hF E H V) (hD : Draw P G N ops l D) {p : Nat} (hp : p < l.length) (hc : cls (opAt l p).op = 0 ∨ cls (opAt l p).op = 1) (hw : wanted (E p) (opAt l p).guard = some true) {q : Nat} (hpq : p ≤ q) (hq : q ≤ l.length)
  (hn : ∀ r, p < r → r < q → isHeavy (opAt l r) = true → p ∉ Cl.anc D r) : evOp call (opAt l p).op (E p) (H q) = some (V p, H q) := by
 have hlen := hD.len
 induction q with
 | zero =>
   have : p = 0 := by omega
   subst this
   rcases T.step 0 hp with ⟨h1, _⟩ | ⟨_, h1, _⟩
   ·rw [hw] at h1; cases h1
   ·have := quiet_heap hc h1; rw [this] at h1; exact h1
 | succ q ih =>
   by_cases hh : p = q + 1
   ·subst hh
    rcases T.step _ hp with ⟨h1, _⟩ | ⟨_, h1, _⟩
    ·rw [hw] at h1; cases h1
    ·have := quiet_heap hc h1; rw [this] at h1; exact h1
   ·have ih := ih (by omega) (by omega) fun r h1 h2 => hn r h1 (by omega)
    by_cases hpq' : p = q
    ·subst hpq'
     rcases T.step p hp with ⟨h1, _⟩ | ⟨_, h1, _⟩
     ·rw [hw] at h1; cases h1
     ·rw [quiet_heap hc h1]; exact ih
    ·cases hH : isHeavy (opAt l q) with
     | false =>
       obtain ⟨g, hg⟩ := T.grow (r := q) (s := q + 1) (by omega) (by omega) fun r h1 h2 => by
        have : r = q := by omega
        subst this; exact hH
       rw [hg]
       exact read_more hc ih g
     | true =>
       rcases hc with hc | hc
       ·exact (evOp_pure hc ih).2 _
       ·obtain ⟨⟨d, hd⟩, hre, hnw⟩ := hD.read p q (by omega) (by omega) hc (by omega) hH (hn q (by omega) (by omega) hH)
        rcases T.step q (by omega) with ⟨_, _, h1⟩ | ⟨_, h1, hR⟩
        ·rw [h1]; exact ih
        ·have hkeep : ∀ t ∈ uses (opAt l p), Env.get (E (q + 1)) t = Env.get (E p) t := fun t ht =>
          T.keep (by omega) (by omega) fun r h1 h2 hdr => hnw r t (by omega) (by omega) (by omega) hdr ht
         have hrc := recheck_mem hR p hre hp d hd
         rw [wanted_congr (e' := E p) fun t ht => hkeep t (List.mem_append_right _ ht), hw] at hrc
         rcases hrc with hrc | ⟨_, v, hv, hrc⟩
         ·cases hrc
         ·rw [T.written hD hd (by omega) (by omega)] at hv; cases hv
          rw [← hrc]
          exact evOp_congr fun t ht => (hkeep t (List.mem_append_left _ ht)).symm
theorem Env.only_mem {ks : List Nat} {e : Env} {t : Nat} (ht : t ∈ ks) : Env.get (Env.only ks e) t = Env.get e t := by
 induction ks with
 | nil => simp at ht
 | cons k ks ih =>
   simp only [Env.only]
   by_cases hk : t = k
   ·subst hk
    cases hg : Env.get e t with
    | some v => simp [Env.get]
    | none =>
      simp only
      cases hh : Env.get (Env.only ks e) t with
      | none => rfl
      | some v => rw [Env.get_only ks e t v hh] at hg; cases hg
   ·have ht' : t ∈ ks := by rcases List.mem_cons.1 ht with h | h; exact absurd h hk; exact h
    cases hg : Env.get e k with
    | none => exact ih ht'
    | some v => simp only [Env.get, hk, if_false]; exact ih ht'
theorem Env.only_some {ks : List Nat} {e : Env} {t : Nat} {v : CV} (h : Env.get (Env.only ks e) t = some v) : t ∈ ks := by
 induction ks with
 | nil => simp [Env.only, Env.get] at h
 | cons k ks ih =>
   simp only [Env.only] at h
   cases hg : Env.get e k with
   | none => rw [hg] at h; exact List.mem_cons_of_mem _ (ih h)
   | some u =>
     rw [hg] at h
     simp only [Env.get] at h
     by_cases hk : t = k
     ·subst hk; exact List.mem_cons_self ..
     ·rw [if_neg hk] at h; exact List.mem_cons_of_mem _ (ih h)
def isOn (D : List (Nat × List Nat)) (listed : Array Bool) (p : Nat) : Prop := listed.getD (idx D p) false = true
def slotv (l : List SOper) (e0 : Env) (V : Nat → CV) (S : Nat → Prop) (d : Nat) (v : CV) : Prop :=
 (∃ p, p < l.length ∧ (opAt l p).dst = some d ∧ S p ∧ v = V p) ∨ ((∀ p, p < l.length → (opAt l p).dst = some d → ¬ S p) ∧ Env.get e0 d = some v)
structure DInv (G : Gam) (N : Nat) (ops : Array Oper) (l : List SOper) (D : List (Nat × List Nat)) (e0 : Env) (h0 : Heap) (H : Nat → Heap) (V : Nat → CV) (m0 : Mp) (a0 : Act) (w0 : World) (listed : Array Bool) (q : Nat) (m : Mp) (a : Act) (w : World) : Prop where
 lsz : listed.size = ops.size
 qle : q ≤ ops.size
 below : ∀ p, p < ops.size → isOn D listed p → p < q
 heavies : ∀ p, p < q → isHeavy (opAt l p) = true → isOn D listed p
 atq : q < ops.size → isHeavy (opAt l q) = true
 closed : ∀ p, p < ops.size → isOn D listed p → ∀ i ∈ edges ops (idx D p), listed.getD i false = true
 asz : N ≤ a.tmps.size
 adef : a.defers = a0.defers
 slot : ∀ d v, slotv l e0 V (isOn D listed) d v → ∃ rv, tr G m v = some rv ∧ a.tmps[d]? = some rv
 sim : Sim G m (H q) w
 evo : Evo m0 h0 w0 m (H q) w
 pend : ∀ p, p < q → ¬ isOn D listed p → ∀ ob, H (p + 1) = H p ++ [ob] → m (H p).length = none ∧ (H q)[(H p).length]? = some ob
theorem anc_on (hD : Draw P G N ops l D) {listed : Array Bool} (hcl : ∀ p, p < ops.size → isOn D listed p → ∀ i ∈ edges ops (idx D p), listed.getD i false = true) :
  ∀ p, p < ops.size → (∀ i ∈ edges ops (idx D p), listed.getD i false = true) → ∀ x ∈ Cl.anc D p, isOn D listed x := by
 intro p
 induction p using Nat.strongRecOn with
 | _ p ih =>
   intro hp he x hx
   obtain ⟨h1, h2⟩ := hD.anc p hp x hx
   rcases h2 with h2 | ⟨j, hj, h2, h3⟩
   ·exact he _ h2
   ·exact ih j hj (by omega) (hcl j (by omega) (he _ h2)) x h3
theorem nextHeavy (l : List SOper) (n q : Nat) (hq : q ≤ n) : ∃ q', q ≤ q' ∧ q' ≤ n ∧ (∀ p, q ≤ p → p < q' → isHeavy (opAt l p) = false) ∧ (q' < n → isHeavy (opAt l q') = true) := by
 induction hk : n - q generalizing q with
 | zero => exact ⟨q, Nat.le_refl _, hq, fun p h1 h2 => by omega, fun h => by omega⟩
 | succ k ih =>
   cases hh : isHeavy (opAt l q) with
   | true => exact ⟨q, Nat.le_refl _, hq, fun p h1 h2 => by omega, fun _ => hh⟩
   | false =>
     obtain ⟨q', a1, a2, a3, a4⟩ := ih (q + 1) (by omega) (by omega)
     refine ⟨q', by omega, a2, fun p h1 h2 => ?_, a4⟩
     by_cases hp : p = q
     ·subst hp; exact hh
     ·exact a3 p (by omega) h2
theorem DInv.uses (T : Traj call l e0 h0 eF hF E H V) (hD : Draw P G N ops l D) {m0 : Mp} {a0 : Act} {w0 : World} {listed : Array Bool} {q : Nat} {m : Mp} {a : Act} {w : World} (I : DInv G N ops l D e0 h0 H V m0 a0 w0 listed q m a w) {p : Nat} (hp : p < ops.size) (hon : ¬ isOn D listed p)
  (hed : ∀ i ∈ edges ops (idx D p), listed.getD i false = true) : ER G m N (Env.only (Cl.uses (opAt l p)) (E p)) a := by
 have hlen := hD.len
 refine ⟨I.asz, fun t v hv => ?_⟩
 have ht := Env.only_some hv
 rw [Env.only_mem ht] at hv
 refine I.slot t v ?_
 by_cases hex : ∃ r, r < ops.size ∧ (opAt l r).dst = some t
 ·obtain ⟨r, hr, hrd⟩ := hex
  have huniq : ∀ r', r' < ops.size → (opAt l r').dst = some t → r' = r := by
   intro r' h1 h2
   by_cases hne : r' = r
   ·exact hne
   ·exact absurd h2 (hD.dst r' r t h1 hr hne hrd)
  by_cases hpr : r = p
  ·subst hpr
   rw [T.before (by omega) fun p' h1 h2 => by have := huniq p' (by omega) h2; omega] at hv
   exact .inr ⟨fun p' h1 h2 => by rw [huniq p' (by omega) h2]; exact hon, hv⟩
  ·obtain ⟨u1, u2⟩ := hD.use p r t hp hr (Ne.symm hpr) hrd ht
   by_cases hlt : r < p
   ·have hon' := anc_on hD I.closed p hp hed r (u1 hlt)
    rw [T.written hD hrd hlt (by omega)] at hv
    exact .inl ⟨r, by omega, hrd, hon', by simpa using hv.symm⟩
   ·rw [T.before (by omega) fun p' h1 h2 => by have := huniq p' (by omega) h2; omega] at hv
    refine .inr ⟨fun p' h1 h2 hs => ?_, hv⟩
    rw [huniq p' (by omega) h2] at hs
    exact hon (anc_on hD I.closed r hr (I.closed r hr hs) p (u2 (by omega)))
 ·rw [T.before (by omega) fun p' h1 h2 => hex ⟨p', by omega, h2⟩] at hv
  exact .inr ⟨fun p' h1 h2 => absurd ⟨p', by omega, h2⟩ hex, hv⟩
theorem isOn_set (hD : Draw P G N ops l D) {listed : Array Bool} (hl : listed.size = ops.size) {p r : Nat} (hp : p < ops.size) (hr : r < ops.size) : isOn D (listed.setIfInBounds (idx D p) true) r ↔ r = p ∨ isOn D listed r := by
 have h1 := hD.lt p hp
 unfold isOn
 by_cases h : idx D r = idx D p
 ·have := hD.inj r p hr hp h
  subst this
  simp [Array.getD, hl, h1]
 ·have hne : r ≠ p := fun x => h (by rw [x])
  simp only [hne, false_or]
  simp only [Array.getD_eq_getD_getElem?]
  rw [Array.getElem?_setIfInBounds_ne (Ne.symm h)]
theorem Evo.more {m m' : Mp} {h h' : Heap} {w w' : World} (k : Evo m h w m' h' w') (s : Sim G m' h' w') (g : List Obj) : Evo m h w m' (h' ++ g) w' := by
 refine ⟨k.mono, by have := k.len; simp; omega, fun b hb e => ⟨(k.un b hb e).1, by rw [List.getElem?_append_left (by have := k.len; omega)]; exact (k.un b hb e).2⟩, k.os, k.out, k.size, k.frame, fun b L e o => ?_⟩
 obtain ⟨x, q1, q2⟩ := o
 rw [List.getElem?_append_left (s.dom b L e)] at q1
 exact k.own b L e ⟨x, q1, q2⟩
end
section
variable {P : Program} {G : Gam} {N : Nat} {call : CallF} {ops : Array Oper} {l : List SOper} {D : List (Nat × List Nat)} {e0 eF : Env} {h0 hF : Heap} {E : Nat → Env} {H : Nat → Heap} {V : Nat → CV}
 {m0 : Mp} {a0 : Act} {w0 : World} {listed : Array Bool} {q : Nat} {m : Mp} {a : Act} {w : World}
theorem put_defers (a : Act) (d : Option Nat) (rv : Value) : (a.put d rv).defers = a.defers := by cases d <;> rfl
theorem put_size (a : Act) (d : Option Nat) (rv : Value) : (a.put d rv).tmps.size = a.tmps.size := by cases d <;> simp [Act.put]
theorem slot_next (hD : Draw P G N ops l D) (I : DInv G N ops l D e0 h0 H V m0 a0 w0 listed q m a w) {p : Nat} (hp : p < ops.size) (hdN : ∀ k, (opAt l p).dst = some k → k < N) {m' : Mp} (hm : m.le m') {rv : Value} (hv : tr G m' (V p) = some rv) :
  ∀ d v, slotv l e0 V (isOn D (listed.setIfInBounds (idx D p) true)) d v → ∃ rv', tr G m' v = some rv' ∧ (a.put (opAt l p).dst rv).tmps[d]? = some rv' := by
 intro d v hs
 have hlen := hD.len
 by_cases hd : (opAt l p).dst = some d
 ·have hvp : v = V p := by
   rcases hs with ⟨r, h1, h2, h3, rfl⟩ | ⟨h1, _⟩
   ·by_cases hr : r = p
    ·rw [hr]
    ·exact absurd h2 (hD.dst r p d (by omega) hp hr hd)
   ·exact absurd ((isOn_set hD I.lsz hp hp).2 (.inl rfl)) (h1 p (by omega) hd)
  subst hvp
  refine ⟨rv, hv, ?_⟩
  rw [hd]
  exact Array.getElem?_setIfInBounds_self_of_lt (Nat.lt_of_lt_of_le (hdN d hd) I.asz)
 ·have : slotv l e0 V (isOn D listed) d v := by
   rcases hs with ⟨r, h1, h2, h3, rfl⟩ | ⟨h1, h2⟩
   ·rcases (isOn_set hD I.lsz hp (by omega)).1 h3 with rfl | h
    ·exact absurd h2 hd
    ·exact .inl ⟨r, h1, h2, h, rfl⟩
   ·exact .inr ⟨fun r h3 h4 h5 => h1 r h3 h4 ((isOn_set hD I.lsz hp (by omega)).2 (.inr h5)), h2⟩
  obtain ⟨ru, g1, g2⟩ := I.slot d v this
  refine ⟨ru, tr_mono G hm _ _ g1, ?_⟩
  cases hdd : (opAt l p).dst with
  | none => exact g2
  | some k =>
    have : k ≠ d := fun x => hd (by rw [hdd, x])
    simp [Act.put, Array.getElem?_setIfInBounds_ne this, g2]
theorem closed_next (hD : Draw P G N ops l D) (I : DInv G N ops l D e0 h0 H V m0 a0 w0 listed q m a w) {p : Nat} (hp : p < ops.size) (hed : ∀ i ∈ edges ops (idx D p), listed.getD i false = true) :
  ∀ r, r < ops.size → isOn D (listed.setIfInBounds (idx D p) true) r → ∀ i ∈ edges ops (idx D r), (listed.setIfInBounds (idx D p) true).getD i false = true := by
 have keep : ∀ i, listed.getD i false = true → (listed.setIfInBounds (idx D p) true).getD i false = true := by
  intro i hi
  simp only [Array.getD_eq_getD_getElem?] at hi ⊢
  by_cases h : i = idx D p
  ·subst h
   rw [Array.getElem?_setIfInBounds_self_of_lt (by rw [I.lsz]; exact hD.lt p hp)]; rfl
  ·rw [Array.getElem?_setIfInBounds_ne (Ne.symm h)]; exact hi
 intro r hr hon i hi
 rcases (isOn_set hD I.lsz hp hr).1 hon with rfl | h
 ·exact keep i (hed i hi)
 ·exact keep i (I.closed r hr h i hi)
theorem adv_quiet (hD : Draw P G N ops l D) (I : DInv G N ops l D e0 h0 H V m0 a0 w0 listed q m a w) {p : Nat} (hp : p < ops.size) (hpq : p < q) (hed : ∀ i ∈ edges ops (idx D p), listed.getD i false = true) (hdN : ∀ k, (opAt l p).dst = some k → k < N)
  {m' : Mp} (hm : m.le m') {rv : Value} (hv : tr G m' (V p) = some rv) {w' : World} (s : Sim G m' (H q) w') (ev : Evo m0 h0 w0 m' (H q) w') (hpend : ∀ r, r < q → r ≠ p → ¬ isOn D listed r → ∀ ob, H (r + 1) = H r ++ [ob] → m' (H r).length = none) :
  DInv G N ops l D e0 h0 H V m0 a0 w0 (listed.setIfInBounds (idx D p) true) q m' (a.put (opAt l p).dst rv) w' where
 lsz := by simp [I.lsz]
 qle := I.qle
 below r hr hon := by
  rcases (isOn_set hD I.lsz hp hr).1 hon with rfl | h
  ·exact hpq
  ·exact I.below r hr h
 heavies r hr hh := (isOn_set hD I.lsz hp (by have := I.qle; omega)).2 (.inr (I.heavies r hr hh))
 atq := I.atq
 closed := closed_next hD I hp hed
 asz := by rw [put_size]; exact I.asz
 adef := by rw [put_defers]; exact I.adef
 slot := slot_next hD I hp hdN hm hv
 sim := s
 evo := ev
 pend r hr hon ob hob := by
  have hrn : ¬ isOn D listed r := fun h => hon ((isOn_set hD I.lsz hp (by have := I.qle; omega)).2 (.inr h))
  have hrp : r ≠ p := fun h => hon ((isOn_set hD I.lsz hp (by have := I.qle; omega)).2 (.inl h))
  exact ⟨hpend r hr hrp hrn ob hob, (I.pend r hr hrn ob hob).2⟩
theorem adv_heavy (T : Traj call l e0 h0 eF hF E H V) (hL : CallLen call) (hD : Draw P G N ops l D) (I : DInv G N ops l D e0 h0 H V m0 a0 w0 listed q m a w) (hq : q < ops.size) (hed : ∀ i ∈ edges ops (idx D q), listed.getD i false = true) (hdN : ∀ k, (opAt l q).dst = some k → k < N)
  {m' : Mp} {rv : Value} (hv : tr G m' (V q) = some rv) {w' : World} (s : Sim G m' (H (q + 1)) w') (ev : Evo m (H q) w m' (H (q + 1)) w') :
  ∃ q', DInv G N ops l D e0 h0 H V m0 a0 w0 (listed.setIfInBounds (idx D q) true) q' m' (a.put (opAt l q).dst rv) w' := by
 have hlen := hD.len
 obtain ⟨q', a1, a2, a3, a4⟩ := nextHeavy l ops.size (q + 1) (by omega)
 obtain ⟨g, hg⟩ := T.grow (r := q + 1) (s := q') a1 (by omega) a3
 refine ⟨q', ?_⟩
 refine ⟨by simp [I.lsz], a2, ?_, ?_, a4, closed_next hD I hq hed, by rw [put_size]; exact I.asz, by rw [put_defers]; exact I.adef, slot_next hD I hq hdN ev.mono hv, by rw [hg]; exact s.more g, by rw [hg]; exact (I.evo.trans ev).more s g, ?_⟩
 ·intro r hr hon
  rcases (isOn_set hD I.lsz hq hr).1 hon with rfl | h
  ·omega
  ·have := I.below r hr h; omega
 ·intro r hr hh
  by_cases hrq : r = q
  ·exact (isOn_set hD I.lsz hq (by omega)).2 (.inl hrq)
  ·by_cases hlt : r < q
   ·exact (isOn_set hD I.lsz hq (by omega)).2 (.inr (I.heavies r hlt hh))
   ·have := a3 r (by omega) hr; rw [hh] at this; cases this
 ·intro r hr hon ob hob
  have hrq : r ≠ q := fun h => hon ((isOn_set hD I.lsz hq (by omega)).2 (.inl h))
  by_cases hlt : r < q
  ·obtain ⟨p1, p2⟩ := I.pend r hlt (fun h => hon ((isOn_set hD I.lsz hq (by omega)).2 (.inr h))) ob hob
   have hl : (H r).length < (H q).length := by
    have := (List.getElem?_eq_some_iff.1 p2).1; exact this
   obtain ⟨u1, u2⟩ := ev.un _ hl p1
   refine ⟨u1, ?_⟩
   rw [hg]
   exact get_more (u2.trans p2) g
  ·have hl := T.len hL (r := q + 1) (s := r) (by omega) (by omega)
   refine ⟨?_, ?_⟩
   ·cases hk : m' (H r).length with
    | none => rfl
    | some L => exact absurd (s.dom _ _ hk) (by omega)
   ·obtain ⟨g2, hg2⟩ := T.grow (r := r + 1) (s := q') (by omega) (by omega) fun x h1 h2 => a3 x (by omega) h2
    rw [hg2, hob, List.append_assoc, List.getElem?_append_right (Nat.le_refl _)]
    simp
theorem step_any (T : Traj call l e0 h0 eF hF E H V) (hG : Good P G) (hC : CallOK P G call) (hL : CallLen call) (hD : Draw P G N ops l D) (I : DInv G N ops l D e0 h0 H V m0 a0 w0 listed q m a w) {p : Nat} (hp : p < ops.size) (hon : ¬ isOn D listed p)
  (hed : ∀ i ∈ edges ops (idx D p), listed.getD i false = true) {K : Act → World → Prop} {Q : Exit → Act → World → Prop}
  (hK : ∀ q' m' a' w', DInv G N ops l D e0 h0 H V m0 a0 w0 (listed.setIfInBounds (idx D p) true) q' m' a' w' → K a' w') : wpOp P ops Q (idx D p) K a w := by
 have hlen := hD.len
 have hanc := anc_on hD I.closed p hp hed
 have hpq : p ≤ q := by
  rcases Nat.lt_or_ge q p with h | h
  ·have := hanc q (hD.heavy q p (by omega) hp (I.atq (by omega)) h)
   have := I.below q (by omega) this; omega
  ·exact h
 have hER := I.uses T hD hp hon hed
 have hcon : ∀ t ∈ uses (opAt l p), Env.get (E p) t = Env.get (Env.only (uses (opAt l p)) (E p)) t := fun t ht => (Env.only_mem ht).symm
 have hcop : ∀ h, evOp call (opAt l p).op (E p) h = evOp call (opAt l p).op (Env.only (uses (opAt l p)) (E p)) h := fun h => evOp_congr fun t ht => hcon t (List.mem_append_left _ ht)
 have hcw : wanted (E p) (opAt l p).guard = wanted (Env.only (uses (opAt l p)) (E p)) (opAt l p).guard := wanted_congr fun t ht => hcon t (List.mem_append_right _ ht)
 obtain ⟨o, ho, hM⟩ := hD.match_ p hp
 simp only [operM, Bool.and_eq_true] at hM
 obtain ⟨⟨⟨h1, h2⟩, h3⟩, h4⟩ := hM
 have hd : o.dst = (opAt l p).dst := by simpa using h2
 have hdN : ∀ k, (opAt l p).dst = some k → k < N := by
  intro k hk; rw [hk] at h3; simpa using h3
 unfold wpOp
 rw [ho]
 simp only
 rcases T.step p (by omega) with ⟨hw, hVu, hH⟩ | ⟨hw, hev, _⟩
 ·rw [guard_sim h4 hER rfl (hcw ▸ hw)]
  simp only [Bool.false_eq_true, if_false]
  rw [hd]
  have hv : ∀ m' : Mp, tr G m' (V p) = some undef := fun m' => by rw [hVu]; rfl
  by_cases hlt : p < q
  ·exact hK q m _ w (adv_quiet hD I hp hlt hed hdN (Mp.le_refl m) (hv m) I.sim I.evo fun r hr _ hrn ob hob => (I.pend r hr hrn ob hob).1)
  ·obtain rfl : p = q := by omega
   obtain ⟨q', I'⟩ := adv_heavy T hL hD I hp hed hdN (hv m) (w' := w) (by rw [hH]; exact I.sim) (by rw [hH]; exact Evo.refl ..)
   exact hK q' m _ w I'
 ·rw [guard_sim h4 hER rfl (hcw ▸ hw)]
  simp only [if_true]
  refine .inl ?_
  by_cases hlt : p < q
  ·have hnh : isHeavy (opAt l p) = false := by
    cases hh : isHeavy (opAt l p) with
    | false => rfl
    | true => exact absurd (I.heavies p hlt hh) hon
   have hcls : (cls (opAt l p).op = 0 ∨ cls (opAt l p).op = 1) ∨ cls (opAt l p).op = 2 := by
    simp [isHeavy] at hnh
    have : cls (opAt l p).op ≤ 3 := by cases (opAt l p).op <;> simp [cls]
    omega
   rcases hcls with hc | hc
   ·have hrd := T.readAt hD (by omega) hc hw (q := q) hpq (by have := I.qle; omega) fun r h5 h6 h7 h8 => hon (anc_on hD I.closed r (by have := I.qle; omega) (I.closed r (by have := I.qle; omega) (I.heavies r h6 h7)) p h8)
    rw [hcop] at hrd
    obtain ⟨_, rv, g1, g2⟩ := quiet_sim hc h1 hrd hER I.sim
    unfold Oper.wp
    rw [g1]
    show K (a.put o.dst rv) w
    rw [hd]
    exact hK q m _ w (adv_quiet hD I hp hlt hed hdN (Mp.le_refl m) g2 I.sim I.evo fun r hr _ hrn ob hob => (I.pend r hr hrn ob hob).1)
   ·rw [hcop] at hev
    obtain ⟨g, e1, e2, e3⟩ := makes_any (hq := H q) hc h1 hev hER I.sim
    have hpd : ∀ ob, g = [ob] → (H q)[(H p).length]? = some ob ∧ m (H p).length = none := fun ob hob => by
     have := I.pend p hlt hon ob (by rw [e1, hob]); exact ⟨this.2, this.1⟩
    obtain ⟨m', rv, w', g1, g2, g3, g4, g5, g6⟩ := (e3 hpd).go
    unfold Oper.wp
    rw [g1]
    show K (a.put o.dst rv) w'
    rw [hd]
    have hle : m.le m' := by
     have : g = [] ∨ ∃ ob, g = [ob] := by
      cases g with
      | nil => exact .inl rfl
      | cons x t => cases t with
        | nil => exact .inr ⟨x, rfl⟩
        | cons _ _ => simp at e2
     rcases this with hg | ⟨ob, hg⟩
     ·rw [g5 hg]; exact Mp.le_refl m
     ·obtain ⟨L, hL', _⟩ := g6 ob hg; rw [hL']; exact Mp.upd_le (hpd ob hg).2
    have hdiff : ∀ b, b ≠ (H p).length → m' b = m b := by
     intro b hb
     have : g = [] ∨ ∃ ob, g = [ob] := by
      cases g with
      | nil => exact .inl rfl
      | cons x t => cases t with
        | nil => exact .inr ⟨x, rfl⟩
        | cons _ _ => simp at e2
     rcases this with hg | ⟨ob, hg⟩
     ·rw [g5 hg]
     ·obtain ⟨L, hL', _⟩ := g6 ob hg; rw [hL']; simp [Mp.upd, hb]
    refine hK q m' _ w' (adv_quiet hD I hp hlt hed hdN hle g2 g3 ?_ ?_)
    ·have ev := I.evo
     have hb0 : h0.length ≤ (H p).length := by have := T.len hL (r := 0) (s := p) (by omega) (by omega); rw [T.h0] at this; exact this
     refine ⟨Mp.le_trans ev.mono hle, ev.len, fun b hb e => ?_, g4.os.trans ev.os, g4.out.trans ev.out, Nat.le_trans ev.size g4.size, fun r hr hn => ?_, fun b L e o => ?_⟩
     ·obtain ⟨u1, u2⟩ := ev.un b hb e
      exact ⟨by rw [hdiff b (by omega)]; exact u1, u2⟩
     ·rw [g4.old r (Nat.lt_of_lt_of_le hr ev.size)]; exact ev.frame r hr hn
     ·by_cases hb : b = (H p).length
      ·have : g = [] ∨ ∃ ob, g = [ob] := by
        cases g with
        | nil => exact .inl rfl
        | cons x t => cases t with
          | nil => exact .inr ⟨x, rfl⟩
          | cons _ _ => simp at e2
       rcases this with hg | ⟨ob, hg⟩
       ·rw [g5 hg] at e; exact ev.own b L e o
       ·obtain ⟨L', hL', hO⟩ := g6 ob hg
        subst hb
        rw [hL', Mp.upd_same] at e; cases e
        obtain ⟨x, x1, x2⟩ := o
        rw [(hpd ob hg).1] at x1; cases x1
        have := hO x2
        have := ev.size
        exact .inl (by omega)
      ·rw [hdiff b hb] at e; exact ev.own b L e o
    ·intro r hr hrp hrn ob hob
     have hpr := (I.pend r hr hrn ob hob).1
     have hgg : g = [] ∨ ∃ ob, g = [ob] := by
      cases g with
      | nil => exact .inl rfl
      | cons x t => cases t with
        | nil => exact .inr ⟨x, rfl⟩
        | cons _ _ => simp at e2
     rcases hgg with hg | ⟨ob', hg⟩
     ·rw [g5 hg]; exact hpr
     ·rw [hdiff]
      ·exact hpr
      ·have hq' := I.qle
       rcases Nat.lt_or_ge r p with h | h
       ·have l1 := T.len hL (r := r + 1) (s := p) (by omega) (by omega)
        rw [hob] at l1; simp at l1; omega
       ·have l1 := T.len hL (r := p + 1) (s := r) (by omega) (by omega)
        rw [e1, hg] at l1; simp at l1; omega
  ·obtain rfl : p = q := by omega
   rw [hcop] at hev
   refine op_wp hG hC h1 hev hER I.sim ?_
   intro m' rv w' g1 g2 g3
   rw [hd]
   obtain ⟨q', I'⟩ := adv_heavy T hL hD I hp hed hdN g1 g2 g3
   exact hK q' m' _ w' I'
def unl (n : Nat) (listed : Array Bool) : List Nat := (List.range n).filter fun i => !listed.getD i false
theorem filter_lt {α : Type} (p p' : α → Bool) : ∀ (l : List α), (∀ x ∈ l, p' x = true → p x = true) → (∃ x ∈ l, p x = true ∧ p' x = false) → (l.filter p').length < (l.filter p).length
 | [], _, h => by obtain ⟨x, hx, _⟩ := h; simp at hx
 | x :: l, h, hex => by
   have hle : ∀ l : List α, (∀ x ∈ l, p' x = true → p x = true) → (l.filter p').length ≤ (l.filter p).length := by
    intro l
    induction l with
    | nil => intro _; simp
    | cons y l ih =>
      intro hl
      have := ih fun z hz => hl z (List.mem_cons_of_mem _ hz)
      have hy := hl y (List.mem_cons_self ..)
      cases h1 : p' y <;> cases h2 : p y <;> simp [List.filter_cons, h1, h2] <;> first | omega | (simp [h1, h2] at hy)
   obtain ⟨y, hy, h1, h2⟩ := hex
   rcases List.mem_cons.1 hy with rfl | hy
   ·have := hle l fun z hz => h z (List.mem_cons_of_mem _ hz)
    simp [List.filter_cons, h1, h2]; omega
   ·have := filter_lt p p' l (fun z hz => h z (List.mem_cons_of_mem _ hz)) ⟨y, hy, h1, h2⟩
    have hx := h x (List.mem_cons_self ..)
    cases h3 : p' x <;> cases h4 : p x <;> simp [List.filter_cons, h3, h4] <;> first | omega | (simp [h3, h4] at hx)
theorem unl_set {n : Nat} {listed : Array Bool} (hl : listed.size = n) {i : Nat} (hi : i < n) (hon : listed.getD i false = false) : (unl n (listed.setIfInBounds i true)).length < (unl n listed).length := by
 refine filter_lt _ _ _ ?_ ⟨i, by simpa using hi, by simp [hon], ?_⟩
 ·intro x hx h
  simp only [Array.getD_eq_getD_getElem?] at h ⊢
  by_cases hxi : x = i
  ·subst hxi; rw [Array.getElem?_setIfInBounds_self_of_lt (by omega)] at h; simp at h
  ·rw [Array.getElem?_setIfInBounds_ne (Ne.symm hxi)] at h; exact h
 ·simp only [Array.getD_eq_getD_getElem?]
  rw [Array.getElem?_setIfInBounds_self_of_lt (by omega)]; rfl
theorem ready_mem {listed : Array Bool} (hl : listed.size = ops.size) {i : Nat} : i ∈ Region.ready .any ops listed ↔ i < ops.size ∧ listed.getD i false = false ∧ ∀ j ∈ edges ops i, listed.getD j false = true := by
 unfold Region.ready
 rw [List.mem_filter, List.mem_range]
 constructor
 ·rintro ⟨h1, h2⟩
  rw [Bool.and_eq_true] at h2
  obtain ⟨h2, h3⟩ := h2
  have ho : ops[i]? = some ops[i] := Array.getElem?_eq_getElem h1
  refine ⟨h1, ?_, ?_⟩
  ·simp only [Array.getD_eq_getD_getElem?] at h2 ⊢
   rw [Array.getElem?_eq_getElem (by omega)] at h2 ⊢
   simpa using h2
  ·intro j hj
   simp only [edges, ho, List.mem_map, List.mem_filter] at hj
   obtain ⟨ed, ⟨he1, he2⟩, rfl⟩ := hj
   rw [ho] at h3
   simp only [Option.map_some, Option.getD_some, Array.all_eq_true_iff_forall_mem] at h3
   have := h3 ed (by simpa using he1)
   simpa [he2] using this
 ·rintro ⟨h1, h2, h3⟩
  have ho : ops[i]? = some ops[i] := Array.getElem?_eq_getElem h1
  refine ⟨h1, ?_⟩
  rw [Bool.and_eq_true]
  refine ⟨?_, ?_⟩
  ·simp only [Array.getD_eq_getD_getElem?] at h2 ⊢
   rw [Array.getElem?_eq_getElem (by omega)] at h2 ⊢
   simpa using h2
  ·rw [ho]
   simp only [Option.map_some, Option.getD_some, Array.all_eq_true_iff_forall_mem]
   intro ed hed
   by_cases hb : Region.binds .any ed = true
   ·have := h3 ed.on (by simp only [edges, ho, List.mem_map, List.mem_filter]; exact ⟨ed, ⟨by simpa using hed, hb⟩, rfl⟩)
    simp [this]
   ·simp [hb]
theorem any_wp (T : Traj call l e0 h0 eF hF E H V) (hG : Good P G) (hC : CallOK P G call) (hL : CallLen call) (hD : Draw P G N ops l D) {Q : Exit → Act → World → Prop}
  (hQ : ∀ m' a' w', ER G m' N eF a' → a'.defers = a0.defers → Sim G m' hF w' → Evo m0 h0 w0 m' hF w' → Q .normal a' w') :
  ∀ (fuel : Nat) (listed : Array Bool) (q : Nat) (m : Mp) (a : Act) (w : World), DInv G N ops l D e0 h0 H V m0 a0 w0 listed q m a w → (unl ops.size listed).length ≤ fuel → wpAny P .any ops Q fuel listed a w := by
 have hlen := hD.len
 have hend : ∀ (listed : Array Bool) (q : Nat) (m : Mp) (a : Act) (w : World), DInv G N ops l D e0 h0 H V m0 a0 w0 listed q m a w → Region.ready .any ops listed = [] → Q .normal a w := by
  intro listed q m a w I hr
  have hall : ∀ p, p < ops.size → isOn D listed p := by
   intro p
   induction p using Nat.strongRecOn with
   | _ p ih =>
     intro hp
     cases hb : listed.getD (idx D p) false with
     | true => exact hb
     | false =>
       have : idx D p ∈ Region.ready .any ops listed := (ready_mem I.lsz).2 ⟨hD.lt p hp, hb, fun i hi => by
        obtain ⟨j, hj, rfl⟩ := hD.edge p hp i hi
        exact ih j hj (by omega)⟩
       rw [hr] at this; simp at this
  have hq : q = ops.size := by
   have h1 := I.qle
   rcases Nat.lt_or_ge q ops.size with h | h
   ·have := I.below q h (hall q h); omega
   ·omega
  subst hq
  have hE : E ops.size = eF := by rw [← hlen]; exact T.eF
  have hH : H ops.size = hF := by rw [← hlen]; exact T.hF
  refine hQ m a w ⟨I.asz, fun t v hv => I.slot t v ?_⟩ I.adef (hH ▸ I.sim) (hH ▸ I.evo)
  rw [← hE] at hv
  by_cases hex : ∃ r, r < ops.size ∧ (opAt l r).dst = some t
  ·obtain ⟨r, hr1, hrd⟩ := hex
   rw [T.written hD hrd hr1 (by omega)] at hv
   exact .inl ⟨r, by omega, hrd, hall r hr1, by simpa using hv.symm⟩
  ·rw [T.before (by omega) fun p' h1 h2 => hex ⟨p', h1, h2⟩] at hv
   exact .inr ⟨fun p' h1 h2 => absurd ⟨p', by omega, h2⟩ hex, hv⟩
 intro fuel
 induction fuel with
 | zero =>
   intro listed q m a w I hf
   have hr : Region.ready .any ops listed = [] := by
    apply List.eq_nil_iff_forall_not_mem.2
    intro i hi
    obtain ⟨h1, h2, _⟩ := (ready_mem I.lsz).1 hi
    have : i ∈ unl ops.size listed := by simp only [unl, List.mem_filter, List.mem_range]; exact ⟨h1, by rw [h2]; rfl⟩
    have hz : unl ops.size listed = [] := List.eq_nil_of_length_eq_zero (by omega)
    rw [hz] at this; simp at this
   exact ⟨hr, hend listed q m a w I hr⟩
 | succ fuel ih =>
   intro listed q m a w I hf
   refine ⟨hend listed q m a w I, fun i hi => ?_⟩
   obtain ⟨h1, h2, h3⟩ := (ready_mem I.lsz).1 hi
   obtain ⟨p, hp, rfl⟩ := hD.onto i h1
   refine step_any T hG hC hL hD I hp (by unfold isOn; rw [h2]; simp) h3 ?_
   intro q' m' a' w' I'
   have := unl_set I.lsz h1 h2
   exact ih _ q' m' a' w' I' (by omega)
theorem draw_wp {id : Nat} (hmix : P.follows .mixedOrders = true) (hG : Good P G) (hC : CallOK P G call) (hL : CallLen call) (hM : drawM P G N ops l D = true) {e e' : Env} {h h' : Heap} {m : Mp} {a : Act} {w : World} {Q : Exit → Act → World → Prop}
  (hev : evOps call l l e h = some (e', h')) (he : ER G m N e a) (s : Sim G m h w)
  (hQ : ∀ m' a' w', ER G m' N e' a' → a'.defers = a.defers → Sim G m' h' w' → Evo m h w m' h' w' → Q .normal a' w') : (Code.region id ops true).wp P Q a w := by
 obtain ⟨E, H, V, T⟩ := traj hev
 have hD := drawM_spec hM
 have hlen := hD.len
 refine wp_region_any hmix ?_
 have hw : (fun (x : World) => x.heap = w.heap) { w with drawn := w.drawn + 1 } := rfl
 have s' : Sim G m h { w with drawn := w.drawn + 1 } := s.world fun b L _ _ => rfl
 have ev' : Evo m h w m h { w with drawn := w.drawn + 1 } := ⟨Mp.le_refl m, Nat.le_refl _, fun b _ e => ⟨e, rfl⟩, rfl, rfl, Nat.le_refl _, fun _ _ _ => rfl, fun b L e o => .inr ⟨b, L, e, o, rfl⟩⟩
 obtain ⟨q, a1, a2, a3, a4⟩ := nextHeavy l ops.size 0 (Nat.zero_le _)
 obtain ⟨g, hg⟩ := T.grow (r := 0) (s := q) (Nat.zero_le _) (by omega) a3
 rw [T.h0] at hg
 have hoff : ∀ p, ¬ isOn D (Array.replicate ops.size false) p := by
  intro p hp
  unfold isOn at hp
  simp only [Array.getD_eq_getD_getElem?, Array.getElem?_replicate] at hp
  split at hp <;> simp at hp
 refine any_wp T hG hC hL hD (m0 := m) (a0 := a) (w0 := w) hQ ops.size _ q m a _ ⟨by simp, a2, fun p _ hp => absurd hp (hoff p), fun p h1 h2 => ?_, a4, fun p _ hp => absurd hp (hoff p), he.size, rfl, fun d v hs => ?_, by rw [hg]; exact s'.more g, by rw [hg]; exact ev'.more s' g, fun p hp _ ob hob => ?_⟩ ?_
 ·have := a3 p (Nat.zero_le _) h1; rw [h2] at this; cases this
 ·rcases hs with ⟨p, _, _, hp, _⟩ | ⟨_, hv⟩
  ·exact absurd hp (hoff p)
  ·exact he.get d v hv
 ·have hl := T.len hL (r := 0) (s := p) (Nat.zero_le _) (by omega)
  rw [T.h0] at hl
  refine ⟨?_, ?_⟩
  ·cases hk : m (H p).length with
   | none => rfl
   | some L => exact absurd (s.dom _ _ hk) (by omega)
  ·obtain ⟨g2, hg2⟩ := T.grow (r := p + 1) (s := q) (by omega) (by omega) fun x h1 h2 => a3 x (Nat.zero_le _) h2
   rw [hg2, hob, List.append_assoc, List.getElem?_append_right (Nat.le_refl _)]
   simp
 ·unfold unl
  exact Nat.le_trans (List.length_filter_le _ _) (by simp)
end
def CallLe (c c' : CallF) : Prop := ∀ f vs h r, c f vs h = some r → c' f vs h = some r
theorem CallLe.refl (c : CallF) : CallLe c c := fun _ _ _ _ h => h
section
variable {c c' : CallF}
theorem evOp_le (hc : CallLe c c') {op : SOp} {e : Env} {h : Heap} {r : CV × Heap} (hev : evOp c op e h = some r) : evOp c' op e h = some r := by
 cases op <;> simp only [evOp] at hev ⊢ <;> (try exact hev)
 ·split at hev
  ·exact hc _ _ _ _ hev
  ·cases hev
 ·split at hev
  ·exact hc _ _ _ _ hev
  ·cases hev
theorem recheckB_le (hc : CallLe c c') {all : List SOper} {e : Env} {h : Heap} : ∀ {re : List Nat}, recheckB c all e h re = true → recheckB c' all e h re = true
 | [], _ => rfl
 | p :: re, hR => by
   simp only [recheckB, Bool.and_eq_true] at hR ⊢
   refine ⟨?_, recheckB_le hc hR.2⟩
   have := hR.1
   cases ha : all[p]? with
   | none => simp [ha] at this
   | some s =>
     simp only [ha] at this ⊢
     cases hd : s.dst with
     | none => simp [hd] at this
     | some d =>
       simp only [hd] at this ⊢
       cases hw : wanted e s.guard with
       | none => simp [hw] at this
       | some b =>
         cases b with
         | false => rfl
         | true =>
           simp only [hw, Bool.and_eq_true] at this ⊢
           refine ⟨this.1, ?_⟩
           have h2 := this.2
           cases hg : e.get d with
           | none => simp [hg] at h2
           | some v =>
             cases ho : evOp c s.op e h with
             | none => simp [hg, ho] at h2
             | some q => rw [evOp_le hc ho]; simpa only [hg, ho] using h2
theorem evOper_le (hc : CallLe c c') {all : List SOper} {o : SOper} {e : Env} {h : Heap} {r : Env × Heap} (hev : evOper c all o e h = some r) : evOper c' all o e h = some r := by
 simp only [evOper] at hev ⊢
 cases hw : wanted e o.guard with
 | none => simp [hw] at hev
 | some b =>
   cases b with
   | false => simpa [hw] using hev
   | true =>
     simp only [hw] at hev ⊢
     cases h1 : evOp c o.op e h with
     | none => simp [h1] at hev
     | some p =>
       obtain ⟨v, h'⟩ := p
       rw [evOp_le hc h1]
       simp only [h1] at hev ⊢
       split at hev
       ·rename_i hR
        rw [if_pos (recheckB_le hc hR)]; exact hev
       ·cases hev
theorem evOps_le (hc : CallLe c c') {all : List SOper} : ∀ {l : List SOper} {e : Env} {h : Heap} {r : Env × Heap}, evOps c all l e h = some r → evOps c' all l e h = some r
 | [], e, h, r, hev => hev
 | o :: l, e, h, r, hev => by
   simp only [evOps] at hev ⊢
   cases h1 : evOper c all o e h with
   | none => simp [h1] at hev
   | some p => rw [evOper_le hc h1]; simp only [h1] at hev; exact evOps_le hc hev
theorem evC_le (hc : CallLe c c') : ∀ (n n' : Nat), n ≤ n' → ∀ {sc : SCode} {e : Env} {h : Heap} {r : Ex × Env × Heap}, evC c n sc e h = some r → evC c' n' sc e h = some r
 | 0, _, _, sc, e, h, r, hev => by simp [evC] at hev
 | n + 1, 0, hn, _, _, _, _, _ => by omega
 | n + 1, n' + 1, hn, sc, e, h, r, hev => by
   have ih := fun {sc e h r} (k : evC c n sc e h = some r) => evC_le hc n n' (by omega) (sc := sc) (e := e) (h := h) (r := r) k
   cases sc with
   | skip => simpa [evC] using hev
   | exit id => simpa [evC] using hev
   | ret => simpa [evC] using hev
   | ops l D keep =>
     simp only [evC] at hev ⊢
     cases h1 : evOps c l l e h with
     | none => simp [h1] at hev
     | some p => rw [evOps_le hc h1]; simpa only [h1] using hev
   | seq a b =>
     simp only [evC] at hev ⊢
     cases h1 : evC c n a e h with
     | none => simp [h1] at hev
     | some p =>
       rw [ih h1]
       obtain ⟨x, e1, h1'⟩ := p
       cases x <;> simp only [h1] at hev ⊢
       ·exact ih hev
       ·exact hev
       ·exact hev
   | cond x a b =>
     simp only [evC] at hev ⊢
     cases hx : x.ev e with
     | none => simp [hx] at hev
     | some v =>
       cases v <;> simp [hx] at hev ⊢
       rename_i t
       cases t <;> simp at hev ⊢ <;> exact ih hev
   | block id b =>
     simp only [evC] at hev ⊢
     cases h1 : evC c n b e h with
     | none => simp [h1] at hev
     | some p => rw [ih h1]; simpa only [h1] using hev
   | loop live b =>
     simp only [evC] at hev ⊢
     cases h1 : evC c n b (Env.only live e) h with
     | none => simp [h1] at hev
     | some p =>
       rw [ih h1]
       obtain ⟨x, e1, h1'⟩ := p
       cases x <;> simp only [h1] at hev ⊢
       ·exact ih hev
       ·exact hev
       ·exact hev
theorem evBody_le (hc : CallLe c c') {n n' : Nat} (hn : n ≤ n') {sf : SFunc} {vs : List CV} {h : Heap} {r : CV × Heap} (hev : evBody c n sf vs h = some r) : evBody c' n' sf vs h = some r := by
 simp only [evBody] at hev ⊢
 cases h1 : evC c n sf.body (args 0 vs) h with
 | none => simp [h1] at hev
 | some p => rw [evC_le hc n n' hn h1]; simpa only [h1] using hev
end
theorem evCall_le (Pg : Prog) (pr : Prims) : ∀ (n n' : Nat), n ≤ n' → CallLe (evCall Pg pr n) (evCall Pg pr n')
 | 0, _, _ => fun f vs h r hev => by simp [evCall] at hev
 | n + 1, 0, hn => by omega
 | n + 1, n' + 1, hn => fun f vs h r hev => by
   simp only [evCall] at hev ⊢
   cases hp : pr f with
   | some g => simpa only [hp] using hev
   | none =>
     simp only [hp] at hev ⊢
     cases hs : Pg f with
     | none => simp [hs] at hev
     | some sf =>
       simp only [hs] at hev ⊢
       exact evBody_le (evCall_le Pg pr n n' (by omega)) (by omega) hev
def codeM (P : Program) (G : Gam) (N : Nat) : Code → SCode → Bool
 | .skip, .skip => true
 | .label _, .skip => true
 | .region _ ops draw, .ops l D _ => (match draw, D with
   | false, none => opsM P G N ops ops.toList l
   | true, some D => drawM P G N ops l D
   | _, _ => false)
 | .seq a b, .seq a' b' => codeM P G N a a' && codeM P G N b b'
 | .cond c x y, .cond c' x' y' => opdM G c c' && codeM P G N x x' && codeM P G N y y'
 | .block id b, .block id' b' => id == id' && codeM P G N b b'
 | .loop b, .loop _ b' => codeM P G N b b'
 | .exit id, .exit id' => id == id'
 | .ret, .ret => true
 | .scope b, s => codeM P G N b s
 | _, _ => false
def Ex.go : Ex → Exit
 | .normal => .normal
 | .exit id => .exit id
 | .ret => .ret
section
variable {P : Program} {G : Gam} {N : Nat} {call : CallF}
theorem code_wp (hmix : P.follows .mixedOrders = true) (hG : Good P G) (hC : CallOK P G call) (hL : CallLen call) :
  ∀ (n : Nat) (c : Code) (sc : SCode), codeM P G N c sc = true → ∀ (m : Mp) (e : Env) (h : Heap) (a : Act) (w : World) (x : Ex) (e' : Env) (h' : Heap) (Q : Exit → Act → World → Prop), evC call n sc e h = some (x, e', h') → ER G m N e a → Sim G m h w →
   (∀ m' a' w', ER G m' N e' a' → a'.defers = a.defers → Sim G m' h' w' → Evo m h w m' h' w' → Q x.go a' w') → c.wp P Q a w := by
 intro n
 induction n with
 | zero => intro c sc _ m e h a w x e' h' Q hev; simp [evC] at hev
 | succ n ih =>
   intro c
   induction c with
   | scope b ihb =>
     intro sc hM m e h a w x e' h' Q hev he s hQ
     refine wp_scope_straight (ihb sc (by cases sc <;> exact hM) m e h a w x e' h' _ hev he s ?_)
     intro m' a' w' g1 g2 g3 g4
     have := hQ m' a' w' g1 g2 g3 g4
     cases x <;> exact this
   | skip =>
     intro sc hM m e h a w x e' h' Q hev he s hQ
     cases sc <;> simp [codeM] at hM
     simp [evC] at hev
     obtain ⟨rfl, rfl, rfl⟩ := hev
     exact wp_skip (hQ m a w he rfl s (Evo.refl ..))
   | label k =>
     intro sc hM m e h a w x e' h' Q hev he s hQ
     cases sc <;> simp [codeM] at hM
     simp [evC] at hev
     obtain ⟨rfl, rfl, rfl⟩ := hev
     exact wp_label (hQ m a w he rfl s (Evo.refl ..))
   | region id ops draw =>
     intro sc hM m e h a w x e' h' Q hev he s hQ
     cases sc <;> simp [codeM] at hM
     rename_i l D keep
     simp only [evC] at hev
     cases h1 : evOps call l l e h with
     | none => simp [h1] at hev
     | some p =>
       obtain ⟨e1, h1'⟩ := p
       simp [h1] at hev
       obtain ⟨rfl, rfl, rfl⟩ := hev
       cases draw <;> cases D <;> simp at hM
       ·refine wp_region ?_
        have := ops_wp hG hC (Q := Q) ops.toList l 0 (by simp) hM m e h a w e1 h1' l h1 he s fun m' a' w' g1 g2 g3 g4 => hQ m' a' w' (g1.only keep) g2 g3 g4
        rw [List.range_eq_range']
        simpa using this
       ·exact draw_wp hmix hG hC hL hM h1 he s fun m' a' w' g1 g2 g3 g4 => hQ m' a' w' (g1.only keep) g2 g3 g4
   | seq c1 c2 _ _ =>
     intro sc hM m e h a w x e' h' Q hev he s hQ
     cases sc <;> simp [codeM] at hM
     rename_i s1 s2
     simp only [evC] at hev
     cases h1 : evC call n s1 e h with
     | none => simp [h1] at hev
     | some p =>
       obtain ⟨x1, e1, h1'⟩ := p
       cases x1 with
       | normal =>
         simp [h1] at hev
         refine wp_seq (ih c1 s1 hM.1 m e h a w .normal e1 h1' _ h1 he s ?_)
         intro m1 a1 w1 g1 g2 g3 g4
         show c2.wp P Q a1 w1
         refine ih c2 s2 hM.2 m1 e1 h1' a1 w1 x e' h' Q hev g1 g3 ?_
         intro m2 a2 w2 k1 k2 k3 k4
         exact hQ m2 a2 w2 k1 (k2.trans g2) k3 (g4.trans k4)
       | exit id =>
         simp [h1] at hev
         obtain ⟨rfl, rfl, rfl⟩ := hev
         exact wp_seq (ih c1 s1 hM.1 m e h a w _ _ _ _ h1 he s fun m' a' w' g1 g2 g3 g4 => hQ m' a' w' g1 g2 g3 g4)
       | ret =>
         simp [h1] at hev
         obtain ⟨rfl, rfl, rfl⟩ := hev
         exact wp_seq (ih c1 s1 hM.1 m e h a w _ _ _ _ h1 he s fun m' a' w' g1 g2 g3 g4 => hQ m' a' w' g1 g2 g3 g4)
   | cond c x1 x2 _ _ =>
     intro sc hM m e h a w x e' h' Q hev he s hQ
     cases sc <;> simp [codeM] at hM
     rename_i c' s1 s2
     simp only [evC] at hev
     cases hc : c'.ev e with
     | none => simp [hc] at hev
     | some cv =>
       cases cv <;> simp [hc] at hev
       rename_i b
       have hb := tr_bool (opd_sim he hM.1.1 hc)
       cases b with
       | true => simp at hev; exact wp_cond_true hb (ih x1 s1 hM.1.2 m e h a w x e' h' Q hev he s hQ)
       | false => simp at hev; exact wp_cond_false hb (ih x2 s2 hM.2 m e h a w x e' h' Q hev he s hQ)
   | block id b _ =>
     intro sc hM m e h a w x e' h' Q hev he s hQ
     cases sc <;> simp [codeM] at hM
     rename_i id' b'
     obtain ⟨rfl, hM⟩ := hM
     simp only [evC] at hev
     cases h1 : evC call n b' e h with
     | none => simp [h1] at hev
     | some p =>
       obtain ⟨x1, e1, h1'⟩ := p
       refine wp_block (ih b b' hM m e h a w x1 e1 h1' _ h1 he s ?_)
       intro m1 a1 w1 g1 g2 g3 g4
       cases x1 with
       | normal =>
         simp [h1] at hev
         obtain ⟨rfl, rfl, rfl⟩ := hev
         exact hQ m1 a1 w1 g1 g2 g3 g4
       | exit i =>
         simp [h1] at hev
         show (if i = id then Q .normal a1 w1 else Q (.exit i) a1 w1)
         split at hev
         ·rename_i hi
          simp at hev
          obtain ⟨rfl, rfl, rfl⟩ := hev
          rw [if_pos hi]; exact hQ m1 a1 w1 g1 g2 g3 g4
         ·rename_i hi
          simp at hev
          obtain ⟨rfl, rfl, rfl⟩ := hev
          rw [if_neg hi]; exact hQ m1 a1 w1 g1 g2 g3 g4
       | ret =>
         simp [h1] at hev
         obtain ⟨rfl, rfl, rfl⟩ := hev
         exact hQ m1 a1 w1 g1 g2 g3 g4
   | loop b _ =>
     intro sc hM m e h a w x e' h' Q hev he s hQ
     cases sc <;> simp [codeM] at hM
     rename_i live b'
     refine wp_loop_ghost (fun k a1 w1 => k ≤ n + 1 ∧ ∃ m1 e1 h1, evC call k (.loop live b') e1 h1 = some (x, e', h') ∧ ER G m1 N e1 a1 ∧ a1.defers = a.defers ∧ Sim G m1 h1 w1 ∧ Evo m h w m1 h1 w1) (n + 1) ⟨Nat.le_refl _, m, e, h, hev, he, rfl, s, Evo.refl ..⟩ ?_
     rintro k a1 w1 ⟨hk, m1, e1, h1, hev1, he1, hd1, s1, ev1⟩
     cases k with
     | zero => simp [evC] at hev1
     | succ k =>
       simp only [evC] at hev1
       cases hb : evC call k b' (Env.only live e1) h1 with
       | none => simp [hb] at hev1
       | some p =>
         obtain ⟨x2, e2, h2⟩ := p
         refine ih b b' hM m1 (Env.only live e1) h1 a1 w1 x2 e2 h2 _ (evC_le (CallLe.refl call) k n (by omega) hb) (he1.only live) s1 ?_
         intro m2 a2 w2 g1 g2 g3 g4
         cases x2 with
         | normal =>
           simp [hb] at hev1
           exact ⟨k, Nat.lt_succ_self k, by omega, m2, e2, h2, hev1, g1, g2.trans hd1, g3, ev1.trans g4⟩
         | exit i =>
           simp [hb] at hev1
           obtain ⟨rfl, rfl, rfl⟩ := hev1
           exact hQ m2 a2 w2 g1 (g2.trans hd1) g3 (ev1.trans g4)
         | ret =>
           simp [hb] at hev1
           obtain ⟨rfl, rfl, rfl⟩ := hev1
           exact hQ m2 a2 w2 g1 (g2.trans hd1) g3 (ev1.trans g4)
   | exit id =>
     intro sc hM m e h a w x e' h' Q hev he s hQ
     cases sc <;> simp [codeM] at hM
     subst hM
     simp [evC] at hev
     obtain ⟨rfl, rfl, rfl⟩ := hev
     exact wp_exit (hQ m a w he rfl s (Evo.refl ..))
   | ret =>
     intro sc hM m e h a w x e' h' Q hev he s hQ
     cases sc <;> simp [codeM] at hM
     simp [evC] at hev
     obtain ⟨rfl, rfl, rfl⟩ := hev
     exact wp_ret (hQ m a w he rfl s (Evo.refl ..))
   | goto k => intro sc hM; cases sc <;> simp [codeM] at hM
   | refuse y => intro sc hM; cases sc <;> simp [codeM] at hM
   | rangeFunc f ps c1 c2 _ _ => intro sc hM; cases sc <;> simp [codeM] at hM
theorem evOps_len (hL : CallLen call) {all : List SOper} : ∀ {l : List SOper} {e e' : Env} {h h' : Heap}, evOps call all l e h = some (e', h') → h.length ≤ h'.length
 | [], e, e', h, h', hev => by simp [evOps] at hev; rw [hev.2]; exact Nat.le_refl _
 | o :: l, e, e', h, h', hev => by
   simp only [evOps] at hev
   cases h1 : evOper call all o e h with
   | none => simp [h1] at hev
   | some p =>
     obtain ⟨e1, h1'⟩ := p
     simp only [h1] at hev
     have hk := evOps_len hL hev
     refine Nat.le_trans ?_ hk
     simp only [evOper] at h1
     cases hw : wanted e o.guard with
     | none => simp [hw] at h1
     | some b =>
       cases b with
       | false => simp [hw] at h1; rw [h1.2]; exact Nat.le_refl _
       | true =>
         simp only [hw] at h1
         cases h2 : evOp call o.op e h with
         | none => simp [h2] at h1
         | some q =>
           obtain ⟨v, h3⟩ := q
           simp only [h2] at h1
           split at h1
           ·simp at h1; rw [← h1.2]; exact evOp_len hL h2
           ·cases h1
theorem evC_len (hL : CallLen call) : ∀ (n : Nat) {sc : SCode} {e e' : Env} {h h' : Heap} {x : Ex}, evC call n sc e h = some (x, e', h') → h.length ≤ h'.length
 | 0, sc, e, e', h, h', x, hev => by simp [evC] at hev
 | n + 1, sc, e, e', h, h', x, hev => by
   have ih := fun {sc e e' h h' x} (k : evC call n sc e h = some (x, e', h')) => evC_len hL n (sc := sc) (e := e) (e' := e') (h := h) (h' := h') (x := x) k
   cases sc with
   | skip => simp [evC] at hev; rw [hev.2.2]; exact Nat.le_refl _
   | exit id => simp [evC] at hev; rw [hev.2.2]; exact Nat.le_refl _
   | ret => simp [evC] at hev; rw [hev.2.2]; exact Nat.le_refl _
   | ops l D keep =>
     simp only [evC] at hev
     cases h1 : evOps call l l e h with
     | none => simp [h1] at hev
     | some p => obtain ⟨e1, h1'⟩ := p; simp [h1] at hev; rw [← hev.2.2]; exact evOps_len hL h1
   | seq a b =>
     simp only [evC] at hev
     cases h1 : evC call n a e h with
     | none => simp [h1] at hev
     | some p =>
       obtain ⟨x1, e1, h1'⟩ := p
       cases x1 <;> simp only [h1] at hev
       ·exact Nat.le_trans (ih h1) (ih hev)
       ·simp at hev; rw [← hev.2.2]; exact ih h1
       ·simp at hev; rw [← hev.2.2]; exact ih h1
   | cond y a b =>
     simp only [evC] at hev
     cases hx : y.ev e with
     | none => simp [hx] at hev
     | some v =>
       cases v <;> simp [hx] at hev
       rename_i t
       cases t <;> simp at hev <;> exact ih hev
   | block id b =>
     simp only [evC] at hev
     cases h1 : evC call n b e h with
     | none => simp [h1] at hev
     | some p =>
       obtain ⟨x1, e1, h1'⟩ := p
       cases x1 <;> simp only [h1] at hev
       ·simp at hev; rw [← hev.2.2]; exact ih h1
       ·split at hev <;> (simp at hev; rw [← hev.2.2]; exact ih h1)
       ·simp at hev; rw [← hev.2.2]; exact ih h1
   | loop live b =>
     simp only [evC] at hev
     cases h1 : evC call n b (Env.only live e) h with
     | none => simp [h1] at hev
     | some p =>
       obtain ⟨x1, e1, h1'⟩ := p
       cases x1 <;> simp only [h1] at hev
       ·exact Nat.le_trans (ih h1) (ih hev)
       ·simp at hev; rw [← hev.2.2]; exact ih h1
       ·simp at hev; rw [← hev.2.2]; exact ih h1
def rvM (P : Program) : List ResultVar → List RV → Bool
 | [], [] => true
 | .tmp t :: r, .t t' :: r' => t == t' && rvM P r r'
 | .cell a t :: r, .cell n t' :: r' => a == t' && ldM P t n && rvM P r r'
 | _, _ => false
def rvGet (tmps : Array Value) : ResultVar → Sem Value
 | .tmp t => pure (tmps.getD t undef)
 | .cell b t => do loadVar t (← asAddr (tmps.getD b undef))
theorem results_eq (fn : Func) (tmps : Array Value) : results fn tmps = (do let vs ← fn.results.mapM (rvGet tmps); pure (if h : vs.size = 1 then vs[0] else .tuple vs)) := by
 unfold results
 have : (fun x : ResultVar => match x with | .tmp t => (pure (tmps.getD t undef) : Sem Value) | .cell a t => do loadVar t (← asAddr (tmps.getD a undef))) = rvGet tmps := by
  funext x; cases x <;> rfl
 rw [← this]
 rfl
theorem rvs_sim {m : Mp} {e : Env} {h : Heap} {a : Act} {w : World} (he : ER G m N e a) (s : Sim G m h w) : ∀ (R : List ResultVar) (R' : List RV) (rs : List CV), rvM P R R' = true → rvs e h R' = some rs →
  ∃ vs, (R.mapM (rvGet a.tmps)).run P w = .ok vs w ∧ trL G m rs = some vs
 | [], [], rs, _, hr => by simp [rvs] at hr; subst hr; exact ⟨[], by simp, rfl⟩
 | [], _ :: _, _, hM, _ => by simp [rvM] at hM
 | .tmp t :: R, [], _, hM, _ => by simp [rvM] at hM
 | .cell _ _ :: R, [], _, hM, _ => by simp [rvM] at hM
 | .tmp t :: R, .cell _ _ :: R', _, hM, _ => by simp [rvM] at hM
 | .cell _ _ :: R, .t _ :: R', _, hM, _ => by simp [rvM] at hM
 | .tmp t :: R, .t t' :: R', rs, hM, hr => by
   simp [rvM] at hM
   obtain ⟨rfl, hM⟩ := hM
   simp only [rvs] at hr
   cases hg : Env.get e t with
   | none => simp [hg] at hr
   | some v =>
     cases hrs : rvs e h R' with
     | none => simp [hg, hrs] at hr
     | some vs =>
       simp [hg, hrs] at hr; subst hr
       obtain ⟨us, g1, g2⟩ := rvs_sim he s R R' vs hM hrs
       have hv := opd_sim he (x := .tmp t) (y := .t t) (by simp [opdM]) (v := v) hg
       refine ⟨a.tmps.getD t undef :: us, ?_, trL_cons_mk hv g2⟩
       rw [List.mapM_cons]
       simp only [rvGet, Sem.run_bind, Sem.run_pure, Result.andThen_ok, g1]
 | .cell b t :: R, .cell n t' :: R', rs, hM, hr => by
   simp [rvM] at hM
   obtain ⟨⟨rfl, hld⟩, hM⟩ := hM
   simp only [rvs] at hr
   cases hg : Env.get e b with
   | none => simp [hg] at hr
   | some v =>
     cases v <;> simp [hg] at hr
     rename_i bb oo
     cases hl : loadAt h bb oo n with
     | none => simp [hl] at hr
     | some v =>
       cases hrs : rvs e h R' with
       | none => simp [hl, hrs] at hr
       | some vs =>
         simp [hl, hrs] at hr; subst hr
         obtain ⟨us, g1, g2⟩ := rvs_sim he s R R' vs hM hrs
         have hv := opd_sim he (x := .tmp b) (y := .t b) (by simp [opdM]) (v := .ptr bb oo) hg
         obtain ⟨L, q1, q2⟩ := tr_ptr hv
         obtain ⟨rv, k1, k2⟩ := loadAt_sim (P := P) s q1 hld hl
         refine ⟨rv :: us, ?_, trL_cons_mk k2 g2⟩
         have q2' : a.tmps.getD b undef = .pointer (some (L.ad oo)) := q2
         rw [List.mapM_cons]
         simp only [rvGet, Sem.run_bind, q2', asAddr, Sem.run_pure, Result.andThen_ok, k1, g1]
theorem results_sim {m : Mp} {e : Env} {h : Heap} {a : Act} {w : World} (he : ER G m N e a) (s : Sim G m h w) {fn : Func} {R' : List RV} {rs : List CV} (hM : rvM P fn.results.toList R' = true) (hr : rvs e h R' = some rs) :
  ∃ rv, (results fn a.tmps).run P w = .ok rv w ∧ tr G m (result rs) = some rv := by
 obtain ⟨vs, g1, g2⟩ := rvs_sim he s _ R' rs hM hr
 have hlen := trL_length g2
 refine ⟨if hh : vs.toArray.size = 1 then vs.toArray[0] else .tuple vs.toArray, ?_, ?_⟩
 ·rw [results_eq, Sem.run_bind, Array.mapM_eq_mapM_toList, Sem.run_map, g1]
  rfl
 ·match rs, vs, g2, hlen with
  | [], [], _, _ => rfl
  | [r], [v], g2, _ =>
    obtain ⟨x, xs, h1, h2, h3⟩ := trL_cons g2
    simp [trL] at h2; subst h2
    simp at h3; subst h3
    exact h1
  | r :: r2 :: rs, v :: v2 :: vs, g2, _ =>
    simp [result, tr, g2]
  | [], _ :: _, _, hl => simp at hl
  | [_], [], _, hl => simp at hl
  | [_], _ :: _ :: _, _, hl => simp at hl
  | _ :: _ :: _, [], _, hl => simp at hl
  | _ :: _ :: _, [_], _, hl => simp at hl
def funM (P : Program) (G : Gam) (sf : SFunc) (fn : Func) : Bool :=
 (match fn.body with | some c => codeM P G fn.ntmps c sf.body | none => false) && rvM P fn.results.toList sf.results && !(fn.name == "runtime.NumGoroutine")
theorem args_get : ∀ (vs : List CV) (k i : Nat) (v : CV), Env.get (args k vs) i = some v → k ≤ i ∧ vs[i - k]? = some v
 | [], k, i, v, h => by simp [args, Env.get] at h
 | u :: vs, k, i, v, h => by
   simp only [args, Env.get] at h
   by_cases hi : i = k
   ·subst hi; simp at h; subst h; simp
   ·rw [if_neg hi] at h
    obtain ⟨h1, h2⟩ := args_get vs (k + 1) i v h
    exact ⟨by omega, by rw [show i - k = (i - (k + 1)) + 1 by omega]; simpa using h2⟩
def Linked (P : Program) (G : Gam) (Pg : Prog) : Prop :=
 ∀ f fid, G.F f = some fid → ∀ sf, Pg f = some sf → ∃ fn, P.funcs[fid]? = some fn ∧ funM P G sf fn = true
def PrimOK (P : Program) (G : Gam) (pr : Prims) : Prop :=
 ∀ f g, pr f = some g → ∀ vs h r h', g vs h = some (r, h') → h.length ≤ h'.length ∧ ∀ fid, G.F f = some fid → CallSim P G fid vs h r h'
theorem call_all (hmix : P.follows .mixedOrders = true) (hG : Good P G) {Pg : Prog} {pr : Prims} (hLk : Linked P G Pg) (hPr : PrimOK P G pr) : ∀ n, CallOK P G (evCall Pg pr n) ∧ CallLen (evCall Pg pr n)
 | 0 => ⟨fun f vs h r h' hev => by simp [evCall] at hev, fun f vs h r h' hev => by simp [evCall] at hev⟩
 | n + 1 => by
   obtain ⟨ih1, ih2⟩ := call_all hmix hG hLk hPr n
   refine ⟨?_, ?_⟩
   ·intro f vs h r h' hev fid hf
    simp only [evCall] at hev
    cases hp : pr f with
    | some g => simp only [hp] at hev; exact (hPr f g hp vs h r h' hev).2 fid hf
    | none =>
      simp only [hp] at hev
      cases hs : Pg f with
      | none => simp [hs] at hev
      | some sf =>
        simp only [hs] at hev
        obtain ⟨fn, h1, h2⟩ := hLk f fid hf sf hs
        simp only [funM, Bool.and_eq_true] at h2
        obtain ⟨⟨h2, h3⟩, h4⟩ := h2
        cases hb : fn.body with
        | none => simp [hb] at h2
        | some c =>
          simp only [hb] at h2
          simp only [evBody] at hev
          intro m w rvs s hv
          cases hc : evC (evCall Pg pr n) n sf.body (args 0 vs) h with
          | none => simp [hc] at hev
          | some p =>
            obtain ⟨x, e1, h1'⟩ := p
            refine calls_of_wp h1 hb ?_
            have hER : ER G m fn.ntmps (args 0 vs) { tmps := rvs.toArray ++ Array.replicate (fn.ntmps - rvs.toArray.size) undef, defers := [] } := by
             refine ⟨by simp; omega, fun i v hi => ?_⟩
             obtain ⟨_, hi⟩ := args_get vs 0 i v hi
             obtain ⟨rv, k1, k2⟩ := trL_get hv _ v hi
             refine ⟨rv, k1, ?_⟩
             have hlt : i < rvs.length := by have := (List.getElem?_eq_some_iff.1 k2).1; simpa using this
             rw [Array.getElem?_append_left (by simpa using hlt)]
             simpa using k2
            refine code_wp hmix hG ih1 ih2 n c sf.body h2 m _ h _ w x e1 h1' _ hc hER s ?_
            intro m' a' w' g1 g2 g3 g4
            cases x with
            | exit id => simp [hc] at hev
            | normal =>
              simp only [hc] at hev
              cases hr : Cl.rvs e1 h1' sf.results with
              | none => simp [hr] at hev
              | some rs =>
                simp [hr] at hev
                obtain ⟨rfl, rfl⟩ := hev
                obtain ⟨rv, q1, q2⟩ := results_sim (fn := fn) g1 g3 h3 hr
                exact ⟨g2, rv, q1, m', rv, rfl, q2, g3, g4⟩
            | ret =>
              simp only [hc] at hev
              cases hr : Cl.rvs e1 h1' sf.results with
              | none => simp [hr] at hev
              | some rs =>
                simp [hr] at hev
                obtain ⟨rfl, rfl⟩ := hev
                obtain ⟨rv, q1, q2⟩ := results_sim (fn := fn) g1 g3 h3 hr
                exact ⟨g2, rv, q1, m', rv, rfl, q2, g3, g4⟩
   ·intro f vs h r h' hev
    simp only [evCall] at hev
    cases hp : pr f with
    | some g => simp only [hp] at hev; exact (hPr f g hp vs h r h' hev).1
    | none =>
      simp only [hp] at hev
      cases hs : Pg f with
      | none => simp [hs] at hev
      | some sf =>
        simp only [hs, evBody] at hev
        cases hc : evC (evCall Pg pr n) n sf.body (args 0 vs) h with
        | none => simp [hc] at hev
        | some p =>
          obtain ⟨x, e1, h1'⟩ := p
          have hl := evC_len ih2 n hc
          cases x <;> simp only [hc] at hev
          ·split at hev
           ·simp at hev; rw [← hev.2]; exact hl
           ·cases hev
          ·cases hev
          ·split at hev
           ·simp at hev; rw [← hev.2]; exact hl
           ·cases hev
end
end Go.Cl
