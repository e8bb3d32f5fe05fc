/-
  Texts laid together: LJoin LBld ClBld LBldP LPrim RBS1.
-/
import Derived.Test.YtlndogibbgibgaaGreatDoorM3
import Derived.Test.YtlndogibbgibgaaGreatDoorM4
import Derived.Test.YtlndogibbgibgaaGreatDoorLink
import Derived.Test.YtlndogibbgibgaaGreatDoorShelf
import Derived.Shelf.Strings.OnBuilder
import Derived.Shelf.Strings.BuilderK
import Derived.Shelf.Strings.SlTrimAscii
import Derived.Test.YtlndogibbgibgaaGreatDoorRows
import Derived.Test.YtlndogibbgibgaaGreatDoorCards
import Derived.Test.YtlndogibbgibgaaGreatDoorTie
import Derived.Test.YtlndogibbgibgaaGreatDoorMG
import Derived.Lay
import Derived.LaidMore
import Derived.MakeChecks
import Derived.SevenTiedAt
namespace Go.Proofs.YtlndogibbgibgaaGreatDoor
open Go Go.Cl
set_option linter.unusedSimpArgs false
set_option linter.unusedVariables false
theorem joinL_eq (sep : List UInt8) : ∀ (l : List (List UInt8)), joinL sep l = Lib.join l sep
 | [] => rfl
 | [w] => (Lib.join_one w sep).symm
 | w :: v :: r => by
   have ih := joinL_eq sep (v :: r)
   rw [joinL, ih, Lib.join_cons, Lib.join_cons]
   simp [Lib.joinTail, List.append_assoc]
theorem strsOf_get : ∀ {cs : List CV} {xs : List (List UInt8)}, strsOf cs = some xs → cs.length = xs.length ∧ ∀ (i : Nat) x, xs[i]? = some x → cs[i]? = some (.str x)
 | [], xs, h => by
   have : xs = [] := by simpa [strsOf] using h.symm
   subst this
   exact ⟨rfl, fun i x hx => by simp at hx⟩
 | c :: r, xs, h => by
   cases c <;> (try (simp [strsOf] at h; done))
   rename_i s
   simp only [strsOf] at h
   cases hr : strsOf r with
   | none => simp [hr] at h
   | some l =>
     simp [hr] at h
     subst h
     obtain ⟨h1, h2⟩ := strsOf_get hr
     refine ⟨by simp [h1], fun i x hx => ?_⟩
     cases i with
     | zero => simp at hx; subst hx; rfl
     | succ i => simp at hx ⊢; exact h2 i x hx
theorem p128_ok {vs : List CV} {h h' : Heap} {r : CV} (hev : p128 vs h = some (r, h')) : h.length ≤ h'.length ∧ ∀ fid, gam.F 128 = some fid → CallSim Tryz.prog gam fid vs h r h' := by
 unfold p128 at hev
 split at hev
 ·rename_i hh sep
  simp at hev
  obtain ⟨rfl, rfl⟩ := hev
  refine ⟨Nat.le_refl _, fun fid hf => ?_⟩
  have e := Option.some.inj (hf.symm.trans (show gam.F 128 = some _ from rfl))
  subst e
  refine calm_sim fun m w rvs si ht => ?_
  obtain ⟨x, xs, hx, ht1, rfl⟩ := trL_cons ht
  obtain rfl := tr_nils hx
  obtain ⟨_, rfl, ht2⟩ := trL_str ht1
  obtain rfl := trL_nil ht2
  refine ⟨_, ?_, (Go.Proofs.Any.strings_Join_none Tryz.lays156 Tryz.Builder_Extra_156 none 0 ⟨sep.toArray⟩ w).mono fun e w' ⟨he, hw⟩ => ⟨he, hw ▸ Calm.refl w⟩⟩
  simp [tr]
 ·rename_i _ b o n c sep
  split at hev
  ·rename_i cs hcs
   split at hev
   ·rename_i xs hxs
    split at hev
    ·rename_i hc
     obtain ⟨hc1, hc2, hc3⟩ := hc
     simp only [Option.some.injEq, Prod.mk.injEq] at hev
     obtain ⟨rfl, rfl⟩ := hev
     refine ⟨Nat.le_refl _, fun fid hf => ?_⟩
     have e := Option.some.inj (hf.symm.trans (show gam.F 128 = some _ from rfl))
     subst e
     refine calm_sim fun m w rvs si ht => ?_
     obtain ⟨x, xs', hx, ht1, rfl⟩ := trL_cons ht
     obtain ⟨L, hL, rfl⟩ := tr_sl hx
     obtain ⟨_, rfl, ht2⟩ := trL_str ht1
     obtain rfl := trL_nil ht2
     obtain ⟨g1, g2⟩ := strsOf_get hxs
     unfold cellsAt at hcs
     cases hb : h[b]? with
     | none => simp [hb] at hcs
     | some ob =>
       rw [hb] at hcs
       cases ob <;> (try (simp at hcs; done))
       rename_i ds st
       simp only at hcs
       split at hcs
       ·rename_i hlen
        simp only [Option.some.injEq] at hcs
        have hn : n = xs.length := by rw [← g1, ← hcs]; simp; omega
        by_cases h0 : n = 0
        ·subst h0
         have hx0 : xs = [] := List.eq_nil_of_length_eq_zero hn.symm
         subst hx0
         refine ⟨_, ?_, (Go.Proofs.Any.strings_Join_none Tryz.lays156 Tryz.Builder_Extra_156 (some (L.ad o)) (c + L.slack) ⟨sep.toArray⟩ w).mono fun e w' ⟨he, hw⟩ => ⟨he, hw ▸ Calm.refl w⟩⟩
         simp [tr, joinL]
        ·have hR := si.obj b L _ hL hb
         rcases hR with ⟨hd, _⟩ | ⟨C, e, fr, hsp, hC, hcells, _⟩
         ·subst hd; simp at hlen; omega
         ·have hbk : L.blk < w.heap.size := (Array.getElem?_eq_some_iff.1 hC).1
          rw [Loc.ad_none hsp]
          have hjl : (Lib.join ((xs.map fun x => (⟨x.toArray⟩ : ByteArray)).map (·.data.toList)) sep) = joinL sep xs := by
           rw [joinL_eq, List.map_map, show ((fun x : ByteArray => x.data.toList) ∘ fun x : List UInt8 => (⟨x.toArray⟩ : ByteArray)) = id from rfl, List.map_id]
          have hJ := Go.Proofs.Any.strings_Join Tryz.lays156 Tryz.Builder_Extra_156 L.blk (L.off + o) (c + L.slack) (xs.map fun x => ⟨x.toArray⟩) ⟨sep.toArray⟩ w (fun j x hx => ?_) hbk (by simp; omega) (by simp; omega) (by
           show (Lib.join _ sep).length ≤ _
           rw [hjl]; exact hc3)
          ·rw [List.length_map, ← hn] at hJ
           refine ⟨.string ⟨(joinL sep xs).toArray⟩, by simp [tr], hJ.mono fun e w' ⟨he, hw⟩ => ⟨?_, Calm.below hw⟩⟩
           rw [he]
           show Ending.returned (Value.string ⟨(Lib.join _ sep).toArray⟩) = _
           rw [hjl]
          ·rw [List.getElem?_map] at hx
           cases hq : xs[j]? with
           | none => simp [hq] at hx
           | some y =>
             simp [hq] at hx
             subst hx
             have h3 := g2 j y hq
             rw [← hcs, List.getElem?_take] at h3
             split at h3
             ·rw [List.getElem?_drop] at h3
              obtain ⟨rv, k1, k2⟩ := hcells _ _ h3
              simp [tr] at k1
              subst k1
              simp only [World.cell?, hC]
              rw [Nat.add_assoc]
              simpa using k2
             ·cases h3
       ·cases hcs
    ·cases hev
   ·cases hev
  ·cases hev
 ·cases hev
end Go.Proofs.YtlndogibbgibgaaGreatDoor
namespace Go.Proofs
open Go.Shelf Go.RowKit
set_option linter.unusedVariables false
set_option linter.unusedSimpArgs false
section
variable {P : Program} {w : World} {base e : Nat}
theorem bldRow_base {b' : Nat} {v : Value} {n : Nat} {xs : List Value} (h : w.ownsRowF base e 1 v n xs) (hb : b' ≤ base) : w.ownsRowF b' e 1 v n xs := by
 refine ⟨h.1, ?_⟩
 rcases h.2 with hn | ⟨g, cap, cur, fz, hv, hbg, r⟩
 ·exact .inl hn
 ·exact .inr ⟨g, cap, cur, fz, hv, Nat.le_trans hb hbg, r⟩
theorem bld_append (w : World) (t u ty e : TypeId) (i : TypeInfo) (ht : P.underlying t = some (.slice e)) (hu : P.underlying u = some .string) (hi : P.info? e = some i) (hz : i.zero = some (.int .u8 0))
  (hsize : i.size = 1) (hby : i.bytes = 1) (v : Value) (n : Nat) (xs : List Value) (hown : w.ownsRowF 0 e 1 v n xs) (s : ByteArray) (h63 : n + s.size ≤ maxLen) (hbytes : n + s.size ≤ 140737488355328) :
  ∃ v' w', (Builtin.append_ #[t, u] ty #[v, .string s]).run P w = .ok v' w' ∧ w'.ownsRowF 0 e 1 v' (n + s.size) (xs ++ Lib.strCells s) ∧ w.grownBy w' v.ownBlock ∧
   (v'.ownBlock = v.ownBlock ∨ ∃ g', v'.ownBlock = some g' ∧ w.heap.size ≤ g') := by
 rcases hown.2 with ⟨rfl, rfl⟩ | ⟨g, cap, cur, fz, rfl, hbg, hg, hfz, hnc, hcm, hcs, htake⟩
 ·obtain ⟨v', w', h1, h2, h3, _⟩ := Lib.run_append_own_stringF (P := P) w w.heap.size t u ty e i ht hu hi hz hsize hby (.slice none 0 0) 0 xs ⟨hown.1, .inl ⟨rfl, rfl⟩⟩ s h63 hbytes (Nat.le_refl _)
  refine ⟨v', w', h1, bldRow_base h2 (Nat.zero_le _), h3, ?_⟩
  rcases h2.2 with ⟨rfl, _⟩ | ⟨g, cap, cur, fz, rfl, hbg, _⟩
  ·exact .inl rfl
  ·exact .inr ⟨g, rfl, hbg⟩
 ·obtain ⟨v', w', h1, h2, h3, _⟩ := Lib.run_append_own_stringF (P := P) w 0 t u ty e i ht hu hi hz hsize hby _ n xs hown s h63 hbytes (Nat.zero_le _)
  refine ⟨v', w', h1, h2, h3, ?_⟩
  by_cases hroom : n + s.size ≤ cap
  ·have hr := Lib.run_append_room_stringF (P := P) w t u ty e i ht hu hi hsize g n cap cur fz hg (by simpa using hfz) s hroom (by simp at hcs; omega)
   rw [h1] at hr
   have : v' = _ := (Result.ok.inj hr).1
   subst this
   exact .inl rfl
  ·have hxl : xs.length = n := by simpa using hown.1
   have holds : ∀ j u, xs[j]? = some u → w.cell? ((⟨g, 0, none⟩ : Addr).add j) = some u := hown.cells (g := g) rfl
   have hr := Lib.run_append_grow_string (P := P) w t u ty e i (.int .u8 0) ht hu hi hz ⟨g, 0, none⟩ n cap xs (by rw [hsize]; simpa using hxl) holds s (by omega) (by simp only [maxLen] at h63; omega) (by rw [hby]; exact growslice_fits (by omega) (by omega))
   rw [h1] at hr
   have : v' = _ := (Result.ok.inj hr).1
   subst this
   exact .inr ⟨_, rfl, Nat.le_refl _⟩
theorem bld_append_op {ops : Array Oper} {rest : List Oper} {o : Oper} {a : Act} {Q : Exit → Act → World → Prop} (hgd : o.guard = none) (sl x : Operand) (t u : TypeId)
  (ho : o.op = .call { callee := .builtin .append, args := #[sl, x], argTypes := #[t, u] })
  (e : TypeId) (i : TypeInfo) (ht : P.underlying t = some (.slice e)) (hu : P.underlying u = some .string) (hi : P.info? e = some i) (hz : i.zero = some (.int .u8 0))
  (hsize : i.size = 1) (hby : i.bytes = 1) (v : Value) (n : Nat) (xs : List Value) (hs : a.eval sl = v) (hown : w.ownsRowF 0 e 1 v n xs) (s : ByteArray) (hx : a.eval x = .string s)
  (h63 : n + s.size ≤ maxLen) (hbytes : n + s.size ≤ 140737488355328)
  (h : ∀ v' w', w'.ownsRowF 0 e 1 v' (n + s.size) (xs ++ Lib.strCells s) → w.grownBy w' v.ownBlock → (v'.ownBlock = v.ownBlock ∨ ∃ g', v'.ownBlock = some g' ∧ w.heap.size ≤ g') → wpList P ops Q rest (a.put o.dst v') w') : wpList P ops Q (o :: rest) a w := by
 refine wpList_plain hgd fun K hK => ?_
 obtain ⟨v', w', hr, h2, h3, h4⟩ := bld_append (P := P) w t u o.type e i ht hu hi hz hsize hby v n xs hown s h63 hbytes
 unfold Oper.wp execOp
 simp only [ho, resolve, invoke, builtin, Sem.run_bind, Sem.run_pure, Result.andThen_ok, List.map_toArray, List.map_cons, List.map_nil, hs, hx, hr]
 exact hK _ _ (h v' w' h2 h3 h4)
end
variable {P : Program} {ρ : Ren}
def Used (b : Nat) (w w1 : World) : Prop := w1 = w ∨ w1 = w.setCell ⟨b, 0, none⟩ (.pointer (some ⟨b, 0, none⟩))
theorem bld_check (L : Lays.n240 P ρ) (X : Builder.X72 P ρ) (b : Nat) (p v : Value) (w : World) (hp : p = .pointer none ∨ p = .pointer (some ⟨b, 0, none⟩)) (hbk : w.heap[b]? = some (.cells #[p, v] (ρ.t 72) (0, 0))) :
  Calls P (ρ.f 240) #[.pointer (some ⟨b, 0, none⟩)] w fun e w' => e = .returned (.tuple #[]) ∧ Used b w w' ∧ w'.heap[b]? = some (.cells #[.pointer (some ⟨b, 0, none⟩), v] (ρ.t 72) (0, 0)) := by
 rcases hp with rfl | rfl
 ·refine (Any.Builder_copyCheck_fresh L X b w (by rw [Lib.cell_of_heap hbk]; rfl) (by simp [World.shape?, hbk]) (Lib.frozen_of_heap hbk 0)).mono ?_
  rintro e w' ⟨rfl, rfl⟩
  refine ⟨rfl, .inr rfl, ?_⟩
  simp [World.setCell, Array.getElem?_modify, hbk]
 ·refine (Any.Builder_copyCheck_used L X b w (by rw [Lib.cell_of_heap hbk]; rfl)).mono ?_
  rintro e w' ⟨rfl, rfl⟩
  exact ⟨rfl, .inl rfl, hbk⟩
theorem used_size {b : Nat} {w w1 : World} (h : Used b w w1) : w1.heap.size = w.heap.size := by
 rcases h with rfl | rfl
 ·rfl
 ·simp [World.setCell]
theorem used_at {b : Nat} {w w1 : World} (h : Used b w w1) {k : Nat} (hk : k ≠ b) : w1.heap[k]? = w.heap[k]? := by
 rcases h with rfl | rfl
 ·rfl
 ·exact Below.heap_setCell _ _ _ _ hk
theorem used_row {b e : Nat} {w w1 : World} (h : Used b w w1) {v : Value} {n : Nat} {xs : List Value} (hown : w.ownsRowF 0 e 1 v n xs) (hne : v.ownBlock ≠ some b) : w1.ownsRowF 0 e 1 v n xs := by
 refine ⟨hown.1, ?_⟩
 rcases hown.2 with hn | ⟨g, cap, cur, fz, rfl, hbg, hg, r⟩
 ·exact .inl hn
 ·refine .inr ⟨g, cap, cur, fz, rfl, hbg, ?_, r⟩
  rw [used_at h (fun e => hne (by simp [Value.ownBlock, e]))]
  exact hg
set_option maxHeartbeats 2000000 in
set_option maxRecDepth 100000 in
theorem bld_write (L : Lays.n166 P ρ) (X : Builder.Extra P ρ) (b : Nat) (p v : Value) (bs : List Value) (s : ByteArray) (w : World) (hp : p = .pointer none ∨ p = .pointer (some ⟨b, 0, none⟩))
  (hbk : w.heap[b]? = some (.cells #[p, v] (ρ.t 72) (0, 0))) (hown : w.ownsRowF 0 (ρ.t 5) 1 v bs.length bs) (hne : v.ownBlock ≠ some b) (hlen : bs.length + s.size ≤ 140737488355328) :
  Calls P (ρ.f 166) #[.pointer (some ⟨b, 0, none⟩), .string s] w fun e w' => e = .returned (.tuple #[.int .i64 s.size, .nilIface]) ∧
   ∃ w1 w2 v', Used b w w1 ∧ w1.grownBy w2 v.ownBlock ∧ w2.ownsRowF 0 (ρ.t 5) 1 v' (bs.length + s.size) (bs ++ Lib.strCells s) ∧ (v'.ownBlock = v.ownBlock ∨ ∃ g', v'.ownBlock = some g' ∧ w1.heap.size ≤ g') ∧
    w2.heap[b]? = some (.cells #[.pointer (some ⟨b, 0, none⟩), v] (ρ.t 72) (0, 0)) ∧ w' = w2.setCell ⟨b, 1, none⟩ v' := by
 obtain ⟨i0, hi, hz0, hz1, hz2⟩ := info_parts X.infoByte
 have mixed := L.mixed
 have t72 := L.t72; have a72 := L.a72; have z72 := L.z72; have v72 := L.v72; have u72 := run_underlying L.t72
 have t70 := L.t70; have a70 := L.a70; have z70 := L.z70; have v70 := L.v70; have u70 := run_underlying L.t70
 have t37 := L.t37; have a37 := L.a37; have z37 := L.z37; have v37 := L.v37; have u37 := run_underlying L.t37
 have t3 := L.t3; have a3 := L.a3; have z3 := L.z3; have v3 := L.v3; have u3 := run_underlying L.t3
 have t9 := L.t9; have a9 := L.a9; have z9 := L.z9; have v9 := L.v9; have u9 := run_underlying L.t9
 have t4 := L.t4; have a4 := L.a4; have z4 := L.z4; have v4 := L.v4; have u4 := run_underlying L.t4
 have t164 := L.t164; have a164 := L.a164; have z164 := L.z164; have v164 := L.v164; have u164 := run_underlying L.t164
 have t5 := X.t5; have a5 := X.a5; have z5 := X.z5; have v5 := X.v5; have u5 := run_underlying X.t5
 have e240 : ∀ args w, (callFunc (ρ.f 240) args).run P w = .ok (.enter (ρ.f 240) args) w := enters_of L.f240 (by kernel_rfl) rfl
 go_enter L.f166, Body.n166_ntmps ρ
 go_wp2_with (go_at_fn (ρ.f 240); refine (bld_check { L with } X.toX72 b p v _ hp hbk).mono ?_)
 rintro e w1 ⟨rfl, hU, hb1⟩
 have c1 : w1.cell? ⟨b, 1, none⟩ = some v := by rw [Lib.cell_of_heap hb1]; rfl
 go_wp2_with (at_builtin; refine bld_append_op rfl _ _ (ρ.t 37) (ρ.t 9) rfl (ρ.t 5) i0 L.t37 L.t9 hi hz0 hz1 hz2 _ _ _ rfl (used_row hU hown hne) s rfl ?c3 ?c4 ?_)
 case c3 => unfold maxLen; omega
 case c4 => omega
 intro v' w2 hown' hgrow hblk
 have hlt : b < w1.heap.size := by
  rcases Nat.lt_or_ge b w1.heap.size with h' | h'
  ·exact h'
  ·simp [Array.getElem?_eq_none h'] at hb1
 have hb2 : w2.heap[b]? = some (.cells #[.pointer (some ⟨b, 0, none⟩), v] (ρ.t 72) (0, 0)) := by
  rw [hgrow.block b hlt (fun e => hne e.symm)]
  exact hb1
 have d1 : w2.cell? ⟨b, 1, none⟩ = some v := by rw [Lib.cell_of_heap hb2]; rfl
 have f1 : w2.frozen? ⟨b, 1, none⟩ = false := Lib.frozen_of_heap hb2 1
 obtain ⟨ao, n', cap, rfl⟩ : ∃ ao n' cap, v' = .slice ao n' cap := by
  rcases hown'.2 with ⟨hv, _⟩ | ⟨g, cap, cur, fz, hv, _⟩
  ·exact ⟨_, _, _, hv⟩
  ·exact ⟨_, _, _, hv⟩
 go_wp2
 go_ret2
 exact ⟨rfl, w1, w2, _, hU, hgrow, hown', hblk, hb2, rfl⟩
set_option maxHeartbeats 1000000 in
set_option maxRecDepth 100000 in
theorem bld_string (L : Lays.n169 P ρ) (X : Builder.Extra P ρ) (b g cap : Nat) (p : Value) (l : List UInt8) (cur : Array Value) (fz : Nat × Nat) (w : World)
  (hbk : w.heap[b]? = some (.cells #[p, .slice (some ⟨g, 0, none⟩) l.length cap] (ρ.t 72) (0, 0))) (hg : w.heap[g]? = some (.cells cur (ρ.t 5) fz)) (hnc : l.length ≤ cap) (hcm : cap ≤ maxLen) (hcs : cur.size = cap)
  (htake : cur.toList.take l.length = l.map (fun x => Value.int .u8 x.toNat)) (h0 : l ≠ []) :
  Calls P (ρ.f 169) #[.pointer (some ⟨b, 0, none⟩)] w fun e w' => e = .returned (.string ⟨l.toArray⟩) ∧ w' = w.drew.freeze ⟨g, 0, none⟩ l.length := by
 have hl0 : l.length ≠ 0 := by simpa using h0
 have c1 : w.drew.cell? ⟨b, 1, none⟩ = some (.slice (some ⟨g, 0, none⟩) l.length cap) := by
  have : w.drew.heap[b]? = some (.cells #[p, .slice (some ⟨g, 0, none⟩) l.length cap] (ρ.t 72) (0, 0)) := hbk
  rw [Lib.cell_of_heap this]; rfl
 have hg' : w.drew.heap[g]? = some (.cells cur (ρ.t 5) fz) := hg
 have hSD : (Builtin.unsafeSliceData_ #[(ρ.t 37)] (ρ.t 127) #[.slice (some ⟨g, 0, none⟩) l.length cap]).run P w.drew = .ok (.pointer (some ⟨g, 0, none⟩)) w.drew :=
  Lib.run_unsafeSliceData_row _ _ _ _ _ _ (by omega)
 have hUS : (Builtin.unsafeString_ #[(ρ.t 127), (ρ.t 3)] (ρ.t 9) #[.pointer (some ⟨g, 0, none⟩), .int .i64 l.length]).run P w.drew = .ok (.string ⟨l.toArray⟩) (w.drew.freeze ⟨g, 0, none⟩ l.length) := by
  refine Lib.run_unsafeString_row w.drew (ρ.t 127) (ρ.t 3) (ρ.t 9) (ρ.t 5) L.t127 X.cellsByte g cur.size (by simp [World.shape?, hg']) l h0 (by omega) (by unfold maxLen at hcm; omega) ?_
  intro j x hx
  have hadd : (⟨g, 0, none⟩ : Addr).add j = ⟨g, j, none⟩ := by unfold Addr.add; split <;> simp_all
  rw [hadd, Lib.cell_of_heap hg']
  have hj : j < l.length := (List.getElem?_eq_some_iff.1 hx).1
  have := congrArg (·[j]?) htake
  simp only [List.getElem?_take, hj, if_true, List.getElem?_map, hx, Option.map_some] at this
  simpa using this
 have mixed := L.mixed
 have t72 := L.t72; have a72 := L.a72; have z72 := L.z72; have v72 := L.v72; have u72 := run_underlying L.t72
 have t70 := L.t70; have a70 := L.a70; have z70 := L.z70; have v70 := L.v70; have u70 := run_underlying L.t70
 have t37 := L.t37; have a37 := L.a37; have z37 := L.z37; have v37 := L.v37; have u37 := run_underlying L.t37
 have t127 := L.t127; have a127 := L.a127; have z127 := L.z127; have v127 := L.v127; have u127 := run_underlying L.t127
 have t3 := L.t3; have a3 := L.a3; have z3 := L.z3; have v3 := L.v3; have u3 := run_underlying L.t3
 have t9 := L.t9; have a9 := L.a9; have z9 := L.z9; have v9 := L.v9; have u9 := run_underlying L.t9
 have t5 := X.t5; have a5 := X.a5; have z5 := X.z5; have v5 := X.v5; have u5 := run_underlying X.t5
 clear htake hg hg' hnc hcm hcs
 go_enter L.f169, Body.n169_ntmps ρ
 go_wp2
 go_region_o
 all_goals (go_wp2; go_ret; exact ⟨rfl, rfl⟩)
set_option maxHeartbeats 1000000 in
set_option maxRecDepth 100000 in
theorem bld_string_none (L : Lays.n169 P ρ) (X : Builder.Extra P ρ) (b : Nat) (p : Value) (w : World) (hbk : w.heap[b]? = some (.cells #[p, .slice none 0 0] (ρ.t 72) (0, 0))) :
  Calls P (ρ.f 169) #[.pointer (some ⟨b, 0, none⟩)] w fun e w' => e = .returned (.string ⟨#[]⟩) ∧ w' = w.drew := by
 have hUS := Any.unsafeString_none L X
 have c1 : w.drew.cell? ⟨b, 1, none⟩ = some (.slice none 0 0) := by
  have : w.drew.heap[b]? = some (.cells #[p, .slice none 0 0] (ρ.t 72) (0, 0)) := hbk
  rw [Lib.cell_of_heap this]; rfl
 have hSD : (Builtin.unsafeSliceData_ #[(ρ.t 37)] (ρ.t 127) #[.slice none 0 0]).run P w.drew = .ok (.pointer none) w.drew := rfl
 have mixed := L.mixed
 have t72 := L.t72; have a72 := L.a72; have z72 := L.z72; have v72 := L.v72; have u72 := run_underlying L.t72
 have t70 := L.t70; have a70 := L.a70; have z70 := L.z70; have v70 := L.v70; have u70 := run_underlying L.t70
 have t37 := L.t37; have a37 := L.a37; have z37 := L.z37; have v37 := L.v37; have u37 := run_underlying L.t37
 have t127 := L.t127; have a127 := L.a127; have z127 := L.z127; have v127 := L.v127; have u127 := run_underlying L.t127
 have t3 := L.t3; have a3 := L.a3; have z3 := L.z3; have v3 := L.v3; have u3 := run_underlying L.t3
 have t9 := L.t9; have a9 := L.a9; have z9 := L.z9; have v9 := L.v9; have u9 := run_underlying L.t9
 have t5 := X.t5; have a5 := X.a5; have z5 := X.z5; have v5 := X.v5; have u5 := run_underlying X.t5
 go_enter L.f169, Body.n169_ntmps ρ
 go_wp2
 go_region_o
 all_goals (go_wp2; go_ret; exact ⟨rfl, rfl⟩)
end Go.Proofs
namespace Go.Cl
open Go
set_option linter.unusedSimpArgs false
set_option linter.unusedVariables false
section
variable {P : Program} {G : Gam}
theorem bld_sim {m : Mp} {hd : Heap} {w w' : World} (s : Sim G m hd w) {j T U n cap g' : Nat} {L : Loc} {q0 : Option (Nat × Nat)} {gb : Option Nat} {bs : List UInt8} {cur : Array Value} {fz : Nat × Nat} (e : m j = some L) (hj : hd[j]? = some (.bld T q0))
  (f1 : ∀ r, r < w.heap.size → r ≠ L.blk → some r ≠ gb → w'.heap[r]? = w.heap[r]?) (f2 : ∀ b' L', m b' = some L' → live hd b' → some L'.blk ≠ gb)
  (f3 : w'.heap[L.blk]? = some (.cells #[.pointer (some ⟨L.blk, 0, none⟩), .slice (some ⟨g', 0, none⟩) n cap] (G.T T) (0, 0)))
  (f4 : w'.heap[g']? = some (.cells cur (G.T U) fz) ∧ fz.2 ≤ bs.length ∧ bs.length ≤ cap ∧ cap ≤ 9223372036854775807 ∧ cur.size = cap ∧ cur.toList.take bs.length = bs.map (fun b => Value.int .u8 b.toNat))
  (f5 : some g' = gb ∨ w.heap.size ≤ g') :
  Sim G (m.upd hd.length ⟨g', 0, cap, none⟩) (hd.set j (.bld T (some (hd.length, n))) ++ [.buf U bs]) w' := by
 have hR := s.obj j L _ e hj
 have hOj : owned hd j := ⟨_, hj, rfl⟩
 have hjl : j < hd.length := s.dom _ _ e
 obtain ⟨r1, r2, _⟩ := hR
 have hn := s.fresh
 have s1 : Sim G m (hd.set j (.arr [] (.loose 0))) w' := by
  refine s.turn e hj rfl (fun b' L' hne e' l => f1 _ (s.blk_lt e' l) (fun hx => s.apart j b' L L' (Ne.symm hne) e e' hOj l hx.symm) (f2 b' L' e' l)) ?_
  exact .inr ⟨_, _, _, r2, f3, (fun i v hi => by simp at hi), (fun _ => ⟨(fun h => by cases h), (by simp [slackCells, r1]), (fun j hj => by simp [slackCells] at hj)⟩)⟩
 have hlv : ∀ b' L', m b' = some L' → live (hd.set j (.arr [] (.loose 0))) b' → live hd b' := by
  rintro b' L' e' ⟨o, ho, hl⟩
  by_cases hb : b' = j
  ·subst hb; exact hOj.live
  ·rw [List.getElem?_set_ne (Ne.symm hb)] at ho; exact ⟨o, ho, hl⟩
 have s2 : Sim G (m.upd hd.length ⟨g', 0, cap, none⟩) (hd.set j (.arr [] (.loose 0)) ++ [.buf U bs]) w' := by
  refine (s1.more [.buf U bs]).new (o := .buf U bs) hn (by rw [List.getElem?_append_right (by simp)]; simp) (fun _ _ _ _ => rfl) ?_ ?_
  ·intro _ b' L' e' l hx
   have hdom : b' < hd.length := s.dom _ _ e'
   have l' : live (hd.set j (.arr [] (.loose 0))) b' := by
    obtain ⟨o, ho, hl⟩ := l
    rw [List.getElem?_append_left (by simpa using hdom)] at ho
    exact ⟨o, ho, hl⟩
   have l2 := hlv b' L' e' l'
   rcases f5 with h5 | h5
   ·exact f2 b' L' e' l2 (by rw [hx]; exact h5)
   ·have := s.blk_lt e' l2
    simp at hx
    omega
  ·exact ⟨rfl, rfl, cur, fz, f4⟩
 have hjn : j ≠ hd.length := by omega
 have s3 := s2.turn (b := j) (L := L) (o := .arr [] (.loose 0)) (o' := .bld T (some (hd.length, n))) (w' := w') (by simp [Mp.upd, hjn, e]) (by rw [List.getElem?_append_left (by simpa using hjl), List.getElem?_set_self hjl]) rfl (fun _ _ _ _ _ => rfl)
  ⟨r1, r2, _, _, f3, .inr rfl, _, Mp.upd_same .., rfl⟩
 rw [List.set_append_left _ _ (by simpa using hjl), List.set_set] at s3
 exact s3
theorem bld_evo {m : Mp} {h hd : Heap} {w w' : World} {j T U n cap g' : Nat} {L : Loc} {q0 : Option (Nat × Nat)} {gb : Option Nat} {bs : List UInt8} (s : Sim G m h w) (e : m j = some L) (hj : h[j]? = some (.bld T q0)) (hlen : hd.length = h.length)
  (hd1 : ∀ b, hd[b]? ≠ h[b]? → hd[b]? = some .dead ∧ (m b).isSome = true)
  (os : w'.os = w.os) (out : w'.output = w.output) (size : w.heap.size ≤ w'.heap.size)
  (f1 : ∀ r, r < w.heap.size → r ≠ L.blk → some r ≠ gb → w'.heap[r]? = w.heap[r]?) (f2 : ∀ r, gb = some r → ∃ b0 L0, m b0 = some L0 ∧ owned h b0 ∧ L0.blk = r) (f5 : some g' = gb ∨ w.heap.size ≤ g') :
  Evo m h w (m.upd hd.length ⟨g', 0, cap, none⟩) (hd.set j (.bld T (some (hd.length, n))) ++ [.buf U bs]) w' := by
 have hOj : owned h j := ⟨_, hj, rfl⟩
 have hjl : j < h.length := s.dom _ _ e
 have hn : m hd.length = none := by rw [hlen]; exact s.fresh
 refine ⟨Mp.upd_le hn, by simp; omega, ?_, os, out, size, ?_, ?_⟩
 ·intro b hb e0
  have hne : b ≠ hd.length := by omega
  have hbj : b ≠ j := fun x => by subst x; rw [e] at e0; cases e0
  refine ⟨by simp [Mp.upd, hne, e0], ?_⟩
  rw [List.getElem?_append_left (by simp; omega), List.getElem?_set_ne (Ne.symm hbj)]
  by_cases hx : hd[b]? = h[b]?
  ·exact hx
  ·have := (hd1 b hx).2
   rw [e0] at this
   cases this
 ·intro r hr hno
  refine f1 r hr (fun hx => hno j L e hOj hx.symm) fun hx => ?_
  obtain ⟨b0, L0, q1, q2, q3⟩ := f2 r hx.symm
  exact hno b0 L0 q1 q2 q3
 ·intro b L' e' o'
  by_cases hb : b = hd.length
  ·subst hb
   rw [Mp.upd_same] at e'
   cases e'
   rcases f5 with h5 | h5
   ·obtain ⟨b0, L0, q1, q2, q3⟩ := f2 g' h5.symm
    exact .inr ⟨b0, L0, q1, q2, q3⟩
   ·exact .inl h5
  ·simp [Mp.upd, hb] at e'
   refine .inr ⟨b, L', e', ?_, rfl⟩
   obtain ⟨o, ho, hO⟩ := o'
   have hbl : b < h.length := s.dom _ _ e'
   rw [List.getElem?_append_left (by simp; omega)] at ho
   by_cases hbj : b = j
   ·subst hbj; exact hOj
   ·rw [List.getElem?_set_ne (Ne.symm hbj)] at ho
    by_cases hx : hd[b]? = h[b]?
    ·exact ⟨o, hx ▸ ho, hO⟩
    ·rw [(hd1 b hx).1] at ho
     cases ho
     cases hO
end
end Go.Cl
namespace Go.Proofs.YtlndogibbgibgaaGreatDoor
open Go Go.Cl
set_option linter.unusedSimpArgs false
set_option linter.unusedVariables false
theorem gamB : gam.T tBld = Tryz.lays156_ren.t 72 := by kernel_rfl
theorem gamU : gam.T tU8 = Tryz.lays156_ren.t 5 := by kernel_rfl
theorem strCells_bytes (s : List UInt8) : Lib.strCells ⟨s.toArray⟩ = s.map fun x => Value.int .u8 x.toNat := by
 rw [Lib.strCells_eq]
 rfl
theorem trL_ptr {m : Mp} {b o : Nat} {r : List CV} {rvs : List Value} (h : trL gam m (.ptr b o :: r) = some rvs) : ∃ L xs, m b = some L ∧ rvs = .pointer (some (L.ad o)) :: xs ∧ trL gam m r = some xs := by
 obtain ⟨x, xs, h1, h2, rfl⟩ := trL_cons h
 obtain ⟨L, hL, rfl⟩ := tr_ptr h1
 exact ⟨L, xs, hL, rfl, h2⟩
theorem setCell1 {w : World} {b : Nat} {p v v' : Value} {T : TypeId} (h : w.heap[b]? = some (.cells #[p, v] T (0, 0))) : (w.setCell ⟨b, 1, none⟩ v').heap[b]? = some (.cells #[p, v'] T (0, 0)) := by
 simp [World.setCell, Array.getElem?_modify, h]
theorem setCell_at {w : World} {b o : Nat} {v' : Value} {r : Nat} (h : r ≠ b) : (w.setCell ⟨b, o, none⟩ v').heap[r]? = w.heap[r]? := RowKit.Below.heap_setCell _ _ _ _ h
theorem row_of {w : World} {e : Nat} {v : Value} {n : Nat} {bs : List UInt8} (h : w.ownsRowF 0 e 1 v n (bs.map fun x => Value.int .u8 x.toNat)) (h0 : n ≠ 0) :
  ∃ g cap cur fz, v = .slice (some ⟨g, 0, none⟩) n cap ∧ w.heap[g]? = some (.cells cur e fz) ∧ fz.2 ≤ bs.length ∧ bs.length ≤ cap ∧ cap ≤ 9223372036854775807 ∧ cur.size = cap ∧ cur.toList.take bs.length = bs.map (fun b => Value.int .u8 b.toNat) ∧ n = bs.length := by
 have hl : bs.length = n := by simpa using h.1
 rcases h.2 with ⟨_, h1⟩ | ⟨g, cap, cur, fz, hv, _, hg, a1, a2, a3, a4, a5⟩
 ·exact absurd h1 h0
 ·exact ⟨g, cap, cur, fz, hv, hg, by omega, by omega, by simpa [maxLen] using a3, by omega, by rw [hl]; simpa using a5, hl.symm⟩
theorem p136_ok {vs : List CV} {h h' : Heap} {r : CV} (hev : p136 vs h = some (r, h')) : h.length ≤ h'.length ∧ ∀ fid, gam.F 136 = some fid → CallSim Tryz.prog gam fid vs h r h' := by
 unfold p136 at hev
 split at hev
 ·rename_i j s
  split at hev
  ·rename_i T hj
   split at hev
   ·rename_i hc
    obtain ⟨rfl, hs0, hlim⟩ := hc
    simp only [Option.some.injEq, Prod.mk.injEq] at hev
    obtain ⟨rfl, rfl⟩ := hev
    refine ⟨by simp, fun fid hf => ?_⟩
    have e := Option.some.inj (hf.symm.trans (show gam.F 136 = some _ from rfl))
    subst e
    intro m w rvs si ht
    obtain ⟨L, _, hL, rfl, ht1⟩ := trL_ptr ht
    obtain ⟨_, rfl, ht2⟩ := trL_str ht1
    obtain rfl := trL_nil ht2
    obtain ⟨r1, r2, p, v, hbk, hp, hv⟩ := si.obj j L _ hL hj
    simp only at hv
    subst hv
    have had : L.ad 0 = ⟨L.blk, 0, none⟩ := by rw [Loc.ad_none r2, r1]
    rw [had]
    rw [gamB] at hbk
    have hsz : (⟨s.toArray⟩ : ByteArray).size = s.length := by simp [ByteArray.size]
    have hw := bld_write (ρ := Tryz.lays156_ren) { Tryz.lays156 with } Tryz.Builder_Extra_156 L.blk p (.slice none 0 0) [] ⟨s.toArray⟩ w hp hbk ⟨rfl, .inl ⟨rfl, rfl⟩⟩ (by simp [Value.ownBlock]) (by simp only [List.length_nil, hsz]; omega)
    refine hw.mono ?_
    rintro e w' ⟨he, w1, w2, v', hU, hgrow, hown, hblk, hb2, rfl⟩
    rw [List.nil_append, strCells_bytes, List.length_nil, Nat.zero_add, hsz] at hown
    obtain ⟨g', cap, cur, fz, rfl, hg', k1, k2, k3, k4, k5, k6⟩ := row_of hown (by simpa using hs0)
    have hf5 : w.heap.size ≤ g' := by
     rcases hblk with hx | ⟨g2, hx, hy⟩
     ·simp [Value.ownBlock] at hx
     ·simp only [Value.ownBlock, Option.some.injEq] at hx
      rw [used_size hU] at hy
      omega
    have hbl : L.blk < w.heap.size := si.blk_lt hL ⟨_, hj, rfl⟩
    have hne : g' ≠ L.blk := by omega
    have f1 : ∀ r, r < w.heap.size → r ≠ L.blk → some r ≠ (none : Option Nat) → (w2.setCell ⟨L.blk, 1, none⟩ (.slice (some ⟨g', 0, none⟩) s.length cap)).heap[r]? = w.heap[r]? := fun r hr hrb _ => by
     rw [setCell_at hrb, hgrow.block r (by rw [used_size hU]; exact hr) (by simp [Value.ownBlock]), used_at hU hrb]
    have hS := bld_sim (G := gam) (T := tBld) (U := tU8) (n := s.length) (cap := cap) (g' := g') (gb := none) (bs := s) (cur := cur) (fz := fz) si hL hj f1 (fun _ _ _ _ => by simp) (by rw [gamB]; exact setCell1 hb2) ⟨by rw [gamU, setCell_at hne]; exact hg', k1, k2, k3, k4, k5⟩ (.inr hf5)
    refine ⟨_, _, he, ?_, hS, ?_⟩
    ·simp [tr, trL, hsz]
    ·refine bld_evo (gb := none) si hL hj rfl (fun b hb => absurd rfl hb) ?_ ?_ ?_ f1 (fun r hr => by cases hr) (.inr hf5)
     ·show w2.os = w.os
      rw [hgrow.os]; rcases hU with rfl | rfl <;> rfl
     ·show w2.output = w.output
      rw [hgrow.output]; rcases hU with rfl | rfl <;> rfl
     ·have := hgrow.size
      rw [used_size hU] at this
      simpa [World.setCell] using this
   ·cases hev
  ·rename_i T k n hj
   split at hev
   ·rename_i U bs hk
    split at hev
    ·rename_i hc
     obtain ⟨rfl, hkj, rfl, hn, hs0, hlim⟩ := hc
     simp only [Option.some.injEq, Prod.mk.injEq] at hev
     obtain ⟨rfl, rfl⟩ := hev
     refine ⟨by simp, fun fid hf => ?_⟩
     have e := Option.some.inj (hf.symm.trans (show gam.F 136 = some _ from rfl))
     subst e
     intro m w rvs si ht
     obtain ⟨L, _, hL, rfl, ht1⟩ := trL_ptr ht
     obtain ⟨_, rfl, ht2⟩ := trL_str ht1
     obtain rfl := trL_nil ht2
     obtain ⟨r1, r2, p, v, hbk, hp, hv⟩ := si.obj j L _ hL hj
     simp only at hv
     obtain ⟨Lk, hLk, rfl⟩ := hv
     obtain ⟨s1, s2, cur0, fz0, hg0, q1, q2, q3, q4, q5⟩ := si.obj k Lk _ hLk hk
     have had : L.ad 0 = ⟨L.blk, 0, none⟩ := by rw [Loc.ad_none r2, r1]
     rw [had]
     rw [gamB] at hbk
     rw [gamU] at hg0
     have hsz : (⟨s.toArray⟩ : ByteArray).size = s.length := by simp [ByteArray.size]
     have hbl : L.blk < w.heap.size := si.blk_lt hL ⟨_, hj, rfl⟩
     have hkl : Lk.blk < w.heap.size := si.blk_lt hLk ⟨_, hk, rfl⟩
     have hapart : Lk.blk ≠ L.blk := si.apart k j Lk L hkj hLk hL ⟨_, hk, rfl⟩ ⟨_, hj, rfl⟩
     have hbl2 : (bs.map fun x => Value.int IntKind.u8 x.toNat).length = bs.length := by simp
     have hw := bld_write (ρ := Tryz.lays156_ren) { Tryz.lays156 with } Tryz.Builder_Extra_156 L.blk p (.slice (some ⟨Lk.blk, 0, none⟩) n Lk.slack) (bs.map fun x => .int .u8 x.toNat) ⟨s.toArray⟩ w hp hbk
      ⟨by simp, .inr ⟨Lk.blk, Lk.slack, cur0, fz0, by rw [hbl2, hn], Nat.zero_le _, hg0, by rw [hbl2]; omega, by rw [hbl2]; exact q2, by simpa [maxLen] using q3, by omega, by rw [hbl2, Nat.mul_one]; exact q5⟩⟩ (by simp [Value.ownBlock]; exact hapart) (by rw [hbl2, hsz]; omega)
     refine hw.mono ?_
     rintro e w' ⟨he, w1, w2, v', hU, hgrow, hown, hblk, hb2, rfl⟩
     rw [strCells_bytes, ← List.map_append, hbl2, hsz] at hown
     obtain ⟨g', cap, cur, fz, rfl, hg', k1, k2, k3, k4, k5, k6⟩ := row_of hown (by
      have : s.length ≠ 0 := by simpa using hs0
      omega)
     have hf5 : some g' = some Lk.blk ∨ w.heap.size ≤ g' := by
      rcases hblk with hx | ⟨g2, hx, hy⟩
      ·simp only [Value.ownBlock] at hx
       exact .inl hx
      ·simp only [Value.ownBlock, Option.some.injEq] at hx
       rw [used_size hU] at hy
       right; omega
     have hne : g' ≠ L.blk := by
      rcases hf5 with hx | hx
      ·simp at hx; omega
      ·omega
     have f1 : ∀ r, r < w.heap.size → r ≠ L.blk → some r ≠ some Lk.blk → (w2.setCell ⟨L.blk, 1, none⟩ (.slice (some ⟨g', 0, none⟩) (bs.length + s.length) cap)).heap[r]? = w.heap[r]? := fun r hr hrb hrk => by
      rw [setCell_at hrb, hgrow.block r (by rw [used_size hU]; exact hr) (by simpa [Value.ownBlock] using hrk), used_at hU hrb]
     have hkl2 : k < h.length := si.dom _ _ hLk
     have sd : Sim gam m (h.set k .dead) w := si.turn hLk hk rfl (fun _ _ _ _ _ => rfl) trivial
     have hjd : (h.set k .dead)[j]? = some (.bld tBld (some (k, n))) := by rw [List.getElem?_set_ne hkj]; exact hj
     have hlen : (h.set k Obj.dead).length = h.length := by simp
     have hS := bld_sim (G := gam) (T := tBld) (U := tU8) (n := n + s.length) (cap := cap) (g' := g') (gb := some Lk.blk) (bs := bs ++ s) (cur := cur) (fz := fz) sd hL hjd f1 (fun b' L' e' l => by
      rintro hx
      simp only [Option.some.injEq] at hx
      obtain ⟨o, ho, hl⟩ := l
      by_cases hb : b' = k
      ·subst hb
       rw [List.getElem?_set_self hkl2] at ho
       cases ho
       cases hl
      ·rw [List.getElem?_set_ne (Ne.symm hb)] at ho
       exact si.apart k b' Lk L' (Ne.symm hb) hLk e' ⟨_, hk, rfl⟩ ⟨o, ho, hl⟩ hx.symm) (by rw [gamB, hn]; exact setCell1 hb2) ⟨by rw [gamU, setCell_at hne]; exact hg', k1, k2, k3, k4, k5⟩ hf5
     rw [hlen] at hS
     refine ⟨_, _, he, ?_, hS, ?_⟩
     ·simp [tr, trL, hsz]
     ·have hE := bld_evo (T := tBld) (U := tU8) (n := n + s.length) (cap := cap) (g' := g') (gb := some Lk.blk) (hd := h.set k .dead) (bs := bs ++ s) (w' := w2.setCell ⟨L.blk, 1, none⟩ (.slice (some ⟨g', 0, none⟩) (bs.length + s.length) cap)) si hL hj hlen (fun b hb => ?_) ?_ ?_ ?_ f1 (fun r hr => ?_) hf5
      ·rw [hlen] at hE; exact hE
      ·by_cases hbk : b = k
       ·subst hbk; exact ⟨List.getElem?_set_self hkl2, by rw [hLk]; rfl⟩
       ·exact absurd (List.getElem?_set_ne (Ne.symm hbk)) hb
      ·show w2.os = w.os
       rw [hgrow.os]; rcases hU with rfl | rfl <;> rfl
      ·show w2.output = w.output
       rw [hgrow.output]; rcases hU with rfl | rfl <;> rfl
      ·have := hgrow.size
       rw [used_size hU] at this
       simpa [World.setCell] using this
      ·cases hr
       exact ⟨k, Lk, hLk, ⟨_, hk, rfl⟩, rfl⟩
    ·cases hev
   ·cases hev
  ·cases hev
 ·cases hev
theorem freeze_at {w : World} {a : Addr} {n r : Nat} (h : r ≠ a.block) : (w.freeze a n).heap[r]? = w.heap[r]? := by
 unfold World.freeze
 split
 ·rfl
 ·simp only [Array.getElem?_modify]
  rw [if_neg (by omega)]
theorem p137_ok {vs : List CV} {h h' : Heap} {r : CV} (hev : p137 vs h = some (r, h')) : h.length ≤ h'.length ∧ ∀ fid, gam.F 137 = some fid → CallSim Tryz.prog gam fid vs h r h' := by
 unfold p137 at hev
 split at hev
 ·rename_i j
  split at hev
  ·rename_i T hj
   split at hev
   ·rename_i hc
    subst hc
    simp only [Option.some.injEq, Prod.mk.injEq] at hev
    obtain ⟨rfl, rfl⟩ := hev
    refine ⟨Nat.le_refl _, fun fid hf => ?_⟩
    have e := Option.some.inj (hf.symm.trans (show gam.F 137 = some _ from rfl))
    subst e
    refine calm_sim fun m w rvs si ht => ?_
    obtain ⟨L, _, hL, rfl, ht1⟩ := trL_ptr ht
    obtain rfl := trL_nil ht1
    obtain ⟨r1, r2, p, v, hbk, hp, hv⟩ := si.obj j L _ hL hj
    simp only at hv
    subst hv
    have had : L.ad 0 = ⟨L.blk, 0, none⟩ := by rw [Loc.ad_none r2, r1]
    rw [had]
    rw [gamB] at hbk
    refine ⟨_, ?_, (bld_string_none (ρ := Tryz.lays156_ren) { Tryz.lays156 with } Tryz.Builder_Extra_156 L.blk p w hbk).mono fun e w' ⟨he, hw⟩ => ⟨he, hw ▸ ⟨rfl, rfl, Nat.le_refl _, fun _ _ => rfl⟩⟩⟩
    simp [tr]
   ·cases hev
  ·rename_i T k n hj
   split at hev
   ·rename_i U bs hk
    split at hev
    ·rename_i hc
     obtain ⟨rfl, hkj, rfl, hn, hs0⟩ := hc
     simp only [Option.some.injEq, Prod.mk.injEq] at hev
     obtain ⟨rfl, rfl⟩ := hev
     refine ⟨Nat.le_refl _, fun fid hf => ?_⟩
     have e := Option.some.inj (hf.symm.trans (show gam.F 137 = some _ from rfl))
     subst e
     intro m w rvs si ht
     obtain ⟨L, _, hL, rfl, ht1⟩ := trL_ptr ht
     obtain rfl := trL_nil ht1
     obtain ⟨r1, r2, p, v, hbk, hp, hv⟩ := si.obj j L _ hL hj
     simp only at hv
     obtain ⟨Lk, hLk, rfl⟩ := hv
     obtain ⟨s1, s2, cur0, fz0, hg0, q1, q2, q3, q4, q5⟩ := si.obj k Lk _ hLk hk
     have had : L.ad 0 = ⟨L.blk, 0, none⟩ := by rw [Loc.ad_none r2, r1]
     rw [had]
     rw [gamB, hn] at hbk
     rw [gamU] at hg0
     refine (bld_string (ρ := Tryz.lays156_ren) { Tryz.lays156 with } Tryz.Builder_Extra_156 L.blk Lk.blk Lk.slack p bs cur0 fz0 w hbk hg0 q2 (by simpa [maxLen] using q3) q4 q5 hs0).mono ?_
     rintro e w' ⟨he, rfl⟩
     have hb0 : bs.length ≠ 0 := by simpa using hs0
     have hat : ∀ r, r ≠ Lk.blk → (w.drew.freeze ⟨Lk.blk, 0, none⟩ bs.length).heap[r]? = w.heap[r]? := fun r hr => freeze_at hr
     have hsame : h.set k (.buf tU8 bs) = h := by
      apply List.ext_getElem?
      intro i
      by_cases hi : i = k
      ·subst hi; rw [List.getElem?_set_self (si.dom _ _ hLk), hk]
      ·rw [List.getElem?_set_ne (Ne.symm hi)]
     have hS : Sim gam m h (w.drew.freeze ⟨Lk.blk, 0, none⟩ bs.length) := by
      have := si.turn (o' := .buf tU8 bs) (w' := w.drew.freeze ⟨Lk.blk, 0, none⟩ bs.length) hLk hk rfl (fun b' L' hne e' l => hat _ fun hx => si.apart k b' Lk L' (Ne.symm hne) hLk e' ⟨_, hk, rfl⟩ l hx.symm) (by
       refine ⟨s1, s2, cur0, (if fz0.1 == fz0.2 then (0, 0 + bs.length) else (min fz0.1 0, max fz0.2 (0 + bs.length))), ?_, ?_, q2, q3, q4, q5⟩
       ·unfold World.freeze
        rw [if_neg hb0]
        have hg0' : w.drew.heap[Lk.blk]? = some (.cells cur0 (Tryz.lays156_ren.t 5) fz0) := hg0
        simp [Array.getElem?_modify, hg0', gamU]
       ·split
        ·simp
        ·simp; omega)
      rw [hsame] at this
      exact this
     refine ⟨m, _, he, by simp [tr], hS, ⟨Mp.le_refl _, Nat.le_refl _, fun _ _ e => ⟨e, rfl⟩, ?_, ?_, ?_, ?_, fun b L e o => .inr ⟨b, L, e, o, rfl⟩⟩⟩
     ·unfold World.freeze; rw [if_neg hb0]; rfl
     ·unfold World.freeze; rw [if_neg hb0]; rfl
     ·unfold World.freeze; rw [if_neg hb0]; simp
     ·intro r hr hno
      exact hat r fun hx => hno k Lk hLk ⟨_, hk, rfl⟩ hx.symm
    ·cases hev
   ·cases hev
  ·cases hev
 ·cases hev
theorem size_mk (s : List UInt8) : (⟨s.toArray⟩ : ByteArray).size = s.length := by simp [ByteArray.size]
theorem p121_ok {vs : List CV} {h h' : Heap} {r : CV} (hev : p121 vs h = some (r, h')) : h.length ≤ h'.length ∧ ∀ fid, gam.F 121 = some fid → CallSim Tryz.prog gam fid vs h r h' := by
 refine ⟨?_, fun fid hf => by rw [show gam.F 121 = none from rfl] at hf; cases hf⟩
 unfold p121 at hev
 repeat' split at hev
 all_goals first | (simp only [Option.some.injEq, Prod.mk.injEq] at hev; obtain ⟨rfl, rfl⟩ := hev; simp; done) | (simp at hev; done)
theorem p123_ok {vs : List CV} {h h' : Heap} {r : CV} (hev : p123 vs h = some (r, h')) : h.length ≤ h'.length ∧ ∀ fid, gam.F 123 = some fid → CallSim Tryz.prog gam fid vs h r h' := by
 refine ⟨?_, fun fid hf => by rw [show gam.F 123 = none from rfl] at hf; cases hf⟩
 unfold p123 at hev
 repeat' split at hev
 all_goals first | (simp only [Option.some.injEq, Prod.mk.injEq] at hev; obtain ⟨rfl, rfl⟩ := hev; simp; done) | (simp at hev; done)
theorem p124_ok {vs : List CV} {h h' : Heap} {r : CV} (hev : p124 vs h = some (r, h')) : h.length ≤ h'.length ∧ ∀ fid, gam.F 124 = some fid → CallSim Tryz.prog gam fid vs h r h' := by
 unfold p124 at hev
 split at hev
 ·rename_i hh s c
  split at hev
  ·rename_i hs
   obtain ⟨hs, hc, ha⟩ := hs
   simp at hev
   obtain ⟨rfl, rfl⟩ := hev
   refine ⟨Nat.le_refl _, fun fid hf => ?_⟩
   have e := Option.some.inj (hf.symm.trans (show gam.F 124 = some _ from rfl))
   subst e
   refine calm_sim fun m w rvs si ht => ?_
   obtain ⟨_, rfl, ht1⟩ := trL_str ht
   obtain ⟨_, rfl, ht2⟩ := trL_str ht1
   obtain rfl := trL_nil ht2
   refine ⟨_, ?_, (Go.Proofs.Any.strings_Trim_laid Tryz.lays160 (by kernel_rfl) ⟨s.toArray⟩ ⟨c.toArray⟩ w (by rw [size_mk]; exact hs) (by rw [size_mk]; exact hc) ?_).mono fun e w' ⟨he, hw⟩ => ⟨he, Calm.below hw⟩⟩
   ·simp [tr]
   ·exact Go.Proofs.ascii_of_all (by simpa using ha)
  ·simp at hev
 ·simp at hev
theorem p122_ok {vs : List CV} {h h' : Heap} {r : CV} (hev : p122 vs h = some (r, h')) : h.length ≤ h'.length ∧ ∀ fid, gam.F 122 = some fid → CallSim Tryz.prog gam fid vs h r h' := by
 refine ⟨?_, fun fid hf => by rw [show gam.F 122 = none from rfl] at hf; cases hf⟩
 unfold p122 at hev
 repeat' split at hev
 all_goals first | (simp only [Option.some.injEq, Prod.mk.injEq] at hev; obtain ⟨rfl, rfl⟩ := hev; simp; done) | (simp at hev; done)
theorem p126_ok {vs : List CV} {h h' : Heap} {r : CV} (hev : p126 vs h = some (r, h')) : h.length ≤ h'.length ∧ ∀ fid, gam.F 126 = some fid → CallSim Tryz.prog gam fid vs h r h' := by
 unfold p126 at hev
 split at hev
 ·rename_i hh n
  split at hev
  ·rename_i hs
   obtain ⟨h0, h1⟩ := hs
   simp only [Option.some.injEq, Prod.mk.injEq] at hev
   obtain ⟨rfl, rfl⟩ := hev
   refine ⟨Nat.le_refl _, fun fid hf => ?_⟩
   have e := Option.some.inj (hf.symm.trans (show gam.F 126 = some _ from rfl))
   subst e
   refine calm_sim fun m w rvs si ht => ?_
   obtain ⟨_, rfl, ht1⟩ := trL_int ht
   obtain ⟨_, rfl, ht2⟩ := trL_int ht1
   obtain rfl := trL_nil ht2
   obtain ⟨C, e, fr, hb, hC⟩ := pin_cells si (k := 0) (show gam.K[0]? = some _ from rfl)
   refine ⟨_, ?_, (Tryz.strconv_FormatInt_10 n h0 h1 w ?_).mono fun e w' ⟨he, k, os, hw⟩ => ⟨he, hw ▸ Calm.grow w k os⟩⟩
   ·simp [tr, itoa_eq h0 h1]
   ·unfold Lib.TabIs
    rw [var_of (P := Tryz.prog) hb (by kernel_rfl), show C = _ from hC]
    rfl
  ·simp at hev
 ·simp at hev
theorem p125_ok {vs : List CV} {h h' : Heap} {r : CV} (hev : p125 vs h = some (r, h')) : h.length ≤ h'.length ∧ ∀ fid, gam.F 125 = some fid → CallSim Tryz.prog gam fid vs h r h' := by
 refine ⟨?_, fun fid hf => by rw [show gam.F 125 = none from rfl] at hf; cases hf⟩
 unfold p125 at hev
 repeat' split at hev
 all_goals first | (simp only [Option.some.injEq, Prod.mk.injEq] at hev; obtain ⟨rfl, rfl⟩ := hev; simp; done) | (simp at hev; done)
theorem lib_ok : PrimOK Tryz.prog gam lib := by
 intro f g hf vs h r h' hev
 unfold lib at hf
 split at hf <;> cases hf
 ·exact p121_ok hev
 ·exact p122_ok hev
 ·exact p123_ok hev
 ·exact p124_ok hev
 ·exact p125_ok hev
 ·exact p126_ok hev
 ·exact p128_ok hev
 ·exact p136_ok hev
 ·exact p137_ok hev
theorem own : ownKnob Tryz.prog.godebug = none := by kernel_rfl
theorem laidOut : laidOutB Tryz.prog = true := by kernel_rfl
theorem pins_of {l : List (String × DataW Unit)} (hl : (l.all fun x => x.2.handleName?.isNone) = true)
  (h0 : (l.filter fun x => x.1 == "internal/strconv.uint64pow10") = [("internal/strconv.uint64pow10", Lib.tabData .u64 Lib.pow10Tab)])
  {W : World} (h : laidMetH Tryz.prog l W) : ∃ m, Inv gam m gam.K W := by
 rw [MakeChecks.laidMetH_plain _ _ _ hl] at h
 refine Inv.pins fun k o hk => ?_
 match k, hk with
 | 0, hk =>
   obtain rfl := Option.some.inj ((show gam.K[0]? = some _ from rfl).symm.trans hk)
   refine ⟨_, _, rfl, ?_⟩
   have hv := tab_of (g := 0) h h0 (by kernel_rfl) (by kernel_rfl) Tryz.underlying296 (by kernel_rfl) (by kernel_rfl) (by kernel_rfl)
   obtain ⟨e, fr, hh⟩ := heap_of_var (by kernel_rfl) hv
   exact ⟨_, e, fr, hh, rfl⟩
 | k + 1, hk =>
   have : gam.K[k + 1]? = none := List.getElem?_eq_none (show 1 ≤ k + 1 by omega)
   rw [this] at hk; cases hk
theorem known439 : go (loadK gam.K .nil fun t => callF S.pg libF 3000 100 439 [] t fyes) = true := by kernel_rfl
abbrev prS : Prims := addKnown [439] lib
theorem primsS : PrimOK Tryz.prog gam prS :=
 addKnown_ok mixed good linked lib_ok fun f hf => by
  simp at hf
  subst hf
  obtain ⟨n, h', h1⟩ := fast_known lib_fs known439
  exact ⟨n, by rw [h1]; rfl⟩
end Go.Proofs.YtlndogibbgibgaaGreatDoor
