/-
  The library's functions that the program calls, by their contracts: what they are in the clean evaluator.
-/
import Derived.Test.YtiegjnklhafloaaDoorClPrim
import Derived.Test.YtiegjnklhafloaaDoorClLib
import Derived.Test.YtiegjnklhafloaaDoorLink
import Derived.Test.YtiegjnklhafloaaDoorShelf
import Derived.Shelf.Strings.SlTrimAscii
namespace Go.Proofs.YtiegjnklhafloaaDoor
open Go Go.Cl
set_option linter.unusedSimpArgs false
set_option linter.unusedVariables false

theorem size_mk (s : List UInt8) : (⟨s.toArray⟩ : ByteArray).size = s.length := by simp [ByteArray.size]

theorem p121_ok {vs : List CV} {h h' : Heap} {r : CV} (hev : p121 vs h = some (r, h')) : h.length ≤ h'.length ∧ ∀ fid, gam.F 121 = some fid → CallSim Tryd.prog gam fid vs h r h' := by
  unfold p121 at hev
  split at hev
  · rename_i hh s p
    split at hev
    · rename_i hs
      simp at hev
      obtain ⟨rfl, rfl⟩ := hev
      refine ⟨Nat.le_refl _, fun fid hf => ?_⟩
      have e := Option.some.inj (hf.symm.trans (show gam.F 121 = some _ from rfl))
      subst e
      refine calm_sim fun m w rvs si ht => ?_
      obtain ⟨_, rfl, ht1⟩ := trL_str ht
      obtain ⟨_, rfl, ht2⟩ := trL_str ht1
      obtain rfl := trL_nil ht2
      refine ⟨_, ?_, (Tryd.strings_CutSuffix ⟨s.toArray⟩ ⟨p.toArray⟩ w (by rw [size_mk]; exact hs)).mono fun e w' ⟨he, hw⟩ => ⟨he, hw ▸ Calm.refl w⟩⟩
      simp [tr, trL]
    · simp at hev
  · simp at hev

theorem p123_ok {vs : List CV} {h h' : Heap} {r : CV} (hev : p123 vs h = some (r, h')) : h.length ≤ h'.length ∧ ∀ fid, gam.F 123 = some fid → CallSim Tryd.prog gam fid vs h r h' := by
  unfold p123 at hev
  split at hev
  · rename_i hh s p
    simp at hev
    obtain ⟨rfl, rfl⟩ := hev
    refine ⟨Nat.le_refl _, fun fid hf => ?_⟩
    have e := Option.some.inj (hf.symm.trans (show gam.F 123 = some _ from rfl))
    subst e
    refine calm_sim fun m w rvs si ht => ?_
    obtain ⟨_, rfl, ht1⟩ := trL_str ht
    obtain ⟨_, rfl, ht2⟩ := trL_str ht1
    obtain rfl := trL_nil ht2
    refine ⟨_, ?_, (Tryd.strings_TrimPrefix ⟨s.toArray⟩ ⟨p.toArray⟩ w).mono fun e w' ⟨he, hw⟩ => ⟨he, hw ▸ Calm.refl w⟩⟩
    simp [tr]
  · simp at hev

theorem p124_ok {vs : List CV} {h h' : Heap} {r : CV} (hev : p124 vs h = some (r, h')) : h.length ≤ h'.length ∧ ∀ fid, gam.F 124 = some fid → CallSim Tryd.prog gam fid vs h r h' := by
  unfold p124 at hev
  split at hev
  · rename_i hh s c
    split at hev
    · rename_i hs
      obtain ⟨hs, hc, ha⟩ := hs
      simp at hev
      obtain ⟨rfl, rfl⟩ := hev
      refine ⟨Nat.le_refl _, fun fid hf => ?_⟩
      have e := Option.some.inj (hf.symm.trans (show gam.F 124 = some _ from rfl))
      subst e
      refine calm_sim fun m w rvs si ht => ?_
      obtain ⟨_, rfl, ht1⟩ := trL_str ht
      obtain ⟨_, rfl, ht2⟩ := trL_str ht1
      obtain rfl := trL_nil ht2
      refine ⟨_, ?_, (Go.Proofs.Any.strings_Trim_laid Tryd.lays160 (by kernel_rfl) ⟨s.toArray⟩ ⟨c.toArray⟩ w (by rw [size_mk]; exact hs) (by rw [size_mk]; exact hc) ?_).mono fun e w' ⟨he, hw⟩ => ⟨he, Calm.below hw⟩⟩
      · simp [tr]
      · exact Go.Proofs.ascii_of_all (by simpa using ha)
    · simp at hev
  · simp at hev

theorem trL_strs {G : Gam} {m : Mp} : ∀ (l : List ByteArray), trL G m (l.map fun b => .str b.data.toList) = some (l.map Value.string)
  | [] => rfl
  | b :: l => by
    have := trL_strs (G := G) (m := m) l
    simp only [List.map_cons, trL, tr, this]

theorem p122_ok {vs : List CV} {h h' : Heap} {r : CV} (hev : p122 vs h = some (r, h')) : h.length ≤ h'.length ∧ ∀ fid, gam.F 122 = some fid → CallSim Tryd.prog gam fid vs h r h' := by
  unfold p122 at hev
  split at hev
  · rename_i hh s c
    split at hev
    · rename_i hs
      simp only [Option.some.injEq, Prod.mk.injEq] at hev
      obtain ⟨rfl, rfl⟩ := hev
      refine ⟨by simp, fun fid hf => ?_⟩
      have e := Option.some.inj (hf.symm.trans (show gam.F 122 = some _ from rfl))
      subst e
      refine made_sim fun m w rvs si ht => ?_
      obtain ⟨_, rfl, ht1⟩ := trL_str ht
      obtain ⟨_, rfl, ht2⟩ := trL_str ht1
      obtain rfl := trL_nil ht2
      obtain ⟨C, e, fr, hb, n, hC⟩ := pin_cells si (k := 1) (show gam.K[1]? = some _ from rfl)
      have hl := splitB_lists c ⟨s.toArray⟩
      have hn : Lib.countB ⟨s.toArray⟩ ⟨#[c]⟩ + 1 = (splitC c s).length := by
        rw [show splitC c s = splitC c (⟨s.toArray⟩ : ByteArray).data.toList by simp, ← hl, List.length_map, Lib.splitB_all ⟨#[c]⟩ (Nat.le_refl _) 0 _ _ rfl]
      refine (Tryd.strings_Split ⟨s.toArray⟩ ⟨#[c]⟩ n w (by rw [size_mk]; exact hs) (by simp [World.cell?, hb, hC]) (Nat.le_refl _)).mono fun e w' ⟨he, hw⟩ => ?_
      subst hw
      refine ⟨_, ⟨w.heap.size, 0, 0, none⟩, he, Calm.alloc w _, Nat.le_refl _, ?_, ?_⟩
      · simp only [tr, Mp.upd_same, Option.map_some, Loc.ad_new, hn, Nat.add_zero]
      · refine objR_tight (alloc_get w _) (vs := _) ?_ (by rfl)
        have := trL_strs (G := gam) (m := m.upd h.length ⟨w.heap.size, 0, 0, none⟩) (Lib.splitB ⟨#[c]⟩ 0 (Lib.countB ⟨s.toArray⟩ ⟨#[c]⟩) ⟨s.toArray⟩)
        rw [show (fun b : ByteArray => CV.str b.data.toList) = CV.str ∘ (fun b : ByteArray => b.data.toList) from rfl, ← List.map_map, hl] at this
        simpa using this
    · simp at hev
  · simp at hev

theorem p126_ok {vs : List CV} {h h' : Heap} {r : CV} (hev : p126 vs h = some (r, h')) : h.length ≤ h'.length ∧ ∀ fid, gam.F 126 = some fid → CallSim Tryd.prog gam fid vs h r h' := by
  unfold p126 at hev
  split at hev
  · rename_i hh n
    split at hev
    · rename_i hs
      obtain ⟨h0, h1⟩ := hs
      simp only [Option.some.injEq, Prod.mk.injEq] at hev
      obtain ⟨rfl, rfl⟩ := hev
      refine ⟨Nat.le_refl _, fun fid hf => ?_⟩
      have e := Option.some.inj (hf.symm.trans (show gam.F 126 = some _ from rfl))
      subst e
      refine calm_sim fun m w rvs si ht => ?_
      obtain ⟨_, rfl, ht1⟩ := trL_int ht
      obtain ⟨_, rfl, ht2⟩ := trL_int ht1
      obtain rfl := trL_nil ht2
      obtain ⟨C, e, fr, hb, hC⟩ := pin_cells si (k := 0) (show gam.K[0]? = some _ from rfl)
      refine ⟨_, ?_, (Tryd.strconv_FormatInt_10 n h0 h1 w ?_).mono fun e w' ⟨he, k, os, hw⟩ => ⟨he, hw ▸ Calm.grow w k os⟩⟩
      · simp [tr, itoa_eq h0 h1]
      · unfold Lib.TabIs
        rw [var_of (P := Tryd.prog) hb (by kernel_rfl), show C = _ from hC]
        rfl
    · simp at hev
  · simp at hev

theorem p125_ok {vs : List CV} {h h' : Heap} {r : CV} (hev : p125 vs h = some (r, h')) : h.length ≤ h'.length ∧ ∀ fid, gam.F 125 = some fid → CallSim Tryd.prog gam fid vs h r h' := by
  unfold p125 at hev
  split at hev
  · rename_i hh s
    split at hev
    · rename_i hs
      split at hev
      · rename_i v hp
        simp only [Option.some.injEq, Prod.mk.injEq] at hev
        obtain ⟨rfl, rfl⟩ := hev
        refine ⟨Nat.le_refl _, fun fid hf => ?_⟩
        have e := Option.some.inj (hf.symm.trans (show gam.F 125 = some _ from rfl))
        subst e
        refine calm_sim fun m w rvs si ht => ?_
        obtain ⟨_, rfl, ht1⟩ := trL_str ht
        obtain ⟨_, rfl, ht2⟩ := trL_int ht1
        obtain ⟨_, rfl, ht3⟩ := trL_int ht2
        obtain rfl := trL_nil ht3
        refine ⟨_, ?_, (Go.Proofs.Any.strconv_ParseInt_10_at64_ok Tryd.laysC174 ⟨s.toArray⟩ (by rw [size_mk]; omega) v (by simpa using hp) w).mono fun e w' ⟨he, hw⟩ => ⟨he, ?_⟩⟩
        · simp [tr, trL]
        · rcases hw with rfl | ⟨t, rfl⟩
          · exact Calm.refl _
          · exact bytes_calm w _ _
      · rename_i hp
        simp only [Option.some.injEq, Prod.mk.injEq] at hev
        obtain ⟨rfl, rfl⟩ := hev
        refine ⟨by simp, fun fid hf => ?_⟩
        have e := Option.some.inj (hf.symm.trans (show gam.F 125 = some _ from rfl))
        subst e
        refine made_sim fun m w rvs si ht => ?_
        obtain ⟨_, rfl, ht1⟩ := trL_str ht
        obtain ⟨_, rfl, ht2⟩ := trL_int ht1
        obtain ⟨_, rfl, ht3⟩ := trL_int ht2
        obtain rfl := trL_nil ht3
        obtain ⟨C, e, fr, hb, tp, pv, hC⟩ := pin_cells si (k := 3) (show gam.K[3]? = some _ from rfl)
        refine (Go.Proofs.Any.strconv_ParseInt_10_at64_range_var Tryd.laysC174 ⟨s.toArray⟩ (by rw [size_mk]; exact hs) (by simpa using hp) tp pv w ?_).mono fun e w' ⟨N, he, h1, h2, h3⟩ => ⟨_, ⟨N, 0, 0, none⟩, he, Calm.below h3, h1, ?_, .inl ⟨rfl, rfl⟩⟩
        · rw [var_of (P := Tryd.prog) hb (by kernel_rfl), hC]
        · simp only [tr, trL, Mp.upd_same, Option.map_some, Loc.ad_new]
          rfl
      · rename_i hno1 hno2
        have hp : ∀ v, Lib.parseIntB 64 s ≠ .ok v := fun v e => hno1 v e
        have hp2 : Lib.parseIntB 64 s ≠ .range := fun e => hno2 e
        simp only [Option.some.injEq, Prod.mk.injEq] at hev
        obtain ⟨rfl, rfl⟩ := hev
        refine ⟨by simp, fun fid hf => ?_⟩
        have e := Option.some.inj (hf.symm.trans (show gam.F 125 = some _ from rfl))
        subst e
        refine made_sim fun m w rvs si ht => ?_
        obtain ⟨_, rfl, ht1⟩ := trL_str ht
        obtain ⟨_, rfl, ht2⟩ := trL_int ht1
        obtain ⟨_, rfl, ht3⟩ := trL_int ht2
        obtain rfl := trL_nil ht3
        obtain ⟨C, e, fr, hb, tp, pv, hC⟩ := pin_cells si (k := 2) (show gam.K[2]? = some _ from rfl)
        refine (Go.Proofs.Any.strconv_ParseInt_10_at64_syntax_var Tryd.laysC174 ⟨s.toArray⟩ (by rw [size_mk]; exact hs) (by
          cases hq : Lib.parseIntB 64 s with
          | ok v => exact absurd hq (hp v)
          | range => exact absurd hq hp2
          | _ => simp [hq]) tp pv w ?_).mono fun e w' ⟨N, he, h1, h2, h3⟩ => ⟨_, ⟨N, 0, 0, none⟩, he, Calm.below h3, h1, ?_, .inl ⟨rfl, rfl⟩⟩
        · rw [var_of (P := Tryd.prog) hb (by kernel_rfl), hC]
        · simp only [tr, trL, Mp.upd_same, Option.map_some, Loc.ad_new]
          rfl
    · simp at hev
  · simp at hev

theorem lib_ok : PrimOK Tryd.prog gam lib := by
  intro f g hf vs h r h' hev
  unfold lib at hf
  split at hf <;> cases hf
  · exact p121_ok hev
  · exact p122_ok hev
  · exact p123_ok hev
  · exact p124_ok hev
  · exact p125_ok hev
  · exact p126_ok hev

end Go.Proofs.YtiegjnklhafloaaDoor
