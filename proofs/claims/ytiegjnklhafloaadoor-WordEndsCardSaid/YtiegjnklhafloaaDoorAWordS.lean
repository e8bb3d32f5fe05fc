/-
  Layer 4: a line's words.
-/
import Derived.Test.YtiegjnklhafloaaDoorAWordL
namespace Go.Cl
open Go
set_option linter.unusedSimpArgs false
set_option linter.unusedVariables false

variable {p : PP}

def SplInv (v : CV) (l : List (List UInt8)) (H : Heap) (m : Nat) (e : Env) (h' : Heap) : Prop :=
  ∃ i : Nat, i ≤ l.length ∧ m = l.length - i ∧ e = [(4, v), (12, v), (13, .int .i64 l.length), (14, .int .i64 i)] ∧ h' = H ∧ (l.take i).all wordOk = true

def SplInv2 (v : CV) (n i : Nat) (w : List UInt8) (H : Heap) (m : Nat) (e : Env) (h' : Heap) : Prop :=
  ∃ j : Nat, j ≤ w.length ∧ m = w.length - j ∧ e = [(4, v), (6, .str w), (12, v), (13, .int .i64 n), (14, .int .i64 i), (19, .int .i64 w.length), (20, .int .i64 j)] ∧ h' = H ∧ (w.take j).all isSeen = true

theorem splitC_len_le (c : UInt8) : ∀ (s : List UInt8), (splitC c s).length ≤ s.length + 1
  | [] => by simp [splitC]
  | b :: s => by
    have ih := splitC_len_le c s
    simp only [splitC]
    split
    · simp; omega
    · cases hs : splitC c s with
      | nil => simp
      | cons w ws => rw [hs] at ih; simp at ih ⊢; omega

theorem splitC_part {c : UInt8} : ∀ {s w : List UInt8}, w ∈ splitC c s → w.length ≤ s.length
  | [], w, h => by simp [splitC] at h; subst h; simp
  | b :: s, w, h => by
    simp only [splitC] at h
    split at h
    · rcases List.mem_cons.1 h with rfl | h
      · simp
      · have := splitC_part h; simp; omega
    · cases hs : splitC c s with
      | nil => exact absurd hs (splitC_ne c s)
      | cons x xs =>
        rw [hs] at h
        rcases List.mem_cons.1 h with rfl | h
        · have := splitC_part (c := c) (s := s) (w := x) (by rw [hs]; simp)
          simp; omega
        · have := splitC_part (c := c) (s := s) (w := w) (by rw [hs]; simp [h])
          simp; omega

theorem wordSplit_spec (lp : LP p) {s : List UInt8} {h : Heap} (hs : s.length < 4294967281) : WF p 92 [.str s] h (WordsR (wordsP s) h) := by
  refine WF_of (by rw [lp.pg]; exact S.pg92) (lp.no ⟨rfl, rfl⟩) ?_
  show W p S.b92 _ _ (retQ [.t 2, .t 3] _)
  unfold S.b92
  by_cases h0 : s = []
  · subst h0
    rw [show wordsP [] = some [] from rfl]
    simp
    exact ⟨.nils, rfl, Sl.nil, Keep.refl _ _⟩
  · obtain ⟨l, hl⟩ : ∃ l, l = splitC 32 s := ⟨_, rfl⟩
    have hlen := splitC_len_le 32 s
    have hpart : ∀ w ∈ l, w.length ≤ s.length := fun w hw => splitC_part (by rw [← hl]; exact hw)
    have hpn : ∀ w ∈ l, wordOk w = false → wordsP s = none := fun w hw => words_none h0 (by rw [← hl]; exact hw)
    have hps : l.all wordOk = true → wordsP s = some l := fun ha => by simp only [wordsP, if_neg h0]; rw [← hl, if_pos ha]
    rw [← hl] at hlen
    simp [h0]
    refine WF_prim (g := p122) (r := .sl h.length 0 l.length l.length) (h' := h ++ [.arr (l.map .str) .tight]) (by rw [lp.pr 122 rfl]; rfl) ?_ ?_
    · show (if s.length < 4294967281 then some _ else none) = _
      rw [if_pos hs, hl]
    · obtain ⟨H, hH⟩ : ∃ H, H = h ++ [Obj.arr (l.map CV.str) .tight] := ⟨_, rfl⟩
      have sl : Sl .str H (From h) (.sl h.length 0 l.length l.length) l := by rw [hH]; exact Sl.fresh rows_strs rfl
      have kH : Keep NoneOf h H := by rw [hH]; exact Keep.app _ _ _
      rw [← hH]
      clear hH
      generalize hv : CV.sl h.length 0 l.length l.length = v at *
      have nl := sl.len (by decide)
      simp [nl]
      refine W_loop (SplInv v l H) ?_ l.length ⟨0, by omega, by omega, rfl, rfl, rfl⟩
      rintro m e h1 ⟨i, hi, rfl, rfl, rfl, ha⟩
      by_cases hie : i = l.length
      · subst hie
        rw [List.take_length] at ha
        rw [hps ha]
        simp
        exact ⟨_, rfl, sl, kH⟩
      · have hlt : i < l.length := by omega
        have hlt' : (i : Int) < l.length := by omega
        obtain ⟨b0, o0, row0, x1, x2, x3, x4⟩ := sl.row (k := .i64) (by decide) hlt
        simp only [Cod.str] at x1 x2 x3 x4
        subst x4
        have x5 := x3 0 (by decide)
        simp at x5
        have hmem : l[i] ∈ l := List.getElem_mem hlt
        have hwl := hpart _ hmem
        have hnone := hpn _ hmem
        have hok : wordOk l[i] = true → (l.take (i + 1)).all wordOk = true := fun hk => by
          rw [List.take_add_one, List.getElem?_eq_getElem hlt, List.all_append, ha]; simp [hk]
        have hw : IntKind.i64.wrap ((i : Int) + 1) = ((i + 1 : Nat) : Int) := by rw [w64 (by omega) (by omega)]; omega
        generalize l[i] = w at *
        simp [hlt', x1, x5]
        refine W_loop (SplInv2 v l.length i w h1) ?_ w.length ⟨0, by omega, by omega, rfl, rfl, rfl⟩
        rintro m e h2 ⟨j, hj, rfl, rfl, rfl, hs2⟩
        by_cases hje : j = w.length
        · subst hje
          rw [List.take_length] at hs2
          by_cases hwe : w = []
          · subst hwe
            rw [hnone rfl]
            simp
            exact ⟨.nils, rfl, Sl.nil, kH⟩
          · have hk : wordOk w = true := by
              simp only [wordOk, hs2]
              cases w <;> simp at hwe ⊢
            simp [hwe, hw]
            exact ⟨l.length - (i + 1), by omega, i + 1, by omega, rfl, rfl, rfl, hok hk⟩
        · have hjlt : j < w.length := by omega
          have hjlt' : (j : Int) < w.length := by omega
          have hg : w[j]? = some w[j] := List.getElem?_eq_getElem hjlt
          have hwj : IntKind.i64.wrap ((j : Int) + 1) = ((j + 1 : Nat) : Int) := by rw [w64 (by omega) (by omega)]; omega
          have bad : isSeen w[j] = false → wordOk w = false := fun hb => by
            have : w.all isSeen = false := by
              rw [Bool.eq_false_iff]; intro hh
              rw [List.all_eq_true.1 hh _ (List.getElem_mem hjlt)] at hb; cases hb
            simp [wordOk, this]
          by_cases c1 : (w[j].toNat : Int) < 33
          · rw [hnone (bad (by simp [isSeen]; omega))]
            simp [hjlt', hg, c1]
            exact ⟨.nils, rfl, Sl.nil, kH⟩
          · by_cases c2 : (126 : Int) < w[j].toNat
            · rw [hnone (bad (by simp [isSeen]; omega))]
              simp [hjlt', hg, c1, c2]
              exact ⟨.nils, rfl, Sl.nil, kH⟩
            · have hl1 : isSeen w[j] = true := by simp [isSeen]; omega
              simp [hjlt', hg, c1, c2, hwj]
              refine ⟨w.length - (j + 1), by omega, j + 1, by omega, rfl, rfl, rfl, ?_⟩
              rw [List.take_add_one, hg, List.all_append, hs2]
              simp [hl1]

def RSplInv (s : List UInt8) (h : Heap) (m : Nat) (e : Env) (h' : Heap) : Prop :=
  ∃ (i : Nat) (v : CV) (out : List (List UInt8)) (w : List UInt8), m = s.length + 2 - i ∧ e = [(0, .str s), (4, v), (5, .str w), (6, .int .i64 i)] ∧ Keep NoneOf h h' ∧ OwnL .str h' NoneOf v out ∧ (∀ b, v.blk = some b → h.length ≤ b) ∧ out.length ≤ i ∧ out.all wordOk = true ∧
    ((∃ f, CutAt 32 s f i out ∧ w = (s.take i).drop f ∧ w.all isSeen = true) ∨ (i = s.length + 1 ∧ splitC 32 s = out))

theorem refSplit_spec (lp : LP p) {s : List UInt8} {h : Heap} (hs : s.length < 4294967281) : WF p 93 [.str s] h (WordsR (wordsP s) h) := by
  refine WF_of (by rw [lp.pg]; exact S.pg93) (lp.no ⟨rfl, rfl⟩) ?_
  show W p S.b93 _ _ (retQ [.t 2, .t 3] _)
  unfold S.b93
  by_cases h0 : s = []
  · subst h0
    rw [show wordsP [] = some [] from rfl]
    simp
    exact ⟨.nils, rfl, Sl.nil, Keep.refl _ _⟩
  · simp [h0]
    refine W_loop (RSplInv s h) ?_ (s.length + 2) ⟨0, .nils, [], [], by omega, rfl, Keep.refl _ _, OwnL.nil, by simp [CV.blk], by simp, rfl, .inl ⟨0, CutAt.zero _ _, by simp, rfl⟩⟩
    rintro m e h1 ⟨i, v, out, w, rfl, rfl, k, ow, hv, ho, hok, hor⟩
    rcases hor with ⟨f, hC, hw, hseen⟩ | ⟨rfl, hsp⟩
    · have hil := hC.il
      have hfi := hC.fi
      have hil' : (i : Int) ≤ s.length := by omega
      have hwi : IntKind.i64.wrap ((i : Int) + 1) = ((i + 1 : Nat) : Int) := by rw [w64 (by omega) (by omega)]; omega
      have push : ∀ {K : CV × Heap → Prop}, w ≠ [] → (∀ v' h2, OwnL .str h2 NoneOf v' (out ++ [w]) → Keep NoneOf h h2 → (∀ b, v'.blk = some b → h.length ≤ b) → (out ++ [w]).all wordOk = true → K (v', h2)) → OV (appendTo (h1 ++ [.arr [.str w] .tight]) 1 v 1 [.str w]) K := by
        intro K hne kk
        refine OV_push (e := .str) (x := w) (ow.on (Keep.app _ _ _)) rfl (fun _ hb => hb.elim) (by simp [big]; omega) (by decide) ?_
        intro v' h2 o2 k2 hb2
        refine kk v' h2 o2 ((k.trans (Keep.app _ _ _)).then k2 fun b hb e => by have := hv b e; omega) (fun b hb => ?_) ?_
        · rcases hb2 b hb with q | q
          · exact hv b q
          · have := k.len; simp at q; omega
        · rw [List.all_append, hok]
          simp only [List.all_cons, List.all_nil, wordOk, hseen]
          cases w <;> simp at hne ⊢
      by_cases hie : i = s.length
      · have hie' : (i : Int) = s.length := by omega
        subst hie
        by_cases hwe : w = []
        · rw [words_none (w := w) h0 (by rw [hC.last, ← hw]; simp) (by rw [hwe]; rfl)]
          simp [hwe]
          exact ⟨.nils, rfl, Sl.nil, k⟩
        · simp [hwe, fillC, splice, spread, cellsAt]
          refine push hwe ?_
          intro v' h2 o2 k2 hb2 hok2
          simp [hwi]
          refine ⟨s.length + 2 - (s.length + 1), by omega, s.length + 1, v', _, [], rfl, rfl, k2, o2, hb2, by simp; omega, hok2, .inr ⟨rfl, ?_⟩⟩
          rw [hC.last, ← hw]
      · have hlt : i < s.length := by omega
        have hne' : ¬ (i : Int) = s.length := by omega
        have hg : s[i]? = some s[i] := List.getElem?_eq_getElem hlt
        by_cases hc : s[i] = 32
        · have hgc : s[i]? = some 32 := by rw [hg, hc]
          by_cases hwe : w = []
          · rw [words_none (w := w) h0 (by rw [hw]; exact hC.first hgc) (by rw [hwe]; rfl)]
            simp [hil', hne', hgc, hwe]
            exact ⟨.nils, rfl, Sl.nil, k⟩
          · simp [hil', hne', hgc, hwe, fillC, splice, spread, cellsAt]
            refine push hwe ?_
            intro v' h2 o2 k2 hb2 hok2
            simp [hwi]
            refine ⟨s.length + 2 - (i + 1), by omega, i + 1, v', _, [], rfl, rfl, k2, o2, hb2, by simp; omega, hok2, .inl ⟨i + 1, ?_, ?_, rfl⟩⟩
            · rw [hw]; exact hC.hit hgc
            · rw [List.drop_eq_nil_iff.2]; simp; omega
        · have hne : (s[i].toNat : Int) ≠ 32 := fun e => hc (by
            apply UInt8.toNat.inj; simp; omega)
          by_cases c1 : (s[i].toNat : Int) < 33
          · rw [words_unseen (List.getElem_mem hlt) hc (by simp [isSeen]; omega)]
            simp [hil', hne', hg, hne, c1]
            exact ⟨.nils, rfl, Sl.nil, k⟩
          · by_cases c2 : (126 : Int) < s[i].toNat
            · rw [words_unseen (List.getElem_mem hlt) hc (by simp [isSeen]; omega)]
              simp [hil', hne', hg, hne, c1, c2]
              exact ⟨.nils, rfl, Sl.nil, k⟩
            · have hl1 : isSeen s[i] = true := by simp [isSeen]; omega
              have hsl : slStr s (some (.int .i64 i)) (some (.int .i64 ((i : Int) + 1))) = some (.str [s[i]]) := by
                simp only [slStr, bound]
                rw [if_pos ⟨by omega, by omega⟩]
                simp only []
                rw [if_pos ⟨by omega, by omega⟩]
                simp only [Int.toNat_natCast, Option.some.injEq, CV.str.injEq]
                rw [show ((i : Int) + 1).toNat = i + 1 by omega, List.drop_take, show i + 1 - i = 1 by omega, List.drop_eq_getElem_cons hlt, List.take_succ_cons, List.take_zero]
              have hwl : w.length ≤ s.length := by rw [hw]; simp; omega
              have hadd : w.length + 1 ≤ 9223372036854775807 := by omega
              have hnx : w ++ [s[i]] = (s.take (i + 1)).drop f := by
                rw [hw, List.take_add_one, hg, List.drop_append_of_le_length (by simp; omega)]; rfl
              have hse : (w ++ [s[i]]).all isSeen = true := by rw [List.all_append, hseen]; simp [hl1]
              simp [hil', hne', hg, hne, c1, c2, hwi, hsl, hadd]
              refine ⟨s.length + 2 - (i + 1), by omega, i + 1, v, out, _, rfl, rfl, k, ow, hv, by omega, hok, .inl ⟨f, hC.next hlt (by rw [hg]; simpa using hc), hnx, hse⟩⟩
    · have : ¬ (s.length : Int) + 1 ≤ s.length := by omega
      have hok' : wordsP s = some out := by simp only [wordsP, if_neg h0, hsp, if_pos hok]
      rw [hok']
      simp [this]
      exact ⟨v, rfl, ow.sl.mono fun b hb => hb.elim (fun x => x.elim) (hv b), k⟩

end Go.Cl
