/-
  Layer 4, plain: a text cut at a byte, from the left.
-/
import Derived.Test.YtiegjnklhafloaaDoorPWord
namespace Go.Cl
open Go
set_option linter.unusedSimpArgs false
set_option linter.unusedVariables false

theorem splitC_snoc (c : UInt8) : ∀ (t : List UInt8), splitC c (t ++ [c]) = splitC c t ++ [[]]
  | [] => by simp [splitC]
  | b :: t => by
    have ih := splitC_snoc c t
    by_cases h : b == c
    · simp [splitC, h, ih]
    · have hne := splitC_ne c t
      simp only [List.cons_append, splitC, h, ih]
      cases hs : splitC c t with
      | nil => exact absurd hs hne
      | cons w ws => simp

theorem suffix_iff {s : List UInt8} {c : UInt8} : Lib.hasSuffix s [c] = true ↔ ∃ t, s = t ++ [c] := by
  unfold Lib.hasSuffix
  rw [List.isSuffixOf_iff_suffix]
  constructor
  · rintro ⟨t, h⟩; exact ⟨t, h.symm⟩
  · rintro ⟨t, h⟩; exact ⟨t, h.symm⟩

theorem trimSuffix_snoc {t : List UInt8} {c : UInt8} : Lib.trimSuffix (t ++ [c]) [c] = t := by
  unfold Lib.trimSuffix
  rw [if_pos (suffix_iff.2 ⟨t, rfl⟩)]
  simp

theorem suffix_last {s : List UInt8} {c : UInt8} (h : s ≠ []) : Lib.hasSuffix s [c] = true ↔ s[s.length - 1]? = some c := by
  rw [suffix_iff]
  constructor
  · rintro ⟨t, rfl⟩; simp
  · intro h2
    refine ⟨s.dropLast, ?_⟩
    have := List.dropLast_concat_getLast h
    rw [List.getLast_eq_getElem] at this
    have hl : s.length - 1 < s.length := by have := List.length_pos_iff.2 h; omega
    rw [List.getElem?_eq_getElem hl] at h2
    rw [← this]
    simp at h2
    simp [h2]

/-- so far the pieces are told; from here on there is no cut up to i -/
structure CutAt (c : UInt8) (s : List UInt8) (frm i : Nat) (out : List (List UInt8)) : Prop where
  fi : frm ≤ i
  il : i ≤ s.length
  cut : splitC c s = out ++ splitC c (s.drop frm)
  no : ∀ k, frm ≤ k → k < i → s[k]? ≠ some c

theorem CutAt.zero (c : UInt8) (s : List UInt8) : CutAt c s 0 0 [] := ⟨by omega, by omega, by simp, fun k _ h => by omega⟩

theorem CutAt.next {c : UInt8} {s : List UInt8} {f i : Nat} {out : List (List UInt8)} (k : CutAt c s f i out) (hi : i < s.length) (h : s[i]? ≠ some c) : CutAt c s f (i + 1) out :=
  ⟨by have := k.fi; omega, by omega, k.cut, fun j h1 h2 => by
    by_cases e : j = i
    · subst e; exact h
    · exact k.no j h1 (by omega)⟩

theorem CutAt.hit {c : UInt8} {s : List UInt8} {f i : Nat} {out : List (List UInt8)} (k : CutAt c s f i out) (h : s[i]? = some c) : CutAt c s (i + 1) (i + 1) (out ++ [(s.take i).drop f]) := by
  have hi : i < s.length := by
    rcases Nat.lt_or_ge i s.length with g | g
    · exact g
    · simp [List.getElem?_eq_none g] at h
  have hf := k.fi
  refine ⟨Nat.le_refl _, by omega, ?_, fun j h1 h2 => by omega⟩
  have e := splitC_at (c := c) (l := s.drop f) (i := i - f) (by rw [List.getElem?_drop, show f + (i - f) = i by omega]; exact h) (fun j hj => by
    rw [List.getElem?_drop]; exact k.no _ (by omega) (by omega))
  rw [k.cut, e, List.drop_drop, show f + (i - f + 1) = i + 1 by omega]
  simp [List.drop_take]

theorem CutAt.done {c : UInt8} {s : List UInt8} {f : Nat} {out : List (List UInt8)} (k : CutAt c s f s.length out) : splitC c s = out ++ [s.drop f] := by
  rw [k.cut, splitC_none]
  intro j
  rw [List.getElem?_drop]
  by_cases h : f + j < s.length
  · exact k.no _ (by omega) h
  · rw [List.getElem?_eq_none (by omega)]; simp

theorem splitC_mem {c b : UInt8} : ∀ {s : List UInt8}, b ∈ s → b ≠ c → ∃ w ∈ splitC c s, b ∈ w
  | [], h, _ => by simp at h
  | x :: s, h, hne => by
    by_cases hx : x == c
    · have hxc : x = c := by simpa using hx
      have hb : b ∈ s := by
        rcases List.mem_cons.1 h with e | e
        · exact absurd (e.trans hxc) hne
        · exact e
      obtain ⟨w, h1, h2⟩ := splitC_mem hb hne
      exact ⟨w, by simp [splitC, hx, h1], h2⟩
    · simp only [splitC, hx]
      cases hs : splitC c s with
      | nil => exact absurd hs (splitC_ne c s)
      | cons w ws =>
        simp
        rcases List.mem_cons.1 h with e | e
        · left; left; exact e
        · obtain ⟨w', h1, h2⟩ := splitC_mem e hne
          rw [hs] at h1
          rcases List.mem_cons.1 h1 with q | q
          · left; right; rw [← q]; exact h2
          · right; exact ⟨w', q, h2⟩

theorem words_none {s : List UInt8} {w : List UInt8} (h0 : s ≠ []) (hw : w ∈ splitC 32 s) (hb : wordOk w = false) : wordsP s = none := by
  unfold wordsP
  rw [if_neg h0, if_neg]
  intro hh
  rw [List.all_eq_true.1 hh w hw] at hb
  cases hb

theorem words_unseen {s : List UInt8} {b : UInt8} (hb : b ∈ s) (h32 : b ≠ 32) (hn : isSeen b = false) : wordsP s = none := by
  obtain ⟨w, h1, h2⟩ := splitC_mem hb h32
  refine words_none (List.ne_nil_of_mem hb) h1 ?_
  have : w.all isSeen = false := by
    rw [Bool.eq_false_iff]; intro hh
    rw [List.all_eq_true.1 hh b h2] at hn; cases hn
  simp [wordOk, this]

theorem CutAt.first {c : UInt8} {s : List UInt8} {f i : Nat} {out : List (List UInt8)} (k : CutAt c s f i out) (h : s[i]? = some c) : (s.take i).drop f ∈ splitC c s := by
  rw [(k.hit h).cut]; simp
theorem CutAt.last {c : UInt8} {s : List UInt8} {f : Nat} {out : List (List UInt8)} (k : CutAt c s f s.length out) : splitC c s = out ++ [(s.take s.length).drop f] := by
  rw [List.take_length]; exact k.done

/-- all lines are told -/
theorem CutAt.lines {s : List UInt8} {f : Nat} {out : List (List UInt8)} (k : CutAt 10 s f s.length out) (h : s = [] ∨ Lib.hasSuffix s [10] = true) : linesP s = some out := by
  unfold linesP
  by_cases hs : s = []
  · subst hs
    have := k.done
    rw [if_pos rfl]
    have hf : f = 0 := by have := k.fi; simpa using this
    subst hf
    have e := k.cut
    simp [splitC] at e
    simp [e]
  · have h2 := h.resolve_left hs
    rw [if_neg hs, if_pos h2]
    obtain ⟨t, rfl⟩ := suffix_iff.1 h2
    have hd := k.done
    rw [splitC_snoc] at hd
    have hfl : f = (t ++ [(10 : UInt8)]).length := by
      rcases Nat.lt_or_ge f (t ++ [(10 : UInt8)]).length with g | g
      · exfalso
        refine k.no t.length ?_ (by simp) (by simp)
        simp at g; omega
      · have := k.fi; omega
    rw [hfl, List.drop_length] at hd
    rw [trimSuffix_snoc, List.append_cancel_right hd]

end Go.Cl
