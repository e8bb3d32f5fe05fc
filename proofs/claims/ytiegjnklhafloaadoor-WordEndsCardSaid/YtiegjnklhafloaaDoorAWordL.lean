/-
  Layer 4: a text's lines.
-/
import Derived.Test.YtiegjnklhafloaaDoorAWord
import Derived.Test.YtiegjnklhafloaaDoorPWordS
namespace Go.Cl
open Go
set_option linter.unusedSimpArgs false
set_option linter.unusedVariables false

variable {p : PP}

/-- rows of words, or why not -/
def WordsR (x : Option (List (List UInt8))) (h : Heap) (r : CV) (h' : Heap) : Prop :=
  ∃ v, r = .tup [v, .int .i64 (errOf x)] ∧ Sl .str h' (From h) v (x.getD []) ∧ Keep NoneOf h h'

theorem wordLines_spec (lp : LP p) {s : List UInt8} {h : Heap} (hs : s.length < 4294967281) : WF p 90 [.str s] h (WordsR (linesP s) h) := by
  refine WF_of (by rw [lp.pg]; exact S.pg90) (lp.no ⟨rfl, rfl⟩) ?_
  show W p S.b90 _ _ (retQ [.t 2, .t 3] _)
  unfold S.b90
  by_cases h0 : s = []
  · subst h0
    rw [show linesP [] = some [] from rfl]
    simp
    exact ⟨.nils, rfl, Sl.nil, Keep.refl _ _⟩
  · simp [h0]
    refine WF_prim (g := p121) (r := .tup [.str (Lib.trimSuffix s [10]), .bool (Lib.hasSuffix s [10])]) (h' := h) (by rw [lp.pr 121 rfl]; rfl) ?_ ?_
    · show (if s.length ≤ 9223372036854775807 then some (CV.tup [.str (Lib.trimSuffix s [10]), .bool (Lib.hasSuffix s [10])], h) else none) = _
      rw [if_pos (by omega)]
    · cases hc : Lib.hasSuffix s [10] with
      | false =>
        rw [show linesP s = none by simp [linesP, h0, hc]]
        simp
        exact ⟨.nils, rfl, Sl.nil, Keep.refl _ _⟩
      | true =>
        simp
        refine WF_prim (g := p122) (r := .sl h.length 0 (splitC 10 (Lib.trimSuffix s [10])).length (splitC 10 (Lib.trimSuffix s [10])).length) (h' := h ++ [.arr ((splitC 10 (Lib.trimSuffix s [10])).map .str) .tight]) (by rw [lp.pr 122 rfl]; rfl) ?_ ?_
        · show (if (Lib.trimSuffix s [10]).length < 4294967281 then some _ else none) = _
          rw [if_pos ?_]
          have : (Lib.trimSuffix s [10]).length ≤ s.length := by
            unfold Lib.trimSuffix; split <;> simp
          omega
        · rw [show linesP s = some (splitC 10 (Lib.trimSuffix s [10])) by simp [linesP, h0, hc]]
          exact ⟨_, rfl, Sl.fresh rows_strs rfl, Keep.app _ _ _⟩

def LinesInv (s : List UInt8) (h : Heap) (m : Nat) (e : Env) (h' : Heap) : Prop :=
  ∃ (i f : Nat) (v : CV) (out : List (List UInt8)), CutAt 10 s f i out ∧ m = s.length - i ∧ e = [(0, .str s), (4, v), (5, .int .i64 f), (6, .int .i64 i)] ∧ Keep NoneOf h h' ∧ OwnL .str h' NoneOf v out ∧ (∀ b, v.blk = some b → h.length ≤ b) ∧ out.length ≤ i

theorem refLines_spec (lp : LP p) {s : List UInt8} {h : Heap} (hs : s.length < 4294967281) : WF p 91 [.str s] h (WordsR (linesP s) h) := by
  refine WF_of (by rw [lp.pg]; exact S.pg91) (lp.no ⟨rfl, rfl⟩) ?_
  show W p S.b91 _ _ (retQ [.t 2, .t 3] _)
  unfold S.b91
  by_cases h0 : s = []
  · subst h0
    rw [show linesP [] = some [] from rfl]
    simp
    refine W_loop (fun m e h' => e = [(0, .str []), (4, .nils), (5, .int .i64 0), (6, .int .i64 0)] ∧ h' = h) ?_ 0 ⟨rfl, rfl⟩
    rintro m e h' ⟨rfl, rfl⟩
    simp
    exact ⟨.nils, rfl, Sl.nil, Keep.refl _ _⟩
  · have hpos := List.length_pos_iff.2 h0
    have hw : IntKind.i64.wrap ((s.length : Int) - 1) = ((s.length - 1 : Nat) : Int) := by rw [w64 (by omega) (by omega)]; omega
    have hlt : s.length - 1 < s.length := by omega
    have hg : s[s.length - 1]? = some s[s.length - 1] := List.getElem?_eq_getElem hlt
    by_cases h10 : s[s.length - 1] = 10
    · have hsuf : Lib.hasSuffix s [10] = true := (suffix_last h0).2 (by rw [hg, h10])
      have hg10 : s[s.length - 1]? = some 10 := by rw [hg, h10]
      simp [h0, hw, hg10]
      refine W_loop (LinesInv s h) ?_ s.length ⟨0, 0, .nils, [], CutAt.zero _ _, rfl, rfl, Keep.refl _ _, OwnL.nil, by simp [CV.blk], by simp⟩
      rintro m e h1 ⟨i, f, v, out, hC, rfl, rfl, k, ow, hv, ho⟩
      have hil := hC.il
      have hfi := hC.fi
      by_cases hie : i = s.length
      · subst hie
        rw [hC.lines (.inr hsuf)]
        simp
        refine ⟨v, rfl, ow.sl.mono fun b hb => hb.elim (fun x => x.elim) (hv b), k⟩
      · have hlti : i < s.length := by omega
        have hlti' : (i : Int) < s.length := by omega
        have hgi : s[i]? = some s[i] := List.getElem?_eq_getElem hlti
        have hwi : IntKind.i64.wrap ((i : Int) + 1) = ((i + 1 : Nat) : Int) := by rw [w64 (by omega) (by omega)]; omega
        by_cases hc : s[i] = 10
        · have hgc : s[i]? = some 10 := by rw [hgi, hc]
          have hsl : slStr s (some (.int .i64 f)) (some (.int .i64 i)) = some (.str ((s.take i).drop f)) := by
            simp only [slStr, bound]
            rw [if_pos ⟨by omega, by omega⟩]
            simp only []
            rw [if_pos ⟨by omega, by omega⟩]
            simp
          simp [hlti', hgc, hsl, fillC, splice, spread, cellsAt]
          refine OV_push (e := .str) (x := (s.take i).drop f) (ow.on (Keep.app _ _ _)) rfl (fun _ hb => hb.elim) (by simp [big]; omega) (by decide) ?_
          intro v' h2 o2 k2 hb2
          simp [hwi]
          refine ⟨s.length - (i + 1), by omega, i + 1, i + 1, v', _, hC.hit hgc, rfl, rfl, ((k.trans (Keep.app _ _ _)).then k2 fun b hb e => by have := hv b e; omega), o2, fun b hb => ?_, by simp; omega⟩
          rcases hb2 b hb with q | q
          · exact hv b q
          · have := k.len; simp at q; omega
        · have hne : (s[i].toNat : Int) ≠ 10 := fun e => hc (by
            apply UInt8.toNat.inj; simp; omega)
          simp [hlti', hgi, hne, hwi]
          refine ⟨s.length - (i + 1), by omega, i + 1, f, v, out, hC.next hlti (by rw [hgi]; simpa using hc), rfl, rfl, k, ow, hv, by omega⟩
    · have hsuf : Lib.hasSuffix s [10] = false := by
        rw [Bool.eq_false_iff]; intro hh
        have := (suffix_last h0).1 hh
        rw [hg] at this; simp at this; exact h10 this
      have hne : (s[s.length - 1].toNat : Int) ≠ 10 := fun e => h10 (by
        apply UInt8.toNat.inj; simp; omega)
      rw [show linesP s = none by simp [linesP, h0, hsuf]]
      simp [h0, hw, hg, hne]
      exact ⟨.nils, rfl, Sl.nil, Keep.refl _ _⟩

end Go.Cl
