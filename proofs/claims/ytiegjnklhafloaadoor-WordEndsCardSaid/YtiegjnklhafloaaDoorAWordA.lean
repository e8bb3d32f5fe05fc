/-
  Layer 4: WordAny, WordNumbers on the clean evaluator.
-/
import Derived.Test.YtiegjnklhafloaaDoorAWordT
import Derived.Test.YtiegjnklhafloaaDoorAWordS
import Derived.Test.YtiegjnklhafloaaDoorAWordN
namespace Go.Cl
open Go
set_option linter.unusedSimpArgs false
set_option linter.unusedVariables false
set_option maxHeartbeats 4000000

variable {p : PP}

theorem WF_yes {f : Nat} {ks : List Nat} (hp : p.pr = addKnown ks lib) (hf : ks.contains f = true) {h : Heap} {K : CV → Heap → Prop} (k : K (.bool true) h) : WF p f [] h K := WF_known hp hf k

theorem wordAny_law (lp : LP p) (hp : p.pr = addKnown [89] lib) {s : List UInt8} {h : Heap} : WF p 88 [.str s] h fun r _ => r = .bool true := by
  refine WF_of (by rw [lp.pg]; exact S.pg88) (lp.no' hp ⟨rfl, rfl⟩) ?_
  show W p S.b88 _ _ (retQ [.t 2] _)
  unfold S.b88
  simp
  refine WF_yes hp rfl ?_
  by_cases hl : (400 : Int) < s.length
  · simp [hl]
  · have hs : s.length < 4294967281 := by omega
    simp [hl]
    refine (wordLines_spec lp hs).mono ?_
    rintro r h1 ⟨v1, rfl, s1, k1⟩
    simp
    refine (refLines_spec lp hs).mono ?_
    rintro r h2 ⟨v2, rfl, s2, k2⟩
    simp
    refine (wordSplit_spec lp hs).mono ?_
    rintro r h3 ⟨v3, rfl, s3, k3⟩
    simp
    refine (refSplit_spec lp hs).mono ?_
    rintro r h4 ⟨v4, rfl, s4, k4⟩
    simp
    refine (wordNumber_spec lp hs).mono ?_
    rintro r h5 ⟨rfl, k5⟩
    simp
    refine (refNumber_spec lp hs).mono ?_
    rintro r h6 ⟨rfl, k6⟩
    have len1 : ((linesP s).getD []).length ≤ big := by
      have : ((linesP s).getD []).length ≤ s.length + 1 := by
        unfold linesP
        split
        · simp
        · split
          · have h1 := splitC_len_le 10 (Lib.trimSuffix s [10])
            have h2 : (Lib.trimSuffix s [10]).length ≤ s.length := by unfold Lib.trimSuffix; split <;> simp
            simp; omega
          · simp
      simp [big]; omega
    have len2 : ((wordsP s).getD []).length ≤ big := by
      have : ((wordsP s).getD []).length ≤ s.length + 1 := by
        unfold wordsP
        split
        · simp
        · split
          · exact splitC_len_le 32 s
          · simp
      simp [big]; omega
    have t1 := s1.on ((((k2.trans k3).trans k4).trans k5).trans k6)
    have t2 := s2.on (((k3.trans k4).trans k5).trans k6)
    have t3 := s3.on ((k4.trans k5).trans k6)
    have t4 := s4.on (k5.trans k6)
    have bk := itoa_numP (s := s)
    have bn := numP_in s
    generalize numP s = N at *
    obtain ⟨n, e⟩ := N
    simp at bk bn
    simp
    refine (words_spec lp t1 t2 len1).mono ?_
    rintro r h7 ⟨rfl, rfl⟩
    simp
    refine (words_spec lp t3 t4 len2).mono ?_
    rintro r h8 ⟨rfl, rfl⟩
    simp
    refine (wordName_spec lp (by omega)).mono ?_
    rintro r h9 ⟨rfl, rfl⟩
    refine (refName_spec lp).mono ?_
    rintro r h10 ⟨rfl, rfl⟩
    by_cases he : e = 0
    · subst he
      simp
      refine (wordText_spec lp bn.1 bn.2).mono ?_
      rintro r h11 ⟨rfl, rfl⟩
      simp [bk]
    · simp [he]

theorem wordNumbers_law (lp : LP p) (hp : p.pr = addKnown [89] lib) {n : Int} {h : Heap} (hn : inI n) : WF p 100 [.int .i64 n] h fun r _ => r = .bool true := by
  refine WF_of (by rw [lp.pg]; exact S.pg100) (lp.no' hp ⟨rfl, rfl⟩) ?_
  show W p S.b100 _ _ (retQ [.t 2] _)
  unfold S.b100
  simp
  refine WF_yes hp rfl ?_
  simp
  refine (wordText_spec lp hn.1 hn.2).mono ?_
  rintro r h1 ⟨rfl, rfl⟩
  have hl := itoa_len20 hn.1 hn.2
  have hnum := numP_itoa hn.1 hn.2
  try simp
  refine (wordNumber_spec lp (by omega)).mono ?_
  rintro r h2 ⟨rfl, k2⟩
  rw [hnum]
  simp
  refine (refWord_spec lp n.natAbs n h2 (Nat.le_refl _) hn.1 hn.2).mono ?_
  rintro r h3 ⟨rfl, k3⟩
  have l1 : (1 : Int) ≤ (itoa n).length := by omega
  have l2 : ((itoa n).length : Int) ≤ 20 := by omega
  simp [l1, l2]

end Go.Cl
