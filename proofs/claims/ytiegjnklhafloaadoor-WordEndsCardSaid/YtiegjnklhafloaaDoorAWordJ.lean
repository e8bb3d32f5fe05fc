/-
  Layer 4: WordJoins, WordEnds on the clean evaluator.
-/
import Derived.Test.YtiegjnklhafloaaDoorAWordA
import Derived.Test.YtiegjnklhafloaaDoorPWordJ
namespace Go.Cl
open Go
set_option linter.unusedSimpArgs false
set_option linter.unusedVariables false
set_option maxHeartbeats 8000000

variable {p : PP}

def JoinInv (v : CV) (l : List (List UInt8)) (h : Heap) (m : Nat) (e : Env) (h' : Heap) : Prop :=
  ∃ i : Nat, i ≤ l.length ∧ m = l.length - i ∧ e = [(0, v), (3, .str (joinC 32 (l.take i))), (4, .str (linesOf (l.take i))), (5, .bool ((l.take i).all wordOk)), (6, .int .i64 i)] ∧ h' = h ∧
    (joinC 32 (l.take i)).length ≤ 61 * i ∧ (linesOf (l.take i)).length ≤ 61 * i

def JoinInv2 (v : CV) (a b : List UInt8) (t : Bool) (i : Nat) (w : List UInt8) (h : Heap) (m : Nat) (e : Env) (h' : Heap) : Prop :=
  ∃ j : Nat, j ≤ w.length ∧ m = w.length - j ∧ e = [(0, v), (3, .str a), (4, .str b), (5, .bool (t && (w.take j).all isSeen)), (6, .int .i64 i), (7, .int .i64 j)] ∧ h' = h

theorem wordJoins_law (lp : LP p) (hp : p.pr = addKnown [89] lib) {v : CV} {l : List (List UInt8)} {P : Nat → Prop} {h : Heap} (s0 : Sl .str h P v l) : WF p 102 [v] h fun r _ => r = .bool true := by
  refine WF_of (by rw [lp.pg]; exact S.pg102) (lp.no' hp ⟨rfl, rfl⟩) ?_
  show W p S.b102 _ _ (retQ [.t 2] _)
  unfold S.b102
  have n0 := s0.len (by decide)
  simp
  refine WF_yes hp rfl ?_
  by_cases hl : (30 : Int) < l.length
  · simp [n0, hl]
  · simp [n0, hl]
    refine W_loop (JoinInv v l h) ?_ l.length ⟨0, by omega, by omega, rfl, rfl, by simp [joinC], by simp [linesOf]⟩
    rintro m e h1 ⟨i, hi, rfl, rfl, rfl, q1, q2⟩
    by_cases hie : i = l.length
    · subst hie
      rw [List.take_length] at *
      cases hok : l.all wordOk with
      | false => simp [n0]
      | true =>
        have w1 := wordSplit_spec lp (s := joinC 32 l) (h := h1) (by omega)
        have h10 : ∀ w ∈ l, ∀ b ∈ w, b ≠ 10 := fun w hw b hb e => by
          have := List.all_eq_true.1 hok w hw
          simp only [wordOk, Bool.and_eq_true] at this
          have := List.all_eq_true.1 this.2 b hb
          rw [e] at this
          simp [isSeen] at this
        have w2 := fun h2 => wordLines_spec lp (s := linesOf l) (h := h2) (by omega)
        rw [words_of hok] at w1
        rw [lines_of h10] at w2
        have hlb : l.length ≤ big := by simp [big]; omega
        generalize joinC 32 l = A at *
        generalize linesOf l = B at *
        simp [n0]
        refine w1.mono ?_
        rintro r h2 ⟨v1, rfl, s1, k1⟩
        simp
        refine (w2 h2).mono ?_
        rintro r h3 ⟨v2, rfl, s2, k2⟩
        have w0 : IntKind.i64.wrap 0 = 0 := by decide
        simp [errOf, w0]
        refine (words_spec lp (s1.on k2) (s0.on (k1.trans k2)) hlb).mono ?_
        rintro r h4 ⟨rfl, rfl⟩
        simp
        refine (words_spec lp s2 (s0.on (k1.trans k2)) hlb).mono ?_
        rintro r h5 ⟨rfl, rfl⟩
        simp
    · have hlt : i < l.length := by omega
      have hlt' : (i : Int) < l.length := by omega
      obtain ⟨b0, o0, row0, x1, x2, x3, x4⟩ := s0.row (k := .i64) (by decide) hlt
      simp only [Cod.str] at x1 x2 x3 x4
      subst x4
      have x5 := x3 0 (by decide)
      simp at x5
      have hw : IntKind.i64.wrap ((i : Int) + 1) = ((i + 1 : Nat) : Int) := by rw [w64 (by omega) (by omega)]; omega
      have htk : l.take (i + 1) = l.take i ++ [l[i]] := by rw [List.take_add_one, List.getElem?_eq_getElem hlt]; rfl
      have hall : (l.take (i + 1)).all wordOk = ((l.take i).all wordOk && wordOk l[i]) := by rw [htk, List.all_append]; simp
      have hlin : linesOf (l.take (i + 1)) = linesOf (l.take i) ++ l[i] ++ [10] := by rw [htk, linesOf_snoc]
      have hjoin : joinC 32 (l.take (i + 1)) = (if i = 0 then joinC 32 (l.take i) else joinC 32 (l.take i) ++ [32]) ++ l[i] := by
        rw [htk]
        by_cases h0 : i = 0
        · subst h0; simp [joinC]
        · rw [if_neg h0, joinC_snoc 32 _ _ (by simp; exact ⟨h0, fun e => by rw [e] at hlt; simp at hlt⟩)]; simp
      generalize hA : joinC 32 (l.take i) = A at *
      generalize hB : linesOf (l.take i) = B at *
      generalize hT : (l.take i).all wordOk = t at *
      generalize hW : l[i] = w at *
      by_cases hwl : (60 : Int) < w.length
      · simp [n0, hlt', x1, x5, hwl]
      · have next : ∀ t', t' = (t && wordOk w) → ∃ m', m' < l.length - i ∧ JoinInv v l h1 m' [(0, v), (3, .str ((if i = 0 then A else A ++ [32]) ++ w)), (4, .str (B ++ w ++ [10])), (5, .bool t'), (6, .int .i64 ((i + 1 : Nat) : Int))] h1 := by
          rintro t' rfl
          refine ⟨l.length - (i + 1), by omega, i + 1, by omega, rfl, ?_, rfl, ?_, ?_⟩
          · rw [hjoin, hlin, hall]
          · rw [hjoin]; split <;> simp <;> omega
          · rw [hlin]; simp; omega
        have hBl : B.length + w.length ≤ 9223372036854775807 := by omega
        have hBl2 : B.length + w.length + 1 ≤ 9223372036854775807 := by omega
        have fin : ∀ (r1 : Bool), r1 = (t && !w.isEmpty) → (t && wordOk w) = (r1 && w.all isSeen) := by
          rintro r1 rfl
          simp only [wordOk]
          cases t <;> cases w.isEmpty <;> simp
        have step0 : ∀ (r1 : Bool) (j : Nat), j < w.length → ∀ rj, rj = (r1 && (w.take j).all isSeen) → (r1 && (w.take (j + 1)).all isSeen) = (rj && (decide (33 ≤ w[j]!.toNat) && decide (w[j]!.toNat ≤ 126))) := by
          rintro r1 j hj rj rfl
          rw [List.take_add_one, List.getElem?_eq_getElem hj, List.all_append]
          simp only [Option.toList_some, List.all_cons, List.all_nil, Bool.and_true, isSeen]
          rw [show w[j]! = w[j] by simp [hj]]
          cases r1 <;> simp
        obtain ⟨r1, hr1⟩ : ∃ r1, r1 = (t && !w.isEmpty) := ⟨_, rfl⟩
        have nx := next _ (fin r1 hr1).symm
        have hA1 : A.length + w.length ≤ 9223372036854775807 := by omega
        have hA2 : A.length + 1 ≤ 9223372036854775807 := by omega
        have hA3 : A.length + (w.length + 1) ≤ 9223372036854775807 := by omega
        have hA4 : A.length + 1 + w.length ≤ 9223372036854775807 := by omega
        have hx : (0 < i ∧ (0 : Int) < i ∧ ¬ i = 0) ∨ (¬ 0 < i ∧ ¬ (0 : Int) < i ∧ i = 0) := by omega
        have e1 : (false && !w.isEmpty) = false := rfl
        have e2 : (true && !w.isEmpty) = !w.isEmpty := by simp
        rcases hx with ⟨p1, p2, p3⟩ | ⟨p1, p2, p3⟩ <;> cases t
        all_goals
          first | rw [if_neg p3] at nx | rw [if_pos p3] at nx
          simp only [e1, e2] at hr1
          clear p3
          simp [n0, hlt', x1, x5, hwl, hA1, hA2, hA3, hA4, hBl, hBl2, p1, p2]
          refine W_loop (JoinInv2 v _ _ r1 i w h1) ?_ w.length ⟨0, by omega, by omega, by simp [hr1]; exact ⟨rfl, rfl⟩, rfl⟩
          rintro m e h2 ⟨j, hj, rfl, rfl, rfl⟩
          by_cases hje : j = w.length
          · subst hje
            rw [List.take_length]
            simp [x1, x5, hw]
            simpa using nx
          · have hjlt : j < w.length := by omega
            have hjlt' : (j : Int) < w.length := by omega
            have hg : w[j]? = some w[j] := List.getElem?_eq_getElem hjlt
            have hwj : IntKind.i64.wrap ((j : Int) + 1) = ((j + 1 : Nat) : Int) := by rw [w64 (by omega) (by omega)]; omega
            have st := step0 r1 j hjlt _ rfl
            rw [show w[j]! = w[j] by simp [hjlt]] at st
            generalize hrj : (r1 && (w.take j).all isSeen) = rj at *
            cases rj with
            | false =>
              simp [x1, x5, hjlt', hwj]
              refine ⟨w.length - (j + 1), by omega, j + 1, by omega, rfl, ?_, rfl⟩
              rw [st]; simp
            | true =>
              by_cases c1 : (32 : Int) < w[j].toNat
              · by_cases c2 : (w[j].toNat : Int) < 127
                · simp [x1, x5, hjlt', hwj, hg, c1, c2]
                  refine ⟨w.length - (j + 1), by omega, j + 1, by omega, rfl, ?_, rfl⟩
                  have : 33 ≤ w[j].toNat ∧ w[j].toNat ≤ 126 := by omega
                  rw [st]; simp [this]
                · simp [x1, x5, hjlt', hwj, hg, c1, c2]
                  refine ⟨w.length - (j + 1), by omega, j + 1, by omega, rfl, ?_, rfl⟩
                  have : ¬ w[j].toNat ≤ 126 := by omega
                  rw [st]; simp [this]
              · simp [x1, x5, hjlt', hwj, hg, c1]
                refine ⟨w.length - (j + 1), by omega, j + 1, by omega, rfl, ?_, rfl⟩
                have : ¬ 33 ≤ w[j].toNat := by omega
                rw [st]; simp [this]

def EndsInv (s : List UInt8) (v : CV) (l : List (List UInt8)) (h : Heap) (m : Nat) (e : Env) (h' : Heap) : Prop :=
  ∃ i : Nat, i ≤ l.length ∧ m = l.length - i ∧ e = [(0, .str s), (3, v), (5, .str (linesOf (l.take i))), (6, .int .i64 i)] ∧ Keep NoneOf h h'

def EndsInv2 (s : List UInt8) (v v2 : CV) (o : List UInt8) (i : Nat) (ws : List (List UInt8)) (h : Heap) (m : Nat) (e : Env) (h' : Heap) : Prop :=
  ∃ j : Nat, j ≤ ws.length ∧ m = ws.length - j ∧ e = [(0, .str s), (3, v), (5, .str o), (6, .int .i64 i), (7, v2), (9, .str (joinC 32 (ws.take j))), (10, .int .i64 j)] ∧ h' = h

theorem wordEnds_law (lp : LP p) (hp : p.pr = addKnown [89] lib) {s : List UInt8} {h : Heap} : WF p 103 [.str s] h fun r _ => r = .bool true := by
  refine WF_of (by rw [lp.pg]; exact S.pg103) (lp.no' hp ⟨rfl, rfl⟩) ?_
  show W p S.b103 _ _ (retQ [.t 2] _)
  unfold S.b103
  simp
  refine WF_yes hp rfl ?_
  by_cases hl : (300 : Int) < s.length
  · simp [hl]
  · have hs : s.length < 4294967281 := by omega
    simp [hl]
    refine (wordLines_spec lp hs).mono ?_
    rintro r h1 ⟨v, rfl, s1, k1⟩
    cases hlp : linesP s with
    | none =>
      rw [hlp] at s1
      have n1 := s1.len (by decide)
      simp at n1
      have h0 : s ≠ [] := by rintro rfl; simp [linesP] at hlp
      have hsuf : ¬ Lib.hasSuffix s [10] = true := fun e => by simp [linesP, h0, e] at hlp
      have hpos := List.length_pos_iff.2 h0
      have hw : IntKind.i64.wrap ((s.length : Int) - 1) = ((s.length - 1 : Nat) : Int) := by rw [w64 (by omega) (by omega)]; omega
      have hlt : s.length - 1 < s.length := by omega
      have hg : s[s.length - 1]? = some s[s.length - 1] := List.getElem?_eq_getElem hlt
      have h10 : s[s.length - 1] ≠ 10 := fun e => hsuf ((suffix_last h0).2 (by rw [hg, e]))
      have hne : (s[s.length - 1].toNat : Int) ≠ 10 := fun e => h10 (by apply UInt8.toNat.inj; simp; omega)
      simp [errOf, n1, h0, hw, hg, hne]
    | some l =>
      rw [hlp] at s1
      simp only [Option.getD_some] at s1
      have hof := of_lines hlp
      have hll : l.length ≤ s.length := by
        rw [← hof]
        have : ∀ (l : List (List UInt8)), l.length ≤ (linesOf l).length := by
          intro l
          induction l with
          | nil => simp
          | cons w l ih => simp [linesOf] at ih ⊢; omega
        exact this l
      simp [errOf]
      refine W_loop (EndsInv s v l h1) ?_ l.length ⟨0, by omega, by omega, rfl, Keep.refl _ _⟩
      rintro m e h2 ⟨i, hi, rfl, rfl, k2⟩
      have t1 := s1.on k2
      have n1 := t1.len (by decide)
      by_cases hie : i = l.length
      · subst hie
        rw [List.take_length, hof]
        simp [n1]
      · have hlt : i < l.length := by omega
        have hlt' : (i : Int) < l.length := by omega
        obtain ⟨b0, o0, row0, x1, x2, x4⟩ := t1.rowK (k := .i64) (by decide) hlt
        simp only [Cod.str] at x1 x2 x4
        subst x4
        have xk : ∀ h', Keep NoneOf h2 h' → loadAt h' b0 o0 none = some (.str l[i]) := fun h' kk => by
          have := (x2 h' kk).2 0 (by decide)
          simpa using this
        have x5 := xk h2 (Keep.refl _ _)
        have hw : IntKind.i64.wrap ((i : Int) + 1) = ((i + 1 : Nat) : Int) := by rw [w64 (by omega) (by omega)]; omega
        have hnx := linesOf_next hlt
        have hle := linesOf_take_le l (i + 1)
        rw [hof, hnx] at hle
        have next : ∀ h', Keep NoneOf h1 h' → ∃ m', m' < l.length - i ∧ EndsInv s v l h1 m' [(0, .str s), (3, v), (5, .str (linesOf (l.take i) ++ l[i] ++ [10])), (6, .int .i64 ((i + 1 : Nat) : Int))] h' := fun h' kk =>
          ⟨l.length - (i + 1), by omega, i + 1, by omega, rfl, by rw [hnx], kk⟩
        generalize linesOf (l.take i) = o at *
        generalize l[i] = w at *
        simp at hle
        have b1 : o.length + w.length ≤ 9223372036854775807 := by omega
        have b2 : o.length + w.length + 1 ≤ 9223372036854775807 := by omega
        have b3 : o.length + (w.length + 1) ≤ 9223372036854775807 := by omega
        simp [n1, hlt', x1, x5, b1, b2, b3]
        refine (wordSplit_spec lp (s := w) (by omega)).mono ?_
        rintro r h3 ⟨v2, rfl, s2, k3⟩
        have nx := next h3 (k2.trans k3)
        simp only [List.append_assoc] at nx
        cases hwp : wordsP w with
        | none =>
          simp [errOf, hw]
          simpa using nx
        | some ws =>
          rw [hwp] at s2
          simp only [Option.getD_some] at s2
          have how := of_words hwp
          have n2 := s2.len (by decide)
          have x5' := xk h3 k3
          have hwl : ws.length ≤ w.length + 1 := by
            unfold wordsP at hwp
            split at hwp
            · cases hwp; simp
            · split at hwp
              · cases hwp; exact splitC_len_le 32 w
              · cases hwp
          simp [errOf]
          refine W_loop (EndsInv2 s v v2 (o ++ (w ++ [10])) i ws h3) ?_ ws.length ⟨0, by omega, by omega, rfl, rfl⟩
          rintro m e h4 ⟨j, hj, rfl, rfl, rfl⟩
          by_cases hje : j = ws.length
          · subst hje
            rw [List.take_length, how]
            simp [n2, x1, x5', hw]
            simpa using nx
          · have hjlt : j < ws.length := by omega
            have hjlt' : (j : Int) < ws.length := by omega
            obtain ⟨b3, o3, row3, y1, y2, y3, y4⟩ := s2.row (k := .i64) (by decide) hjlt
            simp only [Cod.str] at y1 y2 y3 y4
            subst y4
            have y5 := y3 0 (by decide)
            simp at y5
            have hwj : IntKind.i64.wrap ((j : Int) + 1) = ((j + 1 : Nat) : Int) := by rw [w64 (by omega) (by omega)]; omega
            have hjn := joinC_next 32 hjlt
            have hjl := joinC_take_le 32 ws (j + 1)
            rw [how, hjn] at hjl
            have nxj : ∀ A, A = (if j = 0 then joinC 32 (ws.take j) else joinC 32 (ws.take j) ++ [32]) ++ ws[j] → ∃ m', m' < ws.length - j ∧ EndsInv2 s v v2 (o ++ (w ++ [10])) i ws h4 m' [(0, .str s), (3, v), (5, .str (o ++ (w ++ [10]))), (6, .int .i64 i), (7, v2), (9, .str A), (10, .int .i64 ((j + 1 : Nat) : Int))] h4 := by
              rintro A rfl
              exact ⟨ws.length - (j + 1), by omega, j + 1, by omega, rfl, by rw [hjn], rfl⟩
            generalize joinC 32 (ws.take j) = A at *
            generalize ws[j] = x at *
            by_cases h0 : j = 0
            · have p1 : ¬ 0 < j := by omega
              have p2 : ¬ (0 : Int) < j := by omega
              have nn := nxj _ rfl
              rw [if_pos h0] at nn hjl
              have c1 : A.length + x.length ≤ 9223372036854775807 := by simp at hjl; omega
              clear h0
              simp [n2, hjlt', y1, y5, p1, p2, c1, hwj]
              simpa using nn
            · have p1 : 0 < j := by omega
              have p2 : (0 : Int) < j := by omega
              have nn := nxj _ rfl
              rw [if_neg h0] at nn hjl
              have c1 : A.length + 1 ≤ 9223372036854775807 := by simp at hjl; omega
              have c2 : A.length + 1 + x.length ≤ 9223372036854775807 := by simp at hjl; omega
              have c3 : A.length + (x.length + 1) ≤ 9223372036854775807 := by simp at hjl; omega
              simp [n2, hjlt', y1, y5, p1, p2, c1, c2, c3, hwj]
              simpa using nn

end Go.Cl
