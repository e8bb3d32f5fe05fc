/-
  Layer 4: a number read.
-/
import Derived.Test.YtiegjnklhafloaaDoorAWord
import Derived.Test.YtiegjnklhafloaaDoorPWordD
namespace Go.Cl
open Go
set_option linter.unusedSimpArgs false
set_option linter.unusedVariables false

variable {p : PP}

def NumR (x : Int × Int) (h : Heap) (r : CV) (h' : Heap) : Prop := r = .tup [.int .i64 x.1, .int .i64 x.2] ∧ Keep NoneOf h h'

theorem wordNumber_spec (lp : LP p) {s : List UInt8} {h : Heap} (hs : s.length < 4294967281) : WF p 94 [.str s] h (NumR (numP s) h) := by
  refine WF_of (by rw [lp.pg]; exact S.pg94) (lp.no ⟨rfl, rfl⟩) ?_
  show W p S.b94 _ _ (retQ [.t 2, .t 3] _)
  unfold S.b94
  simp
  obtain ⟨t, ht⟩ : ∃ t, t = Lib.trimPrefix s [45] := ⟨_, rfl⟩
  have htl : t.length ≤ s.length := by
    rw [ht]; unfold Lib.trimPrefix; split <;> simp
  have hnum : numP s = if (t == [] || !t.all isDig || (decide (1 < t.length) && t[0]? == some 48) || s == [45, 48]) then (0, 2)
      else match Lib.parseIntB 64 s with
        | .ok v => ((v, 0) : Int × Int)
        | _ => (0, 14) := by rw [ht]; rfl
  refine WF_prim (g := p123) (r := .str t) (h' := h) (by rw [lp.pr 123 rfl]; rfl) (by rw [ht]; rfl) ?_
  clear ht
  by_cases h0 : t = []
  · have : numP s = (0, 2) := by rw [hnum]; simp [h0]
    simp [h0, NumR, this]
    exact Keep.refl _ _
  · simp [h0]
    refine WF_prim (g := p124) (r := .str (Lib.trimS t digits)) (h' := h) (by rw [lp.pr 124 rfl]; rfl) ?_ ?_
    · show (if t.length ≤ 9223372036854775807 ∧ _ ∧ _ then some (CV.str (Lib.trimS t digits), h) else none) = _
      rw [if_pos ⟨by omega, by decide, by decide⟩]
    · have he := isEmpty_digits (s := t)
      cases hd : t.all isDig with
      | false =>
        rw [hd] at he
        have : numP s = (0, 2) := by rw [hnum]; simp [hd]
        have he' : ¬ Lib.trimS t digits = [] := by simpa using he
        simp [he', he, NumR, this]
        exact Keep.refl _ _
      | true =>
        rw [hd] at he
        have he' : Lib.trimS t digits = [] := by simpa using he
        have hpos := List.length_pos_iff.2 h0
        have hg : t[0]? = some t[0] := List.getElem?_eq_getElem hpos
        have rest : ¬ (1 < t.length ∧ t[0] = 48) → W p S.b94 [] h (fun _ _ _ => True) ∨ True := fun _ => .inr trivial
        have good : ¬ (1 < t.length ∧ t[0] = 48) → s ≠ [45, 48] → numP s = match Lib.parseIntB 64 s with | .ok v => ((v, 0) : Int × Int) | _ => (0, 14) := fun a b => by
          rw [hnum, if_neg]
          simp [h0, hd, hg, b]
          intro c1 c2; exact a ⟨c1, c2⟩
        have parse : ∀ (K : CV → Heap → Prop), s ≠ [45, 48] → (match Lib.parseIntB 64 s with
            | .ok v => K (.tup [.int .i64 v, .nili]) h
            | .range => K (.tup [.int .i64 (Lib.intSat 64 s), .ifc 2 (.ptr h.length 0)]) (h ++ [.arr [] .ro])
            | _ => K (.tup [.int .i64 0, .ifc 2 (.ptr h.length 0)]) (h ++ [.arr [] .ro])) → WF p 125 [.str s, .int .i64 10, .int .i64 64] h K := by
          intro K _ hK
          have hl : s.length ≤ 281474976710656 := by omega
          cases hp : Lib.parseIntB 64 s with
          | ok v => rw [hp] at hK; exact WF_prim (g := p125) (by rw [lp.pr 125 rfl]; rfl) (by simp only [p125, hl, if_true, hp]) hK
          | range => rw [hp] at hK; exact WF_prim (g := p125) (by rw [lp.pr 125 rfl]; rfl) (by simp only [p125, hl, if_true, hp]) hK
          | _ => rw [hp] at hK; exact WF_prim (g := p125) (by rw [lp.pr 125 rfl]; rfl) (by simp only [p125, hl, if_true, hp]) hK
        by_cases c1 : (1 : Int) < t.length
        · have c1' : 1 < t.length := by omega
          by_cases c2 : t[0] = 48
          · have hg2 : t[0]? = some 48 := by rw [hg, c2]
            have : numP s = (0, 2) := by rw [hnum]; simp [c1', hg2]
            simp [he', he, c1, hg2, NumR, this]
            exact Keep.refl _ _
          · have c2' : (t[0].toNat : Int) ≠ 48 := fun e => c2 (by apply UInt8.toNat.inj; simp; omega)
            by_cases c3 : s = [45, 48]
            · have : numP s = (0, 2) := by rw [hnum]; simp [c3]
              rw [this]
              simp [he', he, c1, hg, c2', c3, NumR]
              exact Keep.refl _ _
            · have hgd := good (fun x => c2 x.2) c3
              simp [he', he, c1, hg, c2', c3]
              refine parse _ c3 ?_
              cases hp : Lib.parseIntB 64 s <;> rw [hp] at hgd <;> simp [NumR, hgd] <;> first | exact Keep.refl _ _ | exact Keep.app _ _ _
        · have c1' : ¬ 1 < t.length := by omega
          by_cases c3 : s = [45, 48]
          · have : numP s = (0, 2) := by rw [hnum]; simp [c3]
            rw [this]
            simp [he', he, c1, c3, NumR]
            exact Keep.refl _ _
          · have hgd := good (fun x => c1' x.1) c3
            simp [he', he, c1, c3]
            refine parse _ c3 ?_
            cases hp : Lib.parseIntB 64 s <;> rw [hp] at hgd <;> simp [NumR, hgd] <;> first | exact Keep.refl _ _ | exact Keep.app _ _ _

def NumInv1 (minus : Bool) (t : List UInt8) (h : Heap) (m : Nat) (e : Env) (h' : Heap) : Prop :=
  ∃ i : Nat, i ≤ t.length ∧ m = t.length - i ∧ e = [(4, .str t), (5, .bool minus), (6, .int .i64 i)] ∧ h' = h ∧ (t.take i).all isDig = true

def NumInv2 (minus : Bool) (t : List UInt8) (h : Heap) (m : Nat) (e : Env) (h' : Heap) : Prop :=
  ∃ i : Nat, i ≤ t.length ∧ m = t.length - i ∧ e = [(4, .str t), (5, .bool minus), (7, .int .i64 (-(dval 0 (t.take i) : Int))), (8, .int .i64 i)] ∧ h' = h ∧ dval 0 (t.take i) ≤ 9223372036854775808

/-- what is behind the first four steps -/
def snd4 : SCode → SCode
  | .seq _ (.seq _ (.seq _ (.seq _ t))) => t
  | c => c

theorem refNumber_tail {minus : Bool} {t : List UInt8} {h : Heap} {E : Env} (e4 : E.get 4 = some (.str t)) (e5 : E.get 5 = some (.bool minus)) (hs : t.length < 4294967281) (hm : minus = false → t[0]? ≠ some 45) :
    W p (snd4 S.b95) E h (retQ [.t 2, .t 3] (NumR (numP (signed minus t)) h)) := by
  unfold S.b95
  simp only [snd4]
  have hform := fun k => numP_form (minus := minus) (t := t) hm k
  have hgood := fun a b c => numP_good (minus := minus) (t := t) a b c
  have done : ∀ x : Int × Int, x = numP (signed minus t) → NumR (numP (signed minus t)) h (.tup [.int .i64 x.1, .int .i64 x.2]) h := fun x hx => ⟨by rw [hx], Keep.refl _ _⟩
  by_cases h0 : t = []
  · have := hform (.inl h0)
    subst h0
    simp [W_ops, e4, e5]
    exact done _ this.symm
  · have hpos := List.length_pos_iff.2 h0
    have hg : t[0]? = some t[0] := List.getElem?_eq_getElem hpos
    by_cases hz : t[0]? = some 48 ∧ (1 < t.length ∨ minus = true)
    · have := hform (.inr (.inr hz))
      obtain ⟨z1, z2⟩ := hz
      by_cases c1 : (1 : Int) < t.length
      · simp [W_ops, e4, e5, h0, z1, c1]
        exact done _ this.symm
      · have hmt : minus = true := by
          rcases z2 with z2 | z2
          · omega
          · exact z2
        subst hmt
        simp [W_ops, e4, e5, h0, z1, c1]
        exact done _ this.symm
    · have hpick : (t[0].toNat : Int) = 48 ∧ ¬ (1 : Int) < t.length ∧ minus = false ∨ (t[0].toNat : Int) ≠ 48 := by
        by_cases e : t[0] = 48
        · left
          rw [hg, e] at hz
          simp at hz
          exact ⟨by rw [e]; rfl, by omega, hz.2⟩
        · right
          intro e2
          exact e (by apply UInt8.toNat.inj; simp; omega)
      rcases hpick with ⟨q1, q2, rfl⟩ | q1
      all_goals
        first | simp [W_ops, e4, e5, h0, hg, q1, q2] | simp [W_ops, e4, e5, h0, hg, q1]
        refine W_loop (NumInv1 _ t h) ?_ t.length ⟨0, by omega, by omega, rfl, rfl, rfl⟩
        rintro m e h1 ⟨i, hi, rfl, rfl, rfl, ha⟩
        by_cases hie : i = t.length
        · subst hie
          rw [List.take_length] at ha
          have hres := hgood h0 ha hz
          have dig : ∀ j (hj : j < t.length), 48 ≤ t[j].toNat ∧ t[j].toNat ≤ 57 := fun j hj => by
            have := List.all_eq_true.1 ha _ (List.getElem_mem hj)
            simpa [isDig] using this
          simp
          refine W_loop (NumInv2 _ t h1) ?_ t.length ⟨0, by omega, by omega, rfl, rfl, Nat.zero_le _⟩
          rintro m e h2 ⟨j, hj, rfl, rfl, rfl, hv⟩
          by_cases hje : j = t.length
          · subst hje
            rw [List.take_length] at hv ⊢
            generalize dval 0 t = v at *
            first
              | (cases minus with
                | true =>
                  have : numV true v = (-(v : Int), 0) := by simp [numV, hv]
                  simp
                  exact done _ (by rw [hres, this])
                | false =>
                  by_cases h63 : v = 9223372036854775808
                  · have e1 : numV false v = (0, 14) := by simp [numV, h63]
                    simp [h63]
                    exact done _ (by rw [hres, e1])
                  · have e1 : numV false v = ((v : Int), 0) := by
                      have : v < 9223372036854775808 := by omega
                      simp [numV, this]
                    have e2 : ¬ (-(v : Int) = -9223372036854775808) := by omega
                    have e3 : IntKind.i64.wrap (v : Int) = v := w64 (by omega) (by omega)
                    simp [e2, e3]
                    exact done _ (by rw [hres, e1]))
              | (by_cases h63 : v = 9223372036854775808
                 · have e1 : numV false v = (0, 14) := by simp [numV, h63]
                   simp [h63]
                   exact done _ (by rw [hres, e1])
                 · have e1 : numV false v = ((v : Int), 0) := by
                     have : v < 9223372036854775808 := by omega
                     simp [numV, this]
                   have e2 : ¬ (-(v : Int) = -9223372036854775808) := by omega
                   have e3 : IntKind.i64.wrap (v : Int) = v := w64 (by omega) (by omega)
                   simp [e2, e3]
                   exact done _ (by rw [hres, e1]))
          · have hlt : j < t.length := by omega
            have hlt' : (j : Int) < t.length := by omega
            have hgj : t[j]? = some t[j] := List.getElem?_eq_getElem hlt
            have hw : IntKind.i64.wrap ((j : Int) + 1) = ((j + 1 : Nat) : Int) := by rw [w64 (by omega) (by omega)]; omega
            have hdj := dig j hlt
            have hnext : dval 0 (t.take (j + 1)) = dval 0 (t.take j) * 10 + (t[j].toNat - 48) := by
              rw [List.take_add_one, hgj]; exact dval_snoc
            have hmono := dval_mono (t := t) (i := j + 1)
            obtain ⟨v', hv'⟩ : ∃ v', dval 0 (t.take (j + 1)) = v' := ⟨_, rfl⟩
            rw [hv'] at hnext hmono
            generalize dval 0 (t.take j) = v at *
            generalize dval 0 t = V at *
            generalize t[j] = c at *
            obtain ⟨d, hd⟩ : ∃ d, d = c.toNat - 48 := ⟨_, rfl⟩
            have e1 : IntKind.u8.wrap ((c.toNat : Int) - 48) = d := by
              simp [IntKind.wrap, IntKind.bits, IntKind.signed]; omega
            have e2 : IntKind.i64.wrap (d : Int) = d := w64 (by omega) (by omega)
            have e3 : IntKind.i64.wrap (-9223372036854775808 + (d : Int)) = -((9223372036854775808 - d : Nat) : Int) := by rw [w64 (by omega) (by omega)]; omega
            have e4' : IntKind.i64.wrap ((-((9223372036854775808 - d : Nat) : Int)).tdiv 10) = -(((9223372036854775808 - d) / 10 : Nat) : Int) := by
              have : (-((9223372036854775808 - d : Nat) : Int)).tdiv 10 = -(((9223372036854775808 - d) / 10 : Nat) : Int) := by rw [Int.neg_tdiv, Int.tdiv_eq_ediv_of_nonneg (by omega)]; omega
              rw [this, w64 (by omega) (by omega)]
            rw [← hd] at hnext
            by_cases big1 : -(v : Int) < -(((9223372036854775808 - d) / 10 : Nat) : Int)
            · have e5' : ∀ mm, numV mm V = (0, 14) := fun mm => by
                have a1 : ¬ V ≤ 9223372036854775808 := by omega
                have a2 : ¬ V < 9223372036854775808 := by omega
                cases mm <;> simp [numV, a1, a2]
              generalize -(((9223372036854775808 - d) / 10 : Nat) : Int) = q at *
              generalize -((9223372036854775808 - d : Nat) : Int) = qq at *
              generalize -(v : Int) = x at *
              simp [hlt', hgj, e1, e2, e3, e4', big1]
              exact done _ (by rw [hres, e5'])
            · have hvb : v' ≤ 9223372036854775808 := by omega
              have e6 : IntKind.i64.wrap (10 * -(v : Int)) = -((10 * v : Nat) : Int) := by rw [w64 (by omega) (by omega)]; omega
              have e7 : IntKind.i64.wrap (-((10 * v : Nat) : Int) - d) = -(v' : Int) := by rw [w64 (by omega) (by omega)]; omega
              generalize -((10 * v : Nat) : Int) = y at *
              generalize -(((9223372036854775808 - d) / 10 : Nat) : Int) = q at *
              generalize -((9223372036854775808 - d : Nat) : Int) = qq at *
              generalize -(v : Int) = x at *
              obtain ⟨z, hz7⟩ : ∃ z, z = -(v' : Int) := ⟨_, rfl⟩
              rw [← hz7] at e7
              simp [hlt', hgj, e1, e2, e3, e4', big1, e6, e7, hw]
              refine ⟨t.length - (j + 1), by omega, j + 1, by omega, rfl, ?_, rfl, ?_⟩
              · rw [hv', hz7]; rfl
              · rw [hv']; exact hvb
        · have hlt : i < t.length := by omega
          have hlt' : (i : Int) < t.length := by omega
          have hgi : t[i]? = some t[i] := List.getElem?_eq_getElem hlt
          have hw : IntKind.i64.wrap ((i : Int) + 1) = ((i + 1 : Nat) : Int) := by rw [w64 (by omega) (by omega)]; omega
          have bad : isDig t[i] = false → numP (signed _ t) = (0, 2) := fun hb => hform (.inr (.inl (by
            rw [Bool.eq_false_iff]; intro hh
            rw [List.all_eq_true.1 hh _ (List.getElem_mem hlt)] at hb; cases hb)))
          by_cases d1 : (t[i].toNat : Int) < 48
          · simp [hlt', hgi, d1]
            exact done _ (bad (by simp [isDig]; omega)).symm
          · by_cases d2 : (57 : Int) < t[i].toNat
            · simp [hlt', hgi, d1, d2]
              exact done _ (bad (by simp [isDig]; omega)).symm
            · have hl1 : isDig t[i] = true := by simp [isDig]; omega
              simp [hlt', hgi, d1, d2, hw]
              refine ⟨t.length - (i + 1), by omega, i + 1, by omega, rfl, rfl, rfl, ?_⟩
              rw [List.take_add_one, hgi, List.all_append, ha]
              simp [hl1]

theorem refNumber_spec (lp : LP p) {s : List UInt8} {h : Heap} (hs : s.length < 4294967281) : WF p 95 [.str s] h (NumR (numP s) h) := by
  refine WF_of (by rw [lp.pg]; exact S.pg95) (lp.no ⟨rfl, rfl⟩) ?_
  show W p (.seq _ (.seq _ (.seq _ (.seq _ (snd4 S.b95))))) _ _ (retQ [.t 2, .t 3] _)
  cases s with
  | nil =>
    have tl := refNumber_tail (p := p) (minus := false) (t := []) (h := h) (E := [(0, .str []), (4, .str []), (5, .bool false), (19, .bool false)]) rfl rfl (by simp) (by simp)
    generalize snd4 S.b95 = T at *
    simp
    exact tl
  | cons b t =>
    by_cases hb : b = 45
    · subst hb
      have tl := refNumber_tail (p := p) (minus := true) (t := t) (h := h) (E := [(4, .str t), (5, .bool true)]) rfl rfl (by simp at hs; omega) (by simp)
      generalize snd4 S.b95 = T at *
      have hsl : slStr (45 :: t) (some (.int .i64 1)) none = some (.str t) := by
        simp only [slStr, bound]
        rw [if_pos ⟨by omega, by simp; omega⟩]
        simp
      simp [hsl]
      exact tl
    · have tl := refNumber_tail (p := p) (minus := false) (t := b :: t) (h := h) (E := [(0, .str (b :: t)), (4, .str (b :: t)), (5, .bool false), (19, .bool false)]) rfl rfl hs (by simpa using hb)
      generalize snd4 S.b95 = T at *
      have hne : (b.toNat : Int) ≠ 45 := fun e => hb (by apply UInt8.toNat.inj; simp; omega)
      simp [hne]
      exact tl

end Go.Cl
