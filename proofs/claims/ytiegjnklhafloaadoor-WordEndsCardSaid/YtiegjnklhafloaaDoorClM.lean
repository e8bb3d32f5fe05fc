/-
  More rounds, deeper calls: the clean evaluator answers the same.
-/
import Derived.Test.YtiegjnklhafloaaDoorCl0
namespace Go.Cl
open Go
set_option linter.unusedSimpArgs false
set_option linter.unusedVariables false

def CallLe (c c' : CallF) : Prop := ∀ f vs h r, c f vs h = some r → c' f vs h = some r

theorem CallLe.refl (c : CallF) : CallLe c c := fun _ _ _ _ h => h

section
variable {c c' : CallF}

theorem evOp_le (hc : CallLe c c') {op : SOp} {e : Env} {h : Heap} {r : CV × Heap} (hev : evOp c op e h = some r) : evOp c' op e h = some r := by
  cases op <;> simp only [evOp] at hev ⊢ <;> (try exact hev)
  · split at hev
    · exact hc _ _ _ _ hev
    · cases hev
  · split at hev
    · exact hc _ _ _ _ hev
    · cases hev

theorem recheckB_le (hc : CallLe c c') {all : List SOper} {e : Env} {h : Heap} : ∀ {re : List Nat}, recheckB c all e h re = true → recheckB c' all e h re = true
  | [], _ => rfl
  | p :: re, hR => by
    simp only [recheckB, Bool.and_eq_true] at hR ⊢
    refine ⟨?_, recheckB_le hc hR.2⟩
    have := hR.1
    cases ha : all[p]? with
    | none => simp [ha] at this
    | some s =>
      simp only [ha] at this ⊢
      cases hd : s.dst with
      | none => simp [hd] at this
      | some d =>
        simp only [hd] at this ⊢
        cases hw : wanted e s.guard with
        | none => simp [hw] at this
        | some b =>
          cases b with
          | false => rfl
          | true =>
            simp only [hw, Bool.and_eq_true] at this ⊢
            refine ⟨this.1, ?_⟩
            have h2 := this.2
            cases hg : e.get d with
            | none => simp [hg] at h2
            | some v =>
              cases ho : evOp c s.op e h with
              | none => simp [hg, ho] at h2
              | some q => rw [evOp_le hc ho]; simpa only [hg, ho] using h2

theorem evOper_le (hc : CallLe c c') {all : List SOper} {o : SOper} {e : Env} {h : Heap} {r : Env × Heap} (hev : evOper c all o e h = some r) : evOper c' all o e h = some r := by
  simp only [evOper] at hev ⊢
  cases hw : wanted e o.guard with
  | none => simp [hw] at hev
  | some b =>
    cases b with
    | false => simpa [hw] using hev
    | true =>
      simp only [hw] at hev ⊢
      cases h1 : evOp c o.op e h with
      | none => simp [h1] at hev
      | some p =>
        obtain ⟨v, h'⟩ := p
        rw [evOp_le hc h1]
        simp only [h1] at hev ⊢
        split at hev
        · rename_i hR
          rw [if_pos (recheckB_le hc hR)]; exact hev
        · cases hev

theorem evOps_le (hc : CallLe c c') {all : List SOper} : ∀ {l : List SOper} {e : Env} {h : Heap} {r : Env × Heap}, evOps c all l e h = some r → evOps c' all l e h = some r
  | [], e, h, r, hev => hev
  | o :: l, e, h, r, hev => by
    simp only [evOps] at hev ⊢
    cases h1 : evOper c all o e h with
    | none => simp [h1] at hev
    | some p => rw [evOper_le hc h1]; simp only [h1] at hev; exact evOps_le hc hev

theorem evC_le (hc : CallLe c c') : ∀ (n n' : Nat), n ≤ n' → ∀ {sc : SCode} {e : Env} {h : Heap} {r : Ex × Env × Heap}, evC c n sc e h = some r → evC c' n' sc e h = some r
  | 0, _, _, sc, e, h, r, hev => by simp [evC] at hev
  | n + 1, 0, hn, _, _, _, _, _ => by omega
  | n + 1, n' + 1, hn, sc, e, h, r, hev => by
    have ih := fun {sc e h r} (k : evC c n sc e h = some r) => evC_le hc n n' (by omega) (sc := sc) (e := e) (h := h) (r := r) k
    cases sc with
    | skip => simpa [evC] using hev
    | exit id => simpa [evC] using hev
    | ret => simpa [evC] using hev
    | ops l D keep =>
      simp only [evC] at hev ⊢
      cases h1 : evOps c l l e h with
      | none => simp [h1] at hev
      | some p => rw [evOps_le hc h1]; simpa only [h1] using hev
    | seq a b =>
      simp only [evC] at hev ⊢
      cases h1 : evC c n a e h with
      | none => simp [h1] at hev
      | some p =>
        rw [ih h1]
        obtain ⟨x, e1, h1'⟩ := p
        cases x <;> simp only [h1] at hev ⊢
        · exact ih hev
        · exact hev
        · exact hev
    | cond x a b =>
      simp only [evC] at hev ⊢
      cases hx : x.ev e with
      | none => simp [hx] at hev
      | some v =>
        cases v <;> simp [hx] at hev ⊢
        rename_i t
        cases t <;> simp at hev ⊢ <;> exact ih hev
    | block id b =>
      simp only [evC] at hev ⊢
      cases h1 : evC c n b e h with
      | none => simp [h1] at hev
      | some p => rw [ih h1]; simpa only [h1] using hev
    | loop live b =>
      simp only [evC] at hev ⊢
      cases h1 : evC c n b (Env.only live e) h with
      | none => simp [h1] at hev
      | some p =>
        rw [ih h1]
        obtain ⟨x, e1, h1'⟩ := p
        cases x <;> simp only [h1] at hev ⊢
        · exact ih hev
        · exact hev
        · exact hev

theorem evBody_le (hc : CallLe c c') {n n' : Nat} (hn : n ≤ n') {sf : SFunc} {vs : List CV} {h : Heap} {r : CV × Heap} (hev : evBody c n sf vs h = some r) : evBody c' n' sf vs h = some r := by
  simp only [evBody] at hev ⊢
  cases h1 : evC c n sf.body (args 0 vs) h with
  | none => simp [h1] at hev
  | some p => rw [evC_le hc n n' hn h1]; simpa only [h1] using hev

end

theorem evCall_le (Pg : Prog) (pr : Prims) : ∀ (n n' : Nat), n ≤ n' → CallLe (evCall Pg pr n) (evCall Pg pr n')
  | 0, _, _ => fun f vs h r hev => by simp [evCall] at hev
  | n + 1, 0, hn => by omega
  | n + 1, n' + 1, hn => fun f vs h r hev => by
    simp only [evCall] at hev ⊢
    cases hp : pr f with
    | some g => simpa only [hp] using hev
    | none =>
      simp only [hp] at hev ⊢
      cases hs : Pg f with
      | none => simp [hs] at hev
      | some sf =>
        simp only [hs] at hev ⊢
        exact evBody_le (evCall_le Pg pr n n' (by omega)) (by omega) hev

end Go.Cl
