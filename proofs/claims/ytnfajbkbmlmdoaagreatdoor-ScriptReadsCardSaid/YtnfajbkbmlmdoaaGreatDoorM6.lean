/-
  Texts laid together: AFin AFront.
-/
import Derived.Test.YtnfajbkbmlmdoaaGreatDoorM5
import Derived.Test.YtnfajbkbmlmdoaaGreatDoorM3

namespace Go.Cl
open Go
set_option linter.unusedSimpArgs false
set_option linter.unusedVariables false

/-- code that only goes on -/
def plainC : SCode → Bool
  | .skip => true
  | .ops _ _ _ => true
  | .seq a b => plainC a && plainC b
  | _ => false
/-- code that always returns -/
def retC : SCode → Bool
  | .ret => true
  | .seq a b => plainC a && retC b
  | .cond _ a b => retC a && retC b
  | _ => false

theorem plainC_ex {call : CallF} : ∀ (n : Nat) {c : SCode} {e : Env} {h : Heap} {x : Ex} {e' : Env} {h' : Heap}, plainC c = true → evC call n c e h = some (x, e', h') → x = .normal
  | 0, c, e, h, x, e', h', _, hev => by simp [evC] at hev
  | n + 1, c, e, h, x, e', h', hk, hev => by
    cases c <;> simp [plainC] at hk
    · simp [evC] at hev; exact hev.1.symm
    · simp only [evC] at hev
      split at hev
      · simp at hev; exact hev.1.symm
      · cases hev
    · rename_i a b
      simp only [evC] at hev
      cases h1 : evC call n a e h with
      | none => simp [h1] at hev
      | some q =>
        obtain ⟨x1, e1, h1'⟩ := q
        obtain rfl := plainC_ex n hk.1 h1
        simp [h1] at hev
        exact plainC_ex n hk.2 hev

theorem retC_ex {call : CallF} : ∀ (n : Nat) {c : SCode} {e : Env} {h : Heap} {x : Ex} {e' : Env} {h' : Heap}, retC c = true → evC call n c e h = some (x, e', h') → x = .ret
  | 0, c, e, h, x, e', h', _, hev => by simp [evC] at hev
  | n + 1, c, e, h, x, e', h', hk, hev => by
    cases c <;> simp [retC] at hk
    · rename_i a b
      simp only [evC] at hev
      cases h1 : evC call n a e h with
      | none => simp [h1] at hev
      | some q =>
        obtain ⟨x1, e1, h1'⟩ := q
        obtain rfl := plainC_ex n hk.1 h1
        simp [h1] at hev
        exact retC_ex n hk.2 hev
    · simp only [evC] at hev
      split at hev
      · exact retC_ex n hk.1 hev
      · exact retC_ex n hk.2 hev
      · cases hev
    · simp [evC] at hev; exact hev.1.symm

/-- code that leaves a slot alone, unless it returns -/
def keepsC (i : Nat) (c : SCode) : Bool := retC c || match c with
  | .skip => true
  | .ops l _ keep => l.all (fun o => match o.dst with | some d => !Nat.beq d i | none => true) && keep.contains i
  | .seq a b => keepsC i a && keepsC i b
  | .cond _ a b => keepsC i a && keepsC i b
  | .block _ b => keepsC i b
  | .loop live b => live.contains i && keepsC i b
  | .exit _ => true
  | .ret => true

theorem evOps_keeps {call : CallF} {all : List SOper} {i : Nat} : ∀ {l : List SOper} {e : Env} {h : Heap} {e' : Env} {h' : Heap}, (l.all (fun o => match o.dst with | some d => !Nat.beq d i | none => true) = true) → evOps call all l e h = some (e', h') → Env.get e' i = Env.get e i
  | [], e, h, e', h', _, hev => by simp [evOps] at hev; rw [hev.1]
  | o :: l, e, h, e', h', hk, hev => by
    simp only [List.all_cons, Bool.and_eq_true] at hk
    simp only [evOps] at hev
    have put : ∀ v, Env.get (e.put o.dst v) i = Env.get e i := fun v => by
      cases hd : o.dst with
      | none => rfl
      | some d =>
        have := hk.1
        rw [hd] at this
        have hne : ¬ i = d := fun e => by subst e; simp at this
        simp [Env.put, Env.get, hne]
    cases h1 : evOper call all o e h with
    | none => simp [h1] at hev
    | some q =>
      obtain ⟨e1, h1'⟩ := q
      simp [h1] at hev
      rw [evOps_keeps hk.2 hev]
      simp only [evOper] at h1
      split at h1
      · split at h1
        · split at h1
          · simp at h1; rw [← h1.1]; exact put _
          · cases h1
        · cases h1
      · simp at h1; rw [← h1.1]; exact put _
      · cases h1

theorem only_keeps {ks : List Nat} {e : Env} {i : Nat} (h : ks.contains i = true) : Env.get (Env.only ks e) i = Env.get e i := by
  rw [get_only, if_pos (by simpa using h)]

theorem evC_keeps {call : CallF} {i : Nat} : ∀ (n : Nat) {c : SCode} {e : Env} {h : Heap} {x : Ex} {e' : Env} {h' : Heap}, keepsC i c = true → evC call n c e h = some (x, e', h') → x ≠ .ret → Env.get e' i = Env.get e i
  | 0, c, e, h, x, e', h', _, hev, _ => by simp [evC] at hev
  | n + 1, c, e, h, x, e', h', hk, hev, hx => by
    unfold keepsC at hk
    rw [Bool.or_eq_true] at hk
    rcases hk with hk | hk
    · exact absurd (retC_ex (n + 1) hk hev) hx
    cases c with
    | skip => simp [evC] at hev; rw [hev.2.1]
    | exit _ => simp [evC] at hev; rw [hev.2.1]
    | ret => simp [evC] at hev; rw [hev.2.1]
    | ops l D keep =>
      simp only [Bool.and_eq_true] at hk
      simp only [evC] at hev
      cases h1 : evOps call l l e h with
      | none => simp [h1] at hev
      | some q =>
        obtain ⟨e1, h1'⟩ := q
        simp [h1] at hev
        rw [← hev.2.1, only_keeps hk.2]
        exact evOps_keeps hk.1 h1
    | seq a b =>
      simp only [Bool.and_eq_true] at hk
      simp only [evC] at hev
      cases h1 : evC call n a e h with
      | none => simp [h1] at hev
      | some q =>
        obtain ⟨x1, e1, h1'⟩ := q
        cases x1 <;> simp [h1] at hev
        · rw [evC_keeps n hk.2 hev hx, evC_keeps n hk.1 h1 (by simp)]
        · rw [← hev.2.1, evC_keeps n hk.1 h1 (by simp)]
        · exact absurd hev.1.symm hx
    | cond v a b =>
      simp only [Bool.and_eq_true] at hk
      simp only [evC] at hev
      split at hev
      · exact evC_keeps n hk.1 hev hx
      · exact evC_keeps n hk.2 hev hx
      · cases hev
    | block id b =>
      simp only [evC] at hev
      cases h1 : evC call n b e h with
      | none => simp [h1] at hev
      | some q =>
        obtain ⟨x1, e1, h1'⟩ := q
        cases x1 <;> simp [h1] at hev
        · rw [← hev.2.1, evC_keeps n hk h1 (by simp)]
        · have i1 := evC_keeps n hk h1 (by simp)
          split at hev <;> (simp at hev; rw [← hev.2.1, i1])
        · exact absurd hev.1.symm hx
    | loop live b =>
      simp only [Bool.and_eq_true] at hk
      simp only [evC] at hev
      cases h1 : evC call n b (Env.only live e) h with
      | none => simp [h1] at hev
      | some q =>
        obtain ⟨x1, e1, h1'⟩ := q
        cases x1 <;> simp [h1] at hev
        · rw [evC_keeps n (show keepsC i (.loop live b) = true by unfold keepsC; simp only [Bool.or_eq_true, Bool.and_eq_true]; exact .inr hk) hev hx, evC_keeps n hk.2 h1 (by simp), only_keeps hk.1]
        · rw [← hev.2.1, evC_keeps n hk.2 h1 (by simp), only_keeps hk.1]
        · exact absurd hev.1.symm hx

theorem W.keeps {p : PP} {c : SCode} {e : Env} {h : Heap} {Q : Ex → Env → Heap → Prop} {i : Nat} (hk : keepsC i c = true) (w : W p c e h Q) : W p c e h fun x e' h' => Q x e' h' ∧ (x ≠ .ret → Env.get e' i = Env.get e i) := by
  obtain ⟨n, k, x, e', h', a, b⟩ := w
  exact ⟨n, k, x, e', h', a, b, evC_keeps k hk a⟩

noncomputable section
/-- the end of a law: it says yes -/
def finK (rs : List RV) (x : Ex) (e : Env) (t : HT) : Bool := Ex.rec ((rvsF rs).run e t fun vs => resK vs fun v => kCond v true false) (fun _ => false) ((rvsF rs).run e t fun vs => resK vs fun v => kCond v true false) x

theorem finK_snd {rs : List RV} {x : Ex} {f e : Env} {t : HT} {h : Heap} (E : SameE f e) (R : Rep t h) (hk : finK rs x f t = true) : retQ rs (fun r _ => r = .bool true) x e h := by
  cases x with
  | exit i => cases hk
  | normal =>
    obtain ⟨vs, h1, h2⟩ := rvsF_snd E R hk
    rw [resK_eq] at h2
    obtain ⟨b, h3, h4⟩ := kCond_snd h2
    cases b
    · simp at h4
    · exact ⟨vs, h1, h3⟩
  | ret =>
    obtain ⟨vs, h1, h2⟩ := rvsF_snd E R hk
    rw [resK_eq] at h2
    obtain ⟨b, h3, h4⟩ := kCond_snd h2
    cases b
    · simp at h4
    · exact ⟨vs, h1, h3⟩

theorem fast_end {p : PP} {fp : FPrims} (hp : PrimSnd fp p.pr) {fuel n : Nat} {c : SCode} {f e : Env} {t : HT} {h : Heap} {rs : List RV} (E : SameE f e) (R : Rep t h)
    (hk : (codeF fuel c).run (callF p.Pg fp fuel n) f t (finK rs) = true) : W p c e h (retQ rs fun r _ => r = .bool true) :=
  (codeF_snd (callF_snd hp n) E R hk).mono fun x e' h' ⟨f', t', E', R', g⟩ => finK_snd E' R' g

/-- code that comes to its end: what then -/
def midK (k : Env → HT → Bool) (x : Ex) (e : Env) (t : HT) : Bool := Ex.rec (k e t) (fun _ => false) false x
theorem fast_mid {p : PP} {fp : FPrims} (hp : PrimSnd fp p.pr) {fuel n : Nat} {c : SCode} {f e : Env} {t : HT} {h : Heap} {k : Env → HT → Bool} {Q : Ex → Env → Heap → Prop} (E : SameE f e) (R : Rep t h)
    (hk : (codeF fuel c).run (callF p.Pg fp fuel n) f t (midK k) = true) : W p c e h fun x e' h' => match x with | .normal => ∃ f' t', SameE f' e' ∧ Rep t' h' ∧ k f' t' = true | x => Q x e' h' :=
  (codeF_snd (callF_snd hp n) E R hk).mono fun x e' h' ⟨f', t', E', R', g⟩ => by
    cases x with
    | normal => exact ⟨f', t', E', R', g⟩
    | exit i => cases g
    | ret => cases g

/-- more objects laid -/
def loadK (l : List Obj) : HT → (HT → Bool) → Bool := List.rec (fun t k => k t) (fun o _ ih t k => pushK t o fun _ t' => ih t' k) l
theorem loadK_snd : ∀ {l : List Obj} {t : HT} {h : Heap} {k : HT → Bool}, Rep t h → loadK l t k = true → ∃ t', Rep t' (h ++ l) ∧ k t' = true
  | [], t, h, k, R, hk => ⟨t, by simpa using R, hk⟩
  | o :: l, t, h, k, R, hk => by
    obtain ⟨t', R', hk'⟩ := pushK_snd R (show pushK t o (fun _ t' => loadK l t' k) = true from hk)
    obtain ⟨t2, R2, h2⟩ := loadK_snd R' hk'
    exact ⟨t2, by simpa using R2, h2⟩

theorem fast_known {Pg : Prog} {pr : Prims} {fp : FPrims} (hp : PrimSnd fp pr) {fuel n f : Nat} {vs : List CV} {l : List Obj} (hk : go (loadK l .nil fun t => callF Pg fp fuel n f vs t fyes) = true) : ∃ n h', evCall Pg pr n f vs l = some (.bool true, h') := by
  obtain ⟨t, R, h1⟩ := loadK_snd Rep.nil (go_eq hk)
  exact fast_yes hp (fuel := fuel) (n := n) (by simpa using R) (by rw [h1]; rfl)

/-- for all numbers below -/
def allK (k : Nat → Bool) (n : Nat) : Bool := Nat.rec true (fun m ih => Bool.rec false ih (k m)) n
theorem allK_snd {k : Nat → Bool} : ∀ {n : Nat}, allK k n = true → ∀ m, m < n → k m = true
  | 0, _, m, h => by omega
  | n + 1, h, m, hm => by
    have h' : (Bool.rec false (allK k n) (k n) : Bool) = true := h
    cases hk : k n with
    | false => rw [hk] at h'; cases h'
    | true =>
      rw [hk] at h'
      by_cases he : m = n
      · rw [he]; exact hk
      · exact allK_snd h' m (by omega)
end

def tailN : Nat → SCode → SCode
  | 0, c => c
  | n + 1, .seq _ b => tailN n b
  | _ + 1, c => c
def headN : Nat → SCode → SCode
  | 0, .seq a _ => a
  | n + 1, .seq _ b => headN n b
  | _, c => c

/-- calls with plain arguments that are known to say yes -/
def addFlat (K : Nat) (ok : List CV → Bool) (pr : Prims) : Prims := fun f => match Nat.beq f K with
  | true => some (fun vs h => if ok vs = true then some (.bool true, h) else none)
  | false => pr f

theorem addFlat_ok {P : Program} {G : Gam} {Pg : Prog} {pr : Prims} (hmix : P.follows .mixedOrders = true) (hG : Good P G) (hLk : Linked P G Pg) (hPr : PrimOK P G pr) {K : Nat} {ok : List CV → Bool}
    (hf : ∀ vs, ok vs = true → CV.flatL vs = true) (hk : ∀ vs, ok vs = true → ∃ n h', evCall Pg pr n K vs G.K = some (.bool true, h')) : PrimOK P G (addFlat K ok pr) := by
  intro f g hfg vs h r h' hev
  unfold addFlat at hfg
  cases hc : Nat.beq f K with
  | false => rw [hc] at hfg; exact hPr f g hfg vs h r h' hev
  | true =>
    rw [hc] at hfg
    cases hfg
    have := Nat.eq_of_beq_eq_true hc
    subst this
    simp only at hev
    split at hev
    · rename_i hok
      simp at hev
      obtain ⟨rfl, rfl⟩ := hev
      refine ⟨Nat.le_refl _, fun fid hfid => ?_⟩
      obtain ⟨n, h1, ho⟩ := hk vs hok
      exact flat_sim (hf vs hok) rfl ((call_all hmix hG hLk hPr n).1 f vs G.K _ _ ho fid hfid) h
    · cases hev

theorem evCall_flat {Pg : Prog} {pr : Prims} {K : Nat} {ok : List CV → Bool} {vs : List CV} (h : Heap) (hok : ok vs = true) : ∃ n h', evCall Pg (addFlat K ok pr) n K vs h = some (.bool true, h') := by
  refine ⟨1, h, ?_⟩
  have : addFlat K ok pr K = some (fun vs h => if ok vs = true then some (.bool true, h) else none) := by simp [addFlat]
  simp only [evCall, this, hok, if_true]

end Go.Cl

namespace Go.Cl
open Go
set_option linter.unusedSimpArgs false
set_option linter.unusedVariables false

variable {p : PP}

/-- a code's first statements; the others -/
def front : Nat → SCode → SCode
  | n + 1, .seq a b => .seq a (front n b)
  | _, _ => .skip
def back : Nat → SCode → SCode
  | n + 1, .seq _ b => back n b
  | _, c => c

/-- what comes in between -/
def midQ (M : Env → Heap → Prop) (Q : Ex → Env → Heap → Prop) : Ex → Env → Heap → Prop := fun x e' h' => match x with | .normal => M e' h' | x => Q x e' h'
@[simp] theorem midQ_n {M : Env → Heap → Prop} {Q : Ex → Env → Heap → Prop} {e : Env} {h : Heap} : midQ M Q .normal e h = M e h := id rfl
@[simp] theorem midQ_r {M : Env → Heap → Prop} {Q : Ex → Env → Heap → Prop} {e : Env} {h : Heap} : midQ M Q .ret e h = Q .ret e h := id rfl
@[simp] theorem midQ_e {M : Env → Heap → Prop} {Q : Ex → Env → Heap → Prop} {e : Env} {h : Heap} {i : Nat} : midQ M Q (.exit i) e h = Q (.exit i) e h := id rfl

theorem W_front : ∀ (n : Nat) (c : SCode) {e : Env} {h : Heap} {Q : Ex → Env → Heap → Prop} (M : Env → Heap → Prop), W p (front n c) e h (midQ M Q) → (∀ e' h', M e' h' → W p (back n c) e' h' Q) → W p c e h Q := by
  intro n
  induction n with
  | zero =>
    intro c e h Q M a b
    have : front 0 c = .skip := by cases c <;> rfl
    rw [this] at a
    simp at a
    exact b _ _ a
  | succ n ih =>
    intro c e h Q M a b
    cases c with
    | seq c d =>
      simp only [front, W_seq] at a ⊢
      refine a.mono fun x e' h' k => ?_
      cases x with
      | normal => exact ih d M k b
      | exit i => exact k
      | ret => exact k
    | _ =>
      simp only [front] at a
      simp at a
      exact b _ _ a

end Go.Cl
