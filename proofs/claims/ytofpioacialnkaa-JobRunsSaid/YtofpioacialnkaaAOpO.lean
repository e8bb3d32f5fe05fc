/-
  Layer 5: ops turned from the program's into the document's and back: the same.
-/
import Derived.Test.YtofpioacialnkaaAOpR
namespace Go.Cl
open Go
set_option linter.unusedSimpArgs false
set_option linter.unusedVariables false

variable {p : PP}

/-- what is new -/
def From (h : Heap) : Nat → Prop := fun b => h.length ≤ b

def OfInv (h : Heap) (c : List CV) (x : OpV) (m : Nat) (e : Env) (h' : Heap) : Prop :=
  ∃ (i : Nat) (cv : CV), i ≤ x.cases.length ∧ m = x.cases.length - i ∧ e = [(1, .ptr h.length 0), (2, .ptr (h.length + 1) 0), (3, .ptr (h.length + 2) 0), (4, .int .i64 i)] ∧ Keep NoneOf h h' ∧
    h'[h.length]? = some (.arr c .tight) ∧ h'[h.length + 1]? = some (.arr [.int .i64 0, .int .i64 0, .int .i64 0, .int .i64 0, .nils] .tight) ∧
    h'[h.length + 2]? = some (.arr [.int .i64 x.kind, .int .i64 x.n, .int .i64 x.v, .int .i64 x.wait, cv] .tight) ∧ OwnL caseC h' NoneOf cv (x.cases.take i) ∧ ∀ b, cv.blk = some b → h.length + 2 < b

theorem OwnL.scalar {α : Type} {e : Cod α} {h : Heap} {P : Nat → Prop} {v : CV} {l : List α} (s : OwnL e h P v l) : v.scalar = true := s.sl.scalar

theorem opOf_spec {K : Nat} {h : Heap} {c : List CV} {x : OpV} {P : Nat → Prop} (hp : p.Pg K = some S.f32) (hq : p.pr K = none) (r0 : opC.rep h P c x) (hb : x.cases.length ≤ big) :
    WF p K [.agg c] h fun r h' => Keep NoneOf h h' ∧ ∃ d, r = .agg d ∧ opC.rep h' (From h) d x := by
  obtain ⟨cv, rfl, s0⟩ := r0
  refine WF_of hp hq ?_
  show W p S.b32 _ _ (retQ [.cell (some 5) 2] _)
  unfold S.b32
  obtain ⟨a1, a2, a3, a4, a5⟩ := x
  simp only at s0 hb
  have l0 : ∀ (o1 o2 : Obj) o, loadAt (h ++ [.arr [.int .i64 a1, .int .i64 a2, .int .i64 a3, .int .i64 a4, cv] .tight, o1]) h.length o none = ([.int .i64 a1, .int .i64 a2, .int .i64 a3, .int .i64 a4, cv] : List CV)[o]? := fun o1 o2 o => two0 o
  have st : ∀ (o1 o2 : Obj) (z row : List CV), row.length = z.length → row.all CV.scalar = true → storeAt (h ++ [o1, o2, .arr z .tight]) (h.length + 2) 0 row = some (h ++ [o1, o2, .arr row .tight]) := by
    intro o1 o2 z row q1 q2
    have := store_new (h := h ++ [o1, o2]) q1 q2
    simpa using this
  simp [CV.cells, two0, fillC, splice, fits, st, CV.scalar]
  refine W_loop (OfInv h [.int .i64 a1, .int .i64 a2, .int .i64 a3, .int .i64 a4, cv] ⟨a1, a2, a3, a4, a5⟩) ?_ a5.length ⟨0, .nils, Nat.zero_le _, rfl, rfl, Keep.app _ _ _, by simp, by simp, by simp, by simpa using OwnL.nil, by simp [CV.blk]⟩
  rintro m e h1 ⟨i, ov, hi, rfl, rfl, k1, g0, g1, g2, ow, hov⟩
  simp only at hi g2 ow
  have s1 := s0.on k1
  have n1 := s1.len (by decide)
  have l0 := ld g0
  have l2 := ld g2
  by_cases hie : i = a5.length
  · subst hie
    rw [List.take_length] at ow
    have ln := ldw g2 (n := 5) rfl
    have hsc := ow.scalar
    have s2 := sto g1 (vs := [.int .i64 a1, .int .i64 a2, .int .i64 a3, .int .i64 a4, ov]) rfl (by simp only [List.all_cons, List.all_nil, hsc]; rfl)
    have hlt := lt_of_get g1
    have ke : Keep (fun b => b = h.length + 1) h1 (h1.set (h.length + 1) (.arr [.int .i64 a1, .int .i64 a2, .int .i64 a3, .int .i64 a4, ov] .tight)) := Keep.set _ _ rfl
    have hl := ldw (get_set_self (o := .arr [.int .i64 a1, .int .i64 a2, .int .i64 a3, .int .i64 a4, ov] .tight) hlt) (n := 5) rfl
    simp [l0, n1, ln, fits, CV.cells, s2, hl]
    refine ⟨k1.then ke fun b hb e => by omega, ov, rfl, ?_⟩
    have ow2 := ow.keep ke (fun b hb e => by have := hov b hb; omega) fun _ e => e.elim
    exact ow2.sl.mono fun b hb => by
      rcases hb with hb | hb
      · exact hb.elim
      · have := hov b hb; simp only [From]; omega
  · have hlt : i < a5.length := by omega
    have hlt' : (i : Int) < a5.length := by omega
    obtain ⟨bb, o, row, x1, x2, x3, x4⟩ := s1.row (k := .i64) (by decide) hlt
    simp only [caseC] at x1 x4
    subst x4
    have y0 := x3 0 (by decide)
    have y1 := x3 1 (by decide)
    have y2 := x3 2 (by decide)
    simp at y0 y1 y2
    have hw : IntKind.i64.wrap ((i : Int) + 1) = ((i + 1 : Nat) : Int) := by
      simp [big] at hb
      rw [w64 (by omega) (by omega)]; omega
    have kap : ∀ g, Keep NoneOf h1 (h1 ++ g) := fun g => Keep.app _ _ _
    simp [l0, l2, n1, hlt', x1, y0, y1, y2, fillC, splice, spread, cellsAt]
    refine OV_push (e := caseC) (x := a5[i]) (ow.on (kap _)) rfl (fun _ e => e.elim) (by simp; omega) (by decide) ?_
    intro v' h2 ow2 k2 hb2
    have hl1 := k1.len
    have hgt : ∀ b, v'.blk = some b → h.length + 2 < b := by
      intro b hb
      have := lt_of_get g2
      rcases hb2 b hb with q | q
      · exact hov b q
      · simp at q; omega
    have g2' := k2.at (get_app (g := [.arr [.bool a5[i].send, .int .i64 a5[i].chan, .int .i64 a5[i].v] .tight]) g2) (fun e => by have := hov _ e; omega)
    have g1' := k2.at (get_app (g := [.arr [.bool a5[i].send, .int .i64 a5[i].chan, .int .i64 a5[i].v] .tight]) g1) (fun e => by have := hov _ e; omega)
    have g0' := k2.at (get_app (g := [.arr [.bool a5[i].send, .int .i64 a5[i].chan, .int .i64 a5[i].v] .tight]) g0) (fun e => by have := hov _ e; omega)
    have s3 := sto1 g2' (o := 4) (v := v') (by simp) ow2.scalar
    simp [CV.cells_scalar ow2.scalar, fits_scalar ow2.scalar, s3, hw]
    have ke : Keep (fun b => b = h.length + 2) h2 (h2.set (h.length + 2) (.arr [.int .i64 a1, .int .i64 a2, .int .i64 a3, .int .i64 a4, v'] .tight)) := Keep.set _ _ rfl
    refine ⟨a5.length - (i + 1), by omega, i + 1, v', by simp only; omega, rfl, rfl, ((k1.trans (kap _)).then k2 fun b hb e => by have := hov b e; omega).then ke fun b hb e => by omega, ke.at g0' (by omega), ke.at g1' (by omega), get_set_self (lt_of_get g2'), ?_, hgt⟩
    have := ow2.keep ke (fun b hb e => by have := hgt b hb; omega) fun _ e => e.elim
    simpa [List.take_append_getElem hlt] using this

def AllInv (v0 : CV) (l : List OpV) (h : Heap) (m : Nat) (e : Env) (h' : Heap) : Prop :=
  ∃ (i : Nat) (ov : CV), i ≤ l.length ∧ m = l.length - i ∧ e = [(0, v0), (3, ov), (4, .int .i64 i)] ∧ Keep NoneOf h h' ∧ OwnN opC h.length h' ov (l.take i) ∧ ∀ b, ov.blk = some b → h.length ≤ b

theorem opOfAll_body {h : Heap} {v0 : CV} {l : List OpV} {P : Nat → Prop} {K : CV → Heap → Prop} (h32 : p.Pg 32 = some S.f32) (q32 : p.pr 32 = none) (s0 : Sl opC h P v0 l) (hb : l.length ≤ big) (hc : ∀ x ∈ l, x.cases.length ≤ big)
    (kk : ∀ r h', Keep NoneOf h h' → OwnN opC h.length h' r l → (∀ b, r.blk = some b → h.length ≤ b) → K r h') : W p S.b53 [(0, v0)] h (retQ [.t 2] K) := by
  unfold S.b53
  simp
  refine W_loop (AllInv v0 l h) ?_ l.length ⟨0, .nils, by omega, by omega, rfl, Keep.refl _ _, OwnN.nil, by simp [CV.blk]⟩
  rintro m e h1 ⟨i, ov, hi, rfl, rfl, k1, ow, hov⟩
  have s1 := s0.on k1
  have n1 := s1.len (by decide)
  by_cases hie : i = l.length
  · subst hie
    rw [List.take_length] at ow
    simp [n1]
    exact kk _ _ k1 ow hov
  · have hlt : i < l.length := by omega
    have hlt' : (i : Int) < l.length := by omega
    obtain ⟨bb, o, row, x1, x2, x3, x4⟩ := s1.row (k := .i64) (by decide) hlt
    simp only [opC] at x1 x2
    have hw : IntKind.i64.wrap ((i : Int) + 1) = ((i + 1 : Nat) : Int) := by
      simp [big] at hb
      rw [w64 (by omega) (by omega)]; omega
    simp [n1, hlt', x1, x2]
    refine (opOf_spec h32 q32 x4 (hc _ (List.getElem_mem hlt))).mono ?_
    rintro r h2 ⟨k2, d, rfl, r2⟩
    have cl := opC.len r2
    simp only [opC] at cl
    have kap : ∀ g, Keep NoneOf h2 (h2 ++ g) := fun g => Keep.app _ _ _
    have ow2 := (ow.on k2).on (kap [.arr d .tight])
    simp [fillC, splice, cl, spread, cellsAt]
    rw [show List.take 5 d = d from List.take_of_length_le (by omega)]
    refine OV_pushN (e := opC) (x := l[i]) ow2 (opC.on r2 (kap _)) (fun b hb hlt => ?_) (by simp; omega) (by decide) ?_
    · have := k1.len
      have hbb : h1.length ≤ b := hb
      exact ⟨by omega, fun hv => by have := ow.blk b hv; omega⟩
    · intro v' h3 o3 k3 hb3
      simp [hw]
      refine ⟨l.length - (i + 1), by omega, i + 1, v', by omega, rfl, rfl, ((k1.trans k2).trans (kap _)).then k3 fun b hb e => by have := hov b e; omega, by simpa [List.take_append_getElem hlt] using o3, fun b hb => ?_⟩
      rcases hb3 b hb with q | q
      · exact hov b q
      · have := (k1.trans k2).len; simp at q; omega

/-- a list of ops, turned: the same ops, all new -/
theorem opOfAll_spec {h : Heap} {v0 : CV} {l : List OpV} {P : Nat → Prop} (hpg : p.Pg = S.pg) (q53 : p.pr 53 = none) (q32 : p.pr 32 = none) (s0 : Sl opC h P v0 l) (hb : l.length ≤ big) (hc : ∀ x ∈ l, x.cases.length ≤ big) :
    WF p 53 [v0] h fun r h' => Keep NoneOf h h' ∧ Sl opC h' (From h) r l :=
  WF_of (by rw [hpg]; exact S.pg53) q53 (by exact opOfAll_body (by rw [hpg]; exact S.pg32) q32 s0 hb hc fun r h' k o hr => ⟨k, o.sl hr⟩)

theorem opToAll_body {h : Heap} {v0 : CV} {l : List OpV} {P : Nat → Prop} {K : CV → Heap → Prop} (h68 : p.Pg 68 = some S.f32) (q68 : p.pr 68 = none) (s0 : Sl opC h P v0 l) (hb : l.length ≤ big) (hc : ∀ x ∈ l, x.cases.length ≤ big)
    (kk : ∀ r h', Keep NoneOf h h' → OwnN opC h.length h' r l → (∀ b, r.blk = some b → h.length ≤ b) → K r h') : W p S.b60 [(0, v0)] h (retQ [.t 2] K) := by
  unfold S.b60
  simp
  refine W_loop (AllInv v0 l h) ?_ l.length ⟨0, .nils, by omega, by omega, rfl, Keep.refl _ _, OwnN.nil, by simp [CV.blk]⟩
  rintro m e h1 ⟨i, ov, hi, rfl, rfl, k1, ow, hov⟩
  have s1 := s0.on k1
  have n1 := s1.len (by decide)
  by_cases hie : i = l.length
  · subst hie
    rw [List.take_length] at ow
    simp [n1]
    exact kk _ _ k1 ow hov
  · have hlt : i < l.length := by omega
    have hlt' : (i : Int) < l.length := by omega
    obtain ⟨bb, o, row, x1, x2, x3, x4⟩ := s1.row (k := .i64) (by decide) hlt
    simp only [opC] at x1 x2
    have hw : IntKind.i64.wrap ((i : Int) + 1) = ((i + 1 : Nat) : Int) := by
      simp [big] at hb
      rw [w64 (by omega) (by omega)]; omega
    simp [n1, hlt', x1, x2]
    refine (opOf_spec h68 q68 x4 (hc _ (List.getElem_mem hlt))).mono ?_
    rintro r h2 ⟨k2, d, rfl, r2⟩
    have cl := opC.len r2
    simp only [opC] at cl
    have kap : ∀ g, Keep NoneOf h2 (h2 ++ g) := fun g => Keep.app _ _ _
    have ow2 := (ow.on k2).on (kap [.arr d .tight])
    simp [fillC, splice, cl, spread, cellsAt]
    rw [show List.take 5 d = d from List.take_of_length_le (by omega)]
    refine OV_pushN (e := opC) (x := l[i]) ow2 (opC.on r2 (kap _)) (fun b hb hlt => ?_) (by simp; omega) (by decide) ?_
    · have := k1.len
      have hbb : h1.length ≤ b := hb
      exact ⟨by omega, fun hv => by have := ow.blk b hv; omega⟩
    · intro v' h3 o3 k3 hb3
      simp [hw]
      refine ⟨l.length - (i + 1), by omega, i + 1, v', by omega, rfl, rfl, ((k1.trans k2).trans (kap _)).then k3 fun b hb e => by have := hov b e; omega, by simpa [List.take_append_getElem hlt] using o3, fun b hb => ?_⟩
      rcases hb3 b hb with q | q
      · exact hov b q
      · have := (k1.trans k2).len; simp at q; omega

/-- a list of ops, turned: the same ops, all new -/
theorem opToAll_spec {h : Heap} {v0 : CV} {l : List OpV} {P : Nat → Prop} (hpg : p.Pg = S.pg) (q60 : p.pr 60 = none) (q68 : p.pr 68 = none) (s0 : Sl opC h P v0 l) (hb : l.length ≤ big) (hc : ∀ x ∈ l, x.cases.length ≤ big) :
    WF p 60 [v0] h fun r h' => Keep NoneOf h h' ∧ Sl opC h' (From h) r l :=
  WF_of (by rw [hpg]; exact S.pg60) q60 (by exact opToAll_body (by rw [hpg]; exact S.pg68) q68 s0 hb hc fun r h' k o hr => ⟨k, o.sl hr⟩)


/-- few ops, with few cases -/
def FewP (l : List OpV) : Bool := decide (l.length ≤ 60) && l.all fun x => decide (x.cases.length ≤ 20)

theorem opFew_spec {h : Heap} {c : List CV} {x : OpV} {P : Nat → Prop} (hpg : p.Pg = S.pg) (q67 : p.pr 67 = none) (r0 : opC.rep h P c x) :
    WF p 67 [.agg c] h fun r h' => r = .bool (decide (x.cases.length ≤ 20)) ∧ Keep NoneOf h h' := by
  obtain ⟨cv, rfl, s0⟩ := r0
  refine WF_of (by rw [hpg]; exact S.pg67) q67 ?_
  show W p S.b67 _ _ (retQ [.t 2] _)
  unfold S.b67
  have n0 := (s0.on (Keep.app NoneOf h [.arr [.int .i64 x.kind, .int .i64 x.n, .int .i64 x.v, .int .i64 x.wait, cv] .tight])).len (by decide)
  simp [one0, n0]
  exact ⟨by have : ((x.cases.length : Int) ≤ 20) = (x.cases.length ≤ 20) := by apply propext; constructor <;> intro h <;> omega
            simp [this], Keep.app _ _ _⟩

def FewInv (v0 : CV) (l : List OpV) (h : Heap) (m : Nat) (e : Env) (h' : Heap) : Prop :=
  ∃ i : Nat, i ≤ l.length ∧ m = l.length - i ∧ e = [(0, v0), (3, .int .i64 i)] ∧ Keep NoneOf h h' ∧ ∀ x ∈ l.take i, x.cases.length ≤ 20

theorem progFew_spec {h : Heap} {v0 : CV} {l : List OpV} {P : Nat → Prop} (hpg : p.Pg = S.pg) (q59 : p.pr 59 = none) (q67 : p.pr 67 = none) (s0 : Sl opC h P v0 l) :
    WF p 59 [v0] h fun r h' => r = .bool (FewP l) ∧ Keep NoneOf h h' := by
  refine WF_of (by rw [hpg]; exact S.pg59) q59 ?_
  show W p S.b59 _ _ (retQ [.t 2] _)
  unfold S.b59
  have n0 := s0.len (by decide)
  by_cases hl : 60 < (l.length : Int)
  · have : FewP l = false := by unfold FewP; rw [decide_eq_false (by omega)]; rfl
    simp [n0, hl, this]
    exact Keep.refl _ _
  · simp [n0, hl]
    refine W_loop (FewInv v0 l h) ?_ l.length ⟨0, by omega, by omega, rfl, Keep.refl _ _, by simp⟩
    rintro m e h1 ⟨i, hi, rfl, rfl, k1, hx⟩
    have s1 := s0.on k1
    have n1 := s1.len (by decide)
    by_cases hie : i = l.length
    · subst hie
      rw [List.take_length] at hx
      have : FewP l = true := by
        unfold FewP
        rw [decide_eq_true (by omega), Bool.true_and, List.all_eq_true]
        exact fun x h => decide_eq_true (hx x h)
      simp [n1, this]
      exact k1
    · have hlt : i < l.length := by omega
      have hlt' : (i : Int) < l.length := by omega
      obtain ⟨bb, o, row, x1, x2, x3, x4⟩ := s1.row (k := .i64) (by decide) hlt
      simp only [opC] at x1 x2
      have hw : IntKind.i64.wrap ((i : Int) + 1) = ((i + 1 : Nat) : Int) := by rw [w64 (by omega) (by omega)]; omega
      simp [n1, hlt', x1, x2]
      refine (opFew_spec hpg q67 x4).mono ?_
      rintro r h2 ⟨rfl, k2⟩
      by_cases hc : l[i].cases.length ≤ 20
      · simp [hc, hw]
        refine ⟨l.length - (i + 1), by omega, i + 1, by omega, rfl, rfl, k1.trans k2, fun x h => ?_⟩
        rw [← List.take_append_getElem hlt] at h
        rcases List.mem_append.1 h with h | h
        · exact hx x h
        · simp at h; subst h; exact hc
      · have : FewP l = false := by
          unfold FewP
          rw [Bool.and_eq_false_iff]
          right
          rw [List.all_eq_false]
          exact ⟨l[i], List.getElem_mem hlt, by simpa using hc⟩
        simp [hc, this]
        exact k1.trans k2

end Go.Cl
