/-
  Maps with numbers as keys.
-/
import Derived.Test.YtiegjnklhafloaaDoorClH
namespace Go.Cl
open Go
set_option linter.unusedSimpArgs false
set_option linter.unusedVariables false

abbrev Ent := CV × CV × Nat

/-- what a key has -/
def asc (k : CV) : List Ent → Option CV
  | [] => none
  | x :: r => if x.1 = k then some x.2.1 else asc k r

/-- a map's entries: keys of one kind, births apart and gone by -/
structure MapOK (kd : IntKind) (es : List Ent) (clock : Nat) : Prop where
  key : ∀ x ∈ es, ∃ n, x.1 = .int kd n
  lt : ∀ x ∈ es, x.2.2 < clock
  nd : (es.map (·.2.2)).Nodup

theorem find_cases {kd : IntKind} (k : Int) : ∀ (es : List Ent) (j : Nat), (∀ x ∈ es, ∃ n, x.1 = .int kd n) →
    (asc (.int kd k) es = none ∧ findKey .i (.int kd k) es j = some none) ∨
    ∃ l1 v b l2, es = l1 ++ (.int kd k, v, b) :: l2 ∧ (∀ x ∈ l1, x.1 ≠ .int kd k) ∧ asc (.int kd k) es = some v ∧ findKey .i (.int kd k) es j = some (some (j + l1.length, v, b))
  | [], j, _ => .inl ⟨rfl, rfl⟩
  | (k0, v0, b0) :: r, j, hk => by
    obtain ⟨n, hn⟩ := hk _ (List.mem_cons_self)
    simp only at hn
    subst hn
    by_cases h : n = k
    · subst h
      exact .inr ⟨[], v0, b0, r, rfl, by simp, by simp [asc], by simp [findKey, eqKind]⟩
    · have h2 : ¬ k = n := fun e => h e.symm
      rcases find_cases k r (j + 1) (fun x hx => hk x (List.mem_cons_of_mem _ hx)) with ⟨h1, h3⟩ | ⟨l1, v, b, l2, rfl, h1, h3, h4⟩
      · exact .inl ⟨by simp [asc, h, h1], by simp only [findKey, eqKind, if_true, h3]; rw [show (k == n) = false by simpa using h2]⟩
      · refine .inr ⟨(.int kd n, v0, b0) :: l1, v, b, l2, rfl, ?_, by simp [asc, h, h3], ?_⟩
        · intro x hx
          rcases List.mem_cons.1 hx with rfl | hx
          · simp [h]
          · exact h1 x hx
        · simp only [findKey, eqKind, if_true]
          rw [show (k == n) = false by simpa using h2]
          simp only [h4]
          simp only [List.length_cons]; congr 3; omega

theorem asc_append {k : CV} : ∀ (a b : List Ent), asc k (a ++ b) = match asc k a with | some v => some v | none => asc k b
  | [], b => rfl
  | x :: r, b => by
    simp only [List.cons_append, asc]
    by_cases h : x.1 = k
    · simp [h]
    · simp only [h, if_false]; exact asc_append r b

theorem asc_none {k : CV} : ∀ {a : List Ent}, (∀ x ∈ a, x.1 ≠ k) → asc k a = none
  | [], _ => rfl
  | x :: r, h => by simp [asc, h x (by simp), asc_none (a := r) fun y hy => h y (by simp [hy])]

/-- a map -/
def MapI (h : Heap) (kd : IntKind) (mb : Nat) (f : Int → Option CV) : Prop :=
  ∃ es clock, h[mb]? = some (.map es clock) ∧ MapOK kd es clock ∧ ∀ k, asc (.int kd k) es = f k

theorem MapI.keep {S : Nat → Prop} {h h' : Heap} {kd : IntKind} {mb : Nat} {f : Int → Option CV} (m : MapI h kd mb f) (k : Keep S h h') (hS : ¬ S mb) : MapI h' kd mb f := by
  obtain ⟨es, c, h1, h2⟩ := m
  exact ⟨es, c, k.at h1 hS, h2⟩

theorem MapI.lt {h : Heap} {kd : IntKind} {mb : Nat} {f : Int → Option CV} (m : MapI h kd mb f) : mb < h.length := let ⟨_, _, h1, _⟩ := m; lt_of_get h1

theorem MapI.new {h : Heap} {kd : IntKind} : MapI (h ++ [.map [] 0]) kd h.length fun _ => none :=
  ⟨[], 0, get_new, ⟨by simp, by simp, by simp⟩, fun _ => rfl⟩

theorem MapI.look {h : Heap} {kd : IntKind} {mb : Nat} {f : Int → Option CV} (m : MapI h kd mb f) (ok : Bool) (z : CV) (k : Int) :
    lookupV h ok .i z (.mp mb) (.int kd k) = some (match f k with | some v => (if ok then .tup [v, .bool true] else v) | none => if ok then .tup [z, .bool false] else z) := by
  obtain ⟨es, c, h1, h2, h3⟩ := m
  rw [← h3 k]
  simp only [lookupV, h1]
  rcases find_cases k es 0 h2.key with ⟨q1, q2⟩ | ⟨l1, v, b, l2, q0, _, q1, q2⟩
  · simp [q1, q2]
  · simp [q1, q2]

def upd (f : Int → Option CV) (k : Int) (v : CV) : Int → Option CV := fun i => if i = k then some v else f i

theorem findIdx_app {a : List Ent} {x : Ent} {b : List Ent} {s : Nat} (h : ∀ y ∈ a, y.2.2 ≠ s) (hx : x.2.2 = s) : (a ++ x :: b).findIdx? (fun y => (y.2.2 : Int) == (s : Int)) = some a.length := by
  induction a with
  | nil => simp [List.findIdx?_cons, hx]
  | cons y r ih =>
    have : ((y.2.2 : Int) == (s : Int)) = false := by
      have := h y (by simp)
      simpa using fun e => this (by exact_mod_cast e)
    simp only [List.cons_append, List.findIdx?_cons, this, ih fun z hz => h z (by simp [hz])]
    simp

theorem modify_app {a : List Ent} {x : Ent} {b : List Ent} (g : Ent → Ent) : (a ++ x :: b).modify a.length g = a ++ g x :: b := by
  induction a with
  | nil => rfl
  | cons y r ih => simp [ih]

theorem set_app {a : List Ent} {x y : Ent} {b : List Ent} : (a ++ x :: b).set a.length y = a ++ y :: b := by
  induction a with
  | nil => rfl
  | cons z r ih => simp [ih]

/-- 'm[k] = v': the entry, then the value -/
theorem MapI.put {h : Heap} {kd : IntKind} {mb : Nat} {f : Int → Option CV} (m : MapI h kd mb f) (z v : CV) (k : Int) :
    ∃ w s h1, mapentV h .i z (.mp mb) (.int kd k) = some (.tup [w, .int .i64 s], h1) ∧ Keep (· = mb) h h1 ∧ h1.length = h.length ∧
      ∀ h2, Keep (fun _ => False) h1 h2 → ∃ h3, entstV h2 (.mp mb) (.int .i64 s) v = some h3 ∧ MapI h3 kd mb (upd f k v) ∧ Keep (· = mb) h2 h3 ∧ h3.length = h2.length := by
  obtain ⟨es, c, h1, h2, h3⟩ := m
  have hl := lt_of_get h1
  rcases find_cases k es 0 h2.key with ⟨q1, q2⟩ | ⟨l1, u, b, l2, rfl, q0, q1, q2⟩
  · refine ⟨z, c, h.set mb (.map (es ++ [(.int kd k, z, c)]) (c + 1)), by simp [mapentV, h1, q2, i64], Keep.set _ _ rfl, by simp, fun g hg => ?_⟩
    have hgm : g[mb]? = some (.map (es ++ [(.int kd k, z, c)]) (c + 1)) := hg.at (get_set_self hl) id
    have hlt := lt_of_get hgm
    have hfi : (es ++ [((CV.int kd k, z, c) : Ent)]).findIdx? (fun y => (y.2.2 : Int) == (c : Int)) = some es.length := findIdx_app (fun y hy => Nat.ne_of_lt (h2.lt y hy)) rfl
    refine ⟨g.set mb (.map (es ++ [(.int kd k, v, c)]) (c + 1)), ?_, ⟨_, _, get_set_self hlt, ⟨?_, ?_, ?_⟩, ?_⟩, Keep.set _ _ rfl, by simp⟩
    · simp only [entstV, hgm, hfi]
      rw [modify_app]
    · intro x hx
      rcases List.mem_append.1 hx with hx | hx
      · exact h2.key x hx
      · simp at hx; subst hx; exact ⟨k, rfl⟩
    · intro x hx
      rcases List.mem_append.1 hx with hx | hx
      · exact Nat.lt_succ_of_lt (h2.lt x hx)
      · simp at hx; subst hx; exact Nat.lt_succ_self c
    · rw [List.map_append, List.nodup_append]
      refine ⟨h2.nd, by simp, ?_⟩
      intro a ha b' hb e
      simp at hb
      subst hb; subst e
      obtain ⟨x, hx, hxe⟩ := List.mem_map.1 ha
      exact absurd hxe (Nat.ne_of_lt (h2.lt x hx))
    · intro i
      rw [asc_append]
      unfold upd
      by_cases hi : i = k
      · subst hi; simp [q1, asc]
      · rw [h3 i]
        have : ¬ k = i := fun e => hi e.symm
        cases f i <;> simp [asc, this, hi]
  · have hnb : ∀ y ∈ l1, y.2.2 ≠ b := by
      intro y hy e
      have := h2.nd
      rw [List.map_append, List.nodup_append] at this
      exact this.2.2 y.2.2 (List.mem_map.2 ⟨y, hy, rfl⟩) b (by simp) e
    refine ⟨u, b, h.set mb (.map (l1 ++ (.int kd k, u, b) :: l2) c), ?_, Keep.set _ _ rfl, by simp, fun g hg => ?_⟩
    · simp only [mapentV, h1, q2, Nat.zero_add, set_app, i64]
    · have hgm : g[mb]? = some (.map (l1 ++ (.int kd k, u, b) :: l2) c) := hg.at (get_set_self hl) id
      have hlt := lt_of_get hgm
      have hfi : (l1 ++ ((CV.int kd k, u, b) : Ent) :: l2).findIdx? (fun y => (y.2.2 : Int) == (b : Int)) = some l1.length := findIdx_app hnb rfl
      refine ⟨g.set mb (.map (l1 ++ (.int kd k, v, b) :: l2) c), ?_, ⟨_, _, get_set_self hlt, ⟨?_, ?_, ?_⟩, ?_⟩, Keep.set _ _ rfl, by simp⟩
      · simp only [entstV, hgm, hfi]
        rw [modify_app]
      · intro x hx
        rcases List.mem_append.1 hx with hx | hx
        · exact h2.key x (by simp [hx])
        · rcases List.mem_cons.1 hx with rfl | hx
          · exact ⟨k, rfl⟩
          · exact h2.key x (by simp [hx])
      · intro x hx
        rcases List.mem_append.1 hx with hx | hx
        · exact h2.lt x (by simp [hx])
        · rcases List.mem_cons.1 hx with rfl | hx
          · exact h2.lt (.int kd k, u, b) (by simp)
          · exact h2.lt x (by simp [hx])
      · have := h2.nd
        simpa using this
      · intro i
        have hi3 := h3 i
        rw [asc_append] at hi3 ⊢
        unfold upd
        by_cases hi : i = k
        · subst hi; simp [asc_none q0, asc]
        · have : ¬ k = i := fun e => hi e.symm
          simp only [hi, if_false]
          rw [← hi3]
          simp [asc, this]

end Go.Cl
