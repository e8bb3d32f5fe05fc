/-
  Layer 26: whether what came is a front of what was sent: FlowAny.
-/
import Derived.Test.YtdoddbmnmpgpmaaGreatDoorM4
import Derived.Test.YtdoddbmnmpgpmaaGreatDoorM6
import Derived.Test.YtdoddbmnmpgpmaaGreatDoorS
namespace Go.Cl
open Go
set_option linter.unusedSimpArgs false
set_option linter.unusedVariables false
set_option maxHeartbeats 1000000

variable {p : PP}

def FqInv (v0 v1 : CV) (a b : List Int) (h : Heap) (m : Nat) (e : Env) (h' : Heap) : Prop :=
  ∃ i : Nat, i ≤ a.length ∧ m = a.length - i ∧ e = [(0, v0), (1, v1), (12, .int .i64 a.length), (13, .int .i64 i)] ∧ h' = h ∧ a.take i = b.take i

theorem flowEq_spec {h : Heap} {v0 v1 : CV} {a b : List Int} {P Q : Nat → Prop} (hp : p.Pg 446 = some S.f446) (hq : p.pr 446 = none) (s0 : Sl (.int .i64) h P v0 a) (s1 : Sl (.int .i64) h Q v1 b) (hb : a.length ≤ big) :
    WF p 446 [v0, v1] h fun r h' => r = .bool (decide (a = b)) ∧ h' = h := by
  refine WF_of hp hq ?_
  show W p S.b446 _ _ (retQ [.t 4] _)
  unfold S.b446
  have n0 := s0.len (by decide)
  have n1 := s1.len (by decide)
  by_cases hl : a.length = b.length
  · have hl' : (a.length : Int) = b.length := by omega
    simp [n0, n1, hl']
    rw [← hl']
    refine W_loop (FqInv v0 v1 a b h) ?_ a.length ⟨0, by omega, by omega, rfl, rfl, rfl⟩
    rintro m e h' ⟨i, hi, rfl, rfl, rfl, ht⟩
    by_cases hia : i = a.length
    · subst hia
      have : a = b := by rw [List.take_length, hl, List.take_length] at ht; exact ht
      simp [this]
    · have hlt : i < a.length := by omega
      have hlt' : (i : Int) < a.length := by omega
      obtain ⟨b0, o0, x1, x2, x3⟩ := readI_idx (k' := .i64) s0.ints hlt
      obtain ⟨b1, o1, y1, y2, y3⟩ := readI_idx (k' := .i64) s1.ints (i := i) (by omega)
      have hw : IntKind.i64.wrap ((i : Int) + 1) = ((i + 1 : Nat) : Int) := by
        simp [big] at hb
        rw [w64 (by omega) (by omega)]; omega
      have hlb : i < b.length := by omega
      by_cases he : a[i] = b[i]
      · simp [hlt', x1, x3, y1, y3, he, hw]
        refine ⟨a.length - (i + 1), by omega, i + 1, by omega, rfl, rfl, rfl, ?_⟩
        rw [← List.take_append_getElem hlt, ← List.take_append_getElem hlb, ht, he]
      · have hne : ¬ a = b := fun e => he (by subst e; rfl)
        simp [hlt', x1, x3, y1, y3, he, hne]
  · have hl' : ¬ (a.length : Int) = b.length := by omega
    have hne : ¬ a = b := fun e => hl (by rw [e])
    simp [n0, n1, hl', hne]

/-- what came is a front of what was sent, but for what there is room for -/
def rightP (sent came : List Int) (room : Int) : Bool := decide (came.length ≤ sent.length) && (decide (came = sent.take came.length) && decide ((sent.length : Int) - came.length ≤ room))

theorem right_spec (hpg : p.Pg = S.pg) (q430 : p.pr 430 = none) (q446 : p.pr 446 = none) {h : Heap} {v0 v1 : CV} {e : Bool} {a b : List Int} {room : Int} {P Q : Nat → Prop} (s0 : Sl (.int .i64) h P v0 a) (s1 : Sl (.int .i64) h Q v1 b) (ha : a.length ≤ big) (hb : b.length ≤ big) :
    WF p 430 [.agg [v0, v1, .bool e], .int .i64 room] h fun r h' => r = .bool (rightP a b room) ∧ h' = h ++ [.arr [v0, v1, .bool e] .tight] := by
  refine WF_of (by rw [hpg]; exact S.pg430) q430 ?_
  show W p S.b430 _ _ (retQ [.t 4] _)
  unfold S.b430
  have k : Keep NoneOf h (h ++ [.arr [v0, v1, .bool e] .tight]) := Keep.app _ _ _
  have l0 := ld (get_new (h := h) (o := .arr [v0, v1, .bool e] .tight))
  have t0 := s0.on k
  have t1 := s1.on k
  have n0 := t0.len (by decide)
  have n1 := t1.len (by decide)
  have hs0 : v0.scalar = true := by obtain ⟨c, r, _⟩ := s0; exact r.scalar
  have hs1 : v1.scalar = true := by obtain ⟨c, r, _⟩ := s1; exact r.scalar
  by_cases hle : b.length ≤ a.length
  · have hle' : (b.length : Int) ≤ a.length := by omega
    obtain ⟨w, c1, c2⟩ := t0.cut (by decide) (k := .i64) hle
    have c1' : slSl (h ++ [.arr [v0, v1, .bool e] .tight]) 1 v0 none (some (.int .i64 (b.length : Int))) = some (w, h ++ [.arr [v0, v1, .bool e] .tight]) := c1
    simp [l0, n0, n1, hle', c1']
    refine (flowEq_spec (by rw [hpg]; exact S.pg446) q446 t1 c2 hb).mono ?_
    rintro r h' ⟨rfl, rfl⟩
    have hw : IntKind.i64.wrap ((a.length : Int) - b.length) = (a.length : Int) - b.length := by
      have : (big : Int) = 4294967296 := rfl
      exact wrap_in _ (by omega) (by omega)
    by_cases he : b = a.take b.length
    · simp [l0, n0, n1, ← he, hw, rightP, hle]
    · have he' : decide (b = a.take b.length) = false := by simpa using he
      simp [l0, n0, n1, he', hw, rightP, hle]
  · have hle' : ¬ (b.length : Int) ≤ a.length := by omega
    simp [l0, n0, n1, hle', hle, rightP]

def RfInv (R : Nat) (a b : List Int) (h : Heap) (m : Nat) (e : Env) (h' : Heap) : Prop :=
  ∃ i : Nat, i ≤ b.length ∧ m = b.length - i ∧ e = [(2, .ptr R 0), (5, .int .i64 i)] ∧ h' = h ∧ b.take i = a.take i

theorem rightFlow_spec (hpg : p.Pg = S.pg) (q432 : p.pr 432 = none) {h : Heap} {v0 v1 : CV} {e : Bool} {a b : List Int} {room : Int} {P Q : Nat → Prop} (s0 : Sl (.int .i64) h P v0 a) (s1 : Sl (.int .i64) h Q v1 b) (ha : a.length ≤ big) (hb : b.length ≤ big) :
    WF p 432 [.agg [v0, v1, .bool e], .int .i64 room] h fun r h' => r = .bool (rightP a b room) ∧ h' = h ++ [.arr [v0, v1, .bool e] .tight] := by
  refine WF_of (by rw [hpg]; exact S.pg432) q432 ?_
  show W p S.b432 _ _ (retQ [.t 4] _)
  unfold S.b432
  have k : Keep NoneOf h (h ++ [.arr [v0, v1, .bool e] .tight]) := Keep.app _ _ _
  have l0 := ld (get_new (h := h) (o := .arr [v0, v1, .bool e] .tight))
  have t0 := s0.on k
  have t1 := s1.on k
  have n0 := t0.len (by decide)
  have n1 := t1.len (by decide)
  have hbig : (big : Int) = 4294967296 := rfl
  have hw : IntKind.i64.wrap ((a.length : Int) - b.length) = (a.length : Int) - b.length := wrap_in _ (by omega) (by omega)
  by_cases hle : b.length ≤ a.length
  · have hle' : ¬ (a.length : Int) < b.length := by omega
    by_cases hr : (a.length : Int) - b.length ≤ room
    · have hr' : ¬ room < (a.length : Int) - b.length := by omega
      simp [l0, n0, n1, hle', hw, hr']
      refine W_loop (RfInv h.length a b (h ++ [.arr [v0, v1, .bool e] .tight])) ?_ b.length ⟨0, by omega, by omega, rfl, rfl, rfl⟩
      rintro m e' h' ⟨i, hi, rfl, rfl, rfl, ht⟩
      by_cases hia : i = b.length
      · subst hia
        have ht' : b = a.take b.length := by rw [List.take_length] at ht; exact ht
        simp [l0, n1, rightP, hle, ← ht', hr]
      · have hlt : i < b.length := by omega
        have hlt' : (i : Int) < b.length := by omega
        have hla : i < a.length := by omega
        obtain ⟨b0, o0, x1, x2, x3⟩ := readI_idx (k' := .i64) t0.ints hla
        obtain ⟨b1, o1, y1, y2, y3⟩ := readI_idx (k' := .i64) t1.ints hlt
        have hw1 : IntKind.i64.wrap ((i : Int) + 1) = ((i + 1 : Nat) : Int) := by
          rw [wrap_in _ (by omega) (by omega)]; omega
        by_cases he : b[i] = a[i]
        · simp [l0, n1, hlt', x1, x3, y1, y3, he, hw1]
          refine ⟨b.length - (i + 1), by omega, i + 1, by omega, rfl, rfl, rfl, ?_⟩
          rw [← List.take_append_getElem hlt, ← List.take_append_getElem hla, ht, he]
        · have hne : ¬ b = a.take b.length := fun e => he (by
            have : b[i]? = (a.take b.length)[i]? := by rw [← e]
            rw [List.getElem?_take, if_pos hlt] at this
            simpa [hlt, hla] using this)
          have hne' : decide (b = a.take b.length) = false := by simpa using hne
          simp [l0, n1, hlt', x1, x3, y1, y3, he, rightP, hne']
    · have hr' : room < (a.length : Int) - b.length := by omega
      simp [l0, n0, n1, hle', hw, hr', rightP, hr]
  · have hle' : (a.length : Int) < b.length := by omega
    simp [l0, n0, n1, hle', rightP, hle]

theorem flowOf_spec (hpg : p.Pg = S.pg) (q431 : p.pr 431 = none) {h : Heap} {v0 v1 : CV} {e : Bool} (hs0 : v0.scalar = true) (hs1 : v1.scalar = true) :
    WF p 431 [.agg [v0, v1, .bool e]] h fun r h' => r = .agg [v0, v1, .bool e] ∧ Keep NoneOf h h' := by
  refine WF_of (by rw [hpg]; exact S.pg431) q431 ?_
  show W p S.b431 _ _ (retQ [.cell (some 3) 2] _)
  unfold S.b431
  have c0 := CV.cells_scalar hs0
  have c1 := CV.cells_scalar hs1
  have g0 : (h ++ [Obj.arr [v0, v1, .bool e] .tight, .arr [.nils, .nils, .bool false] .tight])[h.length]? = some (.arr [v0, v1, .bool e] .tight) := by simp
  have g1 : (h ++ [Obj.arr [v0, v1, .bool e] .tight, .arr [.nils, .nils, .bool false] .tight])[h.length + 1]? = some (.arr [.nils, .nils, .bool false] .tight) := by simp
  have l0 := ld g0
  have s1 := stt g1 0 [v0, v1, .bool e]
  rw [if_pos ⟨by simp, by simp [hs0, hs1]⟩] at s1
  have ca : ∀ l, (CV.agg l).cells = l := fun _ => rfl
  have cb : ∀ b, (CV.bool b).cells = [.bool b] := fun _ => rfl
  simp [ca, cb, l0, fillC, splice, c0, c1, fits, s1, rvs, loadAt]
  exact Keep.app _ _ _

theorem flowAny_law (hpg : p.Pg = S.pg) (q : ∀ f ∈ [428, 430, 431, 432, 446], p.pr f = none) {l : List Nat} {pr : Prims} (hpr : p.pr = addKnown l pr) (hl : l.contains 429 = true) {h : Heap} {v0 v1 : CV} {a b : List Int} {room : Int} {P Q : Nat → Prop}
    (s0 : Sl (.int .i64) h P v0 a) (s1 : Sl (.int .i64) h Q v1 b) : WF p 428 [v0, v1, .int .i64 room] h fun r _ => r = .bool true := by
  refine WF_of (by rw [hpg]; exact S.pg428) (q 428 (by decide)) ?_
  show W p S.b428 _ _ (retQ [.t 6] _)
  unfold S.b428
  have n0 := s0.len (by decide)
  have n1 := s1.len (by decide)
  have hs0 : v0.scalar = true := by obtain ⟨c, r, _⟩ := s0; exact r.scalar
  have hs1 : v1.scalar = true := by obtain ⟨c, r, _⟩ := s1; exact r.scalar
  have c0 := CV.cells_scalar hs0
  have c1 := CV.cells_scalar hs1
  simp
  refine WF_known hpr hl ?_
  by_cases ha : 60 < a.length
  · have ha' : (60 : Int) < a.length := by omega
    simp [n0, ha']
  have ha' : ¬ (60 : Int) < a.length := by omega
  by_cases hb : 60 < b.length
  · have hb' : (60 : Int) < b.length := by omega
    simp [n0, n1, ha', hb']
  have hb' : ¬ (60 : Int) < b.length := by omega
  have hbig : big = 4294967296 := rfl
  have s2 := stt (get_new (h := h) (o := .arr [.nils, .nils, .bool false] .tight)) 0 [v0, v1, .bool false]
  rw [if_pos ⟨by simp, by simp [hs0, hs1]⟩] at s2
  have hset : (h ++ [Obj.arr [.nils, .nils, .bool false] .tight]).set h.length (.arr (splice [.nils, .nils, .bool false] 0 [v0, v1, .bool false]) .tight) = h ++ [Obj.arr [v0, v1, .bool false] .tight] := by
    simp [splice]
  rw [hset] at s2
  have k1 : Keep NoneOf h (h ++ [.arr [v0, v1, .bool false] .tight]) := Keep.app _ _ _
  have l0 := ldn (get_new (h := h) (o := .arr [v0, v1, .bool false] .tight))
  have ca : ∀ l, (CV.agg l).cells = l := fun _ => rfl
  have cb : ∀ b, (CV.bool b).cells = [.bool b] := fun _ => rfl
  simp [n0, n1, ha', hb', ca, cb, fillC, splice, c0, c1, fits, s2, l0]
  refine WO_re_n ?_
  simp
  refine (right_spec hpg (q 430 (by decide)) (q 446 (by decide)) (s0.on k1) (s1.on k1) (by omega) (by omega)).mono ?_
  rintro r h' ⟨rfl, rfl⟩
  have l1 := ldn (show (h ++ [Obj.arr [v0, v1, .bool false] .tight, .arr [v0, v1, .bool false] .tight])[h.length]? = some (.arr [v0, v1, .bool false] .tight) by simp)
  refine ⟨fun c => by simp [recheckB, wanted, Env.get, cls, evOp, Opd.ev, withH, CV.eqb, l1, CV.eqb_refl, CV.eqbL_refl], ?_⟩
  have k2 : Keep NoneOf h (h ++ [Obj.arr [v0, v1, .bool false] .tight] ++ [.arr [v0, v1, .bool false] .tight]) := k1.trans (Keep.app _ _ _)
  refine (flowOf_spec hpg (q 431 (by decide)) hs0 hs1).mono ?_
  rintro r h' ⟨rfl, k3⟩
  refine (rightFlow_spec hpg (q 432 (by decide)) (s0.on (k2.trans k3)) (s1.on (k2.trans k3)) (by omega) (by omega)).mono ?_
  rintro r h'' ⟨rfl, rfl⟩
  simp [eqv]

end Go.Cl
