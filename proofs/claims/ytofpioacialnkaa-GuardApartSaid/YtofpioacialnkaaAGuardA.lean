/-
  GuardApart, on the clean evaluator.
-/
import Derived.Test.YtofpioacialnkaaAGuardN
import Derived.Test.YtofpioacialnkaaCl18
import Derived.Test.YtofpioacialnkaaCl16
namespace Go.Cl
open Go
set_option linter.unusedSimpArgs false
set_option linter.unusedVariables false

theorem w64 {x : Int} (h1 : -9223372036854775808 ≤ x) (h2 : x ≤ 9223372036854775807) : IntKind.i64.wrap x = x := wrap_in x h1 h2

theorem WF_known {p : PP} {f : Nat} {l : List Nat} {pr : Prims} (hp : p.pr = addKnown l pr) (hf : l.contains f = true) {h : Heap} {K : CV → Heap → Prop} (k : K (.bool true) h) : WF p f [] h K := by
  refine ⟨1, .bool true, h, ?_, k⟩
  show evCall p.Pg p.pr 1 f [] h = _
  simp only [evCall, hp, addKnown, hf]

theorem apart2 {P l t : Nat} (hl : l % P = 0) (h1 : l < t) (h2 : t ≤ l + P) : t % P = 0 ↔ t = l + P := by
  obtain ⟨d, rfl⟩ := Nat.exists_eq_add_of_lt h1
  have : (l + d + 1) % P = (d + 1) % P := by rw [Nat.add_assoc, Nat.add_mod, hl, Nat.zero_add, Nat.mod_mod]
  rw [this]
  by_cases h3 : d + 1 = P
  · rw [h3, Nat.mod_self]; constructor
    · intro _; omega
    · intro _; rfl
  · rw [Nat.mod_eq_of_lt (by omega)]; constructor
    · intro h; omega
    · intro h; omega

/-- the last one taken -/
def LastOf (P t : Nat) (o : Option Int) : Prop := (t = 0 ∧ o = none) ∨ ∃ l : Nat, o = some (l : Int) ∧ l % P = 0 ∧ l < t ∧ t ≤ l + P

def GAInv (P b g : Nat) (pv : CV) (mb : Nat) (m : Nat) (e : Env) (h' : Heap) : Prop :=
  ∃ (t : Nat) (now : Int) (f : Int → Option Int), t ≤ b ∧ m = b - t ∧ e = [(1, .int .u8 b), (5, .int .i64 P), (6, .ptr g 0), (7, .int .i64 t)] ∧
    GuardAt h' g pv mb [(P : Int)] f now ∧ now ≤ t ∧ LastOf P t (f 0)

variable {p : PP}

theorem guardApart_law (hpg : p.Pg = S.pg) (hpr : p.pr = addKnown [4] noPr) {h : Heap} {a b : Int} (ha : 0 ≤ a ∧ a ≤ 255) (hb : 0 ≤ b ∧ b ≤ 255) :
    WF p 3 [.int .u8 a, .int .u8 b] h fun r _ => r = .bool true := by
  have p3 : p.pr 3 = none := by rw [hpr]; rfl
  have p5 : p.pr 5 = none := by rw [hpr]; rfl
  have p6 : p.pr 6 = none := by rw [hpr]; rfl
  refine WF_of (by rw [hpg]; exact S.pg3) p3 ?_
  show W p S.b3 _ _ (retQ [.t 4] _)
  unfold S.b3
  obtain ⟨a, rfl⟩ := Int.eq_ofNat_of_zero_le ha.1
  obtain ⟨b, rfl⟩ := Int.eq_ofNat_of_zero_le hb.1
  have hP : IntKind.i64.wrap (1 + IntKind.i64.wrap ((a : Int).tmod 40)) = ((a % 40 + 1 : Nat) : Int) := by
    rw [show ((a : Int).tmod 40) = ((a % 40 : Nat) : Int) by rfl]
    rw [w64 (x := ((a % 40 : Nat) : Int)) (by omega) (by omega), w64 (by omega) (by omega)]; omega
  have hPpos : 0 < a % 40 + 1 := by omega
  generalize hPd : a % 40 + 1 = P at *
  have hP41 : P < 41 := by omega
  simp
  refine WF_known hpr rfl ?_
  simp [fillC, CV.cells, splice, hP]
  have hT : TasksAt (h ++ [Obj.arr [.int .i64 1, .int .i64 1, .int .i64 0, .int .i64 0, .nils] .tight, Obj.arr [.str [97], .int .i64 P, .int .i64 P, .int .i64 1, .sl h.length 0 1 1] .tight]) (.sl (h.length + 1) 0 1 1) [(P : Int)] :=
    ⟨[.str [97], .int .i64 P, .int .i64 P, .int .i64 1, .sl h.length 0 1 1], .inr ⟨h.length + 1, 0, 1, 1, [.str [97], .int .i64 P, .int .i64 P, .int .i64 1, .sl h.length 0 1 1], .tight, rfl, rfl, by simp, by simp, rfl⟩, rfl, by simp⟩
  refine (new_spec (ps := [(P : Int)]) (by rw [hpg]; exact S.pg5) p5 hT (by simp [big])).mono ?_
  rintro r h1 ⟨g, pv, mb, rfl, hg, -, -, -, -⟩
  simp [eqv]
  refine W_loop (GAInv P b g pv mb) ?_ b ⟨0, 0, _, by omega, by omega, rfl, hg, by omega, .inl ⟨rfl, rfl⟩⟩
  rintro m e h' ⟨t, now, f, ht, rfl, rfl, hg, hnow, hf⟩
  have hb' : IntKind.i64.wrap (b : Int) = b := w64 (by omega) (by omega)
  by_cases htb : t = b
  · subst htb
    simp [hb']
  · have htlt : (t : Int) < b := by omega
    simp [hb', htlt]
    refine (ask_spec (by rw [hpg]; exact S.pg6) p6 hg 0 t false).mono ?_
    rintro r h2 ⟨rfl, hr2, -, -⟩
    have hE : askE [(P : Int)] f now 0 t false = if t % P = 0 then 0 else 12 := by
      have k1 : ¬ ((t : Int) < now) := by omega
      have k2 : ¬ ((t : Int) < 0) := by omega
      have k3 : ¬ (1099511627776 < (t : Int)) := by omega
      simp only [askE, k1, k2, k3]
      rcases hf with ⟨rfl, h0⟩ | ⟨l, h0, h1, h2, h3⟩
      · simp [h0]
      · have := apart2 h1 h2 h3
        simp only [h0]
        rw [w64 (by omega) (by omega)]
        by_cases hm : t % P = 0
        · have : ¬ ((t : Int) - (l : Int) < (P : Int)) := by have := this.1 hm; omega
          simp [hm, this]
        · have : ((t : Int) - (l : Int) < (P : Int)) := by
            have : t ≠ l + P := fun e => hm (this.2 e)
            omega
          simp [hm, this]
    rw [hE]
    rw [hE] at hr2
    have hrem : ((t : Int).tmod P) = ((t % P : Nat) : Int) := rfl
    have hPz : ¬ ((P : Int) = 0) := by omega
    have hPn : ¬ P = 0 := by omega
    have hw : IntKind.i64.wrap ((t : Int) + 1) = ((t + 1 : Nat) : Int) := by rw [w64 (by omega) (by omega)]; omega
    by_cases hm : t % P = 0
    · rw [if_pos hm] at hr2
      simp only [if_true] at hr2
      have hz : (((t % P : Nat) : Int) = 0) := by omega
      simp [hrem, hz, hPz, hPn, hw, hm, -Int.natCast_emod]
      refine ⟨b - (t + 1), by omega, t + 1, t, _, by omega, rfl, rfl, hr2, by omega, .inr ⟨t, ?_, hm, by omega, by omega⟩⟩
      simp [updI]
    · rw [if_neg hm] at hr2
      simp at hr2
      subst hr2
      have hz : ¬ (((t % P : Nat) : Int) = 0) := by omega
      simp [hrem, hz, hPz, hPn, hw, hm, -Int.natCast_emod]
      refine ⟨b - (t + 1), by omega, t + 1, now, f, by omega, rfl, rfl, hg, by omega, ?_⟩
      rcases hf with ⟨rfl, h0⟩ | ⟨l, h0, h1, h2, h3⟩
      · simp at hm
      · have := apart2 h1 h2 h3
        refine .inr ⟨l, h0, h1, by omega, ?_⟩
        have : t ≠ l + P := fun e => hm (this.2 e)
        omega
end Go.Cl
