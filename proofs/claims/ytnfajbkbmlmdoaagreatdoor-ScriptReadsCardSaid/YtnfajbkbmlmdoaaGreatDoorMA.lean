/-
  Texts laid together: LRing.
-/
import Derived.Test.YtnfajbkbmlmdoaaGreatDoorLink
import Derived.Test.YtnfajbkbmlmdoaaGreatDoorM3
import Derived.Test.YtnfajbkbmlmdoaaGreatDoorM5
import Derived.Conc.LoneSelect
import Derived.KernelRfl

namespace Go.Proofs.YtnfajbkbmlmdoaaGreatDoor
open Go Go.Cl Go.Conc Go.RowKit

set_option maxRecDepth 100000 in
theorem push_room {w : World} {a : Addr} {c cap s r : Nat} {buf : Array Value} {v : Value} (hl : w.cell? a = some (.chan (some c)))
    (hc : w.heap[c]? = some (.chan cap buf false s r false)) (hroom : buf.size < cap) :
    Calls Tryz.prog 235 #[.pointer (some a), v] w fun e w' => e = .returned (.bool true) ∧ w' = w.setChan c cap (buf.push v) false (s + 1) r false := by
  refine calls_of_loneTo fun cs => ?_
  have e : Frame.enter Tryz.prog 235 #[.pointer (some a), v] .normal = (base 235).at ⟨#[.pointer (some a), v, undef, undef, undef, undef, undef, undef, undef, undef, undef, undef, undef], []⟩ [.code (Tryz.f235.body.getD .skip)] := by
    simp [Frame.enter, Frame.at, Tryz.func235, base, Tryz.f235]
  rw [e]
  refine LoneTo.goes (n := 15) ?_
  simp only [Tryz.f235, Option.getD_some]
  s_c stepG_seq
  s_reg
  s_op
  s_c stepG_region_end
  s_c stepG_seq
  s_c stepG_seq
  s_reg
  s_op
  s_op
  s_op
  s_op
  s_c stepG_region_end
  s_reg
  s_op
  s_c stepG_region_end
  s_stop
  refine LoneTo.goes (n := 2) ?_
  s_c stepG_seq
  s_reg
  s_stop
  refine LoneTo.step (step_lone_select_send_room (c := c) (v := v) (z' := .int .i64 0) (stepG_comm (cases := #[scase c v (.int .i64 0)]) (blocking := false) (shape := .select) (w' := w) rfl rfl (by decide) (by simp [go_sem, execOp, scase, Act.eval])) hc hroom) ?_
  rw [Frame.finish_at]
  walk_nrm
  refine LoneTo.goes (n := 11) ?_
  s_op
  s_op
  s_c stepG_region_end
  s_c stepG_block
  s_cond true
  s_c stepG_seq
  s_reg
  s_op
  s_c stepG_region_end
  s_c stepG_ret'
  s_stop
  refine LoneTo.done ⟨.returned (.bool true), _, rfl, ⟨rfl, rfl⟩, rfl, rfl, rfl, rfl, _, Tryz.func235, by simp [results, Tryz.f235, Frame.at]⟩

set_option maxRecDepth 100000 in
theorem push_full {w : World} {a : Addr} {c cap s r : Nat} {buf : Array Value} {v : Value} (hl : w.cell? a = some (.chan (some c)))
    (hc : w.heap[c]? = some (.chan cap buf false s r false)) (hfull : cap ≤ buf.size) :
    Calls Tryz.prog 235 #[.pointer (some a), v] w fun e w' => e = .returned (.bool false) ∧ w' = w := by
  refine calls_of_loneTo fun cs => ?_
  have e : Frame.enter Tryz.prog 235 #[.pointer (some a), v] .normal = (base 235).at ⟨#[.pointer (some a), v, undef, undef, undef, undef, undef, undef, undef, undef, undef, undef, undef], []⟩ [.code (Tryz.f235.body.getD .skip)] := by
    simp [Frame.enter, Frame.at, Tryz.func235, base, Tryz.f235]
  rw [e]
  refine LoneTo.goes (n := 15) ?_
  simp only [Tryz.f235, Option.getD_some]
  s_c stepG_seq
  s_reg
  s_op
  s_c stepG_region_end
  s_c stepG_seq
  s_c stepG_seq
  s_reg
  s_op
  s_op
  s_op
  s_op
  s_c stepG_region_end
  s_reg
  s_op
  s_c stepG_region_end
  s_stop
  refine LoneTo.goes (n := 2) ?_
  s_c stepG_seq
  s_reg
  s_stop
  refine LoneTo.step (step_lone_select_send_full (c := c) (v := v) (z' := .int .i64 0) (stepG_comm (cases := #[scase c v (.int .i64 0)]) (blocking := false) (shape := .select) (w' := w) rfl rfl (by decide) (by simp [go_sem, execOp, scase, Act.eval])) hc hfull) ?_
  rw [Frame.finish_at]
  walk_nrm
  refine LoneTo.goes (n := 11) ?_
  s_op
  s_op
  s_c stepG_region_end
  s_c stepG_block
  s_cond false
  s_c stepG_seq
  s_reg
  s_op
  s_c stepG_region_end
  s_c stepG_ret'
  s_stop
  refine LoneTo.done ⟨.returned (.bool false), _, rfl, ⟨rfl, rfl⟩, rfl, rfl, rfl, rfl, _, Tryz.func235, by simp [results, Tryz.f235, Frame.at]⟩

set_option maxRecDepth 100000 in
theorem pop_some {w : World} {a : Addr} {c cap s r : Nat} {buf : Array Value} {v : Value} (hl : w.cell? a = some (.chan (some c)))
    (hc : w.heap[c]? = some (.chan cap buf false s r false)) (hsome : 0 < buf.size) (hv : buf.getD 0 undef = v) :
    Calls Tryz.prog 233 #[.pointer (some a)] w fun e w' => e = .returned (.tuple #[v, .bool true]) ∧ w' = w.setChan c cap (buf.extract 1 buf.size) false s (r + 1) false := by
  refine calls_of_loneTo fun cs => ?_
  have e : Frame.enter Tryz.prog 233 #[.pointer (some a)] .normal = (base 233).at ⟨#[.pointer (some a), undef, undef, undef, undef, undef, undef, undef, undef, undef, undef, undef, undef, undef], []⟩ [.code (Tryz.f233.body.getD .skip)] := by
    simp [Frame.enter, Frame.at, Tryz.func233, base, Tryz.f233]
  rw [e]
  refine LoneTo.goes (n := 12) ?_
  simp only [Tryz.f233, Option.getD_some]
  s_c stepG_seq
  s_reg
  s_op
  s_op
  s_c stepG_region_end
  s_c stepG_seq
  s_reg
  s_op
  s_op
  s_op
  s_op
  s_c stepG_region_end
  s_stop
  refine LoneTo.goes (n := 2) ?_
  s_c stepG_seq
  s_reg
  s_stop
  refine LoneTo.step (step_lone_select_recv_buf (c := c) (z := .int .i64 0) (stepG_comm (cases := #[rcase c (.int .i64 0)]) (blocking := false) (shape := .select) (w' := w) rfl rfl (by decide) (by simp [go_sem, execOp, rcase, Act.eval])) hc hsome) ?_
  rw [Frame.finish_at, hv]
  walk_nrm
  refine LoneTo.goes (n := 16) ?_
  s_op
  s_op
  s_c stepG_region_end
  s_c stepG_block
  s_cond true
  s_c stepG_seq
  s_reg
  s_op
  s_op
  s_c stepG_region_end
  s_c stepG_seq
  s_reg
  s_op
  s_op
  s_op
  s_c stepG_region_end
  s_stop
  refine LoneTo.goes (n := 1) ?_
  s_c stepG_ret'
  s_stop
  refine LoneTo.done ⟨.returned (.tuple #[v, .bool true]), _, rfl, ⟨rfl, rfl⟩, rfl, rfl, rfl, rfl, _, Tryz.func233, by simp [results, Tryz.f233, Frame.at]⟩

set_option maxRecDepth 100000 in
theorem pop_none {w : World} {a : Addr} {c cap s r : Nat} (hl : w.cell? a = some (.chan (some c)))
    (hc : w.heap[c]? = some (.chan cap #[] false s r false)) :
    Calls Tryz.prog 233 #[.pointer (some a)] w fun e w' => e = .returned (.tuple #[.int .i64 0, .bool false]) ∧ w' = w := by
  refine calls_of_loneTo fun cs => ?_
  have e : Frame.enter Tryz.prog 233 #[.pointer (some a)] .normal = (base 233).at ⟨#[.pointer (some a), undef, undef, undef, undef, undef, undef, undef, undef, undef, undef, undef, undef, undef], []⟩ [.code (Tryz.f233.body.getD .skip)] := by
    simp [Frame.enter, Frame.at, Tryz.func233, base, Tryz.f233]
  rw [e]
  refine LoneTo.goes (n := 12) ?_
  simp only [Tryz.f233, Option.getD_some]
  s_c stepG_seq
  s_reg
  s_op
  s_op
  s_c stepG_region_end
  s_c stepG_seq
  s_reg
  s_op
  s_op
  s_op
  s_op
  s_c stepG_region_end
  s_stop
  refine LoneTo.goes (n := 2) ?_
  s_c stepG_seq
  s_reg
  s_stop
  refine LoneTo.step (step_lone_select_default (c := c) (z := .int .i64 0) (stepG_comm (cases := #[rcase c (.int .i64 0)]) (blocking := false) (shape := .select) (w' := w) rfl rfl (by decide) (by simp [go_sem, execOp, rcase, Act.eval])) hc) ?_
  rw [Frame.finish_at]
  walk_nrm
  refine LoneTo.goes (n := 12) ?_
  s_op
  s_op
  s_c stepG_region_end
  s_c stepG_block
  s_cond false
  s_c stepG_seq
  s_reg
  s_op
  s_op
  s_c stepG_region_end
  s_c stepG_ret'
  s_stop
  refine LoneTo.done ⟨.returned (.tuple #[.int .i64 0, .bool false]), _, rfl, ⟨rfl, rfl⟩, rfl, rfl, rfl, rfl, _, Tryz.func233, by simp [results, Tryz.f233, Frame.at]⟩

theorem cell_of {G : Gam} {m : Mp} {h : Heap} {w : World} (s : Sim G m h w) {b o : Nat} {L : Cl.Loc} (e : m b = some L) {v : CV} (hv : loadAt h b o none = some v) :
    ∃ rv, w.cell? (L.ad o) = some rv ∧ tr G m v = some rv := by
  simp only [loadAt] at hv
  cases ho : h[b]? with
  | none => simp [ho] at hv
  | some x =>
    cases x <;> simp [ho] at hv
    rename_i cs st
    rcases s.obj b L _ e ho with ⟨rfl, _⟩ | ⟨C, t', fr, hsp, h1, h2, _⟩
    · simp at hv
    · obtain ⟨rv, k1, k2⟩ := h2 o v hv
      exact ⟨rv, by rw [Loc.ad_none hsp]; simpa [World.cell?, h1] using k2, k1⟩

theorem setChan_sim {G : Gam} {m : Mp} {h : Heap} {w : World} (s : Sim G m h w) {b cap : Nat} {buf buf' : List CV} {L : Cl.Loc} (e : m b = some L) (hb : h[b]? = some (.chan cap buf)) {B : Array Value} (hB : trL G m buf' = some B.toList) (sn rc : Nat) (hlt : L.blk < w.heap.size) :
    Sim G m (h.set b (.chan cap buf')) (w.setChan L.blk cap B false sn rc false) ∧ Evo m h w m (h.set b (.chan cap buf')) (w.setChan L.blk cap B false sn rc false) := by
  have hO : owned h b := ⟨_, hb, rfl⟩
  have ho : ∀ r, r ≠ L.blk → (w.setChan L.blk cap B false sn rc false).heap[r]? = w.heap[r]? := fun r hr => by
    simp only [World.setChan]
    rw [Array.getElem?_setIfInBounds_ne (Ne.symm hr)]
  refine ⟨s.turn e hb rfl (fun b' L' hne e' l' => ho _ (s.apart b b' L L' (Ne.symm hne) e e' hO l').symm) ⟨B, sn, rc, heap_setChan _ _ _ _ _ _ _ _ hlt, hB⟩, Evo.turn e hO rfl rfl (size_setChan ..) ho⟩

theorem push_sim {vs : List CV} {h : Heap} {r : CV} {h' : Heap} (hp : pushP vs h = some (r, h')) : CallSim Tryz.prog gam 235 vs h r h' := by
  intro m w rvs s ht
  unfold pushP at hp
  split at hp
  · rename_i R o v
    cases hl : loadAt h R o none with
    | none => simp [hl] at hp
    | some c =>
      cases c <;> simp [hl] at hp
      rename_i b
      cases hb : h[b]? with
      | none => simp [hb] at hp
      | some ob =>
        cases ob <;> simp [hb] at hp
        rename_i cap buf
        obtain ⟨x, xs, hx, ht2, rfl⟩ := trL_cons ht
        obtain ⟨y, ys, hy, ht3, rfl⟩ := trL_cons ht2
        obtain rfl := trL_nil ht3
        obtain ⟨L, g1, rfl⟩ := tr_ptr hx
        obtain ⟨cv, k1, k2⟩ := cell_of s g1 hl
        obtain ⟨Lb, g2, rfl⟩ := tr_ch k2
        obtain ⟨BUF, sn, rc, q1, q2⟩ := s.obj b Lb _ g2 hb
        have hsz : BUF.size = buf.length := by simpa using trL_length q2
        have hlt : Lb.blk < w.heap.size := s.blk_lt g2 ⟨_, hb, rfl⟩
        split at hp
        · simp at hp
          obtain ⟨rfl, rfl⟩ := hp
          refine (push_room k1 q1 (by omega)).mono ?_
          rintro e w' ⟨rfl, rfl⟩
          have hB : trL gam m (buf ++ [v]) = some (BUF.push y).toList := by
            rw [Array.toList_push]
            exact trL_append q2 (by simp [trL, hy])
          obtain ⟨s1, s2⟩ := setChan_sim s g2 hb hB (sn + 1) rc hlt
          exact ⟨m, _, rfl, rfl, s1, s2⟩
        · simp at hp
          obtain ⟨rfl, rfl⟩ := hp
          refine (push_full k1 q1 (by omega)).mono ?_
          rintro e w' ⟨rfl, rfl⟩
          exact ⟨m, _, rfl, rfl, s, Evo.refl ..⟩
  · cases hp

theorem pop_sim {vs : List CV} {h : Heap} {r : CV} {h' : Heap} (hp : popP vs h = some (r, h')) : CallSim Tryz.prog gam 233 vs h r h' := by
  intro m w rvs s ht
  unfold popP at hp
  split at hp
  · rename_i R o
    cases hl : loadAt h R o none with
    | none => simp [hl] at hp
    | some c =>
      cases c <;> simp [hl] at hp
      rename_i b
      cases hb : h[b]? with
      | none => simp [hb] at hp
      | some ob =>
        cases ob <;> simp [hb] at hp
        rename_i cap buf
        obtain ⟨x, xs, hx, ht2, rfl⟩ := trL_cons ht
        obtain rfl := trL_nil ht2
        obtain ⟨L, g1, rfl⟩ := tr_ptr hx
        obtain ⟨cv, k1, k2⟩ := cell_of s g1 hl
        obtain ⟨Lb, g2, rfl⟩ := tr_ch k2
        obtain ⟨BUF, sn, rc, q1, q2⟩ := s.obj b Lb _ g2 hb
        have hsz : BUF.size = buf.length := by simpa using trL_length q2
        have hlt : Lb.blk < w.heap.size := s.blk_lt g2 ⟨_, hb, rfl⟩
        cases buf with
        | nil =>
          simp at hp
          obtain ⟨rfl, rfl⟩ := hp
          have : BUF = #[] := by simpa using hsz
          subst this
          refine (pop_none k1 q1).mono ?_
          rintro e w' ⟨rfl, rfl⟩
          exact ⟨m, _, rfl, rfl, s, Evo.refl ..⟩
        | cons v rest =>
          simp at hp
          obtain ⟨rfl, rfl⟩ := hp
          obtain ⟨y, ys, hy, hys, hl2⟩ := trL_cons q2
          have hv : BUF.getD 0 undef = y := by
            rw [Array.getD_eq_getD_getElem?, ← Array.getElem?_toList, hl2]; rfl
          refine (pop_some k1 q1 (by simp at hsz; omega) hv).mono ?_
          rintro e w' ⟨rfl, rfl⟩
          have hB : trL gam m rest = some (BUF.extract 1 BUF.size).toList := by
            have hz : BUF.size = ys.length + 1 := by
              have := congrArg List.length hl2
              simpa using this
            rw [Array.toList_extract, hl2, hz]
            simp [hys]
          obtain ⟨s1, s2⟩ := setChan_sim s g2 hb hB sn (rc + 1) hlt
          exact ⟨m, .tuple #[y, .bool true], rfl, by simp [tr, trL, hy], s1, s2⟩
  · cases hp

theorem ring_ok {pr : Prims} (hp : PrimOK Tryz.prog gam pr) : PrimOK Tryz.prog gam (addRing pr) := by
  intro f g hf vs h r h' hg
  unfold addRing at hf
  cases h1 : Nat.beq f 395 with
  | true =>
    rw [h1] at hf
    cases hf
    have := Nat.eq_of_beq_eq_true h1
    subst this
    refine ⟨?_, fun fid hfid => ?_⟩
    · unfold pushP at hg
      repeat' (first | (simp at hg; done) | (simp at hg; obtain ⟨_, rfl⟩ := hg; simp; done) | (split at hg))
    · have : fid = 235 := Option.some.inj (hfid.symm.trans (by kernel_rfl : gam.F 395 = some 235))
      subst this
      exact push_sim hg
  | false =>
    rw [h1] at hf
    cases h2 : Nat.beq f 393 with
    | true =>
      rw [h2] at hf
      cases hf
      have := Nat.eq_of_beq_eq_true h2
      subst this
      refine ⟨?_, fun fid hfid => ?_⟩
      · unfold popP at hg
        repeat' (first | (simp at hg; done) | (simp at hg; obtain ⟨_, rfl⟩ := hg; simp; done) | (split at hg))
      · have : fid = 233 := Option.some.inj (hfid.symm.trans (by kernel_rfl : gam.F 393 = some 233))
        subst this
        exact pop_sim hg
    | false => rw [h2] at hf; exact hp f g hf vs h r h' hg

end Go.Proofs.YtnfajbkbmlmdoaaGreatDoor
