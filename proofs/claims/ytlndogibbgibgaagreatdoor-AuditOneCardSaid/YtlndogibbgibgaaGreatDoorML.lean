/-
  Texts laid together: ClAbort ClAbortW ClMapR.
-/
import Derived.Test.YtlndogibbgibgaaGreatDoorM3
import Derived.RangeFuncLeaves
import Derived.RangeFuncRecord
import Derived.RangeFuncSeq
import Derived.OrdersIn
import Derived.Maps.RangeRun
namespace Go.Cl
open Go Go.RowKit
set_option linter.unusedSimpArgs false
set_option linter.unusedVariables false
def noDefer (ops : Array Oper) : Bool := ops.toList.all fun o => match o.op with | .defer _ => false | _ => true
section
variable {P : Program} {l n : Nat}
theorem upon_in {o : Oper} {a : Act} {K : Act → World → Prop} {Q : Exit → Act → World → Prop} {r : Result Next} (h : o.upon P a K Q r) : o.uponIn (Fence.wide.inRound l) n P a K Q r := by
 cases r with
 | ok x w =>
   cases x with
   | value v => exact h
   | skip => exact h
   | defer d => exact h
   | enter f args =>
     refine ⟨fun x => by simp [Fence.wide, Fence.inRound] at x, ?_⟩
     have hc : CallsIn Fence.wide (n - 1) P f args w _ := callsIn_wide.2 h
     refine CallsIn.mono (F := Fence.wide) hc ?_
     intro e w' he
     cases e <;> exact he
   | row row args =>
     refine ⟨fun x => by simp [Fence.wide, Fence.inRound] at x, fun c cs _ => ?_⟩
     obtain ⟨v, w', r, s⟩ := h c cs
     exact ⟨v, w', r, stepsIn_wide.2 s⟩
   | _ => exact h.elim
 | halt x w => cases x <;> exact h
theorem oper_in {o : Oper} {a : Act} {w : World} {K : Act → World → Prop} {Q : Exit → Act → World → Prop} (hnd : ∀ c, o.op ≠ .defer c) (h : o.wp P a w K Q) : o.wpIn (Fence.wide.inRound l) n P a w K Q :=
 ⟨fun _ _ => trivial, by rw [Oper.semAt_eq _ _ _ hnd]; exact upon_in h⟩
theorem noDefer_at {ops : Array Oper} (h : noDefer ops = true) {i : Nat} {o : Oper} (ho : ops[i]? = some o) : ∀ c, o.op ≠ .defer c := by
 intro c hc
 have hm : o ∈ ops.toList := List.mem_of_getElem? (by rw [Array.getElem?_toList]; exact ho)
 have := List.all_eq_true.1 h o hm
 rw [hc] at this
 cases this
theorem op_in {ops : Array Oper} {Q : Exit → Act → World → Prop} {i : Nat} {K K' : Act → World → Prop} {a : Act} {w : World} (hd : noDefer ops = true) (hQ : ¬ LetsOut Q) (hK : ∀ a w, K a w → K' a w) (h : wpOp P ops Q i K a w) :
  wpOpIn (Fence.wide.inRound l) n P ops Q i K' a w := by
 refine wpOpIn_mono hK ?_
 unfold wpOp at h
 unfold wpOpIn
 split
 ·rename_i ho; rw [ho] at h; exact h
 ·rename_i o ho
  rw [ho] at h
  simp only at h
  split
  ·rename_i hw
   rw [if_pos hw] at h
   exact oper_in (noDefer_at hd ho) (h.resolve_right fun x => hQ x.2)
  ·rename_i hw
   rw [if_neg hw] at h
   exact ⟨fun _ _ => trivial, h⟩
theorem any_in {md : Region.Mode} {ops : Array Oper} {Q : Exit → Act → World → Prop} (hd : noDefer ops = true) (hQ : ¬ LetsOut Q) : ∀ (fuel : Nat) (listed : Array Bool) (a : Act) (w : World), wpAny P md ops Q fuel listed a w →
  wpAnyIn (Fence.wide.inRound l) n P md ops Q fuel listed a w
 | 0, listed, a, w, h => h
 | fuel + 1, listed, a, w, h => ⟨h.1, fun i hi => op_in hd hQ (fun a w => any_in hd hQ fuel _ a w) (h.2 i hi)⟩
theorem ops_in {ops : Array Oper} {Q : Exit → Act → World → Prop} (hd : noDefer ops = true) (hQ : ¬ LetsOut Q) : ∀ (is : List Nat) (a : Act) (w : World), wpOps P ops Q is a w → wpOpsIn (Fence.wide.inRound l) n P ops Q is a w
 | [], a, w, h => h
 | i :: is, a, w, h => by
   rw [wpOps_cons] at h
   rw [wpOpsIn_cons]
   exact op_in hd hQ (fun a w => ops_in hd hQ is a w) h
end
section
variable {P : Program} {G : Gam} {N : Nat} {call : CallF} {ops : Array Oper} {l : List SOper} {D : List (Nat × List Nat)}
theorem draw_any (hmix : P.follows .mixedOrders = true) (hG : Good P G) (hC : CallOK P G call) (hL : CallLen call) (hM : drawM P G N ops l D = true) {e e' : Env} {h h' : Heap} {m : Mp} {a : Act} {w : World} {Q : Exit → Act → World → Prop}
  (hev : evOps call l l e h = some (e', h')) (he : ER G m N e a) (s : Sim G m h w)
  (hQ : ∀ m' a' w', ER G m' N e' a' → a'.defers = a.defers → Sim G m' h' w' → Evo m h w m' h' w' → Q .normal a' w') : wpAny P .any ops Q ops.size (Array.replicate ops.size false) a { w with drawn := w.drawn + 1 } := by
 obtain ⟨E, H, V, T⟩ := traj hev
 have hD := drawM_spec hM
 have hlen := hD.len
 have s' : Sim G m h { w with drawn := w.drawn + 1 } := s.world fun b L _ _ => rfl
 have ev' : Evo m h w m h { w with drawn := w.drawn + 1 } := ⟨Mp.le_refl m, Nat.le_refl _, fun b _ e => ⟨e, rfl⟩, rfl, rfl, Nat.le_refl _, fun _ _ _ => rfl, fun b L e o => .inr ⟨b, L, e, o, rfl⟩⟩
 obtain ⟨q, a1, a2, a3, a4⟩ := nextHeavy l ops.size 0 (Nat.zero_le _)
 obtain ⟨g, hg⟩ := T.grow (r := 0) (s := q) (Nat.zero_le _) (by omega) a3
 rw [T.h0] at hg
 have hoff : ∀ p, ¬ isOn D (Array.replicate ops.size false) p := by
  intro p hp
  unfold isOn at hp
  simp only [Array.getD_eq_getD_getElem?, Array.getElem?_replicate] at hp
  split at hp <;> simp at hp
 refine any_wp T hG hC hL hD (m0 := m) (a0 := a) (w0 := w) hQ ops.size _ q m a _ ⟨by simp, a2, fun p _ hp => absurd hp (hoff p), fun p h1 h2 => ?_, a4, fun p _ hp => absurd hp (hoff p), he.size, rfl, fun d v hs => ?_, by rw [hg]; exact s'.more g, by rw [hg]; exact ev'.more s' g, fun p hp _ ob hob => ?_⟩ ?_
 ·have := a3 p (Nat.zero_le _) h1; rw [h2] at this; cases this
 ·rcases hs with ⟨p, _, _, hp, _⟩ | ⟨_, hv⟩
  ·exact absurd hp (hoff p)
  ·exact he.get d v hv
 ·have hl := T.len hL (r := 0) (s := p) (Nat.zero_le _) (by omega)
  rw [T.h0] at hl
  refine ⟨?_, ?_⟩
  ·cases hk : m (H p).length with
   | none => rfl
   | some L => exact absurd (s.dom _ _ hk) (by omega)
  ·obtain ⟨g2, hg2⟩ := T.grow (r := p + 1) (s := q) (by omega) (by omega) fun x h1 h2 => a3 x (Nat.zero_le _) h2
   rw [hg2, hob, List.append_assoc, List.getElem?_append_right (Nat.le_refl _)]
   simp
 ·unfold unl
  exact Nat.le_trans (List.length_filter_le _ _) (by simp)
end
def Walk (w : World) (k : Nat) : Prop := ∃ o : Go.Obj, w.heap[k]? = some o ∧ (∀ C e fr, o ≠ .cells C e fr) ∧ (∀ E c, o ≠ .map E c) ∧ (∀ a b c d e f, o ≠ .chan a b c d e f)
section
variable {G : Gam} {m m' : Mp} {h h' : Heap} {w w' : World}
theorem ObjR.not_walk {L : Loc} {o : Obj} (r : ObjR G m L w o) (hl : liveO o = true) {k : Nat} (hk : Walk w k) : L.blk ≠ k := by
 obtain ⟨ob, h1, h2, h3, h4⟩ := hk
 intro e
 have key : ∀ x, w.heap[L.blk]? = some x → x = ob := fun x hx => by rw [e, h1] at hx; exact (Option.some.inj hx).symm
 cases o with
 | arr cs st =>
   rcases r with ⟨rfl, rfl⟩ | ⟨C, e1, fr, _, q, _⟩
   ·simp [liveO] at hl
   ·exact h2 _ _ _ (key _ q).symm
 | map es clock => obtain ⟨ES, q, _⟩ := r; exact h3 _ _ (key _ q).symm
 | chan cap buf => obtain ⟨B, s, r, q, _⟩ := r; exact h4 _ _ _ _ _ _ (key _ q).symm
 | dead => simp [liveO] at hl
 | pin g q => obtain ⟨_, C, e1, fr, q, _⟩ := r; exact h2 _ _ _ (key _ q).symm
 | bld T q => obtain ⟨_, _, p, v, q, _⟩ := r; exact h2 _ _ _ (key _ q).symm
 | buf U bs => obtain ⟨_, _, cur, fz, q, _⟩ := r; exact h2 _ _ _ (key _ q).symm
theorem Sim.apart_walk (s : Sim G m h w) {k : Nat} (hk : Walk w k) {b : Nat} {L : Loc} (e : m b = some L) (l : live h b) : L.blk ≠ k := by
 obtain ⟨o, ho, hl⟩ := l
 exact (s.obj b L o e ho).not_walk hl hk
theorem Sim.putWalk (s : Sim G m h w) {k : Nat} (hk : Walk w k) (o : Go.Obj) : Sim G m h (w.putObj k o) :=
 s.world fun b L e l => World.putObj_heap_other (s.apart_walk hk e l)
theorem Sim.alloc (s : Sim G m h w) (o : Go.Obj) : Sim G m h (w.alloc o) :=
 s.world fun b L e l => by
  have := s.blk_lt e l
  show (w.heap.push o)[L.blk]? = _
  rw [Array.getElem?_push_lt this, Array.getElem?_eq_getElem this]
theorem Evo.putObj {w0 : World} {m0 : Mp} {h0 : Heap} (k : Evo m0 h0 w0 m h w) {r : Nat} (hr : w0.heap.size ≤ r) (o : Go.Obj) : Evo m0 h0 w0 m h (w.putObj r o) :=
 ⟨k.mono, k.len, k.un, k.os, k.out, by rw [World.putObj_size]; exact k.size, fun x hx hn => by rw [World.putObj_heap_other (by omega)]; exact k.frame x hx hn, k.own⟩
theorem Evo.alloc {w0 : World} {m0 : Mp} {h0 : Heap} (k : Evo m0 h0 w0 m h w) (o : Go.Obj) : Evo m0 h0 w0 m h (w.alloc o) :=
 ⟨k.mono, k.len, k.un, k.os, k.out, by have := k.size; simp; omega, fun x hx hn => by
  have h1 := k.size
  have h2 : x < w.heap.size := by omega
  rw [← k.frame x hx hn]
  show (w.heap.push o)[x]? = _
  rw [Array.getElem?_push_lt h2, Array.getElem?_eq_getElem h2], k.own⟩
theorem Evo.walk (s : Sim G m h w) (k : Evo m h w m' h' w') {r : Nat} (hr : Walk w r) : w'.heap[r]? = w.heap[r]? := by
 obtain ⟨o, ho, _⟩ := id hr
 have hlt : r < w.heap.size := (Array.getElem?_eq_some_iff.1 ho).1
 exact k.frame r hlt fun b L e ow => s.apart_walk hr e ow.live
theorem cellAt {G : Gam} {m : Mp} {h : Heap} {w : World} (s : Sim G m h w) {b o : Nat} {L : Cl.Loc} (e : m b = some L) {v : CV} (hv : loadAt h b o none = some v) :
  L.spot = none ∧ ∃ rv, w.cell? ⟨L.blk, L.off + o, none⟩ = some rv ∧ tr G m v = some rv := by
 simp only [loadAt] at hv
 cases ho : h[b]? with
 | none => simp [ho] at hv
 | some x =>
   cases x <;> simp [ho] at hv
   rename_i cs st
   rcases s.obj b L _ e ho with ⟨rfl, _⟩ | ⟨C, t', fr, hsp, h1, h2, _⟩
   ·simp at hv
   ·obtain ⟨rv, k1, k2⟩ := h2 o v hv
    exact ⟨hsp, rv, by simpa [World.cell?, h1] using k2, k1⟩
end
def BackAt (Bs Bo len : Nat) (xs : Nat → Value) (k : Nat) (W : World) : Prop :=
 ∃ (ad : Option Addr) (cap : Nat), W.cell? ⟨Bs, Bo, none⟩ = some (.slice ad len cap) ∧ (k < len → ∃ b off, ad = some ⟨b, off, none⟩ ∧ W.cell? ⟨b, off + (len - 1 - k), none⟩ = some (xs k))
def BackIn (P : Program) (bid : FuncId) : Prop :=
 ∀ (n : Nat) (hn : 1 ≤ n) (l Bs Bo len : Nat) (hreach : len ≤ 4294967296) (xs : Nat → Value) (J : Nat → World → Prop)
  (hJ : ∀ k W, J k W → (k < len ∨ k = 0) → BackAt Bs Bo len xs k W)
  (hY : ∀ k W, J k W → k < len → YieldAt Fence.wide (n - 1) P l #[.int .i64 ((len - 1 - k : Nat) : Int), xs k] W fun e W' => e = .returned (.bool true) ∧ J (k + 1) W')
  (W : World) (h0 : J 0 W),
  CallsIn Fence.wide n P bid #[.func (.yield l) #[] #[], .pointer (some ⟨Bs, Bo, none⟩)] W fun e W' => (∃ v, e = .returned v) ∧ J len W'
def asgC : SOper := ⟨some 10, .move (.t 28), none, []⟩
def abortB (P : Program) (G : Gam) (fn : Func) (sf : SFunc) : Bool :=
 match fn.body, sf.body with
 | some (.seq r0 (.seq r1 (.seq r2 (.seq (.seq r3 (.block b0 (.rangeFunc (.tmp 26) ps (.region _ asg false) (.block b1 (.region _ ops true))))) r6)))), .seq c0 (.seq c1 (.seq c2 (.seq (.seq c3 (.block _ (.block _ (.ops l (some D) _)))) c6))) =>
   codeM P G fn.ntmps r0 c0 && codeM P G fn.ntmps r1 c1 && codeM P G fn.ntmps r2 c2 && codeM P G fn.ntmps r3 c3 && codeM P G fn.ntmps r6 c6 && drawM P G fn.ntmps ops l D && noDefer ops && noDefer asg && opsM P G fn.ntmps asg asg.toList [asgC] && ps.toList == [27, 28] && decide (28 < fn.ntmps) && rvM P fn.results.toList sf.results && b0 != b1
 | _, _ => false
def evBack (call : CallF) (n : Nat) (l : List SOper) (e : Env) (bx b o len c : Nat) : Nat → Heap → Option Heap
 | 0, h => some h
 | k + 1, h => match loadAt h bx 0 none, loadAt h b (o + k) none with
   | some v', some (.int .i64 z) => match CV.eqb (.sl b o len c) v' with
     | true => match evOps call l l (Env.put (Env.put (Env.put e (some 27) (.int .i64 (k : Int))) (some 28) (.int .i64 z)) (some 10) (.int .i64 z)) h with
       | some (_, h') => evBack call n l e bx b o len c k h'
       | none => none
     | false => none
   | _, _ => none
def evRounds (call : CallF) (n : Nat) (l : List SOper) (e : Env) (bx : Nat) (h : Heap) : Option Heap :=
 match loadAt h bx 0 none with
 | some .nils => some h
 | some (.sl b o len c) => if len ≤ big then evBack call n l e bx b o len c len h else none
 | _ => none
def abortE (call : CallF) (n bk : Nat) (sf : SFunc) (vs : List CV) (h : Heap) : Option (CV × Heap) :=
 match sf.body with
 | .seq c0 (.seq c1 (.seq c2 (.seq (.seq c3 (.block _ (.block _ (.ops l _ _)))) c6))) =>
   match evC call n (.seq c0 (.seq c1 (.seq c2 c3))) (args 0 vs) h with
   | some (.normal, e, h1) => match e.get 26 with
     | some (.fn f [.ptr bx 0]) => match Nat.beq f bk with
       | true => match evRounds call n l e bx h1 with
         | some h2 => match evC call n c6 e h2 with
           | some (.exit _, _, _) => none
           | some (_, e3, h3) => match rvs e3 h3 sf.results with
             | some rs => some (result rs, h3)
             | none => none
           | none => none
         | none => none
       | false => none
     | _ => none
   | _ => none
 | _ => none
def AbortR (call : CallF) (n bk : Nat) (sf : SFunc) (vs : List CV) (h : Heap) (q : CV × Heap) : Prop :=
 ∃ c0 c1 c2 c3 i j l D kp c6 e h1 bx h2 x e3 h3 rs, sf.body = .seq c0 (.seq c1 (.seq c2 (.seq (.seq c3 (.block i (.block j (.ops l D kp)))) c6))) ∧
  evC call n (.seq c0 (.seq c1 (.seq c2 c3))) (args 0 vs) h = some (.normal, e, h1) ∧ e.get 26 = some (.fn bk [.ptr bx 0]) ∧ evRounds call n l e bx h1 = some h2 ∧
  evC call n c6 e h2 = some (x, e3, h3) ∧ (∀ id, x ≠ .exit id) ∧ rvs e3 h3 sf.results = some rs ∧ q = (result rs, h3)
theorem abortE_iff {call : CallF} {n bk : Nat} {sf : SFunc} {vs : List CV} {h : Heap} {q : CV × Heap} : abortE call n bk sf vs h = some q ↔ AbortR call n bk sf vs h q := by
 constructor
 ·intro hev
  unfold abortE at hev
  split at hev
  case h_2 => cases hev
  rename_i c0 c1 c2 c3 i j l D kp c6 hsf
  split at hev
  case h_2 => cases hev
  rename_i e3 h3 hA
  split at hev
  case h_2 => cases hev
  rename_i f bx hf26
  split at hev
  case h_2 => cases hev
  rename_i hfb
  have hfb := Nat.eq_of_beq_eq_true hfb
  subst hfb
  split at hev
  case h_2 => cases hev
  rename_i h4 hR
  split at hev
  case h_1 => cases hev
  case h_3 => cases hev
  rename_i x e5 h5 hx hE6
  split at hev
  case h_2 => cases hev
  rename_i rs hrs
  exact ⟨_, _, _, _, _, _, _, _, _, _, _, _, _, _, _, _, _, rs, hsf, hA, hf26, hR, hE6, fun id e => hx id e, hrs, (Option.some.inj hev).symm⟩
 ·rintro ⟨c0, c1, c2, c3, i, j, l, D, kp, c6, e, h1, bx, h2, x, e3, h3, rs, a1, a2, a3, a4, a5, a6, a7, rfl⟩
  unfold abortE
  have hb : Nat.beq bk bk = true := Nat.beq_refl bk
  simp only [a1, a2, a3, hb, a4, a5]
  cases x with
  | exit id => exact absurd rfl (a6 id)
  | normal => simp only [a7]
  | ret => simp only [a7]
theorem seq_normal {call : CallF} {n : Nat} {a b : SCode} {e e' : Env} {h h' : Heap} (hev : evC call n (.seq a b) e h = some (.normal, e', h')) :
  ∃ n1 e1 h1, evC call n1 a e h = some (.normal, e1, h1) ∧ evC call n1 b e1 h1 = some (.normal, e', h') := by
 cases n with
 | zero => simp [evC] at hev
 | succ n =>
   simp only [evC] at hev
   cases h1 : evC call n a e h with
   | none => simp [h1] at hev
   | some p =>
     obtain ⟨x1, e1, h1'⟩ := p
     cases x1 with
     | normal => simp [h1] at hev; exact ⟨n, e1, h1', h1, hev⟩
     | exit id => simp [h1] at hev
     | ret => simp [h1] at hev
theorem evBack_seq {call : CallF} {n : Nat} {l : List SOper} {e : Env} {bx b o len c : Nat} : ∀ (k : Nat) (h h2 : Heap), evBack call n l e bx b o len c k h = some h2 →
  ∃ (Hs : Nat → Heap) (xs : Nat → Int), Hs 0 = h ∧ Hs k = h2 ∧ ∀ r, r < k → loadAt (Hs r) bx 0 none = some (.sl b o len c) ∧ loadAt (Hs r) b (o + (k - 1 - r)) none = some (.int .i64 (xs r)) ∧
   ∃ e', evOps call l l (Env.put (Env.put (Env.put e (some 27) (.int .i64 ((k - 1 - r : Nat) : Int))) (some 28) (.int .i64 (xs r))) (some 10) (.int .i64 (xs r))) (Hs r) = some (e', Hs (r + 1))
 | 0, h, h2, hev => by
   simp [evBack] at hev
   exact ⟨fun _ => h, fun _ => 0, rfl, hev, fun r hr => by omega⟩
 | k + 1, h, h2, hev => by
   simp only [evBack] at hev
   split at hev
   ·rename_i v' z hv' hz
    split at hev
    ·rename_i hq
     split at hev
     ·rename_i e' h' hb
      obtain ⟨Hs, xs, q0, q1, q2⟩ := evBack_seq k h' h2 hev
      have hvv := CV.eqb_eq _ _ hq
      subst hvv
      refine ⟨fun | 0 => h | r + 1 => Hs r, fun | 0 => z | r + 1 => xs r, rfl, q1, fun r hr => ?_⟩
      cases r with
      | zero => exact ⟨hv', hz, e', by
        show _ = some (e', Hs 0)
        rw [q0]; exact hb⟩
      | succ r =>
        obtain ⟨a1, a2, a3⟩ := q2 r (by omega)
        have hk : k + 1 - 1 - (r + 1) = k - 1 - r := by omega
        rw [hk]
        exact ⟨a1, a2, a3⟩
     ·cases hev
    ·cases hev
   ·cases hev
section
variable {P : Program} {G : Gam} {N : Nat} {call : CallF}
theorem piece (hmix : P.follows .mixedOrders = true) (hG : Good P G) (hC : CallOK P G call) (hL : CallLen call) {c : Code} {sc : SCode} (hM : codeM P G N c sc = true) {n k : Nat} {m : Mp} {e e' : Env} {h h' : Heap} {a : Act} {w : World} {x : Ex} {Q : Exit → Act → World → Prop}
  (hev : evC call n sc e h = some (x, e', h')) (he : ER G m N e a) (s : Sim G m h w)
  (hQ : ∀ m' a' w', ER G m' N e' a' → a'.defers = a.defers → Sim G m' h' w' → Evo m h w m' h' w' → Q x.go a' w') : c.wpIn Fence.wide k P Q a w :=
 wpIn_wide.2 (code_wp hmix hG hC hL n c sc hM m e h a w x e' h' Q hev he s hQ)
theorem abort_sound (hmix : P.follows .mixedOrders = true) (hG : Good P G) (hC : CallOK P G call) (hL : CallLen call) {fid bid : FuncId} {bk : Nat} (hbk : G.F bk = some bid) (hBack : BackIn P bid)
  {fn : Func} (h1 : P.funcs[fid]? = some fn) {sf : SFunc} (hB : abortB P G fn sf = true) {n : Nat} {vs : List CV} {h : Heap} {r : CV} {h' : Heap} (hev : abortE call n bk sf vs h = some (r, h')) :
  CallSim P G fid vs h r h' := by
 unfold abortB at hB
 split at hB
 case h_2 => cases hB
 rename_i r0 r1 r2 r3 b0 ps id1 asg b1 id2 ops r6 c0 c1 c2 c3 bb0 bb1 l D keep c6 hb hsf
 simp only [Bool.and_eq_true, decide_eq_true_eq] at hB
 obtain ⟨⟨⟨⟨⟨⟨⟨⟨⟨⟨⟨⟨k0, k1⟩, k2⟩, k3⟩, k6⟩, kd⟩, kn⟩, kn2⟩, ka⟩, kps⟩, k28⟩, kr⟩, kb⟩ := hB
 obtain ⟨c0', c1', c2', c3', i', j', l', D', kp', c6', e3, h3, bx, h4, x, e5, h5, rs, hsf', hA, hf26, hR, hE6, hx6, hrs, hq⟩ := abortE_iff.1 hev
 rw [hsf] at hsf'
 injection hsf' with y0 hsf'
 injection hsf' with y1 hsf'
 injection hsf' with y2 hsf'
 injection hsf' with hsf' y6
 injection hsf' with y3 hsf'
 injection hsf' with _ hsf'
 injection hsf' with _ hsf'
 injection hsf' with yl _ _
 subst y0 y1 y2 y3 y6 yl
 simp only [Prod.mk.injEq] at hq
 obtain ⟨rfl, rfl⟩ := hq
 obtain ⟨n0, e0, h0, E0, hA⟩ := seq_normal hA
 obtain ⟨n1, e1, hh1, E1, hA⟩ := seq_normal hA
 obtain ⟨n2, e2, hh2, E2, E3⟩ := seq_normal hA
 intro m w rvs s hv
 refine (callsIn_wide (n := 5)).1 (callsIn_of_wp_marks h1 hb trivial ?_ rfl)
 have hER : ER G m fn.ntmps (args 0 vs) { tmps := rvs.toArray ++ Array.replicate (fn.ntmps - rvs.toArray.size) undef, defers := [] } := by
  refine ⟨by simp; omega, fun i v hi => ?_⟩
  obtain ⟨_, hi⟩ := args_get vs 0 i v hi
  obtain ⟨rv, k1, k2⟩ := trL_get hv _ v hi
  refine ⟨rv, k1, ?_⟩
  have hlt : i < rvs.length := by have := (List.getElem?_eq_some_iff.1 k2).1; simpa using this
  rw [Array.getElem?_append_left (by simpa using hlt)]
  simpa using k2
 refine wpIn_seq (piece hmix hG hC hL k0 E0 hER s fun m0 a0 w0 R0 D0 S0 V0 => ?_)
 show Code.wpIn _ _ _ _ _ a0 w0
 refine wpIn_seq (piece hmix hG hC hL k1 E1 R0 S0 fun m1 a1 w1 R1 D1 S1 V1 => ?_)
 show Code.wpIn _ _ _ _ _ a1 w1
 refine wpIn_seq (piece hmix hG hC hL k2 E2 R1 S1 fun m2 a2 w2 R2 D2 S2 V2 => ?_)
 show Code.wpIn _ _ _ _ _ a2 w2
 refine wpIn_seq (wpIn_seq (piece hmix hG hC hL k3 E3 R2 S2 fun m3 a3 w3 R3 D3 S3 V3 => ?_))
 show Code.wpIn _ _ _ _ _ a3 w3
 refine wpIn_block ?_
 have hV := ((V0.trans V1).trans V2).trans V3
 have hdf : a3.defers = [] := by rw [D3, D2, D1, D0]
 obtain ⟨rv26, t26, g26⟩ := R3.get 26 _ hf26
 obtain ⟨fid', vs', F1, T1, rfl⟩ := tr_fn t26
 obtain rfl : bid = fid' := Option.some.inj (hbk.symm.trans F1)
 obtain ⟨pv, vs2, T2, T3, rfl⟩ := trL_cons T1
 obtain rfl := trL_nil T3
 obtain ⟨L, hL3, rfl⟩ := tr_ptr T2
 have e26 : a3.eval (.tmp 26) = .func (.func bid) #[] #[.pointer (some (L.ad 0))] := by
  have := opd_sim R3 (x := .tmp 26) (y := .t 26) rfl (v := .fn bk [.ptr bx 0]) hf26
  rw [t26] at this
  exact (Option.some.inj this).symm
 have hps : ps = #[27, 28] := by
  have : ps.toList = [27, 28] := by simpa using kps
  exact Array.toList_inj.1 this
 subst hps
 obtain ⟨len, Hs, xs, hlen, q0, q1, hsp, hbk2, hrd⟩ : ∃ (len : Nat) (Hs : Nat → Heap) (xs : Nat → Int), len ≤ 4294967296 ∧ Hs 0 = h3 ∧ Hs len = h4 ∧ L.spot = none ∧
   (∀ k m' W, m3.le m' → Sim G m' (Hs k) W → (k < len ∨ k = 0) → BackAt L.blk L.off len (fun k => .int .i64 (xs k)) k W) ∧
   ∀ k, k < len → ∃ e', evOps call l l (Env.put (Env.put (Env.put e3 (some 27) (.int .i64 ((len - 1 - k : Nat) : Int))) (some 28) (.int .i64 (xs k))) (some 10) (.int .i64 (xs k))) (Hs k) = some (e', Hs (k + 1)) := by
  unfold evRounds at hR
  split at hR
  ·rename_i hl
   simp only [Option.some.injEq] at hR
   subst hR
   obtain ⟨sp, _⟩ := cellAt S3 hL3 hl
   refine ⟨0, fun _ => h3, fun _ => 0, by omega, rfl, rfl, sp, fun k m' W hm s' hk => ?_, fun k hk => by omega⟩
   obtain ⟨_, rv, c1, c2⟩ := cellAt s' (hm _ _ hL3) hl
   simp [tr] at c2
   subst c2
   exact ⟨none, 0, c1, fun h => by omega⟩
  ·rename_i b o len c hl
   split at hR
   ·rename_i hbig
    obtain ⟨Hs, xs, z0, z1, z2⟩ := evBack_seq len h3 h4 hR
    obtain ⟨sp, _⟩ := cellAt S3 hL3 hl
    refine ⟨len, Hs, xs, by simpa [big] using hbig, z0, z1, sp, fun k m' W hm s' hk => ?_, fun k hk => (z2 k hk).2.2⟩
    by_cases hlt : k < len
    ·obtain ⟨y1, y2, _⟩ := z2 k hlt
     obtain ⟨_, rv, c1, c2⟩ := cellAt s' (hm _ _ hL3) y1
     obtain ⟨L2, e2, rfl⟩ := tr_sl c2
     obtain ⟨sp2, rv2, c3, c4⟩ := cellAt s' e2 y2
     simp [tr] at c4
     subst c4
     refine ⟨_, _, c1, fun _ => ⟨L2.blk, L2.off + o, by rw [Loc.ad_none sp2], ?_⟩⟩
     rw [show L2.off + o + (len - 1 - k) = L2.off + (o + (len - 1 - k)) by omega]
     exact c3
    ·obtain rfl : k = 0 := by omega
     rw [z0] at s'
     obtain ⟨_, rv, c1, c2⟩ := cellAt s' (hm _ _ hL3) hl
     obtain ⟨L2, e2, rfl⟩ := tr_sl c2
     exact ⟨_, _, c1, fun h => absurd h hlt⟩
   ·cases hR
  ·cases hR
 have hL0 : L.ad 0 = ⟨L.blk, L.off, none⟩ := by rw [Loc.ad_none hsp]; rfl
 rw [hL0] at e26
 obtain ⟨fnB, hB1, hB2, hB3⟩ := hG bk bid F1
 have eg : ∀ args (w : World), (callFunc bid args).run P w = .ok (.enter bid args) w := fun args w => by
  simp only [callFunc, Sem.run_bind, run_program, Result.andThen_ok, hB1, hB3, hB2, Bool.false_eq_true, if_false, Sem.run_pure]
 refine wpIn_rangeFunc ?_
 intro fnid hfn
 obtain ⟨rec, hrec⟩ : ∃ rec : LoopState → Option Code → Loop, rec = fun st pe => { state := st, pending := pe, fn := fnid, tmps := a3.tmps, params := #[27, 28], assign := .region id1 asg false, body := .block b1 (.region id2 ops true), defers := w3.heap.size } := ⟨_, rfl⟩
 obtain ⟨W1, hW1⟩ : ∃ W1, (w3.alloc (.deferred (some []))).alloc (.loop (rec .ready none)) = W1 := ⟨_, rfl⟩
 have hL1 : W1.heap[w3.heap.size + 1]? = some (.loop (rec .ready none)) := by
  rw [← hW1]; have := World.alloc_heap_new (w3.alloc (.deferred (some []))) (.loop (rec .ready none)); rwa [World.size_alloc] at this
 have hK1 : W1.heap[w3.heap.size]? = some (.deferred (some [])) := by
  rw [← hW1]
  have := World.alloc_heap_new w3 (.deferred (some []))
  have hlt : w3.heap.size < (w3.alloc (.deferred (some []))).heap.size := by simp
  show ((w3.alloc (.deferred (some []))).heap.push _)[w3.heap.size]? = _
  rw [Array.getElem?_push_lt hlt, ← this, Array.getElem?_eq_getElem hlt]
 have wL : ∀ (W : World) st pe, W.heap[w3.heap.size + 1]? = some (.loop (rec st pe)) → Walk W (w3.heap.size + 1) := fun W st pe h => ⟨_, h, by simp, by simp, by simp⟩
 have wD : ∀ (W : World) d, W.heap[w3.heap.size]? = some (.deferred d) → Walk W w3.heap.size := fun W d h => ⟨_, h, by simp, by simp, by simp⟩
 refine ⟨w3.heap.size + 1, [{ target := .collected w3.heap.size, args := #[] }], W1, { target := .fn (.func bid) #[.pointer (some ⟨L.blk, L.off, none⟩)], args := #[.func (.yield (w3.heap.size + 1)) #[] #[]] }, W1, bid,
  #[.func (.yield (w3.heap.size + 1)) #[] #[]] ++ #[.pointer (some ⟨L.blk, L.off, none⟩)], W1, ?_, ?_, fun _ _ => trivial, ?_, fun h => by simp [Fence.wide] at h, ?_⟩
 ·rw [← hW1, hrec]; exact run_enterLoop_outer _ _ _ _ _
 ·simp only [resolve, e26]
  simp [go_sem]
 ·simp [invoke, go_sem, eg]
 ·have J0 : Sim G m3 (Hs 0) W1 ∧ Evo m3 h3 w3 m3 (Hs 0) W1 := by
   rw [q0, ← hW1]
   exact ⟨(S3.alloc _).alloc _, ((Evo.refl m3 h3 w3).alloc _).alloc _⟩
  refine (hBack 4 (by omega) (w3.heap.size + 1) L.blk L.off len hlen (fun k => .int .i64 (xs k))
   (fun k W => ∃ m', Sim G m' (Hs k) W ∧ Evo m3 h3 w3 m' (Hs k) W ∧ W.heap[w3.heap.size + 1]? = some (.loop (rec .ready none)) ∧ W.heap[w3.heap.size]? = some (.deferred (some [])))
   (fun k W ⟨m', s', v', _⟩ hk => hbk2 k m' W v'.mono s' hk) ?_ W1 ⟨m3, J0.1, J0.2, hL1, hK1⟩).mono ?_
  ·-- one round
   rintro k W ⟨m', s', v', hl, hd⟩ hlt
   have hy := run_yield (P := P) (args := #[.int .i64 ((len - 1 - k : Nat) : Int), .int .i64 (xs k)]) hl (by rw [hrec]; rfl)
   obtain ⟨e', hev⟩ := hrd k hlt
   have hle : w3.heap.size + 1 < W.heap.size := (Array.getElem?_eq_some_iff.1 hl).1
   refine ⟨fnid, _, _, _, by rw [hy, hrec], roundIn_of_wpIn trivial ?_⟩
   have erA : ER G m' fn.ntmps (Env.put (Env.put e3 (some 27) (.int .i64 ((len - 1 - k : Nat) : Int))) (some 28) (.int .i64 (xs k))) { tmps := (a3.tmps.setIfInBounds 27 (.int .i64 ((len - 1 - k : Nat) : Int))).setIfInBounds 28 (.int .i64 (xs k)), defers := [] } := by
    have b0 : ER G m' fn.ntmps e3 { a3 with defers := [] } := ⟨R3.size, (R3.mono v'.mono).get⟩
    exact (b0.put (d := some 27) (v := .int .i64 ((len - 1 - k : Nat) : Int)) (rv := .int .i64 ((len - 1 - k : Nat) : Int)) rfl (fun x hx => by cases hx; omega)).put (d := some 28) (v := .int .i64 (xs k)) (rv := .int .i64 (xs k)) rfl (fun x hx => by cases hx; omega)
   have evA : evOps call [asgC] [asgC] (Env.put (Env.put e3 (some 27) (.int .i64 ((len - 1 - k : Nat) : Int))) (some 28) (.int .i64 (xs k))) (Hs k) = some (Env.put (Env.put (Env.put e3 (some 27) (.int .i64 ((len - 1 - k : Nat) : Int))) (some 28) (.int .i64 (xs k))) (some 10) (.int .i64 (xs k)), Hs k) := by
    simp [evOps, evOper, evOp, asgC, wanted, Opd.ev, Env.get, Env.put, recheckB, withH]
   refine wpIn_region (ops_in kn2 (by rintro ⟨_, _, h⟩; exact h) _ _ _ ?_)
   have hO := ops_wp hG hC (Q := Exit.then (fun a₁ w₁ => ∃ w₂, (Instr.beginRound (w3.heap.size + 1)).run P w₁ = .ok () w₂ ∧ (Code.block b1 (.region id2 ops true)).wpIn (Fence.wide.inRound (w3.heap.size + 1)) (4 - 1) P (roundPost P (w3.heap.size + 1) (fun e W' => e = .returned (.bool true) ∧ ∃ m', Sim G m' (Hs (k + 1)) W' ∧ Evo m3 h3 w3 m' (Hs (k + 1)) W' ∧ W'.heap[w3.heap.size + 1]? = some (.loop (rec .ready none)) ∧ W'.heap[w3.heap.size]? = some (.deferred (some [])))) a₁ w₂) (fun _ _ _ => False))
    asg.toList [asgC] 0 (by simp) ka m' _ (Hs k) _ W _ (Hs k) [asgC] evA erA s' ?_
   ·rw [List.range_eq_range']
    simpa using hO
   ·intro m4 a4 w4 R4 D4 S4 V4
    have hl4 : w4.heap[w3.heap.size + 1]? = some (.loop (rec .ready none)) := by rw [Evo.walk s' V4 (wL W _ _ hl)]; exact hl
    have hd4 : w4.heap[w3.heap.size]? = some (.deferred (some [])) := by rw [Evo.walk s' V4 (wD W _ hd)]; exact hd
    have hlt4 : w3.heap.size + 1 < w4.heap.size := (Array.getElem?_eq_some_iff.1 hl4).1
    refine ⟨_, run_beginRound hl4 (by rw [hrec]), ?_⟩
    have S5 : Sim G m4 (Hs k) (w4.putObj (w3.heap.size + 1) (.loop { rec .ready none with state := .busy })) := S4.putWalk (wL w4 _ _ hl4) _
    have V5 : Evo m3 h3 w3 m4 (Hs k) (w4.putObj (w3.heap.size + 1) (.loop { rec .ready none with state := .busy })) := (v'.trans V4).putObj (by omega) _
    have hrb : ({ rec .ready none with state := .busy } : Loop) = rec .busy none := by rw [hrec]
    rw [hrb] at S5 V5 ⊢
    have hl5 : (w4.putObj (w3.heap.size + 1) (.loop (rec .busy none))).heap[w3.heap.size + 1]? = some (.loop (rec .busy none)) := World.putObj_heap_same hlt4
    have hd5 : (w4.putObj (w3.heap.size + 1) (.loop (rec .busy none))).heap[w3.heap.size]? = some (.deferred (some [])) := (World.putObj_heap_other (by omega)).trans hd4
    generalize w4.putObj (w3.heap.size + 1) (.loop (rec .busy none)) = w5 at *
    refine wpIn_block (wpIn_region_any hmix (any_in kn (by rintro ⟨_, _, h⟩; exact h) _ _ _ _ (draw_any hmix hG hC hL kd hev R4 S5 fun m6 a6 w6 R6 D6 S6 V6 => ?_)))
    show ∃ v w', (Instr.endRound (w3.heap.size + 1) none).run P w6 = .ok v w' ∧ _
    have hl6 : w6.heap[w3.heap.size + 1]? = some (.loop (rec .busy none)) := by rw [Evo.walk S5 V6 (wL w5 _ _ hl5)]; exact hl5
    have hd6 : w6.heap[w3.heap.size]? = some (.deferred (some [])) := by rw [Evo.walk S5 V6 (wD w5 _ hd5)]; exact hd5
    have hlt6 : w3.heap.size + 1 < w6.heap.size := (Array.getElem?_eq_some_iff.1 hl6).1
    have hre : ({ rec .busy none with state := (if (none : Option Code).isNone then .ready else .done), pending := none } : Loop) = rec .ready none := by rw [hrec]; rfl
    refine ⟨_, _, run_endRound none hl6, rfl, m6, ?_, ?_, ?_, ?_⟩
    ·exact S6.putWalk (wL w6 _ _ hl6) _
    ·exact (V5.trans V6).putObj (by omega) _
    ·rw [hre]; exact World.putObj_heap_same hlt6
    ·exact (World.putObj_heap_other (by omega)).trans hd6
  ·-- behind the iterator
   rintro e W2 ⟨⟨v, rfl⟩, m', s', v', hl, hd⟩
   rw [q1] at s' v'
   have hlt : w3.heap.size + 1 < W2.heap.size := (Array.getElem?_eq_some_iff.1 hl).1
   refine ⟨none, _, by have := run_endLoop (P := P) hl (by rw [hrec]; simp); rw [hrec] at this; exact this, ?_⟩
   show Code.wpIn _ _ _ _ _ _ _
   have s7 := s'.putWalk (wL W2 _ _ hl) (.loop { rec .ready none with state := .exhausted })
   have v7 := v'.putObj (r := w3.heap.size + 1) (by omega) (.loop { rec .ready none with state := .exhausted })
   have hd7 : (W2.putObj (w3.heap.size + 1) (.loop { rec .ready none with state := .exhausted })).heap[w3.heap.size]? = some (.deferred (some [])) := (World.putObj_heap_other (by omega)).trans hd
   have hkl : ∀ (W : World), W.heap[w3.heap.size]? = some (.deferred (some [])) → Walk W w3.heap.size := fun W h => wD W _ h
   rw [hrec] at s7 v7 hd7
   generalize W2.putObj (w3.heap.size + 1) (.loop { state := .exhausted, pending := none, fn := fnid, tmps := a3.tmps, params := #[27, 28], assign := .region id1 asg false, body := .block b1 (.region id2 ops true), defers := w3.heap.size }) = w7 at *
   refine piece hmix hG hC hL k6 hE6 (a := { a3 with defers := [{ target := .collected w3.heap.size, args := #[] }] ++ a3.defers }) ⟨R3.size, (R3.mono v7.mono).get⟩ s7 fun m8 a8 w8 R8 D8 S8 V8 => ?_
   have hd8 : w8.heap[w3.heap.size]? = some (.deferred (some [])) := by rw [Evo.walk s7 V8 (hkl w7 hd7)]; exact hd7
   suffices hlv : LeavesInM Fence.wide 5 P fn a8.tmps (fun e w' => ∃ m' rv, e = .returned rv ∧ tr G m' (result rs) = some rv ∧ Sim G m' h' w' ∧ Evo m h w m' h' w') a8.defers .returning w8 by
    cases x with
    | exit id => exact absurd rfl (hx6 id)
    | normal => exact hlv
    | ret => exact hlv
   rw [D8]
   simp only [hdf, List.append_nil]
   refine ⟨by simp, .inl ⟨w3.heap.size, _, rfl, run_takeDeferred hd8, ?_⟩⟩
   have S9 := S8.putWalk (hkl w8 hd8) (.deferred none)
   have V9 := (hV.trans (v7.trans V8)).putObj (r := w3.heap.size) hV.size (.deferred none)
   obtain ⟨rv, z1, z2⟩ := results_sim (fn := fn) R8 S9 kr hrs
   exact ⟨rv, z1, m8, rv, rfl, z2, S9, V9⟩
end
open Go
theorem evBack_le {c c' : CallF} (hc : CallLe c c') {n n' : Nat} {l : List SOper} {e : Env} {bx b o len cc : Nat} : ∀ {k : Nat} {h h2 : Heap}, evBack c n l e bx b o len cc k h = some h2 → evBack c' n' l e bx b o len cc k h = some h2
 | 0, h, h2, hev => hev
 | k + 1, h, h2, hev => by
   simp only [evBack] at hev ⊢
   cases h1 : loadAt h bx 0 none with
   | none => simp [h1] at hev
   | some v =>
     cases h2 : loadAt h b (o + k) none with
     | none => simp [h1, h2] at hev
     | some z =>
       simp only [h1, h2] at hev ⊢
       split at hev
       ·rename_i v' z' hv hz
        cases hv; cases hz
        split at hev
        ·split at hev
         ·rename_i e' h' hb
          simp only [evOps_le hc hb]
          exact evBack_le hc hev
         ·cases hev
        ·cases hev
       ·cases hev
theorem evRounds_iff {c : CallF} {n : Nat} {l : List SOper} {e : Env} {bx : Nat} {h h2 : Heap} : evRounds c n l e bx h = some h2 ↔
  (loadAt h bx 0 none = some .nils ∧ h = h2) ∨ ∃ b o len cc, loadAt h bx 0 none = some (.sl b o len cc) ∧ len ≤ big ∧ evBack c n l e bx b o len cc len h = some h2 := by
 unfold evRounds
 cases hl : loadAt h bx 0 none with
 | none => simp
 | some v =>
   cases v
   case sl b o n c =>
    constructor
    ·intro k
     simp at k
     exact .inr ⟨b, o, n, c, rfl, k.1, k.2⟩
    ·rintro (⟨k, _⟩ | ⟨b', o', n', c', k, k1, k2⟩)
     ·cases k
     ·cases k
      simp only [k1, if_true]
      exact k2
   all_goals simp
theorem evRounds_le {c c' : CallF} (hc : CallLe c c') {n n' : Nat} {l : List SOper} {e : Env} {bx : Nat} {h h2 : Heap} (hev : evRounds c n l e bx h = some h2) : evRounds c' n' l e bx h = some h2 := by
 rcases evRounds_iff.1 hev with q | ⟨b, o, len, cc, q1, q2, q3⟩
 ·exact evRounds_iff.2 (.inl q)
 ·exact evRounds_iff.2 (.inr ⟨b, o, len, cc, q1, q2, evBack_le hc q3⟩)
theorem abortE_le {c c' : CallF} (hc : CallLe c c') {n n' bk : Nat} (hn : n ≤ n') {sf : SFunc} {vs : List CV} {h : Heap} {q : CV × Heap} (hev : abortE c n bk sf vs h = some q) : abortE c' n' bk sf vs h = some q := by
 obtain ⟨c0, c1, c2, c3, i, j, l, D, kp, c6, e, h1, bx, h2, x, e3, h3, rs, a1, a2, a3, a4, a5, a6, a7, rfl⟩ := abortE_iff.1 hev
 exact abortE_iff.2 ⟨c0, c1, c2, c3, i, j, l, D, kp, c6, e, h1, bx, h2, x, e3, h3, rs, a1, evC_le hc n n' hn a2, a3, evRounds_le hc a4, evC_le hc n n' hn a5, a6, a7, rfl⟩
noncomputable def abortP (Pg : Prog) (pr : Prims) (bk : Nat) (sf : SFunc) (vs : List CV) (h : Heap) : Option (CV × Heap) :=
 open Classical in if hx : ∃ q : CV × Heap, ∃ n k, abortE (evCall Pg pr n) k bk sf vs h = some q then some hx.choose else none
theorem abortP_of {Pg : Prog} {pr : Prims} {bk : Nat} {sf : SFunc} {vs : List CV} {h : Heap} {q : CV × Heap} (e : abortP Pg pr bk sf vs h = some q) : ∃ n k, abortE (evCall Pg pr n) k bk sf vs h = some q := by
 unfold abortP at e
 split at e
 ·rename_i hx
  cases e
  exact hx.choose_spec
 ·cases e
theorem abortP_is {Pg : Prog} {pr : Prims} {bk n k : Nat} {sf : SFunc} {vs : List CV} {h : Heap} {q : CV × Heap} (e : abortE (evCall Pg pr n) k bk sf vs h = some q) : abortP Pg pr bk sf vs h = some q := by
 have hx : ∃ q : CV × Heap, ∃ n k, abortE (evCall Pg pr n) k bk sf vs h = some q := ⟨q, n, k, e⟩
 have e2 : abortP Pg pr bk sf vs h = some hx.choose := by
  unfold abortP
  rw [dif_pos hx]
 obtain ⟨n2, k2, e3⟩ := hx.choose_spec
 have f1 := abortE_le (evCall_le Pg pr n (max n n2) (Nat.le_max_left ..)) (Nat.le_max_left k k2) e
 have f2 := abortE_le (evCall_le Pg pr n2 (max n n2) (Nat.le_max_right ..)) (Nat.le_max_right k k2) e3
 rw [e2, ← f2, f1]
theorem abortE_len {call : CallF} (hL : CallLen call) {n bk : Nat} {sf : SFunc} {vs : List CV} {h : Heap} {q : CV × Heap} (hev : abortE call n bk sf vs h = some q) : h.length ≤ q.2.length := by
 obtain ⟨c0, c1, c2, c3, i, j, l, D, kp, c6, e, h1, bx, h2, x, e3, h3, rs, a1, a2, a3, a4, a5, a6, a7, rfl⟩ := abortE_iff.1 hev
 have q1 := evC_len hL n a2
 have q3 := evC_len hL n a5
 have q2 : h1.length ≤ h2.length := by
  unfold evRounds at a4
  split at a4
  ·cases a4; exact Nat.le_refl _
  ·rename_i b o len c hl
   split at a4
   ·obtain ⟨Hs, xs, z0, z1, z2⟩ := evBack_seq len h1 h2 a4
    rw [← z1]
    have : ∀ k, k ≤ len → h1.length ≤ (Hs k).length := by
     intro k
     induction k with
     | zero => intro _; rw [z0]; exact Nat.le_refl _
     | succ k ih =>
       intro hk
       obtain ⟨_, _, e', he⟩ := z2 k (by omega)
       have := evOps_len hL he
       have := ih (by omega)
       omega
    exact this len (Nat.le_refl _)
   ·cases a4
  ·cases a4
 show h.length ≤ h3.length
 omega
def addF (f : Nat) (g : List CV → Heap → Option (CV × Heap)) (pr : Prims) : Prims := fun k => match Nat.beq k f with
 | true => some g
 | false => pr k
theorem addF_ok {P : Program} {G : Gam} {pr : Prims} {f : Nat} {g : List CV → Heap → Option (CV × Heap)} (h : PrimOK P G pr) (hg : ∀ vs h r h', g vs h = some (r, h') → h.length ≤ h'.length ∧ ∀ fid, G.F f = some fid → CallSim P G fid vs h r h') : PrimOK P G (addF f g pr) := by
 intro k g' hk vs hh r h' hev
 unfold addF at hk
 cases hb : Nat.beq k f with
 | true =>
   rw [hb] at hk
   cases hk
   have := Nat.eq_of_beq_eq_true hb
   subst this
   exact hg vs hh r h' hev
 | false =>
   rw [hb] at hk
   exact h k g' hk vs hh r h' hev
theorem abortP_ok {P : Program} {G : Gam} {Pg : Prog} {pr : Prims} (hmix : P.follows .mixedOrders = true) (hG : Good P G) (hLk : Linked P G Pg) (hPr : PrimOK P G pr) {f bk : Nat} {fid bid : FuncId} (hf : G.F f = some fid) (hbk : G.F bk = some bid) (hBack : BackIn P bid)
  {fn : Func} (h1 : P.funcs[fid]? = some fn) {sf : SFunc} (hB : abortB P G fn sf = true) : PrimOK P G (addF f (abortP Pg pr bk sf) pr) := by
 refine addF_ok hPr fun vs h r h' hev => ?_
 obtain ⟨n, k, hev⟩ := abortP_of hev
 obtain ⟨o1, o2⟩ := call_all hmix hG hLk hPr n
 refine ⟨abortE_len o2 hev, fun fid' hf' => ?_⟩
 obtain rfl := Option.some.inj (hf.symm.trans hf')
 exact abort_sound hmix hG o1 o2 hbk hBack h1 hB hev
def backEnv (e : Env) (k : Nat) (z : Int) : Env := Env.put (Env.put (Env.put e (some 27) (.int .i64 (k : Int))) (some 28) (.int .i64 z)) (some 10) (.int .i64 z)
def RoundsW (p : PP) (l : List SOper) (e : Env) (bx : Nat) (v : CV) (h1 : Heap) (KC : Heap → Prop) : Prop :=
 (v = .nils ∧ KC h1) ∨ ∃ (b o len c : Nat) (I : Nat → Heap → Prop), v = .sl b o len c ∧ len ≤ big ∧ I len h1 ∧
  (∀ k h, k < len → I (k + 1) h → loadAt h bx 0 none = some v ∧ ∃ z, loadAt h b (o + k) none = some (.int .i64 z) ∧ WO p l l (backEnv e k z) h fun _ h' => I k h') ∧ ∀ h, I 0 h → KC h
variable {p p' : PP}
theorem rounds_ev {l : List SOper} {e : Env} {bx : Nat} {v : CV} {h1 : Heap} {KC : Heap → Prop} (hl : loadAt h1 bx 0 none = some v) (r : RoundsW p l e bx v h1 KC) : ∃ n h2, evRounds (p.call n) 0 l e bx h1 = some h2 ∧ KC h2 := by
 rcases r with ⟨rfl, k⟩ | ⟨b, o, len, c, I, rfl, hb, i0, st, fin⟩
 ·exact ⟨0, h1, evRounds_iff.2 (.inl ⟨hl, rfl⟩), k⟩
 ·have key : ∀ k, k ≤ len → ∀ h, I k h → ∃ n h2, evBack (p.call n) 0 l e bx b o len c k h = some h2 ∧ I 0 h2 := by
   intro k
   induction k with
   | zero => intro _ h hI; exact ⟨0, h, rfl, hI⟩
   | succ k ih =>
     intro hk h hI
     obtain ⟨q1, z, q2, n1, e', h', q3, q4⟩ := st k h (by omega) hI
     obtain ⟨n2, h2, q5, q6⟩ := ih (by omega) h' q4
     refine ⟨max n1 n2, h2, ?_, q6⟩
     have q3' := evOps_le (p.le (Nat.le_max_left n1 n2)) q3
     have q5' := evBack_le (n' := 0) (p.le (Nat.le_max_right n1 n2)) q5
     unfold backEnv at q3'
     simp only [evBack, q1, q2, CV.eqb_refl, q3', q5']
  obtain ⟨n, h2, q1, q2⟩ := key len (Nat.le_refl _) h1 i0
  exact ⟨n, h2, evRounds_iff.2 (.inr ⟨b, o, len, c, hl, hb, q1⟩), fin h2 q2⟩
theorem WF_abort {f bk : Nat} {sf : SFunc} (hp : p.pr f = some (abortP p'.Pg p'.pr bk sf)) {c0 c1 c2 c3 c6 : SCode} {i j : Nat} {l : List SOper} {D : Option (List (Nat × List Nat))} {kp : List Nat}
  (hsf : sf.body = .seq c0 (.seq c1 (.seq c2 (.seq (.seq c3 (.block i (.block j (.ops l D kp)))) c6)))) {vs : List CV} {h : Heap} {K : CV → Heap → Prop}
  (hA : W p' (.seq c0 (.seq c1 (.seq c2 c3))) (args 0 vs) h fun x e h1 => x = .normal ∧ ∃ bx v, e.get 26 = some (.fn bk [.ptr bx 0]) ∧ loadAt h1 bx 0 none = some v ∧
   RoundsW p' l e bx v h1 fun h2 => W p' c6 e h2 (retQ sf.results K)) : WF p f vs h K := by
 obtain ⟨n1, k1, x, e, h1, a1, rfl, bx, v, a2, a3, a4⟩ := hA
 obtain ⟨n2, h2, b1, n3, k3, x3, e3, h3, b2, b3⟩ := rounds_ev a3 a4
 have hx : (∀ id, x3 ≠ .exit id) ∧ ∃ rs, rvs e3 h3 sf.results = some rs ∧ K (result rs) h3 := by
  cases x3 with
  | exit id => exact b3.elim
  | normal => exact ⟨fun id e => by simp at e, b3⟩
  | ret => exact ⟨fun id e => by simp at e, b3⟩
 obtain ⟨hx1, rs, hx2, hx3⟩ := hx
 have m1 : n1 ≤ max n1 (max n2 n3) := Nat.le_max_left ..
 have m2 : n2 ≤ max n1 (max n2 n3) := by omega
 have m3 : n3 ≤ max n1 (max n2 n3) := by omega
 have hE : abortE (p'.call (max n1 (max n2 n3))) (max k1 k3) bk sf vs h = some (result rs, h3) := abortE_iff.2
  ⟨c0, c1, c2, c3, i, j, l, D, kp, c6, e, h1, bx, h2, x3, e3, h3, rs, hsf, evC_le (p'.le m1) k1 _ (Nat.le_max_left ..) a1, a2, evRounds_le (p'.le m2) b1, evC_le (p'.le m3) k3 _ (Nat.le_max_right ..) b2, hx1, hx2, rfl⟩
 refine ⟨1, result rs, h3, ?_, hx3⟩
 show evCall p.Pg p.pr 1 f vs h = _
 simp only [evCall, hp]
 exact abortP_is hE
set_option maxHeartbeats 400000
section
variable {P : Program} {G : Gam} {N : Nat} {call : CallF}
theorem ops_val {ops : Array Oper} {i : Nat} {rest : List Nat} {d : Option Nat} {op : Op} {t : TypeId} {p : String} {af : Array Edge} {a : Act} {w w' : World} {v : Value} {Q : Exit → Act → World → Prop} (ho : ops[i]? = some ⟨d, op, t, p, af, none⟩)
  (h : (execOp a.eval ⟨d, op, t, p, af, none⟩).run P w = .ok (.value v) w') (k : wpOps P ops Q rest (a.put d v) w') :
  wpOps P ops Q (i :: rest) a w := by
 rw [wpOps_cons]
 unfold wpOp
 rw [ho]
 have hw : Region.wanted (⟨d, op, t, p, af, none⟩ : Oper) (yielded ops a.tmps) = true := by simp [Region.wanted]
 simp only [hw, if_true]
 refine .inl ?_
 unfold Oper.wp
 rw [h]
 exact k
theorem ops_seq {ops : Array Oper} {a : Act} {w : World} {c : Code} {Q : Exit → Act → World → Prop} (h : c.wp P Q a w) : wpOps P ops (Exit.then (c.wp P Q) Q) [] a w := h
section
variable {ρ : Operand → Value} {d : Option Nat} {t : TypeId} {p : String} {af : Array Edge} {w w' : World} {v : Value} {x : Operand}
theorem x_move (h : ρ x = v) : (execOp ρ ⟨d, .move x, t, p, af, none⟩).run P w = .ok (.value v) w := by subst h; simp [execOp, go_sem]
theorem x_assign (h : ρ x = v) : (execOp ρ ⟨d, .assign x, t, p, af, none⟩).run P w = .ok (.value v) w := by subst h; simp [execOp, go_sem]
theorem x_range {T : TypeId} {u : Value} (hx : ρ x = u) (h : (Instr.range T u).run P w = .ok v w') : (execOp ρ ⟨d, .range T x, t, p, af, none⟩).run P w = .ok (.value v) w' := by subst hx; simp [execOp, go_sem, h]
theorem x_next {u : Value} (hx : ρ x = u) (h : (Instr.next u false t).run P w = .ok v w') : (execOp ρ ⟨d, .next x false, t, p, af, none⟩).run P w = .ok (.value v) w' := by subst hx; simp [execOp, go_sem, h]
theorem x_entry {u : Value} (hx : ρ x = u) (h : (Instr.entry u).run P w = .ok v w') : (execOp ρ ⟨d, .entry x, t, p, af, none⟩).run P w = .ok (.value v) w' := by subst hx; simp [execOp, go_sem, h]
theorem x_extract {vs : Array Value} {i : Nat} (hx : ρ x = .tuple vs) (h : vs[i]? = some v) : (execOp ρ ⟨d, .extract x i, t, p, af, none⟩).run P w = .ok (.value v) w := by simp [execOp, go_sem, hx, Instr.extract, h]
end
theorem eval_put {a : Act} {i : Nat} {v : Value} (h : i < a.tmps.size) : (a.put (some i) v).eval (.tmp i) = v := by
 simp [Act.eval, Act.put, Array.getD, h]
theorem eval_put_ne {a : Act} {i j : Nat} {v : Value} (h : i ≠ j) : (a.put (some i) v).eval (.tmp j) = a.eval (.tmp j) := by
 simp [Act.eval, Act.put, Array.getD_eq_getD_getElem?, Array.getElem?_setIfInBounds_ne h]
theorem get_put_ne {a : Act} {i j : Nat} {v : Value} (h : j ≠ i) : (a.put (some i) v).tmps[j]? = a.tmps[j]? := by simp [Act.put, Array.getElem?_setIfInBounds_ne (Ne.symm h)]
theorem defers_put {a : Act} {d : Option Nat} {v : Value} : (a.put d v).defers = a.defers := by cases d <;> rfl
theorem size_put {a : Act} {i : Nat} {v : Value} : (a.put (some i) v).tmps.size = a.tmps.size := by simp [Act.put]
def leftE (es : List (CV × CV × Nat)) (seen : List Nat) : Nat := (es.filter fun x => !seen.contains x.2.2).length
theorem leftE_lt {es : List (CV × CV × Nat)} {seen : List Nat} {x : CV × CV × Nat} (hx : x ∈ es) (hn : x.2.2 ∉ seen) : leftE es (seen ++ [x.2.2]) < leftE es seen := by
 unfold leftE
 have h1 : (es.filter fun y => !(seen ++ [x.2.2]).contains y.2.2) = (es.filter fun y => !seen.contains y.2.2).filter fun y => y.2.2 != x.2.2 := by
  rw [List.filter_filter]
  refine List.filter_congr fun y _ => ?_
  by_cases h2 : y.2.2 ∈ seen <;> by_cases h3 : y.2.2 = x.2.2 <;> simp [h2, h3, bne]
 rw [h1]
 refine List.length_filter_lt_length_iff_exists.2 ⟨x, List.mem_filter.2 ⟨hx, by simpa using hn⟩, by simp⟩
def isMapT (P : Program) (T : TypeId) : Bool := match P.underlying T with
 | some (.map _ _) => true
 | _ => false
theorem mapR_sound (hmix : P.follows .mixedOrders = true) (hG : Good P G) (hC : CallOK P G call) (hL : CallLen call) {fid : FuncId} {fn : Func} (h1 : P.funcs[fid]? = some fn)
  {T : TypeId} (hT : isMapT P T = true) {i0 i1 i2 b0 b1 : Nat} {c8 : Code} {t0 t1 t2 t3 t4 t5 t6 t7 t8 : TypeId} {p0 p1 p2 p3 p4 p5 p6 p7 p8 : String} {x0 x1 x2 x3 x4 x5 x6 x7 x8 : Array Edge}
  (hb : fn.body = some (.seq (.region i0 #[⟨some 10, .move (.tmp 1), t0, p0, x0, none⟩, ⟨some 11, .range T (.tmp 10), t1, p1, x1, none⟩] false) (.block b0 (.loop (.seq (.region i1 #[⟨some 12, .next (.tmp 11) false, t2, p2, x2, none⟩, ⟨some 13, .extract (.tmp 12) 0, t3, p3, x3, none⟩] false)
   (.seq (.cond (.tmp 13) .skip (.exit b0)) (.block b1 (.seq (.region i2 #[⟨some 14, .entry (.tmp 11), t4, p4, x4, none⟩, ⟨some 15, .extract (.tmp 14) 0, t5, p5, x5, none⟩, ⟨some 16, .extract (.tmp 14) 1, t6, p6, x6, none⟩, ⟨some 8, .assign (.tmp 15), t7, p7, x7, none⟩, ⟨some 9, .assign (.tmp 16), t8, p8, x8, none⟩] false) c8))))))))
  (hN : 16 < fn.ntmps) (hres : fn.results = #[]) {s8 : SCode} (hM : codeM P G fn.ntmps c8 s8 = true)
  {vs : List CV} {h h' : Heap} {bm clock : Nat} {es : List (CV × CV × Nat)} (hm1 : Env.get (args 0 vs) 1 = some (.mp bm)) (hold : ∀ x ∈ es, x.2.2 < clock) (hnd : (es.map (·.2.2)).Nodup)
  {base : Env} (hbase : ∀ i v, base.get i = some v → (i < 8 ∧ Env.get (args 0 vs) i = some v) ∨ (i = 11 ∧ v = .ptr h.length 0)) (h11 : base.get 11 = some (.ptr h.length 0))
  {Hs : List Nat → Heap} (hH0 : Hs [] = h ++ [.dead]) (hHm : ∀ seen, (Hs seen)[bm]? = some (.map es clock))
  (hstep : ∀ seen x, x ∈ es → x.2.2 ∉ seen → (∀ b ∈ seen, ∃ y ∈ es, y.2.2 = b) → ∃ n e', evC call n s8 ((8, x.1) :: (9, x.2.1) :: base) (Hs seen) = some (.normal, e', Hs (seen ++ [x.2.2])) ∧ ∀ i v, base.get i = some v → e'.get i = some v)
  (hend : ∀ seen, (∀ x ∈ es, x.2.2 ∈ seen) → (∀ b ∈ seen, ∃ y ∈ es, y.2.2 = b) → Hs seen = h') : CallSim P G fid vs h (.tup []) h' := by
 intro m w rvs s hv
 obtain ⟨k0, el, hT⟩ : ∃ k0 el, P.underlying T = some (.map k0 el) := by
  unfold isMapT at hT
  split at hT
  ·rename_i q; exact ⟨_, _, q⟩
  ·cases hT
 refine calls_of_wp h1 hb ?_
 have hER : ER G m fn.ntmps (args 0 vs) { tmps := rvs.toArray ++ Array.replicate (fn.ntmps - rvs.toArray.size) undef, defers := [] } := by
  refine ⟨by simp; omega, fun i v hi => ?_⟩
  obtain ⟨_, hi⟩ := args_get vs 0 i v hi
  obtain ⟨rv, k1, k2⟩ := trL_get hv _ v hi
  refine ⟨rv, k1, ?_⟩
  have hlt : i < rvs.length := by have := (List.getElem?_eq_some_iff.1 k2).1; simpa using this
  rw [Array.getElem?_append_left (by simpa using hlt)]
  simpa using k2
 obtain ⟨a0, ha0⟩ : ∃ a0 : Act, a0 = { tmps := rvs.toArray ++ Array.replicate (fn.ntmps - rvs.toArray.size) undef, defers := [] } := ⟨_, rfl⟩
 rw [← ha0] at hER ⊢
 have hd0 : a0.defers = [] := by rw [ha0]
 have hsz0 : fn.ntmps ≤ a0.tmps.size := hER.size
 obtain ⟨rv1, q1, q2⟩ := hER.get 1 _ hm1
 obtain ⟨Lm, e1, rfl⟩ := tr_mp q1
 have hbm := s.dom _ _ e1
 have hmo : h[bm]? = some (.map es clock) := by
  have := hHm []
  rw [hH0, List.getElem?_append_left hbm] at this
  exact this
 obtain ⟨ES0, g1, _, _⟩ := s.obj bm Lm _ e1 hmo
 have ev1 : a0.eval (.tmp 1) = .map (some Lm.blk) := by
  show a0.tmps.getD 1 undef = _
  rw [Array.getD_eq_getD_getElem?, q2]
  rfl
 obtain ⟨w1, hw1⟩ : ∃ w1, w1 = w.alloc (.mapIter (some Lm.blk) clock #[] clock) := ⟨_, rfl⟩
 have rr : w1.heap[w.heap.size]? = some (.mapIter (some Lm.blk) clock #[] clock) := by rw [hw1]; exact heap_alloc_new w _
 obtain ⟨S1, V1⟩ := push_sim (L := ⟨w.heap.size, 0, 0, none⟩) (ob := .dead) (w' := w1) s rfl (by rw [hw1]; exact WGrow.alloc w _) trivial
 generalize hm1' : m.upd h.length ⟨w.heap.size, 0, 0, none⟩ = m1 at *
 have hle1 : m.le m1 := V1.mono
 have hmh : m1 h.length = some ⟨w.heap.size, 0, 0, none⟩ := by rw [← hm1']; exact Mp.upd_same _ _ _
 rw [← hH0] at S1 V1
 have iter0 : ∀ m' : Mp, m1.le m' → tr G m' (.ptr h.length 0) = some (.pointer (some ⟨w.heap.size, 0, none⟩)) := fun m' hm => by
  simp [tr, hm _ _ hmh, Loc.ad, Addr.add]
 refine wp_seq (wp_region ?_)
 show wpOps P _ _ [0, 1] a0 w
 have hr0 : (Instr.range T (.map (some Lm.blk))).run P w = .ok (.pointer (some ⟨w.heap.size, 0, none⟩)) w1 := by rw [hw1]; exact run_range_map w T k0 el Lm.blk ES0 clock hT g1
 refine ops_val rfl (x_move ev1) (ops_val rfl (x_range (eval_put (by omega)) hr0) (ops_seq ?_))
 generalize ha1 : ((a0.put (some 10) (.map (some Lm.blk))).put (some 11) (.pointer (some ⟨w.heap.size, 0, none⟩))) = a1
 have hd1 : a1.defers = [] := by rw [← ha1]; exact hd0
 have R1 : ER G m1 fn.ntmps base a1 := by
  refine ⟨by rw [← ha1, size_put, size_put]; exact hsz0, fun i v hi => ?_⟩
  rcases hbase i v hi with ⟨hi8, hv⟩ | ⟨rfl, rfl⟩
  ·obtain ⟨rv, z1, z2⟩ := (hER.mono hle1).get i v hv
   refine ⟨rv, z1, ?_⟩
   rw [← ha1]
   simp only [Act.put]
   rw [Array.getElem?_setIfInBounds_ne (by omega), Array.getElem?_setIfInBounds_ne (by omega)]
   exact z2
  ·refine ⟨_, iter0 m1 (Mp.le_refl _), ?_⟩
   rw [← ha1]
   simp only [Act.put]
   rw [Array.getElem?_setIfInBounds_self_of_lt (by simp; omega)]
 refine wp_block (wp_loop_ghost (fun k a w' => ∃ (m' : Mp) (seen : Array Nat) (c0 : Nat), k = leftE es seen.toList ∧ m1.le m' ∧ ER G m' fn.ntmps base a ∧ a.defers = [] ∧ Sim G m' (Hs seen.toList) w' ∧ Evo m h w m' (Hs seen.toList) w' ∧ w'.heap[w.heap.size]? = some (.mapIter (some Lm.blk) clock seen c0) ∧ clock ≤ c0 ∧ ∀ b ∈ seen.toList, ∃ y ∈ es, y.2.2 = b)
  (leftE es []) ⟨m1, #[], clock, rfl, Mp.le_refl _, R1, hd1, S1, V1, rr, Nat.le_refl _, by simp⟩ ?_)
 rintro k a w2 ⟨m2, seen, c0, rfl, hle2, R2, hd2, S2, V2, hr2, hc0, hseen⟩
 have e2 := hle2 _ _ (hle1 _ _ e1)
 obtain ⟨ES, g1, g2, g3⟩ := S2.obj bm Lm _ e2 (hHm seen.toList)
 have back : ∀ e ∈ ES.toList, ∃ x ∈ es, Entry.rel G m2 x e := fun e he => by
  obtain ⟨i, hi⟩ := List.mem_iff_getElem?.1 he
  have hlt : i < es.length := by have := (List.getElem?_eq_some_iff.1 hi).1; simp at this; omega
  obtain ⟨y, y1, y2⟩ := g3 i es[i] (List.getElem?_eq_getElem hlt)
  rw [Array.getElem?_toList, y1] at hi
  cases hi
  exact ⟨es[i], List.getElem_mem hlt, y2⟩
 have hborn : ES.toList.map (·.born) = es.map (·.2.2) := by
  refine List.ext_getElem (by simp [g2]) fun i h1 h2 => ?_
  have hlt : i < es.length := by simpa using h2
  obtain ⟨y, y1, y2⟩ := g3 i es[i] (List.getElem?_eq_getElem hlt)
  have := (Array.getElem?_eq_some_iff.1 y1).2
  simp [this, y2.2.2]
 have hold' : ∀ x ∈ ES.toList, x.born < clock := fun x hx => by
  obtain ⟨y, y1, y2⟩ := back x hx
  rw [← y2.2.2]; exact hold y y1
 have hsz2 : fn.ntmps ≤ a.tmps.size := R2.size
 have ev11 : a.eval (.tmp 11) = .pointer (some ⟨w.heap.size, 0, none⟩) := by
  obtain ⟨rv, z1, z2⟩ := R2.get 11 _ h11
  rw [iter0 m2 hle2] at z1
  obtain rfl := Option.some.inj z1
  show a.tmps.getD 11 undef = _
  rw [Array.getD_eq_getD_getElem?, z2]; rfl
 have hwk : Walk w2 w.heap.size := ⟨_, hr2, by simp, by simp, by simp⟩
 refine wp_seq (wp_region ?_)
 show wpOps P _ _ [0, 1] a w2
 rcases run_next_at (P := P) w2 t2 w.heap.size Lm.blk clock c0 seen ES clock hr2 g1 hold' hc0 with ⟨hz, hrun⟩ | ⟨e, he, w3, hw3, hrun⟩
 ·-- none is left
  refine ops_val rfl (x_next ev11 hrun) (ops_val rfl (x_extract (eval_put (by omega)) (v := .bool false) rfl) (ops_seq ?_))
  refine wp_seq (wp_cond_false (eval_put (by rw [size_put]; omega)) (wp_exit ?_))
  have hall : ∀ x ∈ es, x.2.2 ∈ seen.toList := fun x hx => by
   obtain ⟨i, hi⟩ := List.mem_iff_getElem?.1 hx
   obtain ⟨y, y1, y2⟩ := g3 i x hi
   have hemp : leftOf ES seen = #[] := Array.eq_empty_of_size_eq_zero hz
   have hy : y ∈ ES := Array.mem_of_getElem? y1
   have := (Array.filter_eq_empty_iff.1 hemp) y hy
   rw [y2.2.2]
   simpa using this
  have hHe := hend seen.toList hall hseen
  rw [hHe] at S2 V2
  have hres' : (results fn ((a.put (some 12) (.tuple #[.bool false])).put (some 13) (.bool false)).tmps).run P w2 = .ok (.tuple #[]) w2 := by
   simp [results, hres]
  simp only [Exit.then, Exit.inBlock, if_true]
  exact ⟨hd2, _, hres', m2, _, rfl, rfl, S2, V2⟩
 ·-- one that is left
  obtain ⟨hmem, hns⟩ : e ∈ ES.toList ∧ e.born ∉ seen.toList := by
   simp only [leftOf, Array.toList_filter, List.mem_filter] at he
   exact ⟨he.1, by simpa using he.2⟩
  obtain ⟨x, hx, y1, y2, y3⟩ := back e hmem
  rw [← y3] at hns
  have hwk3 : Walk w3 w.heap.size := by rcases hw3 with rfl | rfl <;> exact hwk
  have S3 : Sim G m2 (Hs seen.toList) w3 := by
   rcases hw3 with rfl | rfl
   ·exact S2
   ·exact S2.world fun b L _ _ => rfl
  have V3 : Evo m h w m2 (Hs seen.toList) w3 := by
   rcases hw3 with rfl | rfl
   ·exact V2
   ·exact ⟨V2.mono, V2.len, V2.un, V2.os, V2.out, V2.size, V2.frame, V2.own⟩
  have hlt3 : w.heap.size < w3.heap.size := by
   have : w.heap.size < w2.heap.size := (Array.getElem?_eq_some_iff.1 hr2).1
   rcases hw3 with rfl | rfl <;> exact this
  have g13 : w3.heap[Lm.blk]? = some (.map ES clock) := by rcases hw3 with rfl | rfl <;> exact g1
  have hne : Lm.blk ≠ w.heap.size := S2.apart_walk hwk e2 ⟨_, hHm _, rfl⟩
  obtain ⟨w4, hw4⟩ : ∃ w4, w4 = w3.putObj w.heap.size (.mapIter (some Lm.blk) clock (seen.push e.born) clock) := ⟨_, rfl⟩
  have S4 : Sim G m2 (Hs seen.toList) w4 := by rw [hw4]; exact S3.putWalk hwk3 _
  have V4 : Evo m h w m2 (Hs seen.toList) w4 := by rw [hw4]; exact V3.putObj (Nat.le_refl _) _
  have r4 : w4.heap[w.heap.size]? = some (.mapIter (some Lm.blk) clock (seen.push e.born) clock) := by rw [hw4]; exact World.putObj_heap_same hlt3
  have g14 : w4.heap[Lm.blk]? = some (.map ES clock) := by rw [hw4, World.putObj_heap_other hne]; exact g13
  have hrun' : (Instr.next (.pointer (some ⟨w.heap.size, 0, none⟩)) false t2).run P w2 = .ok (.tuple #[.bool true, e.key, e.val]) w4 := by rw [hw4]; exact hrun
  have hen := run_entry_at (P := P) w4 w.heap.size Lm.blk clock seen ES clock e r4 g14 hmem (by rw [hborn]; exact hnd)
  refine ops_val rfl (x_next ev11 hrun') (ops_val rfl (x_extract (eval_put (by omega)) (v := .bool true) rfl) (ops_seq ?_))
  refine wp_seq (wp_cond_true (eval_put (by rw [size_put]; omega)) (wp_skip ?_))
  show Code.wp P _ _ _ w4
  refine wp_block (wp_seq (wp_region ?_))
  show wpOps P _ _ [0, 1, 2, 3, 4] _ w4
  have ev11' : ((a.put (some 12) (.tuple #[.bool true, e.key, e.val])).put (some 13) (.bool true)).eval (.tmp 11) = .pointer (some ⟨w.heap.size, 0, none⟩) := by
   rw [eval_put_ne (by omega), eval_put_ne (by omega)]; exact ev11
  refine ops_val rfl (x_entry ev11' hen) ?_
  refine ops_val rfl (x_extract (eval_put (by rw [size_put, size_put]; omega)) (v := e.key) rfl) ?_
  refine ops_val rfl (x_extract (i := 1) (v := e.val) ((eval_put_ne (by omega)).trans (eval_put (by rw [size_put, size_put]; omega))) rfl) ?_
  refine ops_val rfl (x_assign (v := e.key) ((eval_put_ne (by omega)).trans (eval_put (by rw [size_put, size_put, size_put]; omega)))) ?_
  refine ops_val rfl (x_assign (v := e.val) ((eval_put_ne (by omega)).trans (eval_put (by rw [size_put, size_put, size_put, size_put]; omega)))) (ops_seq ?_)
  obtain ⟨n, e', hev, hkeep⟩ := hstep seen.toList x hx hns hseen
  have R4 : ER G m2 fn.ntmps ((8, x.1) :: (9, x.2.1) :: base) (((((((a.put (some 12) (.tuple #[.bool true, e.key, e.val])).put (some 13) (.bool true)).put (some 14) (.tuple #[e.key, e.val])).put (some 15) e.key).put (some 16) e.val).put (some 8) e.key).put (some 9) e.val) := by
   refine ⟨by simp only [size_put]; exact hsz2, fun i v hi => ?_⟩
   simp only [Env.get] at hi
   split at hi
   ·rename_i h8
    subst h8
    obtain rfl := Option.some.inj hi
    refine ⟨_, y1, ?_⟩
    simp only [Act.put]
    rw [Array.getElem?_setIfInBounds_ne (by omega), Array.getElem?_setIfInBounds_self_of_lt (by simp; omega)]
   ·split at hi
    ·rename_i h9
     subst h9
     obtain rfl := Option.some.inj hi
     refine ⟨_, y2, ?_⟩
     simp only [Act.put]
     rw [Array.getElem?_setIfInBounds_self_of_lt (by simp; omega)]
    ·obtain ⟨rv, z1, z2⟩ := R2.get i v hi
     refine ⟨rv, z1, ?_⟩
     have hi16 : i < 8 ∨ i = 11 := by
      rcases hbase i v hi with q | q
      ·exact .inl q.1
      ·exact .inr q.1
     have n8 : i ≠ 8 := by omega
     have n9 : i ≠ 9 := by omega
     have n16 : i ≠ 16 := by omega
     have n15 : i ≠ 15 := by omega
     have n14 : i ≠ 14 := by omega
     have n13 : i ≠ 13 := by omega
     have n12 : i ≠ 12 := by omega
     exact (get_put_ne n9).trans ((get_put_ne n8).trans ((get_put_ne n16).trans ((get_put_ne n15).trans ((get_put_ne n14).trans ((get_put_ne n13).trans ((get_put_ne n12).trans z2))))))
  refine code_wp hmix hG hC hL n c8 s8 hM m2 _ _ _ w4 _ _ _ _ hev R4 S4 fun m5 a5 w5 R5 D5 S5 V5 => ?_
  simp only [Exit.then, Exit.inBlock, Ex.go]
  have hwk4 : Walk w4 w.heap.size := ⟨_, r4, by simp, by simp, by simp⟩
  have hpush : (seen.push e.born).toList = seen.toList ++ [x.2.2] := by rw [Array.toList_push, y3]
  have R6 : ER G m5 fn.ntmps base a5 := ⟨R5.size, fun i v hi => R5.get i v (hkeep i v hi)⟩
  have V6 := V4.trans V5
  have D6 : a5.defers = [] := by
   rw [D5]
   simp only [defers_put]
   exact hd2
  have r5 : w5.heap[w.heap.size]? = some (.mapIter (some Lm.blk) clock (seen.push e.born) clock) := by rw [Evo.walk S4 V5 hwk4]; exact r4
  have hs5 : ∀ b ∈ (seen.push e.born).toList, ∃ y ∈ es, y.2.2 = b := fun b hb => by
   rw [hpush, List.mem_append] at hb
   rcases hb with hb | hb
   ·exact hseen b hb
   ·exact ⟨x, hx, (List.mem_singleton.1 hb).symm⟩
  rw [← hpush] at S5 V6
  refine ⟨_, leftE_lt hx hns, m5, seen.push e.born, clock, ?_, Mp.le_trans hle2 V5.mono, R6, D6, S5, V6, r5, Nat.le_refl _, hs5⟩
  rw [hpush]
end
end Go.Cl
