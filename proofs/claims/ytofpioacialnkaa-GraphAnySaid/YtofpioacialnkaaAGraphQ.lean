/-
  Layer 18: what the document's 'Prios' comes to.
-/
import Derived.Test.YtofpioacialnkaaAGraphR
import Derived.Test.YtofpioacialnkaaClRep
namespace Go.Cl
open Go
set_option linter.unusedSimpArgs false
set_option linter.unusedVariables false
set_option maxHeartbeats 4000000

variable {p : PP}

def QInv1 (v1 v2 out : CV) (base least : List Int) (hC : Heap) (m : Nat) (e : Env) (h' : Heap) : Prop :=
  ∃ (i : Nat) (L : List Int), i ≤ base.length ∧ m = base.length - i ∧ e = [(1, v1), (2, v2), (7, out), (8, .int .i64 i)] ∧ Keep (fun b => out.blk = some b) hC h' ∧ Own h' out (ints .i64 L) ∧
    L.length = base.length ∧ ∀ j, j < base.length → L[j]? = if j < i then (lift base least)[j]? else base[j]?

def QInv2 (v2 out : CV) (B : List Int) (E : List (Int × Int)) (hC : Heap) (m : Nat) (e : Env) (h' : Heap) : Prop :=
  ∃ (L : List Int) (more : Bool), m = (if more then far (top B) L + 1 else 0) ∧ e = [(2, v2), (7, out), (9, .bool more)] ∧ Keep (fun b => out.blk = some b) hC h' ∧ Own h' out (ints .i64 L) ∧ OnWay B E L ∧ (more = false → ClosedE E L)

def QInv4 (v2 out : CV) (B : List Int) (E : List (Int × Int)) (hC : Heap) (L0 : List Int) (m : Nat) (e : Env) (h' : Heap) : Prop :=
  ∃ (j : Nat) (L : List Int) (more : Bool), j ≤ E.length ∧ m = E.length - j ∧ e = [(2, v2), (7, out), (9, .bool more), (10, .int .i64 j)] ∧
    Keep (fun b => out.blk = some b) hC h' ∧ Own h' out (ints .i64 L) ∧ OnWay B E L ∧ (more = true → far (top B) L < far (top B) L0) ∧ (more = false → L = L0 ∧ ∀ x ∈ E.take j, okE L.length x → getI L x.1 ≤ getI L x.2)

/-- behind a loop: what lies in the list -/
def QM (v2 : CV) (L : List Int) (out : CV) (hC : Heap) (e : Env) (h' : Heap) : Prop :=
  e.get 2 = some v2 ∧ e.get 7 = some out ∧ Keep (fun b => out.blk = some b) hC h' ∧ Own h' out (ints .i64 L)

theorem refPrios_spec {h : Heap} {v0 v1 v2 : CV} {base least : List Int} {E : List (Int × Int)} (h19 : p.Pg 19 = some S.f19) (q19 : p.pr 19 = none)
    (r0 : Read h 1 v0 (ints .i64 base)) (r1 : Read h 1 v1 (ints .i64 least)) (r2 : Read h 2 v2 (pairs E)) (hb : base.length ≤ big) (hE : E.length ≤ big) :
    WF p 19 [v0, v1, v2] h fun r h' => ∃ L, Own h' r (ints .i64 L) ∧ IsPrios (lift base least) E L ∧ Keep NoneOf h h' ∧ ∀ b, r.blk = some b → h.length ≤ b := by
  refine WF_of h19 q19 ?_
  show W p S.b19 _ _ (retQ [.t 6] _)
  unfold S.b19
  have hbb : (base.length : Int) ≤ 4294967296 := by simp [big] at hb; omega
  have hEE : (E.length : Int) ≤ 4294967296 := by simp [big] at hE; omega
  have sp := (r0.keep (Keep.app NoneOf h [.arr [] .tight]) fun _ _ => id).spread (by decide)
  simp only [ints_length, Nat.div_one] at sp
  simp [fillC, sp]
  refine OV_more (l := []) (n := 0) (.inr ⟨h.length, 0, .tight, rfl, rfl, .inl rfl, by simp⟩) rfl (by simp) (by simp [ints]) (by decide) hb (by decide) ?_
  intro out hC o0 k0 hb0
  rw [List.nil_append] at o0
  have hout : ∀ b, out.blk = some b → h.length ≤ b := fun b e => by
    rcases hb0 b e with q | q
    · simp [CV.blk] at q; omega
    · simp at q; omega
  have k1 : Keep NoneOf h hC := (Keep.app NoneOf h _).then k0 fun b hb e => by simp [CV.blk] at e; omega
  have o1 := o0.own
  have ho1 : ∀ b, out.blk = some b → ¬ b < h.length := fun b e => by have := hout b e; omega
  simp
  refine W_toB (QM v2 (lift base least) out hC) ?_ ?_
  · refine W_loop2 (QInv1 v1 v2 out base least hC) ?_ base.length ⟨0, base, by omega, by omega, by simp, Keep.refl _ _, o1, rfl, fun j hj => by simp⟩
    rintro m e h' ⟨i, L, hi, rfl, rfl, k2, o2, hL, hLi⟩
    have kk : Keep NoneOf h h' := k1.then k2 fun j hj e => ho1 j e hj
    have nl := readI_len (r1.keep kk fun _ _ => id)
    have no := readI_len o2.read
    rw [hL] at no
    have done : (∀ j, j < base.length → i ≤ j → base[j]? = (lift base least)[j]?) → L = lift base least := by
      intro hh
      apply List.ext_getElem?
      intro j
      by_cases hj : j < base.length
      · rw [hLi j hj]
        split
        · rfl
        · exact hh j hj (by omega)
      · rw [List.getElem?_eq_none (by omega), List.getElem?_eq_none (by simp; omega)]
    by_cases hib : i = base.length
    · have hn : ¬ (i : Int) < base.length := by omega
      have hd := done fun j hj hij => by omega
      subst hd
      simp [no, hn]
      exact ⟨by simp, by simp, k2, o2⟩
    · have hlt : i < base.length := by omega
      have hlt' : (i : Int) < base.length := by omega
      have hiL : i < L.length := by omega
      by_cases hil : i < least.length
      · have hil' : (i : Int) < least.length := by omega
        have hw : IntKind.i64.wrap ((i : Int) + 1) = ((i + 1 : Nat) : Int) := by rw [w64 (by omega) (by omega)]; omega
        obtain ⟨b2, w1, w2, w3, w4⟩ := o2.elem (i := i) (k := .i64) (by simpa using hiL)
        simp only [ints, List.getElem_map] at w3
        have hLb : L[i] = base[i] := by
          have := hLi i hlt
          simpa [List.getElem?_eq_getElem hiL, List.getElem?_eq_getElem hlt] using this
        have hlift : (lift base least)[i]? = some (max base[i] least[i]) := by simp [lift, hlt, hil, List.getD]
        obtain ⟨bl, ol, x1, x2, x3⟩ := readI_idx (k' := .i64) (r1.keep kk fun _ _ => id) hil
        have step : ∀ (M : List Int) (h6 : Heap), Keep (fun b => out.blk = some b) hC h6 → Own h6 out (ints .i64 M) → M.length = base.length → (∀ j, j < base.length → M[j]? = if j = i then some (max base[i] least[i]) else L[j]?) →
            ∃ m', m' < base.length - i ∧ QInv1 v1 v2 out base least hC m' [(1, v1), (2, v2), (7, out), (8, .int .i64 ((i + 1 : Nat) : Int))] h6 := by
          intro M h6 k6 o6 hM hMj
          refine ⟨base.length - (i + 1), by omega, i + 1, M, by omega, rfl, rfl, k6, o6, hM, fun j hj => ?_⟩
          rw [hMj j hj]
          by_cases hji : j = i
          · subst hji
            rw [if_pos rfl, if_pos (by omega), hlift]
          · rw [if_neg hji, hLi j hj]
            by_cases hj2 : j < i
            · rw [if_pos hj2, if_pos (by omega)]
            · rw [if_neg hj2, if_neg (by omega)]
        by_cases hgt : L[i] < least[i]
        · obtain ⟨h6, s1, s2, s3, s4⟩ := w4 (.int .i64 least[i]) rfl
          simp [no, hlt', nl, hil', w2, w3, x1, x3, hgt, s1, hw]
          have hset : (ints .i64 L).set i (.int .i64 least[i]) = ints .i64 (L.set i least[i]) := by unfold ints; rw [List.map_set]
          rw [hset] at s2
          refine step (L.set i least[i]) h6 (k2.trans s3) s2 (by simpa using hL) fun j hj => ?_
          by_cases hji : j = i
          · subst hji
            rw [if_pos rfl, List.getElem?_set_self hiL]
            congr 1; omega
          · rw [if_neg hji, List.getElem?_set_ne (fun e => hji e.symm)]
        · simp [no, hlt', nl, hil', w2, w3, x1, x3, hgt, hw]
          refine step L h' k2 o2 hL fun j hj => ?_
          by_cases hji : j = i
          · subst hji
            rw [if_pos rfl, List.getElem?_eq_getElem hiL]
            congr 1; omega
          · rw [if_neg hji]
      · have hil' : ¬ (i : Int) < least.length := by omega
        have hd := done fun j hj hij => by
          have : ¬ j < least.length := by omega
          simp [lift, hj, this]
        subst hd
        simp [no, hlt', nl, hil']
        exact ⟨by simp, by simp, k2, o2⟩
  · rintro e h' ⟨e2, e7, k2, o2⟩
    generalize hB : lift base least = B at *
    rw [W_seq, W_seq]
    refine W_to (fun e h'' => e = [(2, v2), (7, out), (9, .bool true)] ∧ h'' = h') ?_ ?_
    · rw [W_ops]; simp [e2, e7]
    rintro e h'' ⟨rfl, rfl⟩
    simp
    refine W_loop2 (QInv2 v2 out B E hC) ?_ (far (top B) B + 1) ⟨B, true, by simp, by simp, k2, o2, OnWay.start B E, by simp⟩
    rintro m e h2 ⟨L0, mo, rfl, rfl, k3, o3, w3, hc3⟩
    cases mo with
    | false =>
      simp
      exact ⟨L0, o3, ⟨w3, hc3 rfl⟩, k1.then k3 fun j hj e => ho1 j e hj, hout⟩
    | true =>
    simp
    refine W_loop2 (QInv4 v2 out B E hC L0) ?_ E.length ⟨0, L0, false, by omega, by omega, by simp, k3, o3, w3, by simp, fun _ => ⟨rfl, by simp⟩⟩
    rintro m e h3 ⟨j, L, more, hj, rfl, rfl, k4, o4, w4, hm1, hm2⟩
    have e4 := r2.keep (k1.then k4 fun j hj e => ho1 j e hj) fun _ _ => id
    have nE : lenV h3 .sl v2 = some (.int .i64 (E.length : Int)) := by
      have := e4.len (by decide)
      rw [pairs_length] at this; simpa using this
    by_cases hjE : j = E.length
    · subst hjE
      cases more with
      | true =>
        simp [nE]
        exact ⟨far (top B) L + 1, by have := hm1 rfl; omega, L, true, by simp, by simp, k4, o4, w4, by simp⟩
      | false =>
        obtain ⟨rfl, hcl⟩ := hm2 rfl
        simp [nE]
        exact ⟨0, by omega, L, false, by simp, by simp, k4, o4, w4, fun _ x hx => hcl x (by simpa using hx)⟩
    · have hjlt : j < E.length := by omega
      have hjlt' : (j : Int) < E.length := by omega
      obtain ⟨a, b, hab⟩ : ∃ a b, E[j] = (a, b) := ⟨E[j].1, E[j].2, rfl⟩
      obtain ⟨be, oe, y1, y2, y3⟩ := e4.cell (i := j) (k := .i64) (by rw [pairs_length]; omega) (by decide)
      have z0 := y3 0 (by decide)
      have z1 := y3 1 (by decide)
      have hpr := pairs_row hjlt
      rw [hab] at hpr
      have q0 : (pairs E)[j * 2 + 0]? = some (.int .i64 a) := by
        have := congrArg (fun l => l[0]?) hpr
        simpa [List.getElem?_take, List.getElem?_drop] using this
      have q1 : (pairs E)[j * 2 + 1]? = some (.int .i64 b) := by
        have := congrArg (fun l => l[1]?) hpr
        simpa [List.getElem?_take, List.getElem?_drop] using this
      rw [q0] at z0
      rw [q1] at z1
      have hw : IntKind.i64.wrap ((j : Int) + 1) = ((j + 1 : Nat) : Int) := by rw [w64 (by omega) (by omega)]; omega
      have hmem : (a, b) ∈ E := by rw [← hab]; exact List.getElem_mem hjlt
      have n4 := readI_len o4.read
      have htake : E.take (j + 1) = E.take j ++ [(a, b)] := by rw [← hab]; exact (List.take_append_getElem hjlt).symm
      have stay : ∀ (hno : okE L.length (a, b) → getI L a ≤ getI L b), ∃ m', m' < E.length - j ∧ QInv4 v2 out B E hC L0 m' [(2, v2), (7, out), (9, .bool more), (10, .int .i64 ((j + 1 : Nat) : Int))] h3 := by
        intro hno
        refine ⟨E.length - (j + 1), by omega, j + 1, L, more, by omega, rfl, rfl, k4, o4, w4, hm1, fun hmf => ?_⟩
        obtain ⟨q1, q2⟩ := hm2 hmf
        refine ⟨q1, fun x hx hox => ?_⟩
        rw [htake] at hx
        rcases List.mem_append.1 hx with hx | hx
        · exact q2 x hx hox
        · simp at hx; subst hx; exact hno hox
      simp at z0 z1
      by_cases c1 : a < 0
      · simp [nE, hjlt', y1, z0, z1, c1, hw]
        exact stay fun ho => absurd ho.1 (by simp only; omega)
      by_cases c2 : (L.length : Int) ≤ a
      · simp [nE, hjlt', y1, z0, z1, c1, n4, c2, hw]
        exact stay fun ho => absurd ho.2.1 (by simp only; omega)
      by_cases c3 : b < 0
      · simp [nE, hjlt', y1, z0, z1, c1, n4, c2, c3, hw]
        exact stay fun ho => absurd ho.2.2.1 (by simp only; omega)
      by_cases c4 : (L.length : Int) ≤ b
      · simp [nE, hjlt', y1, z0, z1, c1, n4, c2, c3, c4, hw]
        exact stay fun ho => absurd ho.2.2.2 (by simp only; omega)
      have hok : okE L.length (a, b) := ⟨by simp only; omega, by simp only; omega, by simp only; omega, by simp only; omega⟩
      obtain ⟨an, rfl⟩ := Int.eq_ofNat_of_zero_le (Int.not_lt.1 c1)
      obtain ⟨bn, rfl⟩ := Int.eq_ofNat_of_zero_le (Int.not_lt.1 c3)
      have han : an < L.length := by omega
      have hbn : bn < L.length := by omega
      have c2' : ¬ L.length ≤ an := by omega
      have c4' : ¬ L.length ≤ bn := by omega
      obtain ⟨b1, u1, u2, u3, u4⟩ := o4.elem (i := an) (k := .i64) (by simpa using han)
      obtain ⟨b2, w1, w2, w5, wp4⟩ := o4.elem (i := bn) (k := .i64) (by simpa using hbn)
      simp only [ints, List.getElem_map] at u3 w5
      have ga : getI L an = L[an] := by simp [getI, List.getD, han]
      have gb : getI L bn = L[bn] := by simp [getI, List.getD, hbn]
      by_cases hlt : L[bn] < L[an]
      · obtain ⟨h6, s1, s2, s3, s4⟩ := wp4 (.int .i64 L[an]) rfl
        simp [nE, hjlt', y1, z0, z1, n4, c1, c2, c3, c4, c2', c4', u2, u3, w2, w5, hlt, s1, hw]
        have wl := w4.lend hmem hok (by simp only [ga, gb]; exact hlt)
        have hset : (ints .i64 L).set bn (.int .i64 L[an]) = ints .i64 (L.set bn L[an]) := by unfold ints; rw [List.map_set]
        rw [hset] at s2
        simp only [ga, Int.toNat_natCast] at wl
        have hfar : far (top B) (L.set bn L[an]) < far (top B) L := by
          refine far_set hbn (by simpa [List.getD, hbn] using hlt) ?_
          obtain ⟨q, hq, hqe⟩ := w4.src an han
          have := le_top hq
          rw [← hqe] at this
          simpa [List.getD, han] using this
        refine ⟨E.length - (j + 1), by omega, j + 1, L.set bn L[an], true, by omega, rfl, by simp, k4.trans s3, s2, wl, fun _ => ?_, by simp⟩
        cases more with
        | true => exact Nat.lt_trans hfar (hm1 rfl)
        | false => rw [← (hm2 rfl).1]; exact hfar
      · simp [nE, hjlt', y1, z0, z1, n4, c1, c2, c3, c4, c2', c4', u2, u3, w2, w5, hlt, hw]
        exact stay fun _ => by simp only [ga, gb]; omega

/-! ### is a number among some; edges turned -/

def AmInv (v : CV) (k : Int) (l : List Int) (h : Heap) (m : Nat) (e : Env) (h' : Heap) : Prop :=
  ∃ i : Nat, i ≤ l.length ∧ m = l.length - i ∧ e = [(0, v), (1, .int .i64 k), (5, .int .i64 i)] ∧ h' = h ∧ k ∉ l.take i

theorem among_spec {h : Heap} {v : CV} {l : List Int} {k : Int} (h58 : p.Pg 58 = some S.f58) (q58 : p.pr 58 = none) (r : Read h 1 v (ints .i64 l)) (hb : l.length ≤ big) :
    WF p 58 [v, .int .i64 k] h fun r h' => r = .bool (decide (k ∈ l)) ∧ h' = h := by
  refine WF_of h58 q58 ?_
  show W p S.b58 _ _ (retQ [.t 4] _)
  unfold S.b58
  have hbb : (l.length : Int) ≤ 4294967296 := by simp [big] at hb; omega
  have n0 := readI_len r
  simp
  refine W_loop (AmInv v k l h) ?_ l.length ⟨0, by omega, by omega, rfl, rfl, by simp⟩
  rintro m e h1 ⟨i, hi, rfl, rfl, rfl, hno⟩
  by_cases hil : i = l.length
  · subst hil
    rw [List.take_length] at hno
    simp [n0, hno]
  · have hlt : i < l.length := by omega
    have hlt' : (i : Int) < l.length := by omega
    obtain ⟨b, o, x1, x2, x3⟩ := readI_idx (k' := .i64) r hlt
    have hw : IntKind.i64.wrap ((i : Int) + 1) = ((i + 1 : Nat) : Int) := by rw [w64 (by omega) (by omega)]; omega
    by_cases he : l[i] = k
    · have : k ∈ l := by rw [← he]; exact List.getElem_mem hlt
      simp [n0, hlt', x1, x3, he, this]
    · simp [n0, hlt', x1, x3, he, hw]
      refine ⟨l.length - (i + 1), by omega, i + 1, by omega, rfl, rfl, rfl, ?_⟩
      rw [← List.take_append_getElem hlt]
      intro hk
      rcases List.mem_append.1 hk with hk | hk
      · exact hno hk
      · simp at hk; exact he hk.symm

def Of18Inv (v : CV) (E : List (Int × Int)) (h : Heap) (m : Nat) (e : Env) (h' : Heap) : Prop :=
  ∃ (i : Nat) (ov : CV), i ≤ E.length ∧ m = E.length - i ∧ e = [(0, v), (3, ov), (4, .int .i64 i)] ∧ Keep NoneOf h h' ∧ Mine h' 2 ov (pairs (E.take i)) ∧ ∀ b, ov.blk = some b → h.length ≤ b

theorem of18_spec {h : Heap} {v : CV} {E : List (Int × Int)} (h18 : p.Pg 18 = some S.f18) (q18 : p.pr 18 = none) (r : Read h 2 v (pairs E)) (hb : E.length ≤ big) :
    WF p 18 [v] h fun r h' => Keep NoneOf h h' ∧ Read h' 2 r (pairs E) := by
  refine WF_of h18 q18 ?_
  show W p S.b18 _ _ (retQ [.t 2] _)
  unfold S.b18
  have hbb : (E.length : Int) ≤ 4294967296 := by simp [big] at hb; omega
  simp
  refine W_loop (Of18Inv v E h) ?_ E.length ⟨0, .nils, by omega, by omega, rfl, Keep.refl _ _, .inl ⟨rfl, by simp [pairs]⟩, by simp [CV.blk]⟩
  rintro m e h1 ⟨i, ov, hi, rfl, rfl, k1, ow, hov⟩
  have e1 := r.keep k1 fun _ _ => id
  have nE : lenV h1 .sl v = some (.int .i64 (E.length : Int)) := by
    have := e1.len (by decide)
    rw [pairs_length] at this; simpa using this
  by_cases hil : i = E.length
  · subst hil
    rw [List.take_length] at ow
    simp [nE]
    exact ⟨k1, ow.read⟩
  · have hlt : i < E.length := by omega
    have hlt' : (i : Int) < E.length := by omega
    obtain ⟨a, b, hab⟩ : ∃ a b, E[i] = (a, b) := ⟨E[i].1, E[i].2, rfl⟩
    obtain ⟨be, oe, y1, y2, y3⟩ := e1.cell (i := i) (k := .i64) (by rw [pairs_length]; omega) (by decide)
    have z0 := y3 0 (by decide)
    have z1 := y3 1 (by decide)
    have hpr := pairs_row hlt
    rw [hab] at hpr
    have q0 : (pairs E)[i * 2 + 0]? = some (.int .i64 a) := by
      have := congrArg (fun l => l[0]?) hpr
      simpa [List.getElem?_take, List.getElem?_drop] using this
    have q1 : (pairs E)[i * 2 + 1]? = some (.int .i64 b) := by
      have := congrArg (fun l => l[1]?) hpr
      simpa [List.getElem?_take, List.getElem?_drop] using this
    rw [q0] at z0
    rw [q1] at z1
    simp at z0 z1
    have hw : IntKind.i64.wrap ((i : Int) + 1) = ((i + 1 : Nat) : Int) := by rw [w64 (by omega) (by omega)]; omega
    simp [nE, hlt', y1, z0, z1, fillC, splice, spread, cellsAt]
    refine OV_more (n := i) (ow.keep (Keep.app NoneOf _ _) fun _ _ => id) (by rw [pairs_length]; simp; omega) rfl rfl (by omega) (by decide) (by decide) ?_
    intro v' h2 o2 k2 hb2
    simp [hw]
    refine ⟨E.length - (i + 1), by omega, i + 1, v', by omega, rfl, rfl, (k1.trans (Keep.app NoneOf _ _)).then k2 fun b hb e => by have := hov b e; omega, ?_, fun b hb => ?_⟩
    · have : pairs (E.take (i + 1)) = pairs (E.take i) ++ [.int .i64 a, .int .i64 b] := by
        rw [← List.take_append_getElem hlt, pairs_append, hab]; rfl
      rw [this]; exact o2
    · rcases hb2 b hb with q | q
      · exact hov b q
      · have := k1.len; simp at q; omega

end Go.Cl
