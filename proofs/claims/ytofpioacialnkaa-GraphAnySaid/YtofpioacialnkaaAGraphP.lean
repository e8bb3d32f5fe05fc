/-
  Layer 18: 'Prios' comes to the least closed priorities.
-/
import Derived.Test.YtofpioacialnkaaAGraph
namespace Go.Cl
open Go
set_option linter.unusedSimpArgs false
set_option linter.unusedVariables false

variable {p : PP}

/-- a loop, by what holds of the slots that live through it -/
theorem W_loop2 {live : List Nat} {b : SCode} {Q : Ex → Env → Heap → Prop} (I : Nat → Env → Heap → Prop)
    (step : ∀ m e h, I m e h → W p b e h fun x e' h' => match x with | .normal => ∃ m', m' < m ∧ I m' (Env.only live e') h' | x => Q x e' h')
    (m : Nat) {e : Env} {h : Heap} (hI : I m (Env.only live e) h) : W p (.loop live b) e h Q :=
  W_loop (fun m e h => I m (Env.only live e) h) (fun m e h hi => (step m _ h hi)) m hI

/-- an element of a slice of one's own: read, and written -/
theorem Own.elem {h : Heap} {v : CV} {l : List CV} (o : Own h v l) {i : Nat} (hi : i < l.length) {k : IntKind} : ∃ b, v.blk = some b ∧ idxAddrV 1 v (.int k (i : Int)) = some (.ptr b i) ∧ loadAt h b i none = some l[i] ∧
    ∀ val, val.scalar = true → ∃ h', storeAt h b i [val] = some h' ∧ Own h' v (l.set i val) ∧ Keep (fun b => v.blk = some b) h h' ∧ h'.length = h.length := by
  rcases o with ⟨rfl, rfl⟩ | ⟨b, st, rfl, h1, h2⟩
  · simp at hi
  · refine ⟨b, rfl, ?_, ?_, fun val hv => ⟨h.set b (.arr (l.set i val) st), ?_, .inr ⟨b, st, by simp, get_set_self (lt_of_get h1), h2⟩, Keep.set _ _ rfl, by simp⟩⟩
    · rw [idxAddrV_sl, if_pos ⟨by omega, by omega⟩]; simp
    · rw [ld h1, List.getElem?_eq_getElem hi]
    · simp only [storeAt, h1]
      rw [if_pos ⟨h2, by simp; omega, by simp [hv]⟩, splice_set hi]

theorem Own.keep {S : Nat → Prop} {h h' : Heap} {v : CV} {l : List CV} (o : Own h v l) (k : Keep S h h') (hS : ∀ b, v.blk = some b → ¬ S b) : Own h' v l := by
  rcases o with o | ⟨b, st, rfl, h1, h2⟩
  · exact .inl o
  · exact .inr ⟨b, st, rfl, k.at h1 (hS b rfl), h2⟩

def lift (base least : List Int) : List Int := base.mapIdx fun i x => if i < least.length then max x (least.getD i 0) else x
@[simp] theorem lift_length {a b : List Int} : (lift a b).length = a.length := by simp [lift]
@[simp] theorem lift_nil {a : List Int} : lift a [] = a := by
  apply List.ext_getElem (by simp)
  intro i h1 h2; simp [lift]

def PInv1 (v1 v2 out : CV) (base least : List Int) (hC : Heap) (m : Nat) (e : Env) (h' : Heap) : Prop :=
  ∃ (i : Nat) (L : List Int), i ≤ base.length ∧ m = base.length - i ∧ e = [(1, v1), (2, v2), (7, out), (15, .int .i64 base.length), (16, .int .i64 i)] ∧ Keep (fun b => out.blk = some b) hC h' ∧ Own h' out (ints .i64 L) ∧
    L.length = base.length ∧ ∀ j, j < base.length → L[j]? = if j < i then (lift base least)[j]? else base[j]?

def PInv2 (v2 out : CV) (B : List Int) (E : List (Int × Int)) (hC : Heap) (m : Nat) (e : Env) (h' : Heap) : Prop :=
  ∃ (L : List Int), m = far (top B) L ∧ e = [(2, v2), (7, out)] ∧ Keep (fun b => out.blk = some b) hC h' ∧ Own h' out (ints .i64 L) ∧ OnWay B E L

def PInv4 (v2 out : CV) (B : List Int) (E : List (Int × Int)) (hC : Heap) (L0 : List Int) (m : Nat) (e : Env) (h' : Heap) : Prop :=
  ∃ (j : Nat) (L : List Int) (more : Bool), j ≤ E.length ∧ m = E.length - j ∧ e = [(2, v2), (7, out), (9, .bool more), (36, v2), (37, .int .i64 E.length), (38, .int .i64 j)] ∧
    Keep (fun b => out.blk = some b) hC h' ∧ Own h' out (ints .i64 L) ∧ OnWay B E L ∧ (more = true → far (top B) L < far (top B) L0) ∧ (more = false → L = L0 ∧ ∀ x ∈ E.take j, okE L.length x → getI L x.1 ≤ getI L x.2)

theorem prios_spec {h : Heap} {v0 v1 v2 : CV} {base least : List Int} {E : List (Int × Int)} (h17 : p.Pg 17 = some S.f17) (q17 : p.pr 17 = none) (h55 : p.Pg 55 = some S.f55) (q55 : p.pr 55 = none) (h56 : p.Pg 56 = some S.f56) (q56 : p.pr 56 = none)
    (r0 : Read h 1 v0 (ints .i64 base)) (r1 : Read h 1 v1 (ints .i64 least)) (r2 : Read h 2 v2 (pairs E)) (hb : base.length ≤ big) (hE : E.length ≤ big) :
    WF p 17 [v0, v1, v2] h fun r h' => ∃ L, Own h' r (ints .i64 L) ∧ IsPrios (lift base least) E L ∧ Keep (fun _ => False) h h' ∧ ∀ b, r.blk = some b → h.length ≤ b := by
  refine WF_of h17 q17 ?_
  show W p S.b17 _ _ (retQ [.t 6] _)
  unfold S.b17
  simp
  refine (clone_spec h55 q55 r0 hb).mono ?_
  rintro out hC ⟨o1, k1, hout⟩
  have n1 := readI_len o1.read
  simp [n1]
  have ho1 : ∀ b, out.blk = some b → ¬ b < h.length := fun b e => by have := hout b e; omega
  have hbb : (base.length : Int) ≤ 4294967296 := by simp [big] at hb; omega
  have hEE : (E.length : Int) ≤ 4294967296 := by simp [big] at hE; omega
  refine W_loop (PInv1 v1 v2 out base least hC) ?_ base.length ⟨0, base, by omega, by omega, rfl, Keep.refl _ _, o1, rfl, fun j hj => by simp⟩
  rintro m e h' ⟨i, L, hi, rfl, rfl, k2, o2, hL, hLi⟩
  have kk : Keep (fun _ => False) h h' := k1.then k2 fun j hj e => ho1 j e hj
  have nl := readI_len (r1.keep kk fun _ _ => id)
  by_cases hib : i = base.length
  · subst hib
    have hLB : L = lift base least := by
      apply List.ext_getElem? 
      intro j
      by_cases hj : j < base.length
      · rw [hLi j hj, if_pos hj]
      · rw [List.getElem?_eq_none (by omega), List.getElem?_eq_none (by simp; omega)]
    subst hLB
    simp
    generalize hB : lift base least = B at *
    refine W_loop2 (PInv2 v2 out B E hC) ?_ (far (top B) B) ⟨B, rfl, by simp, k2, o2, OnWay.start B E⟩
    rintro m e h2 ⟨L0, rfl, rfl, k3, o3, w3⟩
    have nE : lenV h2 .sl v2 = some (.int .i64 (E.length : Int)) := by
      have := (r2.keep (k1.then k3 fun j hj e => ho1 j e hj) fun _ _ => id).len (by decide)
      rw [pairs_length] at this; simpa using this
    simp [nE]
    refine W_loop (PInv4 v2 out B E hC L0) ?_ E.length ⟨0, L0, false, by omega, by omega, rfl, k3, o3, w3, by simp, fun _ => ⟨rfl, by simp⟩⟩
    rintro m e h3 ⟨j, L, more, hj, rfl, rfl, k4, o4, w4, hm1, hm2⟩
    by_cases hjE : j = E.length
    · subst hjE
      cases more with
      | true =>
        simp
        exact ⟨far (top B) L, hm1 rfl, L, rfl, by simp, k4, o4, w4⟩
      | false =>
        obtain ⟨rfl, hcl⟩ := hm2 rfl
        simp
        exact ⟨L, o4, ⟨w4, fun x hx => hcl x (by simpa using hx)⟩, k1.then k4 fun j hj e => ho1 j e hj, hout⟩
    · have hjlt : j < E.length := by omega
      have hjlt' : (j : Int) < E.length := by omega
      obtain ⟨a, b, hab⟩ : ∃ a b, E[j] = (a, b) := ⟨E[j].1, E[j].2, rfl⟩
      obtain ⟨be, oe, y1, y2, y3⟩ := (r2.keep (k1.then k4 fun j hj e => ho1 j e hj) fun _ _ => id).row (i := j) (k := .i64) (by rw [pairs_length]; omega) (by decide)
      rw [pairs_row hjlt, hab] at y3
      have hst : storeAt (h3 ++ [.arr [.int .i64 0, .int .i64 0] .tight]) h3.length 0 [.int .i64 a, .int .i64 b] = some (h3 ++ [.arr [.int .i64 a, .int .i64 b] .tight]) := by
        simp [storeAt, splice, CV.scalar]
      have hw : IntKind.i64.wrap ((j : Int) + 1) = ((j + 1 : Nat) : Int) := by rw [w64 (by omega) (by omega)]; omega
      have hmem : (a, b) ∈ E := by rw [← hab]; exact List.getElem_mem hjlt
      have kap : Keep (fun _ => False) h3 (h3 ++ [.arr [.int .i64 a, .int .i64 b] .tight]) := Keep.app _ _ _
      have gl : loadAt (h3 ++ [.arr [.int .i64 a, .int .i64 b] .tight]) h3.length 0 (some 2) = some (.agg [.int .i64 a, .int .i64 b]) := by simp [loadAt]
      have n4 := readI_len (o4.keep kap fun _ _ => id).read
      simp [hjlt', y1, y3, CV.cells, fits, hst, gl, n4]
      refine (in_spec h56 q56).mono ?_
      rintro r h5 ⟨rfl, k5⟩
      have o5 := (o4.keep kap fun _ _ => id).keep k5 fun _ _ => id
      have e5 : h5[h3.length]? = some (.arr [.int .i64 a, .int .i64 b] .tight) := k5.at get_new id
      have l5 := ld e5
      have kk5 : Keep (fun b => out.blk = some b) hC h5 := (k4.then kap fun _ _ e => e.elim).then k5 fun _ _ e => e.elim
      have htake : E.take (j + 1) = E.take j ++ [(a, b)] := by rw [← hab]; exact (List.take_append_getElem hjlt).symm
      have stay : ∀ (hno : okE L.length (a, b) → getI L a ≤ getI L b), ∃ m', m' < E.length - j ∧ PInv4 v2 out B E hC L0 m' [(2, v2), (7, out), (9, .bool more), (36, v2), (37, .int .i64 E.length), (38, .int .i64 ((j + 1 : Nat) : Int))] h5 := by
        intro hno
        refine ⟨E.length - (j + 1), by omega, j + 1, L, more, by omega, rfl, rfl, kk5, o5, w4, hm1, fun hmf => ?_⟩
        obtain ⟨q1, q2⟩ := hm2 hmf
        refine ⟨q1, fun x hx hox => ?_⟩
        rw [htake] at hx
        rcases List.mem_append.1 hx with hx | hx
        · exact q2 x hx hox
        · simp at hx; subst hx; exact hno hox
      by_cases hok : okE L.length (a, b)
      · have hok' := hok
        obtain ⟨z1, z2, z3, z4⟩ := hok'
        simp only at z1 z2 z3 z4
        obtain ⟨an, rfl⟩ := Int.eq_ofNat_of_zero_le z1
        obtain ⟨bn, rfl⟩ := Int.eq_ofNat_of_zero_le z3
        have han : an < L.length := by omega
        have hbn : bn < L.length := by omega
        obtain ⟨b1, u1, u2, u3, u4⟩ := o5.elem (i := an) (k := .i64) (by simpa using han)
        obtain ⟨b2, w1, w2, w3, wp4⟩ := o5.elem (i := bn) (k := .i64) (by simpa using hbn)
        simp only [ints, List.getElem_map] at u3 w3
        have ga : getI L an = L[an] := by simp [getI, List.getD, han]
        have gb : getI L bn = L[bn] := by simp [getI, List.getD, hbn]
        by_cases hlt : L[bn] < L[an]
        · obtain ⟨h6, s1, s2, s3, s4⟩ := wp4 (.int .i64 L[an]) rfl
          simp [z2, z4, l5, u2, u3, w2, w3, hlt, s1, CV.cells, fits, hw]
          have wl := w4.lend hmem hok (by simp only [ga, gb]; exact hlt)
          have hset : (ints .i64 L).set bn (.int .i64 L[an]) = ints .i64 (L.set bn L[an]) := by unfold ints; rw [List.map_set]
          rw [hset] at s2
          simp only [ga, Int.toNat_natCast] at wl
          have hfar : far (top B) (L.set bn L[an]) < far (top B) L := by
            refine far_set hbn (by simpa [List.getD, hbn] using hlt) ?_
            obtain ⟨q, hq, hqe⟩ := w4.src an han
            have := le_top hq
            rw [← hqe] at this
            simpa [List.getD, han] using this
          refine ⟨E.length - (j + 1), by omega, j + 1, L.set bn L[an], true, by omega, rfl, rfl, kk5.trans s3, s2, wl, fun _ => ?_, by simp⟩
          cases more with
          | true => exact Nat.lt_trans hfar (hm1 rfl)
          | false => rw [← (hm2 rfl).1]; exact hfar
        · simp [z2, z4, l5, u2, u3, w2, w3, hlt, hw]
          exact stay fun _ => by simp only [ga, gb]; omega
      · have hdec : decide (0 ≤ a ∧ a < (L.length : Int) ∧ 0 ≤ b ∧ b < (L.length : Int)) = false := decide_eq_false hok
        rw [hdec]
        simp [hw]
        exact stay fun h => absurd h hok
  · have hlt : i < base.length := by omega
    have hlt' : (i : Int) < base.length := by omega
    have hw : IntKind.i64.wrap ((i : Int) + 1) = ((i + 1 : Nat) : Int) := by rw [w64 (by omega) (by omega)]; omega
    have hiL : i < L.length := by omega
    obtain ⟨b2, w1, w2, w3, w4⟩ := o2.elem (i := i) (k := .i64) (by simpa using hiL)
    simp only [ints, List.getElem_map] at w3
    have hLb : L[i] = base[i] := by
      have := hLi i hlt
      simpa [List.getElem?_eq_getElem hiL, List.getElem?_eq_getElem hlt] using this
    have hlift : (lift base least)[i]? = some (if i < least.length then max base[i] (least.getD i 0) else base[i]) := by simp [lift, hlt]
    by_cases hil : i < least.length
    · have hil' : (i : Int) < least.length := by omega
      obtain ⟨bl, ol, x1, x2, x3⟩ := readI_idx (k' := .i64) (r1.keep kk fun _ _ => id) hil
      obtain ⟨mv, hmv⟩ : ∃ mv, mv = max base[i] (least.getD i 0) := ⟨_, rfl⟩
      have hmx : mxL [.int .i64 L[i], .int .i64 least[i]] = some (.int .i64 mv) := by
        have : least.getD i 0 = least[i] := by simp [List.getD, hil]
        rw [hmv, this, hLb]
        simp [mxL, mxR]
        split <;> omega
      obtain ⟨h6, s1, s2, s3, s4⟩ := w4 (.int .i64 mv) rfl
      simp [hlt', nl, hil', w2, w3, x1, x3, hmx, s1, CV.cells, fits, hw]
      have hset : (ints .i64 L).set i (.int .i64 mv) = ints .i64 (L.set i mv) := by unfold ints; rw [List.map_set]
      rw [hset] at s2
      refine ⟨base.length - (i + 1), by omega, i + 1, L.set i mv, by omega, rfl, rfl, k2.trans s3, s2, by simpa using hL, fun j hj => ?_⟩
      by_cases hji : i = j
      · subst hji
        rw [List.getElem?_set_self hiL, if_pos (by omega), hlift, if_pos hil, hmv]
      · rw [List.getElem?_set_ne hji, hLi j hj]
        by_cases hj2 : j < i
        · rw [if_pos hj2, if_pos (by omega)]
        · rw [if_neg hj2, if_neg (by omega)]
    · have hil' : ¬ (i : Int) < least.length := by omega
      simp [hlt', nl, hil', hw]
      refine ⟨base.length - (i + 1), by omega, i + 1, L, by omega, rfl, rfl, k2, o2, hL, fun j hj => ?_⟩
      by_cases hji : i = j
      · subst hji
        rw [if_pos (by omega), hlift, if_neg hil, hLi i hlt, if_neg (by omega), List.getElem?_eq_getElem hlt]
      · rw [hLi j hj]
        by_cases hj2 : j < i
        · rw [if_pos hj2, if_pos (by omega)]
        · rw [if_neg hj2, if_neg (by omega)]
end Go.Cl
