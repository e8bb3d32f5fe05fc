/-
  Texts laid together: AFin ClLibF.
-/
import Derived.Test.YtlndogibbgibgaaGreatDoorMF
import Derived.Test.YtlndogibbgibgaaGreatDoorM4
namespace Go.Cl
open Go
set_option linter.unusedSimpArgs false
set_option linter.unusedVariables false
noncomputable section
def loadK (l : List Obj) : HT → (HT → Bool) → Bool := List.rec (fun t k => k t) (fun o _ ih t k => pushK t o fun _ t' => ih t' k) l
theorem loadK_snd : ∀ {l : List Obj} {t : HT} {h : Heap} {k : HT → Bool}, Rep t h → loadK l t k = true → ∃ t', Rep t' (h ++ l) ∧ k t' = true
 | [], t, h, k, R, hk => ⟨t, by simpa using R, hk⟩
 | o :: l, t, h, k, R, hk => by
   obtain ⟨t', R', hk'⟩ := pushK_snd R (show pushK t o (fun _ t' => loadK l t' k) = true from hk)
   obtain ⟨t2, R2, h2⟩ := loadK_snd R' hk'
   exact ⟨t2, by simpa using R2, h2⟩
theorem fast_known {Pg : Prog} {pr : Prims} {fp : FPrims} (hp : PrimSnd fp pr) {fuel n f : Nat} {vs : List CV} {l : List Obj} (hk : go (loadK l .nil fun t => callF Pg fp fuel n f vs t fyes) = true) : ∃ n h', evCall Pg pr n f vs l = some (.bool true, h') := by
 obtain ⟨t, R, h1⟩ := loadK_snd Rep.nil (go_eq hk)
 exact fast_yes hp (fuel := fuel) (n := n) (by simpa using R) (by rw [h1]; rfl)
end
noncomputable section
def strK (s : List UInt8) (k : List UInt8 → Bool) : Bool := List.rec (motive := fun _ => (List UInt8 → Bool) → Bool) (fun k => k []) (fun x _ ih k => ih fun q => k (x :: q)) s k
theorem strK_eq : ∀ (s : List UInt8) (k : List UInt8 → Bool), strK s k = k s
 | [], k => rfl
 | x :: s, k => strK_eq s fun q => k (x :: q)
def calmF (g : List CV → Heap → Option (CV × Heap)) (vs : List CV) (t : HT) (k : CV → HT → Bool) : Bool := onO (g vs []) fun q => forceV q.1 fun v => k v t
theorem calm_fs {g : List CV → Heap → Option (CV × Heap)} (hg : ∀ vs h, g vs h = (g vs []).map fun q => (q.1, h)) : PrimFS (calmF g) g := by
 intro vs t h k R hk
 obtain ⟨q, h1, h2⟩ := onO_snd hk
 rw [forceV_eq] at h2
 rw [hg, h1]
 exact ⟨_, rfl, t, R, h2⟩
theorem p121_calm (vs : List CV) (h : Heap) : p121 vs h = (p121 vs []).map fun q => (q.1, h) := by
 unfold p121
 split
 ·split <;> rfl
 ·rfl
theorem p123_calm (vs : List CV) (h : Heap) : p123 vs h = (p123 vs []).map fun q => (q.1, h) := by
 unfold p123
 split <;> rfl
theorem p124_calm (vs : List CV) (h : Heap) : p124 vs h = (p124 vs []).map fun q => (q.1, h) := by
 unfold p124
 split
 ·split <;> rfl
 ·rfl
theorem p126_calm (vs : List CV) (h : Heap) : p126 vs h = (p126 vs []).map fun q => (q.1, h) := by
 unfold p126
 split
 ·split <;> rfl
 ·rfl
def p122F (vs : List CV) (t : HT) (k : CV → HT → Bool) : Bool := match vs with
 | [.str s, .str [c]] => leK (Nat.add s.length 1) 4294967281 (pushK t (.arr ((splitC c s).map .str) .tight) fun b t => forceN (splitC c s).length fun n => k (.sl b 0 n n) t)
 | _ => false
theorem p122_fs : PrimFS p122F p122 := by
 intro vs t h k R hk
 unfold p122F at hk
 split at hk
 ·rename_i s c
  obtain ⟨h1, h2⟩ := leK_snd hk
  obtain ⟨t', h3, h4⟩ := pushK_snd R h2
  rw [forceN_eq] at h4
  have h1' : s.length + 1 ≤ 4294967281 := h1
  simp only [p122]
  rw [if_pos (by omega)]
  exact ⟨_, rfl, t', h3, h4⟩
 ·cases hk
def p125F (vs : List CV) (t : HT) (k : CV → HT → Bool) : Bool := match vs with
 | [.str s, .int .i64 10, .int .i64 64] => leK s.length 281474976710656 (match Lib.parseIntB 64 s with
   | .ok v => forceI v fun v => k (.tup [.int .i64 v, .nili]) t
   | .range => pushK t (.arr [] .ro) fun b t => k (.tup [.int .i64 (Lib.intSat 64 s), .ifc 2 (.ptr b 0)]) t
   | _ => pushK t (.arr [] .ro) fun b t => k (.tup [.int .i64 0, .ifc 2 (.ptr b 0)]) t)
 | _ => false
theorem p125_fs : PrimFS p125F p125 := by
 intro vs t h k R hk
 unfold p125F at hk
 split at hk
 ·rename_i s
  obtain ⟨h1, h2⟩ := leK_snd hk
  simp only [p125, if_pos h1]
  split at h2
  ·rename_i v hv
   rw [forceI_eq] at h2
   simp only [hv]
   exact ⟨_, rfl, t, R, h2⟩
  ·rename_i hv
   obtain ⟨t', h3, h4⟩ := pushK_snd R h2
   simp only [hv]
   exact ⟨_, rfl, t', h3, h4⟩
  ·rename_i n1 n2
   obtain ⟨t', h3, h4⟩ := pushK_snd R h2
   refine ⟨(.tup [.int .i64 0, .ifc 2 (.ptr h.length 0)], h ++ [.arr [] .ro]), ?_, t', h3, h4⟩
   split
   ·rename_i v hv; exact absurd hv (n1 v)
   ·rename_i hv; exact absurd hv n2
   ·rfl
 ·cases hk
def p128F (vs : List CV) (t : HT) (k : CV → HT → Bool) : Bool := match vs with
 | [.nils, .str _] => k (.str []) t
 | [.sl b o n c, .str sep] => arrK t b fun cs _ => rangeK o n cs fun q => onO (strsOf q) fun xs => strK (joinL sep xs) fun s => leK n c (leK n 140737488355328 (leK s.length 140737488355328 (k (.str s) t)))
 | _ => false
theorem p128_fs : PrimFS p128F p128 := by
 intro vs t h k R hk
 unfold p128F at hk
 split at hk
 ·exact ⟨_, rfl, t, R, hk⟩
 ·rename_i b o n c sep
  obtain ⟨cs, st, h1, h2⟩ := arrK_snd R hk
  obtain ⟨h3, h4⟩ := rangeK_snd h2
  obtain ⟨xs, h5, h6⟩ := onO_snd h4
  rw [strK_eq] at h6
  obtain ⟨h7, h8⟩ := leK_snd h6
  obtain ⟨h9, h10⟩ := leK_snd h8
  obtain ⟨h11, h12⟩ := leK_snd h10
  simp only [p128, cellsAt, h1, if_pos h3, h5]
  rw [if_pos ⟨h7, h9, h11⟩]
  exact ⟨_, rfl, t, R, h12⟩
 ·cases hk
def bldAt (t : HT) (b : Nat) (k : Nat → Option (Nat × Nat) → Bool) : Bool := getK t b fun o => Obj.rec (fun _ _ => false) (fun _ _ => false) (fun _ _ => false) false (fun _ _ => false) k (fun _ _ => false) o
theorem bldAt_snd {t : HT} {h : Heap} (R : Rep t h) {b : Nat} {k : Nat → Option (Nat × Nat) → Bool} (hk : bldAt t b k = true) : ∃ T q, h[b]? = some (.bld T q) ∧ k T q = true := by
 obtain ⟨o, h1, h2⟩ := getK_snd R hk
 cases o <;> (try (cases h2; done))
 exact ⟨_, _, h1, h2⟩
def bufAt (t : HT) (b : Nat) (k : Nat → List UInt8 → Bool) : Bool := getK t b fun o => Obj.rec (fun _ _ => false) (fun _ _ => false) (fun _ _ => false) false (fun _ _ => false) (fun _ _ => false) k o
theorem bufAt_snd {t : HT} {h : Heap} (R : Rep t h) {b : Nat} {k : Nat → List UInt8 → Bool} (hk : bufAt t b k = true) : ∃ T q, h[b]? = some (.buf T q) ∧ k T q = true := by
 obtain ⟨o, h1, h2⟩ := getK_snd R hk
 cases o <;> (try (cases h2; done))
 exact ⟨_, _, h1, h2⟩
def beqK (a b : Nat) (r : Bool) : Bool := Bool.rec false r (Nat.beq a b)
theorem beqK_snd {a b : Nat} {r : Bool} (h : beqK a b r = true) : a = b ∧ r = true := by
 obtain ⟨h1, h2⟩ := and_snd h
 exact ⟨Nat.eq_of_beq_eq_true h1, h2⟩
def bneK (a b : Nat) (r : Bool) : Bool := Bool.rec r false (Nat.beq a b)
theorem bneK_snd {a b : Nat} {r : Bool} (h : bneK a b r = true) : a ≠ b ∧ r = true := by
 unfold bneK at h
 cases hb : Nat.beq a b with
 | true => rw [hb] at h; cases h
 | false => rw [hb] at h; exact ⟨Nat.ne_of_beq_eq_false hb, h⟩
def sizeK (t : HT) (k : Nat → Bool) : Bool := HT.rec (fun n _ => k n) t
theorem sizeK_snd {t : HT} {h : Heap} (R : Rep t h) {k : Nat → Bool} (hk : sizeK t k = true) : k h.length = true := by
 obtain ⟨n, q⟩ := t
 have : n = h.length := R.n
 subst this
 exact hk
def p136F (vs : List CV) (t : HT) (k : CV → HT → Bool) : Bool := match vs with
 | [.ptr j 0, .str (x :: s)] => bldAt t j fun T q => beqK T tBld (sizeK t fun z => match q with
   | none => forceN (x :: s).length fun l => leK l 140737488355328 (setK t j (.bld T (some (z, l))) fun t => pushK t (.buf tU8 (x :: s)) fun _ t => k (.tup [.int .i64 (.ofNat l), .nili]) t)
   | some (b, n) => bufAt t b fun U bs => bneK b j (beqK U tU8 (beqK n bs.length (forceN (x :: s).length fun l => leK (Nat.add n l) 140737488355328 (strK (bs ++ x :: s) fun w => setK t b .dead fun t => forceN (Nat.add n l) fun m => setK t j (.bld T (some (z, m))) fun t => pushK t (.buf tU8 w) fun _ t => k (.tup [.int .i64 (.ofNat l), .nili]) t)))))
 | _ => false
theorem p136_fs : PrimFS p136F p136 := by
 intro vs t h k R hk
 unfold p136F at hk
 split at hk
 ·rename_i j x s
  obtain ⟨T, q, h1, h2⟩ := bldAt_snd R hk
  obtain ⟨rfl, h3⟩ := beqK_snd h2
  have h4 := sizeK_snd R h3
  cases q with
  | none =>
    simp only [forceN_eq] at h4
    obtain ⟨h5, h6⟩ := leK_snd h4
    obtain ⟨t1, g1, g2⟩ := setK_snd R h1 h6
    obtain ⟨t2, g3, g4⟩ := pushK_snd g1 g2
    unfold p136
    simp only [h1]
    exact ⟨_, if_pos ⟨trivial, by simp, h5⟩, t2, g3, g4⟩
  | some q =>
    obtain ⟨b, n⟩ := q
    simp only [] at h4
    obtain ⟨U, bs, g1, g2⟩ := bufAt_snd R h4
    obtain ⟨g3, g4⟩ := bneK_snd g2
    obtain ⟨rfl, g5⟩ := beqK_snd g4
    obtain ⟨rfl, g6⟩ := beqK_snd g5
    rw [forceN_eq] at g6
    obtain ⟨g7, g8⟩ := leK_snd g6
    rw [strK_eq] at g8
    obtain ⟨t1, q1, q2⟩ := setK_snd R g1 g8
    rw [forceN_eq] at q2
    have hj : (h.set b .dead)[j]? = some (.bld tBld (some (b, bs.length))) := by rw [List.getElem?_set_ne g3]; exact h1
    obtain ⟨t2, q3, q4⟩ := setK_snd q1 hj q2
    obtain ⟨t3, q5, q6⟩ := pushK_snd q3 q4
    unfold p136
    simp only [h1, g1]
    exact ⟨_, if_pos ⟨trivial, g3, trivial, trivial, by simp, g7⟩, t3, q5, q6⟩
 ·cases hk
def p137F (vs : List CV) (t : HT) (k : CV → HT → Bool) : Bool := match vs with
 | [.ptr j 0] => bldAt t j fun T q => beqK T tBld (match q with
   | none => k (.str []) t
   | some (b, n) => bufAt t b fun U bs => bneK b j (beqK U tU8 (beqK n bs.length (List.rec (motive := fun _ => Bool) false (fun _ _ _ => k (.str bs) t) bs))))
 | _ => false
theorem p137_fs : PrimFS p137F p137 := by
 intro vs t h k R hk
 unfold p137F at hk
 split at hk
 ·rename_i j
  obtain ⟨T, q, h1, h2⟩ := bldAt_snd R hk
  obtain ⟨rfl, h3⟩ := beqK_snd h2
  cases q with
  | none =>
    simp only [p137, h1, if_true]
    exact ⟨_, rfl, t, R, h3⟩
  | some q =>
    obtain ⟨b, n⟩ := q
    simp only [] at h3
    obtain ⟨U, bs, g1, g2⟩ := bufAt_snd R h3
    obtain ⟨g3, g4⟩ := bneK_snd g2
    obtain ⟨rfl, g5⟩ := beqK_snd g4
    obtain ⟨rfl, g6⟩ := beqK_snd g5
    unfold p137
    simp only [h1, g1]
    cases bs with
    | nil => cases g6
    | cons x xs =>
      exact ⟨_, if_pos ⟨trivial, g3, trivial, trivial, by simp⟩, t, R, g6⟩
 ·cases hk
def libF : FPrims := fun f => match f with
 | 121 => some (calmF p121)
 | 122 => some p122F
 | 123 => some (calmF p123)
 | 124 => some (calmF p124)
 | 125 => some p125F
 | 126 => some (calmF p126)
 | 128 => some p128F
 | 136 => some p136F
 | 137 => some p137F
 | _ => none
def One (a : Option (List CV → HT → (CV → HT → Bool) → Bool)) (b : Option (List CV → Heap → Option (CV × Heap))) : Prop := match a with
 | none => b = none
 | some g => ∀ vs t h k, Rep t h → g vs t k = true → ∃ g', b = some g' ∧ OV (g' vs h) fun q => ∃ t', Rep t' q.2 ∧ k q.1 t' = true
theorem One.mk {g : List CV → HT → (CV → HT → Bool) → Bool} {g' : List CV → Heap → Option (CV × Heap)} (h : PrimFS g g') : One (some g) (some g') := fun vs t hp k R hk => ⟨_, rfl, h vs t hp k R hk⟩
theorem lib_fs : PrimSnd libF lib := by
 intro f
 show One (libF f) (lib f)
 unfold libF lib
 split
 ·exact One.mk (calm_fs p121_calm)
 ·exact One.mk p122_fs
 ·exact One.mk (calm_fs p123_calm)
 ·exact One.mk (calm_fs p124_calm)
 ·exact One.mk p125_fs
 ·exact One.mk (calm_fs p126_calm)
 ·exact One.mk p128_fs
 ·exact One.mk p136_fs
 ·exact One.mk p137_fs
 ·rename_i n1 n2 n3 n4 n5 n6 n7 n8 n9
  show (match f with | 121 => _ | 122 => _ | 123 => _ | 124 => _ | 125 => _ | 126 => _ | 128 => _ | 136 => _ | 137 => _ | _ => none) = none
  split <;> first | rfl | (exfalso; first | exact n1 rfl | exact n2 rfl | exact n3 rfl | exact n4 rfl | exact n5 rfl | exact n6 rfl | exact n7 rfl | exact n8 rfl | exact n9 rfl)
end
end Go.Cl
