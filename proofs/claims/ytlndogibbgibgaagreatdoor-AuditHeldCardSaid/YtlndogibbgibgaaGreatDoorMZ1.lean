/-
  Texts laid together: AHeW.
-/
import Derived.Test.YtlndogibbgibgaaGreatDoorMZ
namespace Go.Cl
open Go
set_option linter.unusedSimpArgs false
set_option linter.unusedVariables false
set_option maxHeartbeats 2000000
variable {p p' : PP}
theorem WF_kn5 {f : Nat} (hp : p.pr f = addKnown [f] noPr f) {h : Heap} {K : CV → Heap → Prop} (k : K (.bool true) h) : WF p f [] h K := by
 refine ⟨1, .bool true, h, ?_, k⟩
 show evCall p.Pg p.pr 1 f [] h = _
 have : [f].contains f = true := by simp
 simp only [evCall, hp, addKnown, this]
theorem wu85 {x : Int} (h0 : 0 ≤ x) (h1 : x ≤ 255) : IntKind.u8.wrap x = x := by
 simp only [IntKind.wrap, IntKind.bits, IntKind.signed, Bool.false_and, Bool.false_eq_true, if_false]
 omega
def opZ (k n : Int) : List CV := [.int .i64 k, .int .i64 n, .int .i64 0, .int .i64 0, .nils]
def heAp : List CV := opZ 2 0 ++ (opZ 1 1 ++ opZ 3 0)
def heBp (m : Int) : List CV := opZ 2 0 ++ (opZ 1 m ++ (opZ 3 0 ++ opZ 1 3))
def tkD (c : List UInt8) (d g : Int) (v : CV) : List CV := [.str c, .int .i64 500, .int .i64 d, .int .i64 g, v]
theorem slAt5 {α : Type} {e : Cod α} {h : Heap} {P : Nat → Prop} {b n : Nat} {cells : List CV} {l : List α} (g : h[b]? = some (.arr cells .tight)) (r : Rows e h P cells l) (hn : l.length = n) (hb : P b) : Sl e h P (.sl b 0 n n) l := by
 subst hn
 have m : Mine h e.n (.sl b 0 l.length l.length) cells := .inr ⟨b, l.length, .tight, rfl, r.1, .inl rfl, g⟩
 exact ⟨_, m.read, ⟨m.ok, fun y hy => by simp [CV.blk] at hy; rw [← hy]; exact hb⟩, r⟩
theorem op_row {h : Heap} {P : Nat → Prop} {k n : Int} : Rows opC h P (opZ k n) [⟨k, n, 0, 0, []⟩] := Rows.one (e := opC) ⟨.nils, rfl, Sl.nil⟩
theorem he_tasks {H : Heap} {P : Nat → Prop} {b0 b2 b4 : Nat} {m : Int} (g0 : H[b0]? = some (.arr heAp .tight)) (g2 : H[b2]? = some (.arr (heBp m) .tight)) (g4 : H[b4]? = some (.arr (tkD [97] 100 100 (.sl b0 0 3 3) ++ tkD [98] 200 100 (.sl b2 0 4 4)) .tight)) (p0 : P b0) (p2 : P b2) (p4 : P b4) :
  Sl taskC H P (.sl b4 0 2 2) (heSet m).tasks := by
 refine slAt5 g4 (Rows.append (l := [heA]) (Rows.one (e := taskC) ⟨_, rfl, ?_⟩) (Rows.one (e := taskC) ⟨_, rfl, ?_⟩)) rfl p4
 ·exact slAt5 g0 (op_row.append (op_row.append op_row)) rfl p0
 ·exact slAt5 g2 (op_row.append (op_row.append (op_row.append op_row))) rfl p2
theorem he_load {h : Heap} {o1 o3 r1 r2 : List CV} (h1 : r1.length = 5) (h2 : r2.length = 5) : loadAt (h ++ [.arr o1 .tight, .arr r1 .tight, .arr o3 .tight, .arr r2 .tight]) (h.length + 1) 0 (some 5) = some (.agg r1) ∧ loadAt (h ++ [.arr o1 .tight, .arr r1 .tight, .arr o3 .tight, .arr r2 .tight]) (h.length + 2 + 1) 0 (some 5) = some (.agg r2) := by
 have g1 : (h ++ [Obj.arr o1 .tight, .arr r1 .tight, .arr o3 .tight, .arr r2 .tight])[h.length + 1]? = some (.arr r1 .tight) := by simp
 have g2 : (h ++ [Obj.arr o1 .tight, .arr r1 .tight, .arr o3 .tight, .arr r2 .tight])[h.length + 2 + 1]? = some (.arr r2 .tight) := by
  show _[h.length + 3]? = _
  simp
 exact ⟨ldw g1 h1, ldw g2 h2⟩
set_option maxRecDepth 20000 in
theorem auditHeld_law (la : LA p p') (hk6 : p.pr 476 = addKnown [476] noPr 476) (hp2 : p.pr 482 = some ranP) {h : Heap} {n q : Int} (hn : 0 ≤ n ∧ n ≤ 255) (hq : 0 ≤ q ∧ q ≤ 255) :
  WF p 479 [.int .u8 n, .int .u8 q] h fun r h' => r = .bool true := by
 have lp := la.lp
 refine WF_of (by rw [lp.pg]; exact S.pg479) (lp.no ⟨rfl, rfl⟩) ?_
 show W p S.b479 _ _ (retQ [.t 4] _)
 unfold S.b479
 simp
 refine WF_kn5 hk6 ?_
 have hN : ∃ N : Nat, N < 20 ∧ n.tmod 20 = N := ⟨(n.tmod 20).toNat, by have := Int.tmod_lt_of_pos n (b := 20) (by omega); have := Int.tmod_nonneg (a := n) 20 hn.1; omega, by have := Int.tmod_nonneg (a := n) 20 hn.1; omega⟩
 obtain ⟨N, hN20, hnN⟩ := hN
 have hA : ∃ A : Nat, A < N + 1 ∧ q.tmod ((N : Int) + 1) = A := ⟨(q.tmod ((N : Int) + 1)).toNat, by have := Int.tmod_lt_of_pos q (b := (N : Int) + 1) (by omega); have := Int.tmod_nonneg (a := q) ((N : Int) + 1) hq.1; omega, by have := Int.tmod_nonneg (a := q) ((N : Int) + 1) hq.1; omega⟩
 obtain ⟨A, hAN, hqA⟩ := hA
 have hall := he_all hN20 hAN
 have u1 : IntKind.u8.wrap (N : Int) = N := wu85 (by omega) (by omega)
 have u3 : IntKind.i64.wrap (N : Int) = N := w64 (by omega) (by omega)
 have u5 : IntKind.i64.wrap (2 + (N : Int)) = 2 + N := w64 (by omega) (by omega)
 have u6 : IntKind.i64.wrap (2 + (N : Int) - 1) = (N : Int) + 1 := by rw [w64 (by omega) (by omega)]; omega
 have u7 : IntKind.i64.wrap q = q := w64 (by omega) (by omega)
 have u8 : IntKind.i64.wrap (A : Int) = A := w64 (by omega) (by omega)
 have u9 : IntKind.i64.wrap (1 + (A : Int)) = 1 + A := w64 (by omega) (by omega)
 have hnz : ¬ (N : Int) + 1 = 0 := by omega
 have f1 : ∀ k : Int, fillC [.int .i64 0, .int .i64 0, .int .i64 0, .int .i64 0, .nils] [(0, 1, .int .i64 k)] = some (opZ k 0) := fun _ => rfl
 have f2 : ∀ k m : Int, fillC [.int .i64 0, .int .i64 0, .int .i64 0, .int .i64 0, .nils] [(0, 1, .int .i64 k), (1, 1, .int .i64 m)] = some (opZ k m) := fun _ _ => rfl
 have f3 : fillC [.int .i64 0, .int .i64 0, .int .i64 0, .int .i64 0, .nils, .int .i64 0, .int .i64 0, .int .i64 0, .int .i64 0, .nils, .int .i64 0, .int .i64 0, .int .i64 0, .int .i64 0, .nils] [(0, 5, .agg (opZ 2 0)), (5, 5, .agg (opZ 1 1)), (10, 5, .agg (opZ 3 0))] = some heAp := rfl
 have f4 : ∀ m, fillC [.int .i64 0, .int .i64 0, .int .i64 0, .int .i64 0, .nils, .int .i64 0, .int .i64 0, .int .i64 0, .int .i64 0, .nils, .int .i64 0, .int .i64 0, .int .i64 0, .int .i64 0, .nils, .int .i64 0, .int .i64 0, .int .i64 0, .int .i64 0, .nils] [(0, 5, .agg (opZ 2 0)), (5, 5, .agg (opZ 1 m)), (10, 5, .agg (opZ 3 0)), (15, 5, .agg (opZ 1 3))] = some (heBp m) := fun _ => rfl
 have f5 : ∀ (c : List UInt8) (d g : Int) (b n : Nat), fillC [.str [], .int .i64 0, .int .i64 0, .int .i64 0, .nils] [(0, 1, .str c), (1, 1, .int .i64 500), (2, 1, .int .i64 d), (3, 1, .int .i64 g), (4, 1, .sl b 0 n n)] = some (tkD c d g (.sl b 0 n n)) := fun _ _ _ _ _ => rfl
 have f6 : ∀ (a c : Nat), fillC [.str [], .int .i64 0, .int .i64 0, .int .i64 0, .nils, .str [], .int .i64 0, .int .i64 0, .int .i64 0, .nils] [(0, 5, .agg (tkD [97] 100 100 (.sl a 0 3 3))), (5, 5, .agg (tkD [98] 200 100 (.sl c 0 4 4)))] = some (tkD [97] 100 100 (.sl a 0 3 3) ++ tkD [98] 200 100 (.sl c 0 4 4)) := fun _ _ => rfl
 have f7 : ∀ q : Nat, fillC [.int .i64 0, .nils, .nils] [(0, 1, .int .i64 1), (2, 1, .sl q 0 2 2)] = some [.int .i64 1, .nils, .sl q 0 2 2] := fun _ => rfl
 have tl : ∀ (c : List UInt8) (d g : Int) (v : CV), (tkD c d g v).length = 5 := fun _ _ _ _ => rfl
 have s1 : storeAt (h ++ [.arr heAp .tight, .arr [.str [], .int .i64 0, .int .i64 0, .int .i64 0, .nils] .tight]) (h.length + 1) 0 (tkD [97] 100 100 (.sl h.length 0 3 3)) = some (h ++ [.arr heAp .tight, .arr (tkD [97] 100 100 (.sl h.length 0 3 3)) .tight]) := store_new2 rfl rfl
 have s2 := store_new2 (h := h ++ [.arr heAp .tight, .arr (tkD [97] 100 100 (.sl h.length 0 3 3)) .tight]) (o := .arr (heBp (2 + N)) .tight) (row := tkD [98] 200 100 (.sl (h.length + 2) 0 4 4)) (z := [.str [], .int .i64 0, .int .i64 0, .int .i64 0, .nils]) rfl rfl
 simp at s2
 obtain ⟨w1, w2⟩ := he_load (h := h) (o1 := heAp) (o3 := heBp (2 + N)) (r1 := tkD [97] 100 100 (.sl h.length 0 3 3)) (r2 := tkD [98] 200 100 (.sl (h.length + 2) 0 4 4)) rfl rfl
 have s3 := store_new (h := h ++ [.arr heAp .tight, .arr (tkD [97] 100 100 (.sl h.length 0 3 3)) .tight, .arr (heBp (2 + N)) .tight, .arr (tkD [98] 200 100 (.sl (h.length + 2) 0 4 4)) .tight, .arr (tkD [97] 100 100 (.sl h.length 0 3 3) ++ tkD [98] 200 100 (.sl (h.length + 2) 0 4 4)) .tight]) (row := [.int .i64 1, .nils, .sl (h.length + 4) 0 2 2]) (z := [.int .i64 0, .nils, .nils]) rfl rfl
 simp at s3
 simp [hnN, u1, u3, u5, u6, u7, hnz, hqA, u8, u9, f1, f2, f3, f4, f5, f6, f7, tl, s1, s2, w1, w2, s3]
 have v10 : IntKind.i64.wrap (2 + (N : Int) + 8) = ((N + 10 : Nat) : Int) := by rw [w64 (by omega) (by omega)]; omega
 rw [v10]
 have hcnd : (0 : Int) ≤ ((N + 10 : Nat) : Int) ∧ ((N + 10 : Nat) : Int) ≤ (big : Int) := by simp [big]; omega
 rw [if_pos hcnd]
 simp only [OV_some, Int.toNat_natCast]
 have kA := Keep.app NoneOf h [.arr heAp .tight, .arr (tkD [97] 100 100 (.sl h.length 0 3 3)) .tight, .arr (heBp (2 + N)) .tight, .arr (tkD [98] 200 100 (.sl (h.length + 2) 0 4 4)) .tight, .arr (tkD [97] 100 100 (.sl h.length 0 3 3) ++ tkD [98] 200 100 (.sl (h.length + 2) 0 4 4)) .tight, .arr [.int .i64 1, .nils, .sl (h.length + 4) 0 2 2] .tight, .arr (List.replicate (N + 10) .nils) .tight]
 have g0 : (h ++ [Obj.arr heAp .tight, .arr (tkD [97] 100 100 (.sl h.length 0 3 3)) .tight, .arr (heBp (2 + N)) .tight, .arr (tkD [98] 200 100 (.sl (h.length + 2) 0 4 4)) .tight, .arr (tkD [97] 100 100 (.sl h.length 0 3 3) ++ tkD [98] 200 100 (.sl (h.length + 2) 0 4 4)) .tight, .arr [.int .i64 1, .nils, .sl (h.length + 4) 0 2 2] .tight, .arr (List.replicate (N + 10) .nils) .tight])[h.length]? = some (.arr heAp .tight) := by simp
 have g2 : (h ++ [Obj.arr heAp .tight, .arr (tkD [97] 100 100 (.sl h.length 0 3 3)) .tight, .arr (heBp (2 + N)) .tight, .arr (tkD [98] 200 100 (.sl (h.length + 2) 0 4 4)) .tight, .arr (tkD [97] 100 100 (.sl h.length 0 3 3) ++ tkD [98] 200 100 (.sl (h.length + 2) 0 4 4)) .tight, .arr [.int .i64 1, .nils, .sl (h.length + 4) 0 2 2] .tight, .arr (List.replicate (N + 10) .nils) .tight])[h.length + 2]? = some (.arr (heBp (2 + N)) .tight) := by simp
 have g4 : (h ++ [Obj.arr heAp .tight, .arr (tkD [97] 100 100 (.sl h.length 0 3 3)) .tight, .arr (heBp (2 + N)) .tight, .arr (tkD [98] 200 100 (.sl (h.length + 2) 0 4 4)) .tight, .arr (tkD [97] 100 100 (.sl h.length 0 3 3) ++ tkD [98] 200 100 (.sl (h.length + 2) 0 4 4)) .tight, .arr [.int .i64 1, .nils, .sl (h.length + 4) 0 2 2] .tight, .arr (List.replicate (N + 10) .nils) .tight])[h.length + 4]? = some (.arr (tkD [97] 100 100 (.sl h.length 0 3 3) ++ tkD [98] 200 100 (.sl (h.length + 2) 0 4 4)) .tight) := by simp
 have g5 : (h ++ [Obj.arr heAp .tight, .arr (tkD [97] 100 100 (.sl h.length 0 3 3)) .tight, .arr (heBp (2 + N)) .tight, .arr (tkD [98] 200 100 (.sl (h.length + 2) 0 4 4)) .tight, .arr (tkD [97] 100 100 (.sl h.length 0 3 3) ++ tkD [98] 200 100 (.sl (h.length + 2) 0 4 4)) .tight, .arr [.int .i64 1, .nils, .sl (h.length + 4) 0 2 2] .tight, .arr (List.replicate (N + 10) .nils) .tight])[h.length + 4 + 1]? = some (.arr [.int .i64 1, .nils, .sl (h.length + 4) 0 2 2] .tight) := by
  show _[h.length + 5]? = _
  simp
 have g6 : (h ++ [Obj.arr heAp .tight, .arr (tkD [97] 100 100 (.sl h.length 0 3 3)) .tight, .arr (heBp (2 + N)) .tight, .arr (tkD [98] 200 100 (.sl (h.length + 2) 0 4 4)) .tight, .arr (tkD [97] 100 100 (.sl h.length 0 3 3) ++ tkD [98] 200 100 (.sl (h.length + 2) 0 4 4)) .tight, .arr [.int .i64 1, .nils, .sl (h.length + 4) 0 2 2] .tight, .arr (List.replicate (N + 10) .nils) .tight])[h.length + 6]? = some (.arr (List.replicate (N + 10) .nils) .tight) := by simp
 generalize h ++ [Obj.arr heAp .tight, .arr (tkD [97] 100 100 (.sl h.length 0 3 3)) .tight, .arr (heBp (2 + N)) .tight, .arr (tkD [98] 200 100 (.sl (h.length + 2) 0 4 4)) .tight, .arr (tkD [97] 100 100 (.sl h.length 0 3 3) ++ tkD [98] 200 100 (.sl (h.length + 2) 0 4 4)) .tight, .arr [.int .i64 1, .nils, .sl (h.length + 4) 0 2 2] .tight, .arr (List.replicate (N + 10) .nils) .tight] = H7 at *
 have st7 := he_tasks (P := fun y => h.length ≤ y ∧ y < h.length + 6) g0 g2 g4 (by omega) (by omega) (by omega)
 have hl7 := lt_of_get g6
 have f01 : ∀ k : Int, fillC [.int .i64 0] [(0, 1, .int .i64 k)] = some [.int .i64 k] := fun _ => rfl
 have kB := Keep.app NoneOf H7 [.arr [.int .i64 1] .tight]
 have gB6 := kB.at g6 id
 have gB7 := get_new (h := H7) (o := .arr [.int .i64 1] .tight)
 have sB := sto1 gB6 (o := 0) (v := .sl H7.length 0 1 1) (by simp) rfl
 have kB' : Keep (fun y => y = h.length + 6) (H7 ++ [Obj.arr [.int .i64 1] .tight]) ((H7 ++ [Obj.arr [.int .i64 1] .tight]).set (h.length + 6) (.arr ((List.replicate (N + 10) CV.nils).set 0 (.sl H7.length 0 1 1)) .tight)) := Keep.set _ _ rfl
 have hlB : ((H7 ++ [Obj.arr [.int .i64 1] .tight]).set (h.length + 6) (.arr ((List.replicate (N + 10) CV.nils).set 0 (.sl H7.length 0 1 1)) .tight)).length = H7.length + 1 := by simp
 have gC6 := get_set_self (o := .arr ((List.replicate (N + 10) CV.nils).set 0 (.sl H7.length 0 1 1)) .tight) (lt_of_get gB6)
 have gC7 := kB'.at gB7 (by omega)
 have stC := (st7.on kB)
 have c1 : (0 : Int) < (N : Int) + 10 := by omega
 have c2 : (0 : Int) ≤ 1 + (A : Int) ∧ 1 + (A : Int) < (N : Int) + 10 := by omega
 have c3 : (1 + (A : Int)).toNat = 1 + A := by omega
 simp [f01, sB, c1]
 have st8 := stC.keep kB' fun y hy e => by omega
 have g58 := kB'.at (kB.at g5 id) (by omega)
 have K8 : Keep NoneOf h ((H7 ++ [Obj.arr [.int .i64 1] .tight]).set (h.length + 6) (.arr ((List.replicate (N + 10) CV.nils).set 0 (.sl H7.length 0 1 1)) .tight)) := (kA.trans kB).then kB' fun y hy e => by omega
 generalize (H7 ++ [Obj.arr [.int .i64 1] .tight]).set (h.length + 6) (.arr ((List.replicate (N + 10) CV.nils).set 0 (.sl H7.length 0 1 1)) .tight) = H8 at *
 have kC := Keep.app NoneOf H8 [.arr [.int .i64 0] .tight]
 have gD6 := kC.at gC6 id
 have gD7 := kC.at gC7 id
 have gD8 := get_new (h := H8) (o := .arr [.int .i64 0] .tight)
 have sD := sto1 gD6 (o := 1 + A) (v := .sl (H7.length + 1) 0 1 1) (by simp; omega) rfl
 have kD : Keep (fun y => y = h.length + 6) (H8 ++ [Obj.arr [.int .i64 0] .tight]) ((H8 ++ [Obj.arr [.int .i64 0] .tight]).set (h.length + 6) (.arr (((List.replicate (N + 10) CV.nils).set 0 (.sl H7.length 0 1 1)).set (1 + A) (.sl (H7.length + 1) 0 1 1)) .tight)) := Keep.set _ _ rfl
 have hlD : ((H8 ++ [Obj.arr [.int .i64 0] .tight]).set (h.length + 6) (.arr (((List.replicate (N + 10) CV.nils).set 0 (.sl H7.length 0 1 1)).set (1 + A) (.sl (H7.length + 1) 0 1 1)) .tight)).length = H8.length + 1 := by simp
 have gE6 := get_set_self (o := .arr (((List.replicate (N + 10) CV.nils).set 0 (.sl H7.length 0 1 1)).set (1 + A) (.sl (H7.length + 1) 0 1 1)) .tight) (lt_of_get gD6)
 have gE7 := kD.at gD7 (by omega)
 have gE8 := kD.at gD8 (by omega)
 have st9 := (st8.on kC).keep kD fun y hy e => by omega
 have g59 := kD.at (kC.at g58 id) (by omega)
 have K9 : Keep NoneOf h ((H8 ++ [Obj.arr [.int .i64 0] .tight]).set (h.length + 6) (.arr (((List.replicate (N + 10) CV.nils).set 0 (.sl H7.length 0 1 1)).set (1 + A) (.sl (H7.length + 1) 0 1 1)) .tight)) := (K8.trans kC).then kD fun y hy e => by omega
 simp [f01, c2, c3, sD]
 generalize (H8 ++ [Obj.arr [.int .i64 0] .tight]).set (h.length + 6) (.arr (((List.replicate (N + 10) CV.nils).set 0 (.sl H7.length 0 1 1)).set (1 + A) (.sl (H7.length + 1) 0 1 1)) .tight) = H9 at *
 have w9 := ldw g59 (n := 3) rfl
 have gE8 : H9[H7.length + 1]? = some (.arr [.int .i64 0] .tight) := by rw [← hlB]; exact gE8
 have ls9 : Sl (.sl (.int .i64)) H9 (fun y => y < H9.length) (.sl (h.length + 6) 0 (N + 10) (N + 10)) (heRows (N + 10) (1 + A)) := by
  have r0 : Rows (.sl (.int .i64)) H9 (fun y => y < H9.length) (List.replicate (N + 10) CV.nils) (List.replicate (N + 10) []) := by
   refine ⟨by simp [Cod.sl], fun i x hx => ?_⟩
   have hi : i < N + 10 := by
    have := (List.getElem?_eq_some_iff.1 hx).1
    simpa using this
   simp [hi] at hx
   subst hx
   refine ⟨.nils, ?_, Sl.nil⟩
   show ((List.replicate (N + 10) CV.nils).drop (i * 1)).take 1 = _
   rw [Nat.mul_one, List.drop_eq_getElem_cons (by simpa using hi)]
   simp
  have sA : Sl (.int .i64) H9 (fun y => y < H9.length) (.sl H7.length 0 1 1) [1] := slAt5 gE7 (rows_ints.2 rfl) rfl (lt_of_get gE7)
  have sB' : Sl (.int .i64) H9 (fun y => y < H9.length) (.sl (H7.length + 1) 0 1 1) [0] := slAt5 gE8 (rows_ints.2 rfl) rfl (lt_of_get gE8)
  have r1 := rows_set r0 (i := 0) (x := [1]) (by simp) (row := [.sl H7.length 0 1 1]) ⟨_, rfl, sA⟩
  rw [show 0 * (Cod.sl (Cod.int .i64)).n = 0 from Nat.zero_mul _, splice_set (by simp)] at r1
  have r2 := rows_set r1 (i := 1 + A) (x := [0]) (by simp; omega) (row := [.sl (H7.length + 1) 0 1 1]) ⟨_, rfl, sB'⟩
  rw [show (1 + A) * (Cod.sl (Cod.int .i64)).n = 1 + A from Nat.mul_one _, splice_set (by simp; omega)] at r2
  exact slAt5 gE6 (l := heRows (N + 10) (1 + A)) r2 (by simp [heRows]) (lt_of_get gE6)
 simp only [heOne, Bool.and_eq_true, decide_eq_true_eq] at hall
 obtain ⟨⟨ok1, hck⟩, hday⟩ := hall
 have e1 : ((2 + N : Nat) : Int) = 2 + (N : Int) := by omega
 have e2 : ((1 + A : Nat) : Int) = 1 + (A : Int) := by omega
 have e3 : 2 + N + 8 = N + 10 := by omega
 rw [e1, e3, e2] at hday
 rw [e1] at ok1
 rw [e3] at hck
 cases hD : dayX (heSet (2 + N)) 8 (heRows (N + 10) (1 + A)) (coreX0 (heSet (2 + N))) with
 | none => rw [hD] at hday; cases hday
 | some qd =>
 obtain ⟨s', E⟩ := qd
 rw [hD] at hday
 simp only [Bool.and_eq_true, decide_eq_true_eq] at hday
 obtain ⟨hE, hlg⟩ := hday
 cases hL : logsF (priosP (heSet (2 + N)).tasks) E ([], 0, []) with
 | none => rw [hL] at hlg; cases hlg
 | some sl =>
 rw [hL] at hlg
 simp only at hlg
 obtain ⟨a, b, hab⟩ : ∃ a b, sl.2.2 = [a, b] := by
  unfold heLogs at hlg
  split at hlg
  ·rename_i a b e; exact ⟨a, b, e⟩
  ·cases hlg
 rw [hab] at hlg
 simp only [heLogs, Bool.and_eq_true, decide_eq_true_eq] at hlg
 obtain ⟨⟨⟨⟨⟨q1, q2⟩, q3⟩, q4⟩, q5⟩, q6⟩ := hlg
 simp [w9]
 refine (runX la (x := heSet (2 + N)) (k := 1) (n := 8) (st9.lt.mono fun y hy => hy.2) rfl (by omega) rfl (fun y hy => hy) ?_ ok1 ?_ ?_ (by simp [heSet]) ls9 (by simp [heRows]; omega) hck ?_ hD hE).mono ?_
 ·refine ⟨fun t ht => ?_, by simp [heSet], by simp [heSet, big]⟩
  simp only [heSet, List.mem_cons, List.not_mem_nil, or_false] at ht
  rcases ht with rfl | rfl
  ·exact ⟨by simp [heA, big], by simp [heA], by simp [heA]⟩
  ·exact ⟨by simp [heB, big], by simp [heB], by simp [heB]⟩
 ·intro t ht
  simp only [heSet, List.mem_cons, List.not_mem_nil, or_false] at ht
  rcases ht with rfl | rfl
  ·simp [heA, locksL]
  ·simp [heB, locksL]
 ·intro t ht
  simp only [heSet, List.mem_cons, List.not_mem_nil, or_false] at ht
  rcases ht with rfl | rfl
  ·exact ⟨by simp [heA], by simp [heA]⟩
  ·exact ⟨by simp [heB], by simp [heB]⟩
 ·intro r hr
  unfold heRows at hr
  rcases List.mem_or_eq_of_mem_set hr with hr | rfl
  ·rcases List.mem_or_eq_of_mem_set hr with hr | rfl
   ·rw [List.eq_of_mem_replicate hr]; simp
   ·simp
  ·simp
 rintro r H10 ⟨v, rfl, k10, ev⟩
 have w10 := ldw (k10.at g59 id) (n := 3) rfl
 simp [w10]
 refine (logs477 lp hp2 (x := heSet (2 + N)) (P := fun y => y < H10.length) (c := [.int .i64 1, .nils, .sl (h.length + 4) 0 2 2]) ⟨.nils, _, rfl, Sl.nil, (st9.on k10).lt.mono fun y hy => hy.2⟩ (fun y hy => hy) (by simp [heSet]) (by simp [heSet]) ev (by omega) hL).mono ?_
 rintro r H11 ⟨k11, lg⟩
 rw [hab] at lg
 have nl := lg.len (by decide)
 obtain ⟨b0, o0, row0, x1, x2, x3, x4⟩ := lg.row (k := .i64) (i := 0) (by decide) (by simp)
 obtain ⟨b1, o1, row1, y1, y2, y3, y4⟩ := lg.row (k := .i64) (i := 1) (by decide) (by simp)
 have x1 : idxAddrV 7 r (.int .i64 0) = some (.ptr b0 o0) := x1
 have y1 : idxAddrV 7 r (.int .i64 1) = some (.ptr b1 o1) := y1
 have x4 : row0 = logL a := x4
 have y4 : row1 = logL b := y4
 subst x4 y4
 have x5 : ∀ j, j < 7 → loadAt H11 b0 (o0 + j) none = (logL a)[j]? := x3
 have y5 : ∀ j, j < 7 → loadAt H11 b1 (o1 + j) none = (logL b)[j]? := y3
 have xa2 := x5 2 (by omega)
 have xa5 := x5 5 (by omega)
 have xa6 := x5 6 (by omega)
 have ya0 := y5 0 (by omega)
 have ya2 := y5 2 (by omega)
 have ya6 := y5 6 (by omega)
 simp [logL] at xa2 xa5 xa6 ya0 ya2 ya6
 have v1 : IntKind.i64.wrap (2 + (N : Int) - (1 + A)) = 2 + (N : Int) - (1 + A) := w64 (by omega) (by omega)
 have v2 : IntKind.i64.wrap (2 + (N : Int) + 1) = 2 + (N : Int) + 1 := w64 (by omega) (by omega)
 have v3 : IntKind.i64.wrap (2 + (N : Int) + 4) = 2 + (N : Int) + 4 := w64 (by omega) (by omega)
 have v4 : IntKind.i64.wrap (2 + (N : Int) + 3) = 2 + (N : Int) + 3 := w64 (by omega) (by omega)
 simp [nl, x1, y1, xa2, xa5, xa6, ya0, ya2, ya6, q1, q2, q3, q4, q5, q6, v1, v2, v3, v4]
end Go.Cl
