/-
  Texts laid together: AEnA AEnB AEnC AEnD AEnE.
-/
import Derived.Test.YtlndogibbgibgaaGreatDoorMC
import Derived.Test.YtlndogibbgibgaaGreatDoorMD
import Derived.Test.YtlndogibbgibgaaGreatDoorME
namespace Go.Cl
open Go
set_option linter.unusedSimpArgs false
set_option linter.unusedVariables false
set_option maxHeartbeats 2000000
variable {p : PP}
def cmpI (a b : Int) : Int := if a < b then -1 else if b < a then 1 else 0
theorem cmp_spec (lp : LP p) {h : Heap} {a b : Int} : WF p 358 [.int .i64 a, .int .i64 b] h fun r h' => r = .int .i64 (cmpI a b) ∧ h' = h := by
 have nan : ∀ {x : Int} {K : CV → Heap → Prop}, K (.bool false) h → WF p 359 [.int .i64 x] h K := fun {x K} k => by
  refine WF_of (by rw [lp.pg]; exact S.pg359) (lp.no ⟨rfl, rfl⟩) ?_
  show W p S.b359 _ _ (retQ [.t 2] _)
  unfold S.b359
  simp
  exact k
 refine WF_of (by rw [lp.pg]; exact S.pg358) (lp.no ⟨rfl, rfl⟩) ?_
 show W p S.b358 _ _ (retQ [.t 4] _)
 unfold S.b358
 simp
 refine nan ?_
 try simp
 refine nan ?_
 by_cases h1 : a < b
 ·simp [h1, cmpI]
 ·by_cases h2 : b < a
  ·simp [h1, h2, cmpI]
  ·simp [h1, h2, cmpI]
theorem prCmp_spec (lp : LP p) {h : Heap} {b : Nat} {c : List CV} {tv : CV} {l : List TaskV} {P : Nat → Prop} (g : h[b]? = some (.arr c .tight)) (c2 : c[2]? = some tv) (st : Sl taskC h P tv l) {i j : Nat} (hi : i < l.length) (hj : j < l.length) :
  WF p 337 [.int .i64 i, .int .i64 j, .ptr b 0] h fun r h' => r = .int .i64 (cmpI l[i].dl l[j].dl) ∧ h' = h := by
 refine WF_of (by rw [lp.pg]; exact S.pg337) (lp.no ⟨rfl, rfl⟩) ?_
 show W p S.b337 _ _ (retQ [.t 5] _)
 unfold S.b337
 have lS := ld g
 have dl : ∀ {i : Nat} (hi : i < l.length), ∃ b0 o0, idxAddrV 5 tv (.int .i64 i) = some (.ptr b0 o0) ∧ loadAt h b0 (o0 + 2) none = some (.int .i64 l[i].dl) := fun {i} hi => by
  obtain ⟨b0, o0, row, x1, x2, x3, pv, hrow, sp⟩ := st.row (k := .i64) (by decide) hi
  have y := x3 2 (by decide)
  rw [hrow] at y
  exact ⟨b0, o0, x1, y⟩
 obtain ⟨b0, o0, x1, x2⟩ := dl hi
 obtain ⟨b1, o1, y1, y2⟩ := dl hj
 simp [lS, c2, x1, x2, y1, y2]
 refine (cmp_spec lp).mono ?_
 rintro r h1 ⟨rfl, rfl⟩
 simp
def ups (n : Nat) : List Int := (List.range n).map fun (i : Nat) => (i : Int)
def downs (n : Nat) : List Int := (List.range n).map fun (i : Nat) => ((n - i : Nat) : Int)
def OpA (b n : Nat) (h : Heap) (m : Nat) (e : Env) (h' : Heap) : Prop :=
 ∃ (i : Nat) (v : CV), i ≤ n ∧ m = n - i ∧ e = [(1, .ptr b 0), (3, v), (10, .int .i64 n), (11, .int .i64 i)] ∧ Keep NoneOf h h' ∧ OwnL (.int .i64) h' NoneOf v (ups i) ∧ ∀ b, v.blk = some b → h.length ≤ b
theorem cloneT (lp : LP p) {h : Heap} {P : Nat → Prop} {v : CV} {l : List TaskV} (s : Sl taskC h P v l) (hv : v ≠ .nils) (hP : ∀ b, P b → b < h.length) (hb : l.length ≤ 1000) :
  WF p 336 [v] h fun r h' => OwnL taskC h' P r l ∧ Keep NoneOf h h' ∧ ∀ b, r.blk = some b → h.length ≤ b := by
 refine WF_of (by rw [lp.pg]; exact S.pg336) (lp.no ⟨rfl, rfl⟩) ?_
 show W p S.b336 _ _ (retQ [.t 2] _)
 unfold S.b336
 have hsc := s.scalar
 have he : eqv .s v .nils = some false := by
  obtain ⟨_, r, _⟩ := s
  rcases r with ⟨e, _⟩ | ⟨b, o, n, c, cs, st, rfl, _⟩
  ·exact absurd e hv
  ·rfl
 obtain ⟨cc, q1, q2⟩ := (s.on (Keep.app NoneOf h [.arr [] .tight])).spread (by decide)
 have q1 : spread (h ++ [.arr [] .tight]) 5 v = some (l.length, cc) := q1
 have f0 : fillC ([] : List CV) [] = some [] := rfl
 simp [he, f0, q1]
 refine OV_cpy (ec := taskC) q2 hP rfl (by simp [big]; omega) (by decide) fun v1 h3 o1 k3 hb3 => ?_
 simp
 exact ⟨o1, k3, hb3⟩
theorem cloneO (lp : LP p) {h : Heap} {P : Nat → Prop} {v : CV} {l : List OpV} (s : Sl opC h P v l) (hv : v ≠ .nils) (hP : ∀ b, P b → b < h.length) (hb : l.length ≤ 1000) :
  WF p 333 [v] h fun r h' => OwnL opC h' P r l ∧ Keep NoneOf h h' ∧ ∀ b, r.blk = some b → h.length ≤ b := by
 refine WF_of (by rw [lp.pg]; exact S.pg333) (lp.no ⟨rfl, rfl⟩) ?_
 show W p S.b333 _ _ (retQ [.t 2] _)
 unfold S.b333
 have hsc := s.scalar
 have he : eqv .s v .nils = some false := by
  obtain ⟨_, r, _⟩ := s
  rcases r with ⟨e, _⟩ | ⟨b, o, n, c, cs, st, rfl, _⟩
  ·exact absurd e hv
  ·rfl
 obtain ⟨cc, q1, q2⟩ := (s.on (Keep.app NoneOf h [.arr [] .tight])).spread (by decide)
 have q1 : spread (h ++ [.arr [] .tight]) 5 v = some (l.length, cc) := q1
 have f0 : fillC ([] : List CV) [] = some [] := rfl
 simp [he, f0, q1]
 refine OV_cpy (ec := opC) q2 hP rfl (by simp [big]; omega) (by decide) fun v1 h3 o1 k3 hb3 => ?_
 simp
 exact ⟨o1, k3, hb3⟩
theorem cloneC0 (lp : LP p) {h : Heap} : WF p 335 [.nils] h fun r h' => r = .nils ∧ h' = h := by
 refine WF_of (by rw [lp.pg]; exact S.pg335) (lp.no ⟨rfl, rfl⟩) ?_
 show W p S.b335 _ _ (retQ [.t 2] _)
 unfold S.b335
 simp [eqv]
theorem Sl.not_nil {α : Type} {e : Cod α} {h : Heap} {P : Nat → Prop} {v : CV} {l : List α} (s : Sl e h P v l) (he : 0 < e.n) (hl : l ≠ []) : v ≠ .nils := by
 intro hv
 subst hv
 have n := s.len he
 simp at n
 exact hl (List.eq_nil_of_length_eq_zero (by omega))
theorem rows_prog {h : Heap} {P : Nat → Prop} {cells : List CV} {l : List TaskV} (r : Rows taskC h P cells l) {i : Nat} (hi : i < l.length) {pv : CV} (s : Sl opC h P pv l[i].prog) : Rows taskC h P (cells.set (i * 5 + 4) pv) l := by
 have hn : taskC.n = 5 := rfl
 refine ⟨by rw [List.length_set]; exact r.1, fun j t hj => ?_⟩
 have hr := r.2 j t hj
 rw [hn] at hr ⊢
 by_cases hji : j = i
 ·subst hji
  have htj : t = l[j] := by rw [List.getElem?_eq_getElem hi] at hj; exact (Option.some.inj hj).symm
  obtain ⟨pv0, e, s0⟩ := hr
  refine ⟨pv, ?_, by rw [htj]; exact s⟩
  rw [List.drop_set, if_neg (by omega), List.take_set, e, Nat.add_sub_cancel_left]
  rfl
 ·rw [List.drop_set]
  split
  ·exact hr
  ·rw [List.take_set, List.set_eq_of_length_le]
   ·exact hr
   ·rw [List.length_take]; omega
def CpI (b tb n : Nat) (lk : Int) (st : St) (l : List TaskV) (Q : Nat → Prop) (h : Heap) (m : Nat) (e : Env) (h' : Heap) : Prop :=
 ∃ (i : Nat) (cells : List CV), i ≤ n ∧ m = n - i ∧ e = [(1, .ptr b 0), (2, .ptr (b + 1) 0), (14, .int .i64 n), (15, .int .i64 i)] ∧ Keep (fun x => x = tb) h h' ∧ h'[tb]? = some (.arr cells st) ∧ Rows taskC h' Q cells l
theorem copied_spec (lp : LP p) {h : Heap} {P : Nat → Prop} {lk : Int} {tv : CV} {l : List TaskV} (st : Sl taskC h P tv l) (hP : ∀ b, P b → b < h.length) (hn : 1 ≤ l.length) (hb : l.length ≤ 1000) (hp : ∀ t ∈ l, t.prog ≠ [] ∧ t.prog.length ≤ 1000) :
  WF p 317 [.agg [.int .i64 lk, .nils, tv]] h fun r h' => Keep NoneOf h h' ∧ ∃ tv', r = .agg [.int .i64 lk, .nils, tv'] ∧ Sl taskC h' (fun b => P b ∨ h.length ≤ b) tv' l := by
 refine WF_of (by rw [lp.pg]; exact S.pg317) (lp.no ⟨rfl, rfl⟩) ?_
 show W p S.b317 _ _ (retQ [.cell (some 3) 2] _)
 unfold S.b317
 have hca : ∀ l, (CV.agg l).cells = l := fun _ => rfl
 have kap := Keep.app NoneOf h [.arr [.int .i64 lk, .nils, tv] .tight, .arr [.int .i64 0, .nils, .nils] .tight]
 have hne := st.not_nil (by decide) (by intro e; rw [e] at hn; simp at hn)
 have g0 : (h ++ [Obj.arr [.int .i64 lk, .nils, tv] .tight, .arr [.int .i64 0, .nils, .nils] .tight])[h.length]? = some (.arr [.int .i64 lk, .nils, tv] .tight) := by simp
 have g1 : (h ++ [Obj.arr [.int .i64 lk, .nils, tv] .tight, .arr [.int .i64 0, .nils, .nils] .tight])[h.length + 1]? = some (.arr [.int .i64 0, .nils, .nils] .tight) := by simp
 have st1 := st.on kap
 have hsc := st.scalar
 simp [hca]
 generalize hH : h ++ [Obj.arr [.int .i64 lk, .nils, tv] .tight, .arr [.int .i64 0, .nils, .nils] .tight] = H at *
 have hHl : H.length = h.length + 2 := by rw [← hH]; simp
 have l0 := ld g0
 have s0 := sto1 g0 (o := 1) (v := .nils) (by simp) rfl
 have hset : ([.int .i64 lk, .nils, tv] : List CV).set 1 .nils = [.int .i64 lk, .nils, tv] := rfl
 rw [hset] at s0
 have hsame : H.set h.length (.arr [.int .i64 lk, .nils, tv] .tight) = H := by
  apply List.ext_getElem?
  intro j
  by_cases hj : j = h.length
  ·subst hj; rw [List.getElem?_set_self (lt_of_get g0), g0]
  ·rw [List.getElem?_set_ne (by omega)]
 rw [hsame] at s0
 simp [l0]
 refine (cloneC0 lp).mono ?_
 rintro r h1 ⟨rfl, rfl⟩
 simp [s0, l0]
 refine (cloneT lp st1 hne (fun b hb => by have := hP b hb; omega) hb).mono ?_
 rintro r h2 ⟨ow, k2, hb2⟩
 obtain ⟨cells, mi, rs, np⟩ := ow
 have hn5 : taskC.n = 5 := rfl
 have hrl := rs.1
 rcases mi with ⟨_, e⟩ | ⟨tb, n, stt, rfl, hlen, hst, hg⟩
 ·rw [e] at hrl; simp [hn5] at hrl; omega
 rw [hn5] at hlen hrl
 have hnn : n = l.length := by omega
 subst hnn
 have htb : h.length + 2 ≤ tb := by have := hb2 tb rfl; omega
 have g02 := k2.at g0 id
 have g12 := k2.at g1 id
 have s2 := sto1 g02 (o := 2) (v := .sl tb 0 l.length l.length) (by simp) rfl
 have hset2 : ([.int .i64 lk, .nils, tv] : List CV).set 2 (.sl tb 0 l.length l.length) = [.int .i64 lk, .nils, .sl tb 0 l.length l.length] := rfl
 rw [hset2] at s2
 have k3 : Keep (fun y => y = h.length) h2 (h2.set h.length (.arr [.int .i64 lk, .nils, .sl tb 0 l.length l.length] .tight)) := Keep.set _ _ rfl
 have g03 := get_set_self (o := .arr [.int .i64 lk, .nils, .sl tb 0 l.length l.length] .tight) (lt_of_get g02)
 have g13 := k3.at g12 (by omega)
 have gt3 := k3.at hg (by omega)
 have rs3 := (rs.keep k3 fun b hb e => by have := hP b hb; omega).mono fun b hb => (.inl hb : P b ∨ (h.length + 2 ≤ b ∧ b ≠ tb))
 have K3 : Keep NoneOf h (h2.set h.length (.arr [.int .i64 lk, .nils, .sl tb 0 l.length l.length] .tight)) := (kap.trans k2).then k3 fun y hy e => by omega
 simp [s2]
 generalize h2.set h.length (.arr [.int .i64 lk, .nils, .sl tb 0 l.length l.length] .tight) = H3 at *
 have l03 := ld g03
 simp [l03]
 have hH3 := lt_of_get gt3
 refine W_loop (CpI h.length tb l.length lk stt l (fun b => P b ∨ (h.length + 2 ≤ b ∧ b ≠ tb)) H3) ?_ l.length ⟨0, cells, by omega, by omega, rfl, Keep.refl _ _, gt3, rs3⟩
 rintro m e H4 ⟨i, cs, hi, rfl, rfl, k4, g4, r4⟩
 have g04 := k4.at g03 (by omega)
 have g14 := k4.at g13 (by omega)
 have l04 := ld g04
 have hcs : cs.length = l.length * 5 := by have := r4.1; rw [hn5] at this; exact this
 by_cases hie : i = l.length
 ·subst hie
  have w4 := ldw g04 (n := 3) rfl
  have s5 := sto g14 (vs := [.int .i64 lk, .nils, .sl tb 0 l.length l.length]) rfl rfl
  have k5 : Keep (fun y => y = h.length + 1) H4 (H4.set (h.length + 1) (.arr [.int .i64 lk, .nils, .sl tb 0 l.length l.length] .tight)) := Keep.set _ _ rfl
  have w5 := ldw (get_set_self (o := .arr [.int .i64 lk, .nils, .sl tb 0 l.length l.length] .tight) (lt_of_get g14)) (n := 3) rfl
  have g5 := k5.at g4 (by omega)
  simp [w4, hca, s5, w5]
  have m5 : Mine (H4.set (h.length + 1) (.arr [.int .i64 lk, .nils, .sl tb 0 l.length l.length] .tight)) 5 (.sl tb 0 l.length l.length) cs := .inr ⟨tb, l.length, stt, rfl, hcs, hst, g5⟩
  refine ⟨(K3.then k4 fun y hy e => by omega).then k5 fun y hy e => by omega, cs, m5.read, ⟨m5.ok, fun x hx => by simp [CV.blk] at hx; subst hx; exact .inr (by omega)⟩, ?_⟩
  exact (r4.keep k5 fun b hb e => by rcases hb with hb | hb; · have := hP b hb; omega
                                     ·omega).mono fun b hb => hb.imp id fun q => by omega
 ·have hlt : i < l.length := by omega
  have hlt' : (i : Int) < l.length := by omega
  have hx : idxAddrV 5 (.sl tb 0 l.length l.length) (.int .i64 (i : Int)) = some (.ptr tb (i * 5)) := by
   rw [idxAddrV_sl, if_pos ⟨by omega, by omega⟩]; simp
  have lT := ld g4
  obtain ⟨pv, e, sp⟩ := r4.2 i l[i] (List.getElem?_eq_getElem hlt)
  rw [hn5] at e
  have h4 : cs[i * 5 + 4]? = some pv := by
   have : ((cs.drop (i * 5)).take 5)[4]? = some pv := by rw [e]; rfl
   rwa [List.getElem?_take_of_lt (by omega), List.getElem?_drop] at this
  have hpi := hp _ (List.getElem_mem hlt)
  have hw : IntKind.i64.wrap ((i : Int) + 1) = ((i + 1 : Nat) : Int) := by rw [w64 (by omega) (by omega)]; omega
  simp [hlt, hlt', l04, hx, lT, h4]
  refine WO_re_n ?_
  simp
  have sp' := sp.lt
  refine (cloneO lp sp' (sp.not_nil (by decide) hpi.1) (fun b hb => hb.2) hpi.2).mono ?_
  rintro r h5 ⟨o5, k5, hb5⟩
  have l05 := ld (k5.at g04 id)
  refine ⟨fun c' => by simp [recheckB, wanted, Env.get, cls, evOp, Opd.ev, withH, CV.eqb, CV.eqb_refl, l05], ?_⟩
  have g45 := k5.at g4 id
  have hsc := o5.scalar
  have fs := fits_scalar hsc
  have cs5 := CV.cells_scalar hsc
  have hro : stt ≠ .ro := by rcases hst with rfl | rfl <;> simp
  have s5 : storeAt h5 tb (i * 5 + 4) [r] = some (h5.set tb (.arr (cs.set (i * 5 + 4) r) stt)) := by
   simp only [storeAt, g45]
   rw [if_pos ⟨hro, by simp; omega, by simp [hsc]⟩, splice_set (by omega)]
  simp [hx, hlt, fs, cs5, s5, hw]
  have k6 : Keep (fun y => y = tb) h5 (h5.set tb (.arr (cs.set (i * 5 + 4) r) stt)) := Keep.set _ _ rfl
  have htb4 := lt_of_get g4
  refine ⟨l.length - (i + 1), by omega, i + 1, _, by omega, rfl, rfl, (k4.trans (k5.mono fun _ _ e => e.elim)).trans k6, get_set_self (lt_of_get g45), ?_⟩
  refine rows_prog ((r4.keep k5 fun _ _ => id).keep k6 fun b hb e => ?_) hlt ?_
  ·rcases hb with hb | hb
   ·have := hP b hb; omega
   ·exact hb.2 e
  ·refine (o5.sl.keep k6 fun b hb e => ?_).mono fun b hb => ?_
   ·rcases hb with hb | hb
    ·rcases hb.1 with q | q
     ·have := hP b q; omega
     ·exact q.2 e
    ·have := hb5 b hb; omega
   ·rcases hb with hb | hb
    ·exact hb.1
    ·have := hb5 b hb
     exact .inr ⟨by omega, by omega⟩
def deadJ : JobV := ⟨false, [], 0, 0, 0, 0, 0, 0, false, []⟩
def deadC : List CV := [.bool false, .nils, .int .i64 0, .int .i64 0, .int .i64 0, .int .i64 0, .int .i64 0, .int .i64 0, .bool false, .nils]
structure CoreI (b jb gb mb tb : Nat) (tv bv cev pv : CV) (cells : List CV) (Q : Nat → Prop) (l : List TaskV) (jobs : List JobV) (f : Int → Option Int) (gn now seq : Int) (h : Heap) : Prop where
 g : h[b]? = some (.arr [.int .i64 0, .nils, tv, bv, cev, .sl jb 0 l.length l.length, .nils, .nils, .ptr gb 0, .ptr tb 0, .int .i64 now, .int .i64 seq] .tight)
 jg : h[jb]? = some (.arr cells .tight)
 tg : h[tb]? = some (.arr [.nils] .tight)
 gd : GuardAt h gb pv mb (l.map (·.per)) f gn
 ts : Sl taskC h Q tv l
 bs : Sl (.int .i64) h Q bv (downs l.length)
 rs : Rows jobC h Q cells jobs
 jl : jobs.length = l.length
 a1 : b ≠ jb
 a2 : b ≠ gb
 a3 : b ≠ mb
 a4 : b ≠ tb
 a5 : jb ≠ gb
 a6 : jb ≠ mb
 a7 : jb ≠ tb
 a8 : tb ≠ gb
 a9 : tb ≠ mb
 hQ : ∀ x, Q x → x < h.length ∧ x ≠ b ∧ x ≠ jb ∧ x ≠ gb ∧ x ≠ mb ∧ x ≠ tb
 pQ : ∀ x, pv.blk = some x → Q x
theorem dead_rows {h : Heap} {Q : Nat → Prop} : ∀ n : Nat, Rows jobC h Q ((List.replicate n deadC).flatten) (List.replicate n deadJ)
 | 0 => Rows.nil
 | n + 1 => by
   rw [List.replicate_succ, List.replicate_succ, List.flatten_cons, show deadJ :: List.replicate n deadJ = [deadJ] ++ List.replicate n deadJ from rfl]
   exact Rows.append (Rows.one (e := jobC) ⟨.nils, .nils, rfl, Sl.nil, Sl.nil⟩) (dead_rows n)
theorem Sl.is_sl {α : Type} {e : Cod α} {h : Heap} {P : Nat → Prop} {v : CV} {l : List α} (s : Sl e h P v l) (he : 0 < e.n) (hl : l ≠ []) : ∃ b o c, v = .sl b o l.length c := by
 have n := s.len he
 obtain ⟨_, r, _, rows⟩ := s
 rcases r with ⟨rfl, e⟩ | ⟨b, o, m, c, cs, st, rfl, _⟩
 ·simp at n
  exact absurd (List.eq_nil_of_length_eq_zero (by omega)) hl
 ·simp at n
  obtain rfl : m = l.length := by omega
  exact ⟨b, o, c, rfl⟩
theorem rows_set {α : Type} {e : Cod α} {h : Heap} {P : Nat → Prop} {cells row : List CV} {l : List α} (r : Rows e h P cells l) {i : Nat} {x : α} (hi : i < l.length) (s : e.rep h P row x) : Rows e h P (splice cells (i * e.n) row) (l.set i x) := by
 have hr := e.len s
 have hin : (i + 1) * e.n ≤ cells.length := by rw [r.1]; exact Nat.mul_le_mul_right _ hi
 rw [Nat.succ_mul] at hin
 have hl1 : (cells.take (i * e.n)).length = i * e.n := by rw [List.length_take]; omega
 have hsp : splice cells (i * e.n) row = cells.take (i * e.n) ++ row ++ cells.drop (i * e.n + e.n) := by simp [splice, hr]
 rw [hsp]
 refine ⟨by simp [hr, hl1, ← r.1]; omega, fun j t hj => ?_⟩
 by_cases hji : j = i
 ·subst hji
  rw [List.getElem?_set_self hi] at hj
  obtain rfl := Option.some.inj hj
  rw [List.append_assoc, List.drop_left' hl1, ← hr, List.take_left' rfl]
  exact s
 ·rw [List.getElem?_set_ne (by omega)] at hj
  have q := r.2 j t hj
  by_cases hlt : j < i
  ·have hm : (j + 1) * e.n ≤ i * e.n := Nat.mul_le_mul_right _ hlt
   rw [Nat.succ_mul] at hm
   rw [List.append_assoc, List.drop_append_of_le_length (by omega), List.take_append_of_le_length (by rw [List.length_drop]; omega), List.drop_take, List.take_take, Nat.min_eq_left (by omega)]
   exact q
  ·have hm : (i + 1) * e.n ≤ j * e.n := Nat.mul_le_mul_right _ (by omega)
   rw [Nat.succ_mul] at hm
   have hl2 : (cells.take (i * e.n) ++ row).length = i * e.n + e.n := by rw [List.length_append, hl1, hr]
   have hd : (cells.take (i * e.n) ++ row ++ cells.drop (i * e.n + e.n)).drop (j * e.n) = cells.drop (j * e.n) := by
    obtain ⟨k, hk⟩ : ∃ k, j * e.n = (i * e.n + e.n) + k := ⟨j * e.n - (i * e.n + e.n), by omega⟩
    rw [hk, ← List.drop_drop, List.drop_left' hl2, List.drop_drop]
   rw [hd]
   exact q
structure CoreB where
 b : Nat
 jb : Nat
 gb : Nat
 mb : Nat
 tb : Nat
 tv : CV
 bv : CV
 cev : CV
 pv : CV
structure CoreS where
 jobs : List JobV
 f : Int → Option Int
 gn : Int
 now : Int
 seq : Int
def CoreB.own (K : CoreB) : Nat → Prop := fun y => y = K.b ∨ y = K.jb ∨ y = K.gb ∨ y = K.mb ∨ y = K.tb
def CoreA (K : CoreB) (cells : List CV) (l : List TaskV) (s : CoreS) (Q : Nat → Prop) (h : Heap) : Prop :=
 CoreI K.b K.jb K.gb K.mb K.tb K.tv K.bv K.cev K.pv cells Q l s.jobs s.f s.gn s.now s.seq h
def CoreN (K : CoreB) (l : List TaskV) (s : CoreS) (Q : Nat → Prop) (h h' : Heap) : Prop :=
 Keep K.own h h' ∧ ∃ Q' cells, CoreA K cells l s Q' h' ∧ ∀ y, Q' y → Q y ∨ h.length ≤ y
variable {K : CoreB} {cells : List CV} {l : List TaskV} {s : CoreS} {Q : Nat → Prop} {h h' : Heap}
theorem CoreA.own_lt (c : CoreA K cells l s Q h) : ∀ y, K.own y → y < h.length := by
 rintro y (rfl | rfl | rfl | rfl | rfl)
 ·exact lt_of_get c.g
 ·exact lt_of_get c.jg
 ·exact lt_of_get c.gd.obj
 ·exact c.gd.map.lt
 ·exact lt_of_get c.tg
theorem CoreA.apart (c : CoreA K cells l s Q h) : ∀ y, Q y → ¬ K.own y := by
 intro y hy ho
 have := c.hQ y hy
 rcases ho with e | e | e | e | e <;> omega
theorem CoreA.keep {S : Nat → Prop} (c : CoreA K cells l s Q h) (k : Keep S h h') (hS : ∀ y, S y → ¬ K.own y ∧ ¬ Q y) : CoreA K cells l s Q h' where
 g := k.at c.g fun x => (hS _ x).1 (.inl rfl)
 jg := k.at c.jg fun x => (hS _ x).1 (.inr (.inl rfl))
 tg := k.at c.tg fun x => (hS _ x).1 (.inr (.inr (.inr (.inr rfl))))
 gd := c.gd.keep k (fun x => (hS _ x).1 (.inr (.inr (.inl rfl)))) (fun x => (hS _ x).1 (.inr (.inr (.inr (.inl rfl))))) fun b hb x => (hS _ x).2 (c.pQ _ hb)
 ts := c.ts.keep k fun b hb x => (hS _ x).2 hb
 bs := c.bs.keep k fun b hb x => (hS _ x).2 hb
 rs := c.rs.keep k fun b hb x => (hS _ x).2 hb
 jl := c.jl
 a1 := c.a1
 a2 := c.a2
 a3 := c.a3
 a4 := c.a4
 a5 := c.a5
 a6 := c.a6
 a7 := c.a7
 a8 := c.a8
 a9 := c.a9
 hQ := fun y hy => by have := c.hQ y hy; have := k.len; omega
 pQ := c.pQ
theorem CoreA.on (c : CoreA K cells l s Q h) (k : Keep NoneOf h h') : CoreA K cells l s Q h' := c.keep k fun _ => False.elim
theorem CoreA.wide {Q' : Nat → Prop} (c : CoreA K cells l s Q h) (hQ : ∀ y, Q y → Q' y) (hQ' : ∀ y, Q' y → y < h.length ∧ ¬ K.own y) : CoreA K cells l s Q' h where
 g := c.g
 jg := c.jg
 tg := c.tg
 gd := c.gd
 ts := c.ts.mono hQ
 bs := c.bs.mono hQ
 rs := c.rs.mono hQ
 jl := c.jl
 a1 := c.a1
 a2 := c.a2
 a3 := c.a3
 a4 := c.a4
 a5 := c.a5
 a6 := c.a6
 a7 := c.a7
 a8 := c.a8
 a9 := c.a9
 hQ := fun y hy => ⟨(hQ' y hy).1, fun e => (hQ' y hy).2 (.inl e), fun e => (hQ' y hy).2 (.inr (.inl e)), fun e => (hQ' y hy).2 (.inr (.inr (.inl e))), fun e => (hQ' y hy).2 (.inr (.inr (.inr (.inl e)))), fun e => (hQ' y hy).2 (.inr (.inr (.inr (.inr e))))⟩
 pQ := fun y hy => hQ y (c.pQ y hy)
theorem CoreA.grow {N : Nat} (c : CoreA K cells l s Q h) (hN : ∀ y, K.own y → y < N) : CoreA K cells l s (fun y => Q y ∨ (N ≤ y ∧ y < h.length)) h :=
 c.wide (fun _ => .inl) fun y hy => hy.elim (fun hy => ⟨(c.hQ y hy).1, c.apart y hy⟩) fun hy => ⟨hy.2, fun o => by have := hN y o; omega⟩
theorem CoreA.jobN (c : CoreA K cells l s Q h) : cells.length = l.length * 10 := by
 have := c.rs.1
 rw [c.jl] at this
 exact this
theorem CoreA.setJob (c : CoreA K cells l s Q h) {i : Nat} (hi : i < l.length) {row : List CV} {x : JobV} (r : jobC.rep h Q row x) :
  CoreA K (splice cells (i * 10) row) l { s with jobs := s.jobs.set i x } Q (h.set K.jb (.arr (splice cells (i * 10) row) .tight)) := by
 have k : Keep (fun y => y = K.jb) h (h.set K.jb (.arr (splice cells (i * 10) row) .tight)) := Keep.set _ _ rfl
 have q : ∀ y, Q y → ¬ y = K.jb := fun y hy e => c.apart y hy (.inr (.inl e))
 refine ⟨k.at c.g c.a1, get_set_self (lt_of_get c.jg), k.at c.tg c.a7.symm, c.gd.keep k c.a5.symm c.a6.symm fun y hy => q y (c.pQ y hy), c.ts.keep k q, c.bs.keep k q, ?_, by simpa using c.jl, c.a1, c.a2, c.a3, c.a4, c.a5, c.a6, c.a7, c.a8, c.a9, fun y hy => by simpa using c.hQ y hy, c.pQ⟩
 exact (rows_set (e := jobC) c.rs (by have := c.jl; omega) r).keep k q
theorem CoreA.setNow (c : CoreA K cells l s Q h) (now seq : Int) :
  CoreA K cells l { s with now := now, seq := seq } Q (h.set K.b (.arr [.int .i64 0, .nils, K.tv, K.bv, K.cev, .sl K.jb 0 l.length l.length, .nils, .nils, .ptr K.gb 0, .ptr K.tb 0, .int .i64 now, .int .i64 seq] .tight)) := by
 have k : Keep (fun y => y = K.b) h (h.set K.b (.arr [.int .i64 0, .nils, K.tv, K.bv, K.cev, .sl K.jb 0 l.length l.length, .nils, .nils, .ptr K.gb 0, .ptr K.tb 0, .int .i64 now, .int .i64 seq] .tight)) := Keep.set _ _ rfl
 have q : ∀ y, Q y → ¬ y = K.b := fun y hy e => c.apart y hy (.inl e)
 exact ⟨get_set_self (lt_of_get c.g), k.at c.jg c.a1.symm, k.at c.tg c.a4.symm, c.gd.keep k c.a2.symm c.a3.symm fun y hy => q y (c.pQ y hy), c.ts.keep k q, c.bs.keep k q, c.rs.keep k q, c.jl, c.a1, c.a2, c.a3, c.a4, c.a5, c.a6, c.a7, c.a8, c.a9, fun y hy => by simpa using c.hQ y hy, c.pQ⟩
theorem CoreA.setGuard {f : Int → Option Int} {gn : Int} (c : CoreA K cells l s Q h) (k : Keep (fun y => y = K.gb ∨ y = K.mb) h h') (gd : GuardAt h' K.gb K.pv K.mb (l.map (·.per)) f gn) : CoreA K cells l { s with f := f, gn := gn } Q h' := by
 have q : ∀ y, Q y → ¬ (y = K.gb ∨ y = K.mb) := fun y hy e => c.apart y hy (.inr (.inr (e.imp id .inl)))
 exact ⟨k.at c.g fun e => by have := c.a2; have := c.a3; omega, k.at c.jg fun e => by have := c.a5; have := c.a6; omega, k.at c.tg fun e => by have := c.a8; have := c.a9; omega, gd, c.ts.keep k q, c.bs.keep k q, c.rs.keep k q, c.jl, c.a1, c.a2, c.a3, c.a4, c.a5, c.a6, c.a7, c.a8, c.a9, fun y hy => by have := c.hQ y hy; have := k.len; omega, c.pQ⟩
theorem CoreN.refl (c : CoreA K cells l s Q h) : CoreN K l s Q h h := ⟨Keep.refl _ _, Q, cells, c, fun y => .inl⟩
theorem CoreN.same (c : CoreA K cells l s Q h) (k : Keep NoneOf h h') : CoreN K l s Q h h' := ⟨k.mono fun _ _ => False.elim, Q, cells, c.on k, fun y => .inl⟩
theorem CoreN.on {h2 : Heap} (n : CoreN K l s Q h h') (k : Keep NoneOf h' h2) : CoreN K l s Q h h2 := by
 obtain ⟨k1, Q', cs, c, q⟩ := n
 exact ⟨k1.trans (k.mono fun _ _ => False.elim), Q', cs, c.on k, q⟩
theorem CoreN.from {h1 : Heap} (k : Keep NoneOf h h1) (n : CoreN K l s Q h1 h') : CoreN K l s Q h h' := by
 obtain ⟨k1, Q', cs, c, q⟩ := n
 exact ⟨(k.mono fun _ _ => False.elim).trans k1, Q', cs, c, fun y hy => (q y hy).imp id fun e => by have := k.len; omega⟩
theorem CoreA.row (c : CoreA K cells l s Q h) {i : Nat} (hi : i < l.length) : ∃ x fv hv, s.jobs[i]? = some x ∧ (cells.drop (i * 10)).take 10 = jobCells x fv hv ∧ Sl opC h Q fv x.flat ∧ Sl (.int .i64) h Q hv x.held ∧
  idxAddrV 10 (.sl K.jb 0 l.length l.length) (.int .i64 (i : Int)) = some (.ptr K.jb (i * 10)) ∧ (∀ k, k < 10 → cells[i * 10 + k]? = (jobCells x fv hv)[k]?) ∧ i * 10 + 10 ≤ cells.length := by
 have hn : i < s.jobs.length := by have := c.jl; omega
 obtain ⟨fv, hv, e, s1, s2⟩ := c.rs.2 i s.jobs[i] (List.getElem?_eq_getElem hn)
 have h10 : jobC.n = 10 := rfl
 rw [h10] at e
 have hcl := c.jobN
 refine ⟨s.jobs[i], fv, hv, List.getElem?_eq_getElem hn, e, s1, s2, ?_, fun k hk => ?_, by omega⟩
 ·rw [idxAddrV_sl, if_pos ⟨by omega, by omega⟩]; simp
 ·rw [← e, List.getElem?_take_of_lt hk, List.getElem?_drop]
set_option maxHeartbeats 1000000
variable {p : PP} {K : CoreB} {cells : List CV} {l : List TaskV} {s : CoreS} {Q : Nat → Prop} {h h' : Heap}
def evt (t k i er : Int) : List CV := [.int .i64 t, .int .i64 k, .int .i64 i, .int .i64 0, .int .i64 er, .int .i64 0, .int .i64 0]
theorem evt_fill {t k i er : Int} : fillC [.int .i64 0, .int .i64 0, .int .i64 0, .int .i64 0, .int .i64 0, .int .i64 0, .int .i64 0] [(0, 1, .int .i64 t), (1, 1, .int .i64 k), (2, 1, .int .i64 i), (4, 1, .int .i64 er)] = some (evt t k i er) := rfl
theorem evt_fill3 {t k i : Int} : fillC [.int .i64 0, .int .i64 0, .int .i64 0, .int .i64 0, .int .i64 0, .int .i64 0, .int .i64 0] [(0, 1, .int .i64 t), (1, 1, .int .i64 k), (2, 1, .int .i64 i)] = some (evt t k i 0) := rfl
theorem evt_fill2 {t k : Int} : fillC [.int .i64 0, .int .i64 0, .int .i64 0, .int .i64 0, .int .i64 0, .int .i64 0, .int .i64 0] [(0, 1, .int .i64 t), (1, 1, .int .i64 k)] = some (evt t k 0 0) := rfl
theorem evt_len {t k i er : Int} : (evt t k i er).length = 7 := rfl
end Go.Cl
