/-
  Texts laid together: AXL AXM.
-/
import Derived.Test.YtlndogibbgibgaaGreatDoorMR
import Derived.Test.YtlndogibbgibgaaGreatDoorML
namespace Go.Cl
open Go
set_option linter.unusedSimpArgs false
set_option linter.unusedVariables false
set_option maxHeartbeats 2000000
variable {p p' : PP} {K : CoreW} {cells : List CV} {X : SetV} {s : CoreX} {Q : Nat → Prop} {h h' : Heap}
def freeL (own : List Int) : List Int → List Int
 | [] => own
 | l :: r => (freeL own r).set l.toNat (-1)
def giveAll (z : JobV) : List Int → JobV
 | [] => z
 | l :: r => giveF (giveAll z r) l
@[simp] theorem freeL_length {own : List Int} : ∀ {r : List Int}, (freeL own r).length = own.length
 | [] => rfl
 | l :: r => by rw [freeL, List.length_set, freeL_length]
theorem freeL_get {own : List Int} {j : Nat} : ∀ {r : List Int}, (∀ l ∈ r, 0 ≤ l ∧ l ≠ j) → (freeL own r)[j]? = own[j]?
 | [], _ => rfl
 | l :: r, hr => by
   have h1 := hr l List.mem_cons_self
   rw [freeL, List.getElem?_set_ne (by omega), freeL_get fun l hl => hr l (List.mem_cons_of_mem _ hl)]
theorem giveAll_len {z : JobV} : ∀ {r : List Int}, (giveAll z r).held.length ≤ z.held.length
 | [] => Nat.le_refl _
 | l :: r => by
   rw [giveAll, giveF]
   exact Nat.le_trans (List.length_filter_le _ _) giveAll_len
def AbQ (p' : PP) (bk : Nat) (l : List SOper) (c6 : SCode) (R : List RV) (Kk : CV → Heap → Prop) : Ex → Env → Heap → Prop := fun x e h1 => x = .normal ∧ ∃ bx v, e.get 26 = some (.fn bk [.ptr bx 0]) ∧ loadAt h1 bx 0 none = some v ∧ RoundsW p' l e bx v h1 fun h2 => W p' c6 e h2 (retQ R Kk)
theorem abortX (lp : LP p') (hp : p.pr 332 = some (abortP p'.Pg p'.pr 378 S.f332)) (c : CoreV K cells X s Q h) (hn : X.tasks.length ≤ 12) (h8 : K.lb.length ≤ 1000) (hh : HeldOk X s.jobs) {i : Nat} {z : JobV} {t : Int} (hi : i < X.tasks.length) (hz : s.jobs[i]? = some z)
  (hlo : ∀ l ∈ z.held, l < K.lb.length ∧ s.own[l.toNat]? = some (i : Int)) (hnd : z.held.Nodup) :
  WF p 332 [.ptr K.b 0, .int .i64 t, .int .i64 i] h fun r h' => CoreU K X { s with jobs := s.jobs.set i deadJ, own := freeL s.own z.held } Q h h' ∧ Sl evtC h' (From h) r [evt t 7 i 0] := by
 refine WF_abort (p' := p') hp (by show S.b332 = _; unfold S.b332; rfl) ?_
 show W p' _ _ _ (AbQ p' 378 _ _ _ _)
 have hca : ∀ l, (CV.agg l).cells = l := fun _ => rfl
 simp
 have kap0 := Keep.app NoneOf h [.arr [.ptr K.b 0] .tight, .arr [.int .i64 t] .tight, .arr [.int .i64 (i : Int)] .tight]
 have b3 : (h ++ [Obj.arr [.ptr K.b 0] .tight, .arr [.int .i64 t] .tight, .arr [.int .i64 (i : Int)] .tight])[h.length]? = some (.arr [.ptr K.b 0] .tight) := by simp
 have b4 : (h ++ [Obj.arr [.ptr K.b 0] .tight, .arr [.int .i64 t] .tight, .arr [.int .i64 (i : Int)] .tight])[h.length + 1]? = some (.arr [.int .i64 t] .tight) := by simp
 have b5 : (h ++ [Obj.arr [.ptr K.b 0] .tight, .arr [.int .i64 t] .tight, .arr [.int .i64 (i : Int)] .tight])[h.length + 2]? = some (.arr [.int .i64 (i : Int)] .tight) := by simp
 have hl0 : (h ++ [Obj.arr [.ptr K.b 0] .tight, .arr [.int .i64 t] .tight, .arr [.int .i64 (i : Int)] .tight]).length = h.length + 3 := by simp
 have c0 := c.on kap0
 generalize h ++ [Obj.arr [.ptr K.b 0] .tight, .arr [.int .i64 t] .tight, .arr [.int .i64 (i : Int)] .tight] = H0 at *
 have l3 := ld b3
 simp [l3]
 refine (priosX lp c0 hn h8 hh).mono ?_
 rintro pv H1 ⟨ow, k1, hpb⟩
 have hps : pv.scalar = true := by rcases ow with ⟨rfl, _⟩ | ⟨_, _, rfl, _⟩ <;> rfl
 have s7 := store_new (h := H1) (row := [pv]) (z := [.nils]) rfl (by simp [hps])
 have hk1 := k1.len
 have ka := Keep.app NoneOf H1 [.arr [pv] .tight]
 have fs := fits_scalar hps
 have csc := CV.cells_scalar hps
 simp [fs, csc, s7]
 have l4 := ld (ka.at (k1.at b4 id) id)
 have l5 := ld (ka.at (k1.at b5 id) id)
 have fe : fillC [.int .i64 0, .int .i64 0, .int .i64 0, .int .i64 0, .int .i64 0, .int .i64 0, .int .i64 0] [(0, 1, .int .i64 t), (1, 1, .int .i64 7), (2, 1, .int .i64 (i : Int))] = some (evt t 7 i 0) := rfl
 have fe2 : fillC [.int .i64 0, .int .i64 0, .int .i64 0, .int .i64 0, .int .i64 0, .int .i64 0, .int .i64 0] [(0, 7, .agg (evt t 7 i 0))] = some (evt t 7 i 0) := rfl
 have g8 : (H1 ++ [Obj.arr [pv] .tight, .arr (evt t 7 i 0) .tight, .arr [.nils] .tight])[H1.length + 1 + 1]? = some (.arr [.nils] .tight) := by
  have : (H1 ++ [Obj.arr [pv] .tight, .arr (evt t 7 i 0) .tight, .arr [.nils] .tight])[H1.length + 2]? = some (.arr [.nils] .tight) := by simp
  exact this
 have s8 := sto1 g8 (o := 0) (v := .sl (H1.length + 1) 0 1 1) (by simp) rfl
 have hset8 : (H1 ++ [Obj.arr [pv] .tight, .arr (evt t 7 i 0) .tight, .arr [.nils] .tight]).set (H1.length + 1 + 1) (.arr [.sl (H1.length + 1) 0 1 1] .tight) = H1 ++ [Obj.arr [pv] .tight, .arr (evt t 7 i 0) .tight, .arr [.sl (H1.length + 1) 0 1 1] .tight] := by
  rw [List.set_append_right _ _ (by omega), show H1.length + 1 + 1 - H1.length = 2 by omega]
  rfl
 simp only [List.set_cons_zero] at s8
 rw [hset8] at s8
 have k8 := Keep.app NoneOf H1 [.arr [pv] .tight, .arr (evt t 7 i 0) .tight, .arr [.sl (H1.length + 1) 0 1 1] .tight]
 have g7'' : (H1 ++ [Obj.arr [pv] .tight, .arr (evt t 7 i 0) .tight, .arr [.sl (H1.length + 1) 0 1 1] .tight])[H1.length]? = some (.arr [pv] .tight) := by simp
 have gE' : (H1 ++ [Obj.arr [pv] .tight, .arr (evt t 7 i 0) .tight, .arr [.sl (H1.length + 1) 0 1 1] .tight])[H1.length + 1]? = some (.arr (evt t 7 i 0) .tight) := by simp
 have g8' : (H1 ++ [Obj.arr [pv] .tight, .arr (evt t 7 i 0) .tight, .arr [.sl (H1.length + 1) 0 1 1] .tight])[H1.length + 2]? = some (.arr [.sl (H1.length + 1) 0 1 1] .tight) := by simp
 have hl8 : (H1 ++ [Obj.arr [pv] .tight, .arr (evt t 7 i 0) .tight, .arr [.sl (H1.length + 1) 0 1 1] .tight]).length = H1.length + 3 := by simp
 simp [l4, l5, fe, fe2, s8]
 have c3 := (c0.on k1).on k8
 have b3'' := k8.at (k1.at b3 id) id
 have b4'' := k8.at (k1.at b4 id) id
 have b5'' := k8.at (k1.at b5 id) id
 generalize H1 ++ [Obj.arr [pv] .tight, .arr (evt t 7 i 0) .tight, .arr [.sl (H1.length + 1) 0 1 1] .tight] = H3 at *
 have m3 := ld b3''
 have m5 := ld b5''
 have lC3 := ld c3.g
 obtain ⟨fv, hv, e, rz, s1, s2, hix, lj, w10⟩ := c3.rowAt hi hz
 have lj9 : loadAt H3 K.jb (i * 10 + 9) none = some hv := lj 9 (by decide)
 obtain ⟨hz1, hz2⟩ := hh z (List.mem_of_getElem? hz)
 simp [m3, m5, lC3, hix, hi, lj9]
 refine (cloneN_spec (by rw [lp.pg]; exact S.pg55) (lp.no ⟨rfl, rfl⟩) s2 (by simp [big]; omega)).mono ?_
 rintro sv H4 ⟨o4, k4, hb4⟩
 refine WF_of (by rw [lp.pg]; exact S.pg377) (lp.no ⟨rfl, rfl⟩) ?_
 show W p' S.b377 _ _ (retQ [.t 2] _)
 unfold S.b377
 have csv := CV.cells_scalar o4.scalar
 simp [csv]
 have kap5 := Keep.app NoneOf H4 [.arr [sv] .tight]
 have gbx := get_new (h := H4) (o := .arr [sv] .tight)
 have hl5 : (H4 ++ [Obj.arr [sv] .tight]).length = H4.length + 1 := by simp
 have k45 := k4.trans kap5
 have c5 := c3.on k45
 have d3 := k45.at b3'' id
 have d4 := k45.at b4'' id
 have d5 := k45.at b5'' id
 have d7 := k45.at g7'' id
 have dE := k45.at gE' id
 have d8 := k45.at g8' id
 have o5 := o4.on kap5
 have hown := c.own_lt
 have hk4 := k4.len
 have hsvb : ∀ b, sv.blk = some b → b < H4.length := o4.blk
 generalize H4 ++ [Obj.arr [sv] .tight] = H5 at *
 have KH5 : Keep NoneOf h H5 := ((kap0.trans k1).trans k8).trans k45
 have hQl : ∀ y, Q y → y < h.length := fun y hy => (c.hQ y hy).1
 refine ⟨rfl, H4.length, sv, by simp [Env.get], by rw [ld gbx]; rfl, ?_⟩
 have hend : ∀ h6, Keep (fun y => K.own y ∨ y = H1.length + 2) H5 h6 → (∃ Q' cells, CoreV K cells X { s with jobs := s.jobs.set i (giveAll z z.held), own := freeL s.own z.held } Q' h6 ∧ ∀ y, Q' y → Q y ∨ H5.length ≤ y) → h6[H1.length + 2]? = some (.arr [.sl (H1.length + 1) 0 1 1] .tight) →
   W p' ((SCode.ops [⟨some 37, .load none (.t 3), none, []⟩, ⟨some 38, .nilck (.t 37), none, []⟩, ⟨some 39, .fldAddr 5 (.t 38), none, []⟩, ⟨some 40, .load none (.t 39), none, []⟩, ⟨some 41, .load none (.t 5), none, []⟩,
    ⟨some 42, .build [(.bool false), .nils, (.int .i64 0), (.int .i64 0), (.int .i64 0), (.int .i64 0), (.int .i64 0), (.int .i64 0), (.bool false), .nils] [], none, []⟩, ⟨some 43, .idxAddr 10 (.t 40) (.t 41), none, []⟩, ⟨none, .store (some 10) (.t 43) (.t 42), none, []⟩] (some [(0, []), (1, [0]), (2, [1, 0]), (3, [2, 1, 0]), (4, []), (5, []), (6, [3, 2, 1, 0, 4, 5]), (7, [6, 3, 2, 1, 0, 4, 5])]) [8]).seq
    ((SCode.ops [⟨some 44, .load none (.t 8), none, []⟩, ⟨some 6, .move (.t 44), none, []⟩] none [6]).seq .ret))
    [(3, .ptr h.length 0), (4, .ptr (h.length + 1) 0), (5, .ptr (h.length + 2) 0), (7, .ptr H1.length 0), (8, .ptr (H1.length + 2) 0), (26, .fn 378 [.ptr H4.length 0])] h6
    (retQ [.t 6] fun r h' => CoreU K X { s with jobs := s.jobs.set i deadJ, own := freeL s.own z.held } Q h h' ∧ Sl evtC h' (From h) r [evt t 7 i 0]) := by
  rintro h6 k6 ⟨Q', cs6, c6, q6⟩ g6
  have e3 := ld (k6.at d3 (by rintro (o | o); · have := hown _ o; omega
                              ·omega))
  have e5 := ld (k6.at d5 (by rintro (o | o); · have := hown _ o; omega
                              ·omega))
  have e8 := ld g6
  have lC6 := ld c6.g
  have rz0 : jobC.rep h6 Q' deadC deadJ := ⟨.nils, .nils, rfl, Sl.nil, Sl.nil⟩
  have hz0 : fillC [.bool false, .nils, .int .i64 0, .int .i64 0, .int .i64 0, .int .i64 0, .int .i64 0, .int .i64 0, .bool false, .nils] [] = some deadC := rfl
  have dcl : deadC.length = 10 := rfl
  have sj := c6.stJob hi rz0
  have c7 := c6.setJob hi rz0
  have k7 : Keep (fun y => y = K.jb) h6 (h6.set K.jb (.arr (splice cs6 (i * 10) deadC) .tight)) := Keep.set _ _ rfl
  have hjb := hown K.jb (.inr (.inl rfl))
  have e8' := ld (k7.at g6 (by omega))
  simp [e3, e5, lC6, hix, hi, hz0, dcl, hca, sj, e8']
  have hss : (s.jobs.set i (giveAll z z.held)).set i deadJ = s.jobs.set i deadJ := List.set_set ..
  have gE7 := k7.at (k6.at dE (by rintro (o | o); · have := hown _ o; omega
                                  ·omega)) (by omega)
  have m7 : Mine (h6.set K.jb (.arr (splice cs6 (i * 10) deadC) .tight)) 7 (.sl (H1.length + 1) 0 1 1) (evt t 7 i 0) := .inr ⟨H1.length + 1, 1, .tight, rfl, rfl, .inl rfl, gE7⟩
  refine ⟨⟨((KH5.mono fun _ _ => False.elim).then k6 fun y hy o => o.elim id fun e => by omega).then k7 fun y _ e => .inr (.inl e), Q', _, by rw [← hss]; exact c7, fun y hy => (q6 y hy).imp id fun e => by have := KH5.len; omega⟩, _, m7.read, ⟨m7.ok, fun b hb => ?_⟩, Rows.one (e := evtC) evtC_evt⟩
  simp [CV.blk] at hb
  subst hb
  show h.length ≤ H1.length + 1
  omega
 have hz0 : s.jobs.set i z = s.jobs := by
  apply List.ext_getElem?
  intro j
  by_cases hj : j = i
  ·subst hj; rw [List.getElem?_set_self (by have := (List.getElem?_eq_some_iff.1 hz).1; omega), hz]
  ·rw [List.getElem?_set_ne (by omega)]
 obtain ⟨cc, mi, rs, _⟩ := o5
 obtain rfl := rows_ints.1 rs
 rcases mi with ⟨rfl, e0⟩ | ⟨b, n', stt, rfl, hlen, hst, gd⟩
 ·have hh0 : z.held = [] := by simpa [ints] using e0
  refine .inl ⟨rfl, hend H5 (Keep.refl _ _) ⟨Q, cells, ?_, fun y => .inl⟩ d8⟩
  rw [hh0]
  show CoreV K cells X { s with jobs := s.jobs.set i z, own := s.own } Q H5
  rw [hz0]
  exact c5
 ·have hn1 : (Cod.int IntKind.i64).n = 1 := rfl
  have hnl : n' = z.held.length := by rw [hn1] at hlen; simpa [ints] using hlen.symm
  subst hnl
  have hbl := hsvb b rfl
  have hbh : h.length ≤ b := by have := hb4 b rfl; omega
  refine .inr ⟨b, 0, z.held.length, z.held.length, fun k h' => Keep (fun y => K.own y ∨ y = H1.length + 2) H5 h' ∧ (∃ Q' cells, CoreV K cells X { s with jobs := s.jobs.set i (giveAll z (z.held.drop k)), own := freeL s.own (z.held.drop k) } Q' h' ∧ ∀ y, Q' y → Q y ∨ H5.length ≤ y) ∧ h'[H1.length + 2]? = some (.arr [.sl (H1.length + 1) 0 1 1] .tight),
   rfl, by simp [big]; omega, ⟨Keep.refl _ _, ⟨Q, cells, ?_, fun y => .inl⟩, d8⟩, ?_, ?_⟩
  ·rw [List.drop_length]
   show CoreV K cells X { s with jobs := s.jobs.set i z, own := s.own } Q H5
   rw [hz0]
   exact c5
  ·rintro k h6 hk ⟨k6, ⟨Q', cs6, c6, q6⟩, g6⟩
   have hb3 : H3.length ≤ b := by have := hb4 b rfl; omega
   have e3 := ld (k6.at d3 (by rintro (o | o); · have := hown _ o; omega
                               ·omega))
   have e4 := ld (k6.at d4 (by rintro (o | o); · have := hown _ o; omega
                               ·omega))
   have e5 := ld (k6.at d5 (by rintro (o | o); · have := hown _ o; omega
                               ·omega))
   have e7 := ld (k6.at d7 (by rintro (o | o); · have := hown _ o; omega
                               ·omega))
   have e8 := ld g6
   have ebx := ld (k6.at gbx (by rintro (o | o); · have := hown _ o; omega
                                 ·omega))
   have ed := ld (k6.at gd (by rintro (o | o); · have := hown _ o; omega
                               ·omega))
   obtain ⟨lk, hlk⟩ : ∃ lk : Nat, z.held[k] = lk := ⟨z.held[k].toNat, by have := (hz2 _ (List.getElem_mem hk)).1; omega⟩
   obtain ⟨q1, q2⟩ := hlo _ (List.getElem_mem hk)
   rw [hlk] at q1 q2
   have hdr : z.held.drop k = (lk : Int) :: z.held.drop (k + 1) := by rw [List.drop_eq_getElem_cons hk, hlk]
   refine ⟨by rw [ebx]; rfl, (lk : Int), by rw [ed, Nat.zero_add, ints_get, List.getElem?_eq_getElem hk, hlk]; rfl, ?_⟩
   have hil : i < s.jobs.length := (List.getElem?_eq_some_iff.1 hz).1
   have hz6 : (s.jobs.set i (giveAll z (z.held.drop (k + 1))))[i]? = some (giveAll z (z.held.drop (k + 1))) := List.getElem?_set_self hil
   have ho6 : (freeL s.own (z.held.drop (k + 1)))[lk]? = some (i : Int) := by
    rw [freeL_get fun l hl => ⟨(hz2 l (List.mem_of_mem_drop hl)).1, fun e => ?_⟩]
    ·simpa using q2
    ·have hnd2 : (z.held.drop k).Nodup := hnd.sublist (List.drop_sublist _ _)
     rw [hdr, List.nodup_cons] at hnd2
     exact hnd2.1 (e ▸ hl)
   have hgl : (giveAll z (z.held.drop (k + 1))).held.length ≤ big := by have := giveAll_len (z := z) (r := z.held.drop (k + 1)); simp [big]; omega
   have key : WF p' 328 [.ptr K.b 0, .int .i64 t, .int .i64 i, .int .i64 lk, pv] h6 _ := giveX lp c6 (t := t) (pv := pv) hi hz6 (by omega : lk < K.lb.length) ho6 hgl
   unfold backEnv
   simp [Env.put, e3, e4, e5, e7, e8]
   refine WO_re_n ?_
   simp
   refine key.mono ?_
   rintro r h7 ⟨rfl, k7, Q7, cs7, c7, q7⟩
   have g7 := k7.at g6 fun o => by have := hown _ o; omega
   have e87 := ld g7
   refine ⟨fun c' => by simp [recheckB, wanted, Env.get, cls, evOp, Opd.ev, withH, CV.eqb, CV.eqb_refl, CV.eqbL_refl, e87, i64], ?_⟩
   have s9 := sto1 g7 (o := 0) (v := .sl (H1.length + 1) 0 1 1) (by simp) rfl
   simp only [List.set_cons_zero] at s9
   have hbig1 : ¬ big < 1 := by simp [big]
   have happ : appendTo h7 7 (.sl (H1.length + 1) 0 1 1) 0 [] = some (.sl (H1.length + 1) 0 1 1, h7) := by simp [appendTo, big]
   have hsp : spread h7 7 .nils = some (0, []) := rfl
   simp [hsp, happ, s9]
   have k9 : Keep (fun y => y = H1.length + 2) h7 (h7.set (H1.length + 2) (.arr [.sl (H1.length + 1) 0 1 1] .tight)) := Keep.set _ _ rfl
   have hQ7 : ∀ y, Q7 y → Q y ∨ H5.length ≤ y := fun y hy => by
    rcases q7 y hy with q | q
    ·exact q6 y q
    ·have := k6.len; exact .inr (by omega)
   refine ⟨(k6.trans (k7.mono fun _ _ => .inl)).trans (k9.mono fun _ _ => .inr), ⟨Q7, ⟨cs7, ?_⟩, hQ7⟩, get_set_self (lt_of_get g7)⟩
   have c9 := c7.keep k9 fun y e => ⟨fun o => by have := hown y o; omega, fun q => by
    rcases hQ7 y q with q | q
    ·have := hQl y q; omega
    ·omega⟩
   simp only [List.set_set] at c9
   rw [hdr]
   show CoreV K cs7 X { s with jobs := s.jobs.set i (giveF (giveAll z (z.held.drop (k + 1))) lk), own := (freeL s.own (z.held.drop (k + 1))).set (lk : Int).toNat (-1) } Q7 _
   rw [show (lk : Int).toNat = lk by omega]
   exact c9
  ·rintro h6 ⟨k6, q6, g6⟩
   exact hend h6 k6 (by simpa using q6) g6
structure LA (p p' : PP) : Prop where
 lp : LP p
 lp' : LP p'
 ab : p.pr 332 = some (abortP p'.Pg p'.pr 378 S.f332)
structure WellJ (X : SetV) (own : List Int) (i : Nat) (z : JobV) : Prop where
 waits : z.waits = false
 flat : z.flat.length ≤ 1000
 pc : 0 ≤ z.pc ∧ z.pc ≤ z.flat.length
 left : z.left ≠ 0 → z.pc < z.flat.length
 heldl : (z.held.length : Int) ≤ z.pc
 nd : z.held.Nodup
 held : ∀ l ∈ z.held, 0 ≤ l ∧ l < X.locks ∧ own[l.toNat]? = some (i : Int)
def WellX (X : SetV) (s : CoreX) : Prop := ∀ (i : Nat) z, s.jobs[i]? = some z → WellJ X s.own i z
theorem WellX.heldOk (w : WellX X s) : HeldOk X s.jobs := fun z hz => by
 obtain ⟨i, hi⟩ := List.mem_iff_getElem?.1 hz
 have q := w i z hi
 exact ⟨by have := q.heldl; have := q.pc; have := q.flat; omega, fun l hl => ⟨(q.held l hl).1, (q.held l hl).2.1⟩⟩
def abortS (s : CoreX) (i : Nat) (z : JobV) : CoreX := { s with jobs := s.jobs.set i deadJ, own := freeL s.own z.held }
theorem abortW (la : LA p p') (c : CoreV K cells X s Q h) (hn : X.tasks.length ≤ 12) (hlk : K.lb.length = X.locks) (h8 : K.lb.length ≤ 1000) (w : WellX X s) {i : Nat} {z : JobV} {t : Int} (hi : i < X.tasks.length) (hz : s.jobs[i]? = some z) :
  WF p 332 [.ptr K.b 0, .int .i64 t, .int .i64 i] h fun r h' => CoreU K X (abortS s i z) Q h h' ∧ Sl evtC h' (From h) r [evt t 7 i 0] :=
 abortX la.lp' la.ab c hn h8 w.heldOk hi hz (fun l hl => by have := (w i z hz).held l hl; exact ⟨by omega, this.2.2⟩) (w i z hz).nd
theorem jobX (lp : LP p) (c : CoreV K cells X s Q h) {i : Nat} {x : JobV} (hi : i < X.tasks.length) (hx : s.jobs[i]? = some x) (hf : x.flat.length ≤ 1000) (hh : x.held.length ≤ big) :
  WF p 312 [.ptr K.b 0, .int .i64 i] h fun r h' => ∃ d, r = .agg d ∧ d.length = 10 ∧ d[0]? = some (.bool x.live) ∧ d[3]? = some (.int .i64 x.left) ∧ Keep NoneOf h h' := by
 refine WF_of (by rw [lp.pg]; exact S.pg312) (lp.no ⟨rfl, rfl⟩) ?_
 show W p S.b312 _ _ (retQ [.cell (some 10) 4] _)
 unfold S.b312
 have kap := Keep.app NoneOf h [.arr [.bool false, .nils, .int .i64 0, .int .i64 0, .int .i64 0, .int .i64 0, .int .i64 0, .int .i64 0, .bool false, .nils] .tight]
 have c0 := c.on kap
 have g0 := get_new (h := h) (o := .arr [.bool false, .nils, .int .i64 0, .int .i64 0, .int .i64 0, .int .i64 0, .int .i64 0, .int .i64 0, .bool false, .nils] .tight)
 have hl0 : (h ++ [Obj.arr [.bool false, .nils, .int .i64 0, .int .i64 0, .int .i64 0, .int .i64 0, .int .i64 0, .int .i64 0, .bool false, .nils] .tight]).length = h.length + 1 := by simp
 simp
 generalize h ++ [Obj.arr [.bool false, .nils, .int .i64 0, .int .i64 0, .int .i64 0, .int .i64 0, .int .i64 0, .int .i64 0, .bool false, .nils] .tight] = H0 at *
 refine (knownX lp c0 i).mono ?_
 rintro r h1 ⟨rfl, rfl⟩
 have lC := ld c0.g
 obtain ⟨y, fv, hv, hy, e, s1, s2, hix, hc, hbd⟩ := c0.row hi
 obtain rfl : x = y := by rw [hx] at hy; exact Option.some.inj hy
 have w10 : loadAt h1 K.jb (i * 10) (some 10) = some (.agg (jobCells x fv hv)) := by rw [ldn c0.jg, if_pos hbd, e]
 have jf := jobCells_flat (x := x) s1.scalar s2.scalar
 have sn := store_new (h := h1) (row := jobCells x fv hv) (z := [.bool false, .nils, .int .i64 0, .int .i64 0, .int .i64 0, .int .i64 0, .int .i64 0, .int .i64 0, .bool false, .nils]) rfl jf
 have kap3 := Keep.app NoneOf h1 [.arr (jobCells x fv hv) .tight]
 have g5 := get_new (h := h1) (o := .arr (jobCells x fv hv) .tight)
 have jl : (jobCells x fv hv).length = 10 := rfl
 have hl3 : (h1 ++ [Obj.arr (jobCells x fv hv) .tight]).length = h1.length + 1 := by simp
 have g03 := kap3.at g0 id
 have t1 := s1.on kap3
 have t2 := s2.on kap3
 simp [hi, lC, hix, w10, sn, jl]
 generalize h1 ++ [Obj.arr (jobCells x fv hv) .tight] = H3 at *
 have lr1 : loadAt H3 h1.length 1 none = some fv := by rw [ld g5]; rfl
 have lr9 : loadAt H3 h1.length 9 none = some hv := by rw [ld g5]; rfl
 simp [lr1, lr9]
 refine WO_re_n ?_
 simp
 have hown := c.own_lt
 refine (cloneOp lp t1 (fun b hb => by have := (c0.hQ b hb).1; omega) hf).mono ?_
 rintro r4 h4 ⟨hr4, k4⟩
 have g54 := k4.at g5 id
 have lr94 : loadAt h4 h1.length 9 none = some hv := by rw [ld g54]; rfl
 refine ⟨fun c' => by simp [recheckB, wanted, Env.get, cls, evOp, Opd.ev, withH, CV.eqb, CV.eqb_refl, CV.eqbL_refl, lr94, i64], ?_⟩
 try simp
 refine (cloneN_spec (by rw [lp.pg]; exact S.pg55) (lp.no ⟨rfl, rfl⟩) (t2.on k4) hh).mono ?_
 rintro r6 h6 ⟨o6, k6, _⟩
 have hr6 := o6.scalar
 have g56 := k6.at g54 id
 have g06 := k6.at (k4.at g03 id) id
 have c4 := CV.cells_scalar hr4
 have c6 := CV.cells_scalar hr6
 have f4 := fits_scalar hr4
 have f6 := fits_scalar hr6
 have s7 := sto1 g56 (o := 1) (v := r4) (by simp [jl]) hr4
 have g57 := get_set_self (o := .arr ((jobCells x fv hv).set 1 r4) .tight) (lt_of_get g56)
 have k7 : Keep (fun y => y = h1.length) h6 (h6.set h1.length (.arr ((jobCells x fv hv).set 1 r4) .tight)) := Keep.set _ _ rfl
 have s8 := sto1 g57 (o := 9) (v := r6) (by simp [jl]) hr6
 have k8 : Keep (fun y => y = h1.length) (h6.set h1.length (.arr ((jobCells x fv hv).set 1 r4) .tight)) ((h6.set h1.length (.arr ((jobCells x fv hv).set 1 r4) .tight)).set h1.length (.arr (((jobCells x fv hv).set 1 r4).set 9 r6) .tight)) := Keep.set _ _ rfl
 have g58 := get_set_self (o := .arr (((jobCells x fv hv).set 1 r4).set 9 r6) .tight) (lt_of_get g57)
 have hj : ((jobCells x fv hv).set 1 r4).set 9 r6 = jobCells x r4 r6 := rfl
 rw [hj] at s8 k8 g58
 have g08 := k8.at (k7.at g06 (by omega)) (by omega)
 have K8 : Keep NoneOf h ((h6.set h1.length (.arr ((jobCells x fv hv).set 1 r4) .tight)).set h1.length (.arr (jobCells x r4 r6) .tight)) :=
  ((((kap.trans kap3).trans k4).trans k6).then k7 fun y hy e => by omega).then k8 fun y hy e => by omega
 rw [if_pos f4, c4, s7]
 simp only [OV_some]
 rw [if_pos f6, c6, s8]
 simp only [OV_some]
 generalize (h6.set h1.length (.arr ((jobCells x fv hv).set 1 r4) .tight)).set h1.length (.arr (jobCells x r4 r6) .tight) = H8 at *
 have w8 := ldw g58 (n := 10) rfl
 have s9 := sto g08 (vs := jobCells x r4 r6) rfl (jobCells_flat hr4 hr6)
 have w9 := ldw (get_set_self (o := .arr (jobCells x r4 r6) .tight) (lt_of_get g08)) (n := 10) rfl
 have hca : ∀ l, (CV.agg l).cells = l := fun _ => rfl
 have jl6 : (jobCells x r4 r6).length = 10 := rfl
 simp [w8, hca, jl6, s9, w9]
 exact ⟨rfl, rfl, K8.then (Keep.set (S := fun y => y = h.length) _ _ rfl) fun y hy e => by omega⟩
theorem beginX (la : LA p p') (c : CoreV K cells X s Q h) (hn : X.tasks.length ≤ 12) (hlk : K.lb.length = X.locks) (h8 : K.lb.length ≤ 1000) (w : WellX X s) {i : Nat} {x : JobV} {t : Int} (hi : i < X.tasks.length) (hx : s.jobs[i]? = some x) :
  WF p 325 [.ptr K.b 0, .int .i64 t, .int .i64 i] h fun r h' => if (beginF x).2 = true then r = .nils ∧ CoreU K X { s with jobs := s.jobs.set i (beginF x).1 } Q h h' else CoreU K X (abortS s i x) Q h h' ∧ Sl evtC h' (From h) r [evt t 7 i 0] := by
 have lp := la.lp
 refine WF_of (by rw [lp.pg]; exact S.pg325) (lp.no ⟨rfl, rfl⟩) ?_
 show W p S.b325 _ _ (retQ [.t 6] _)
 unfold S.b325
 have lC := ld c.g
 obtain ⟨fv, hv, e, rx, s1, s2, hix, lj, w10⟩ := c.rowAt hi hx
 simp [lC, hix, hi, w10]
 refine (begin36 lp rx).mono ?_
 rintro r h3 ⟨k3, d, rfl, rd⟩
 have dl : d.length = 10 := jobC.len rd
 have df := jobC.flat rd
 have sn := store_new (h := h3) (row := d) (z := [.bool false, .nils, .int .i64 0, .int .i64 0, .int .i64 0, .int .i64 0, .int .i64 0, .int .i64 0, .bool false, .nils]) (by rw [dl]; rfl) df
 have kap3 := Keep.app NoneOf h3 [.arr d .tight]
 have c4 := (c.on k3).on kap3
 have lC4 := ld c4.g
 have w4 := ldw (get_new (h := h3) (o := .arr d .tight)) (n := 10) dl
 have rd4 := jobC.on rd kap3
 have sj := c4.stJob hi rd4
 have c5 := c4.setJob hi rd4
 have hca : ∀ l, (CV.agg l).cells = l := fun _ => rfl
 have K4 := k3.trans kap3
 by_cases hb : (beginF x).2 = true
 ·rw [hb]
  simp [dl, hca, sn]
  generalize h3 ++ [Obj.arr d .tight] = H4 at *
  simp [lC4, w4, hix, hi, dl, hca, sj]
  exact ⟨(K4.mono fun _ _ => False.elim).then (Keep.set (S := fun y => y = K.jb) _ _ rfl) fun y _ e => .inr (.inl e), Q, _, c5, fun y => .inl⟩
 ·simp only [Bool.not_eq_true] at hb
  rw [hb]
  simp [dl, hca, sn]
  generalize h3 ++ [Obj.arr d .tight] = H4 at *
  refine (abortW la c4 hn hlk h8 w (t := t) hi hx).mono ?_
  rintro r h5 ⟨u5, ev5⟩
  try simp
  exact ⟨CoreU.from K4 u5, ev5.mono fun y hy => by simp only [From] at hy ⊢; have := K4.len; omega⟩
def tickS (s : CoreX) (i : Nat) (z : JobV) : CoreX × List (List CV) :=
 if (tickF z).2 = true then (abortS { s with jobs := s.jobs.set i (tickF z).1 } i (tickF z).1, [evt s.now 3 i 0, evt (s.now + 1) 7 i 0]) else ({ s with jobs := s.jobs.set i (tickF z).1 }, [evt s.now 3 i 0])
theorem WellX.set (w : WellX X s) {i : Nat} {z : JobV} (hz : WellJ X s.own i z) : WellX X { s with jobs := s.jobs.set i z } := fun j y hy => by
 have hy : (s.jobs.set i z)[j]? = some y := hy
 by_cases hj : j = i
 ·subst hj
  have hlt := (List.getElem?_eq_some_iff.1 hy).1
  rw [List.length_set] at hlt
  rw [List.getElem?_set_self hlt] at hy
  obtain rfl := Option.some.inj hy
  exact hz
 ·rw [List.getElem?_set_ne (by omega)] at hy
  exact w j y hy
theorem tick_well {own : List Int} {i : Nat} {z : JobV} (w : WellJ X own i z) (hl : z.left ≠ 0) : WellJ X own i (tickF z).1 := by
 have hp := w.left hl
 have hf := w.flat
 have hpc := w.pc
 have hh := w.heldl
 unfold tickF
 split
 ·split
  ·have hw : IntKind.i64.wrap (z.pc + 1) = z.pc + 1 := w64 (by omega) (by omega)
   exact ⟨w.waits, w.flat, by simp only [hw]; omega, fun h => absurd rfl h, by simp only [hw]; omega, w.nd, w.held⟩
  ·exact ⟨w.waits, w.flat, w.pc, fun _ => hp, w.heldl, w.nd, w.held⟩
 ·exact w
theorem tickX (la : LA p p') (c : CoreV K cells X s Q h) (hn : X.tasks.length ≤ 12) (hlk : K.lb.length = X.locks) (h8 : K.lb.length ≤ 1000) (w : WellX X s) {i : Nat} {x : JobV} (hi : i < X.tasks.length) (hx : s.jobs[i]? = some x) (hlv : x.live = true) (hlf : x.left ≠ 0) (hw : IntKind.i64.wrap (s.now + 1) = s.now + 1) :
  WF p 310 [.ptr K.b 0, .int .i64 i] h fun r h' => CoreU K X (tickS s i x).1 Q h h' ∧ Sl evtC h' (From h) r (tickS s i x).2 := by
 have lp := la.lp
 have hwt := (w i x hx).waits
 refine WF_of (by rw [lp.pg]; exact S.pg310) (lp.no ⟨rfl, rfl⟩) ?_
 show W p S.b310 _ _ (retQ [.t 4] _)
 unfold S.b310
 simp
 refine (knownX lp c i).mono ?_
 rintro r h1 ⟨rfl, rfl⟩
 have lC := ld c.g
 obtain ⟨fv, hv, e, rx, s1, s2, hix, lj, w10⟩ := c.rowAt hi hx
 have l0 : loadAt h1 K.jb (i * 10) none = some (.bool true) := by have := lj 0 (by omega); rw [Nat.add_zero] at this; rw [this, ← hlv]; rfl
 have l8 : loadAt h1 K.jb (i * 10 + 8) none = some (.bool false) := by rw [lj 8 (by omega), ← hwt]; rfl
 have l3 : loadAt h1 K.jb (i * 10 + 3) none = some (.int .i64 x.left) := by rw [lj 3 (by omega)]; rfl
 have kap := Keep.app NoneOf h1 [.arr (evt s.now 3 i 0) .tight]
 have c2 := c.on kap
 have lC2 := ld c2.g
 obtain ⟨fv2, hv2, e2, rx2, _, _, _, _, w102⟩ := c2.rowAt hi hx
 have gE2 := get_new (h := h1) (o := .arr (evt s.now 3 i 0) .tight)
 have hl2 : (h1 ++ [Obj.arr (evt s.now 3 i 0) .tight]).length = h1.length + 1 := by simp
 have hbs : fillC [.int .i64 0, .int .i64 0, .int .i64 0, .int .i64 0, .int .i64 0, .int .i64 0, .int .i64 0] [(0, 7, .agg (evt s.now 3 i 0))] = some (evt s.now 3 i 0) := rfl
 simp [hi, lC, hix, l0, l8, l3, hlf, evt_fill3, hbs]
 generalize h1 ++ [Obj.arr (evt s.now 3 i 0) .tight] = H2 at *
 simp [lC2, hix, hi, w102]
 refine (tick_spec (by rw [lp.pg]; exact S.pg39) (lp.no ⟨rfl, rfl⟩) rx2).mono ?_
 rintro r h3 ⟨k3, d, rfl, rd⟩
 have dl : d.length = 10 := jobC.len rd
 have df := jobC.flat rd
 have sn := store_new (h := h3) (row := d) (z := [.bool false, .nils, .int .i64 0, .int .i64 0, .int .i64 0, .int .i64 0, .int .i64 0, .int .i64 0, .bool false, .nils]) (by rw [dl]; rfl) df
 have kap3 := Keep.app NoneOf h3 [.arr d .tight]
 have c4 := (c2.on k3).on kap3
 have lC4 := ld c4.g
 have w4 := ldw (get_new (h := h3) (o := .arr d .tight)) (n := 10) dl
 have rd4 := jobC.on rd kap3
 have sj := c4.stJob hi rd4
 have c5 := c4.setJob hi rd4
 have gE4 := kap3.at (k3.at gE2 id) id
 have hca : ∀ l, (CV.agg l).cells = l := fun _ => rfl
 have hkl := k3.len
 have hown := c.own_lt
 have hjb := hown K.jb (.inr (.inl rfl))
 have hil : i < s.jobs.length := (List.getElem?_eq_some_iff.1 hx).1
 have K4 := (kap.trans k3).trans kap3
 have hev : ∀ h6, h6[h1.length]? = some (.arr (evt s.now 3 i 0) .tight) → Mine h6 7 (.sl h1.length 0 1 1) (evt s.now 3 i 0) := fun h6 g => .inr ⟨h1.length, 1, .tight, rfl, rfl, .inl rfl, g⟩
 simp [dl, hca, sn]
 generalize h3 ++ [Obj.arr d .tight] = H4 at *
 simp [lC4, w4, hix, hi, dl, hca, sj]
 have k5 : Keep (fun y => y = K.jb) H4 (H4.set K.jb (.arr (splice cells (i * 10) d) .tight)) := Keep.set _ _ rfl
 have gE5 := k5.at gE4 (by omega)
 have K5 : Keep K.own h1 (H4.set K.jb (.arr (splice cells (i * 10) d) .tight)) := (K4.mono fun _ _ => False.elim).then k5 fun y _ e => .inr (.inl e)
 generalize H4.set K.jb (.arr (splice cells (i * 10) d) .tight) = H5 at *
 by_cases hov : (tickF x).2 = true
 ·have lC5 := ld c5.g
  have w5 : WellX X { s with jobs := s.jobs.set i (tickF x).1 } := w.set (tick_well (w i x hx) hlf)
  have hx5 : (s.jobs.set i (tickF x).1)[i]? = some (tickF x).1 := List.getElem?_set_self hil
  rw [hov]
  simp [lC5, hw]
  refine (abortW la c5 hn hlk h8 w5 (t := s.now + 1) hi hx5).mono ?_
  rintro r h6 ⟨⟨k6, Q6, cs6, c6, q6⟩, ev6⟩
  have gE6 := k6.at gE5 fun o => by have := hown _ o; omega
  obtain ⟨cc, sp1, sp2⟩ := ev6.spread (by decide)
  have sp1 : spread h6 7 r = some (1, cc) := sp1
  have hKl := K5.len
  have o6 : OwnL evtC h6 NoneOf (.sl h1.length 0 1 1) [evt s.now 3 i 0] := ⟨_, hev h6 gE6, Rows.one (e := evtC) evtC_evt, fun _ _ => id⟩
  simp [sp1]
  refine OV_pushes (e := evtC) o6 (evtRows (P' := NoneOf) sp2) rfl (fun _ hb => hb.elim) (by simp [big]) (by simp [big]) (by decide) fun v' h7 o7 k7 hb7 => ?_
  simp [tickS, hov]
  have c7 := c6.keep k7 fun y e => by
   simp [CV.blk] at e
   subst e
   exact ⟨fun o => by have := hown _ o; omega, fun q => by
    rcases q6 _ q with q | q
    ·have := (c.hQ _ q).1; omega
    ·have := lt_of_get gE5; omega⟩
  refine ⟨⟨(K5.trans k6).then k7 fun y hy e => by simp [CV.blk] at e; omega, Q6, cs6, c7, fun y hy => (q6 y hy).imp id fun e => by omega⟩, o7.sl.mono fun y hy => ?_⟩
  rcases hy with hy | hy
  ·exact hy.elim
  ·rcases hb7 y hy with q | q
   ·simp [CV.blk] at q; subst q; exact Nat.le_refl _
   ·simp only [From]; have := k6.len; omega
 ·simp only [Bool.not_eq_true] at hov
  rw [hov]
  simp [tickS, hov]
  have m := hev H5 gE5
  exact ⟨⟨K5, Q, _, c5, fun y => .inl⟩, _, m.read, ⟨m.ok, fun b hb => by simp [CV.blk] at hb; subst hb; exact Nat.le_refl _⟩, Rows.one (e := evtC) evtC_evt⟩
end Go.Cl
