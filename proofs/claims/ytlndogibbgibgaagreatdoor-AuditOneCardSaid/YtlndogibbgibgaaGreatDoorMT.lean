/-
  Texts laid together: AXN.
-/
import Derived.Test.YtlndogibbgibgaaGreatDoorMS
namespace Go.Cl
open Go
set_option linter.unusedSimpArgs false
set_option linter.unusedVariables false
set_option maxHeartbeats 4000000
variable {p p' : PP} {K : CoreW} {cells : List CV} {X : SetV} {s : CoreX} {Q : Nat → Prop} {h h' : Heap}
def opSX (s : CoreX) (i : Nat) (bh : Bool) : Option (CoreX × List (List CV)) :=
 match s.jobs[i]? with
 | none => none
 | some z =>
   if z.live = true ∧ z.left = 0 then
    if (nowF z).2 = false then some ({ s with jobs := s.jobs.set i deadJ }, [evt (s.now + if bh = true then 1 else 0) 6 i 0])
    else if (nowF z).1.kind = 1 then
     if (beginF z).2 = true then some ({ s with jobs := s.jobs.set i (beginF z).1 }, [])
     else some (abortS s i z, [evt (s.now + if bh = true then 1 else 0) 7 i 0])
    else if (nowF z).1.kind = 2 then
     if 0 ≤ (nowF z).1.n ∧ s.own[(nowF z).1.n.toNat]? = some (-1) then
      some ({ s with jobs := s.jobs.set i (stepF (takeF z (nowF z).1.n)), own := s.own.set (nowF z).1.n.toNat i }, [evR (s.now + if bh = true then 1 else 0) i z.pc 0 0 0])
     else none
    else if (nowF z).1.kind = 3 then
     if 0 ≤ (nowF z).1.n ∧ s.own[(nowF z).1.n.toNat]? = some (i : Int) then
      some ({ s with jobs := s.jobs.set i (giveF (stepF z) (nowF z).1.n), own := s.own.set (nowF z).1.n.toNat (-1) }, [evR (s.now + if bh = true then 1 else 0) i z.pc 0 0 0])
     else none
    else none
   else none
theorem opX (la : LA p p') (c : CoreV K cells X s Q h) (hn : X.tasks.length ≤ 12) (hlk : K.lb.length = X.locks) (h8 : K.lb.length ≤ 1000) (w : WellX X s) {i : Nat} (hi : i < X.tasks.length) {bh : Bool} {s' : CoreX} {ev : List (List CV)} (ho : opSX s i bh = some (s', ev)) (hw : IntKind.i64.wrap (s.now + 1) = s.now + 1) :
  WF p 307 [.ptr K.b 0, .int .i64 i, .bool bh] h fun r h' => ∃ v, r = .tup [v, .bool true] ∧ CoreU K X s' Q h h' ∧ Sl evtC h' (From h) v ev := by
 have lp := la.lp
 have hn0 : i < s.jobs.length := by have := c.jl; omega
 obtain ⟨x, hx⟩ : ∃ x, s.jobs[i]? = some x := ⟨_, List.getElem?_eq_getElem hn0⟩
 obtain ⟨fv, hv, e, rx, s1, s2, hix, lj, w10⟩ := c.rowAt hi hx
 have wx := w i x hx
 have hwt := wx.waits
 simp only [opSX, hx] at ho
 by_cases hpre : x.live = true ∧ x.left = 0
 case neg => simp [hpre] at ho
 rw [if_pos hpre] at ho
 obtain ⟨hlv, hlf⟩ := hpre
 refine WF_of (by rw [lp.pg]; exact S.pg307) (lp.no ⟨rfl, rfl⟩) ?_
 show W p S.b307 _ _ (retQ [.t 6, .t 7] _)
 unfold S.b307
 simp
 refine (knownX lp c i).mono ?_
 rintro r h1 ⟨rfl, rfl⟩
 have lC := ld c.g
 have l0 : loadAt h1 K.jb (i * 10) none = some (.bool true) := by have := lj 0 (by omega); rw [Nat.add_zero] at this; rw [this, ← hlv]; rfl
 have l8 : loadAt h1 K.jb (i * 10 + 8) none = some (.bool false) := by rw [lj 8 (by omega), ← hwt]; rfl
 have l3 : loadAt h1 K.jb (i * 10 + 3) none = some (.int .i64 0) := by rw [lj 3 (by omega), ← hlf]; rfl
 have hca : ∀ l, (CV.agg l).cells = l := fun _ => rfl
 have hown := c.own_lt
 have hjb := hown K.jb (.inr (.inl rfl))
 have key : WF p 30 [.agg (jobCells x fv hv)] h1 fun r h2 => Keep NoneOf h1 h2 ∧ ∃ d, r = .tup [.agg d, .bool (nowF x).2] ∧ opC.rep h2 Q d (nowF x).1 := now_spec (by rw [lp.pg]; exact S.pg30) (lp.no ⟨rfl, rfl⟩) rx
 have hbs : ∀ T : Int, fillC [.int .i64 0, .int .i64 0, .int .i64 0, .int .i64 0, .int .i64 0, .int .i64 0, .int .i64 0] [(0, 7, .agg (evt T 6 i 0))] = some (evt T 6 i 0) := fun _ => rfl
 have hbr : ∀ T : Int, fillC [.int .i64 0, .int .i64 0, .int .i64 0, .int .i64 0, .int .i64 0, .int .i64 0, .int .i64 0] [(0, 7, .agg (evR T i x.pc 0 0 0))] = some (evR T i x.pc 0 0 0) := fun _ => rfl
 have hz : fillC [.bool false, .nils, .int .i64 0, .int .i64 0, .int .i64 0, .int .i64 0, .int .i64 0, .int .i64 0, .bool false, .nils] [] = some deadC := rfl
 have dcl : deadC.length = 10 := rfl
 have rz : ∀ h, jobC.rep h Q deadC deadJ := fun h => ⟨.nils, .nils, rfl, Sl.nil, Sl.nil⟩
 have hT : ∃ T : Int, T = s.now + (if bh = true then 1 else 0) := ⟨_, rfl⟩
 obtain ⟨T, hT⟩ := hT
 rw [← hT] at ho
 have hhl : x.held.length ≤ big := by have := wx.heldl; have := wx.pc; have := wx.flat; simp [big]; omega
 cases bh
 all_goals
  simp only [Bool.false_eq_true, if_false, if_true, Int.add_zero] at hT
  subst hT
  simp [hi, lC, hix, l0, l8, l3, w10, hw]
  refine key.mono ?_
  rintro r h2 ⟨k2, d, rfl, rd⟩
  have dl : d.length = 5 := opC.len rd
  have df := opC.flat rd
  have sn := store_new (h := h2) (row := d) (z := [.int .i64 0, .int .i64 0, .int .i64 0, .int .i64 0, .nils]) (by rw [dl]; rfl) df
  have kap3 := Keep.app NoneOf h2 [.arr d .tight]
  have c4 := (c.on k2).on kap3
  have lC4 := ld c4.g
  have K4 := k2.trans kap3
  have g4 := get_new (h := h2) (o := .arr d .tight)
  have rd4 := opC.on rd kap3
  have hl4 : (h2 ++ [Obj.arr d .tight]).length = h2.length + 1 := by simp
  simp [dl, hca, sn]
  generalize h2 ++ [Obj.arr d .tight] = H4 at *
  have w9 := ldw g4 (n := 5) dl
  have kl4 := K4.len
  have hk2 := k2.len
  by_cases hok : (nowF x).2 = false
  ·rw [if_pos hok] at ho
   simp at ho
   obtain ⟨rfl, rfl⟩ := ho
   have sj := c4.stJob hi (rz _)
   have c5 := c4.setJob hi (rz _)
   have k5 : Keep (fun y => y = K.jb) H4 (H4.set K.jb (.arr (splice cells (i * 10) deadC) .tight)) := Keep.set _ _ rfl
   have hl5 : (H4.set K.jb (.arr (splice cells (i * 10) deadC) .tight)).length = H4.length := by simp
   simp [hok, lC4, hix, hi, hz, dcl, hca, sj, evt_fill3, hbs]
   generalize H4.set K.jb (.arr (splice cells (i * 10) deadC) .tight) = H5 at *
   refine ⟨CoreU.on ⟨(K4.mono fun _ _ => False.elim).then k5 fun y _ e => .inr (.inl e), Q, _, c5, fun y => .inl⟩ (Keep.app _ _ _), ?_⟩
   rw [← hl5]
   exact (evtC_one rfl rfl).mono fun y hy => by simp only [From] at hy ⊢; omega
  rw [if_neg hok] at ho
  have hok : (nowF x).2 = true := by simpa using hok
  have d0 : loadAt H4 h2.length 0 none = some (.int .i64 (nowF x).1.kind) := by
   obtain ⟨cv, rfl, _⟩ := rd
   rw [ld g4]; rfl
  have d1 : loadAt H4 h2.length 1 none = some (.int .i64 (nowF x).1.n) := by
   obtain ⟨cv, rfl, _⟩ := rd
   rw [ld g4]; rfl
  by_cases hk1 : (nowF x).1.kind = 1
  ·rw [if_pos hk1] at ho
   rw [hk1] at d0
   simp [hok, d0]
   refine (beginX la c4 hn hlk h8 w hi hx).mono ?_
   rintro r h6 q6
   by_cases hb : (beginF x).2 = true
   ·rw [if_pos hb] at q6 ho
    simp at ho
    obtain ⟨rfl, rfl⟩ := ho
    obtain ⟨rfl, n6⟩ := q6
    try simp
    exact ⟨CoreU.from K4 n6, Sl.nil⟩
   ·rw [if_neg hb] at q6 ho
    simp at ho
    obtain ⟨rfl, rfl⟩ := ho
    try simp
    exact ⟨CoreU.from K4 q6.1, q6.2.mono fun y hy => by simp only [From] at hy ⊢; omega⟩
  rw [if_neg hk1] at ho
  by_cases hk2' : (nowF x).1.kind = 2
  ·rw [if_pos hk2'] at ho
   by_cases hl : 0 ≤ (nowF x).1.n ∧ s.own[(nowF x).1.n.toNat]? = some (-1)
   case neg => rw [if_neg hl] at ho; cases ho
   rw [if_pos hl] at ho
   simp at ho
   obtain ⟨rfl, rfl⟩ := ho
   obtain ⟨l, hln⟩ : ∃ l : Nat, (nowF x).1.n = l := ⟨(nowF x).1.n.toNat, by omega⟩
   rw [hln] at hl ⊢
   have hlt : (l : Int).toNat = l := by omega
   rw [hlt] at hl ⊢
   have hll : l < K.lb.length := by have := (List.getElem?_eq_some_iff.1 hl.2).1; have := c.ll; omega
   rw [hk2'] at d0
   simp [hok, d0, w9]
   refine (lockX lp c4 hi hx hll hl.2 hhl rd4 hln).mono ?_
   rintro r h6 ⟨n6, ev6⟩
   try simp
   exact ⟨CoreU.from K4 n6, ev6.mono fun y hy => by simp only [From] at hy ⊢; omega⟩
  rw [if_neg hk2'] at ho
  by_cases hk3 : (nowF x).1.kind = 3
  case neg => rw [if_neg hk3] at ho; cases ho
  rw [if_pos hk3] at ho
  by_cases hl : 0 ≤ (nowF x).1.n ∧ s.own[(nowF x).1.n.toNat]? = some (i : Int)
  case neg => rw [if_neg hl] at ho; cases ho
  rw [if_pos hl] at ho
  simp at ho
  obtain ⟨rfl, rfl⟩ := ho
  obtain ⟨l, hln⟩ : ∃ l : Nat, (nowF x).1.n = l := ⟨(nowF x).1.n.toNat, by omega⟩
  rw [hln] at hl d1 ⊢
  have hlt : (l : Int).toNat = l := by omega
  rw [hlt] at hl ⊢
  have hll : l < K.lb.length := by have := (List.getElem?_eq_some_iff.1 hl.2).1; have := c.ll; omega
  rw [hk3] at d0
  simp [hok, d0]
  refine (priosX lp c4 hn h8 w.heldOk).mono ?_
  rintro pv h5 ⟨ow5, k5, _⟩
  have c5 := c4.on k5
  try simp
  refine (resultX lp c5 hi hx).mono ?_
  rintro r h6 ⟨rfl, k6, Q6, cs6, c6, q6⟩
  have hk5 := k5.len
  have hk6 := k6.len
  have g46 := k6.at (k5.at g4 id) fun o => by have := hown _ o; omega
  have hzr : [CV.int .i64 0, .int .i64 0, .int .i64 0, .int .i64 0, .int .i64 0, .int .i64 0, .int .i64 0] = zeros7 := rfl
  have hzl : ∀ T : Int, (evR T i x.pc 0 0 0).length = 7 := fun _ => rfl
  have sn6 : ∀ T : Int, storeAt (h6 ++ [.arr zeros7 .tight]) h6.length 0 (evR T i x.pc 0 0 0) = some (h6 ++ [.arr (evR T i x.pc 0 0 0) .tight]) := fun T => store_new (h := h6) (row := evR T i x.pc 0 0 0) (z := zeros7) rfl rfl
  rw [hzr]
  simp [hca, hzl, sn6]
  have fin : ∀ T : Int, WF p 328 [.ptr K.b 0, .int .i64 T, .int .i64 i, .int .i64 l, pv] (h6 ++ [.arr (evR T i x.pc 0 0 0) .tight, .arr (evR T i x.pc 0 0 0) .tight]) fun r h' => r = .nils ∧ loadAt h' h6.length 0 (some 7) = some (.agg (evR T i x.pc 0 0 0)) ∧
    CoreU K X { s with jobs := s.jobs.set i (giveF (stepF x) l), own := s.own.set l (-1) } Q h1 h' ∧ Sl evtC h' (From h1) (.sl (h6.length + 1) 0 1 1) [evR T i x.pc 0 0 0] := by
   intro T
   have kap6 := Keep.app NoneOf h6 [.arr (evR T i x.pc 0 0 0) .tight, .arr (evR T i x.pc 0 0 0) .tight]
   have gA : (h6 ++ [Obj.arr (evR T i x.pc 0 0 0) .tight, .arr (evR T i x.pc 0 0 0) .tight])[h6.length]? = some (.arr (evR T i x.pc 0 0 0) .tight) := by simp
   have gB : (h6 ++ [Obj.arr (evR T i x.pc 0 0 0) .tight, .arr (evR T i x.pc 0 0 0) .tight])[h6.length + 1]? = some (.arr (evR T i x.pc 0 0 0) .tight) := by simp
   have c7 := c6.on kap6
   have hx7 : (s.jobs.set i (stepF x))[i]? = some (stepF x) := List.getElem?_set_self hn0
   refine (giveX lp c7 hi hx7 hll hl.2 (by exact hhl)).mono ?_
   rintro r h7 ⟨rfl, k7, Q7, cs7, c7, q7⟩
   simp only [List.set_set] at c7
   have gA7 := k7.at gA fun o => by have := hown _ o; omega
   have gB7 := k7.at gB fun o => by have := hown _ o; omega
   have m7 : Mine h7 7 (.sl (h6.length + 1) 0 1 1) (evR T i x.pc 0 0 0) := .inr ⟨h6.length + 1, 1, .tight, rfl, rfl, .inl rfl, gB7⟩
   have hk6' := kap6.len
   refine ⟨rfl, ldw gA7 rfl, ⟨((((K4.trans k5).mono fun _ _ => False.elim).trans k6).trans (kap6.mono fun _ _ => False.elim)).trans k7, Q7, cs7, c7, fun y hy => ?_⟩, _, m7.read, ⟨m7.ok, fun b hb => ?_⟩, Rows.one (e := evtC) evR_rep⟩
   ·rcases q7 y hy with q | q
    ·rcases q6 y q with q | q
     ·exact .inl q
     ·exact .inr (by omega)
    ·exact .inr (by omega)
   ·simp [CV.blk] at hb
    subst hb
    show h1.length ≤ h6.length + 1
    omega
  have w13 : ∀ T : Int, loadAt (h6 ++ [.arr (evR T i x.pc 0 0 0) .tight]) h6.length 0 (some 7) = some (.agg (evR T i x.pc 0 0 0)) := fun T => ldw get_new rfl
  have l91 : ∀ T : Int, loadAt (h6 ++ [.arr (evR T i x.pc 0 0 0) .tight, .arr (evR T i x.pc 0 0 0) .tight]) h2.length 1 none = some (.int .i64 l) := fun T => by
   rw [ld (get_app g46) 1, ← ld g4 1, d1]
  have hbr7 : ∀ T : Int, fillC zeros7 [(0, 7, .agg (evR T i x.pc 0 0 0))] = some (evR T i x.pc 0 0 0) := fun _ => rfl
  simp [w13, hbr7, l91]
  refine WO_re_n ?_
  simp
  refine (fin _).mono ?_
  rintro r h7 ⟨rfl, w7, u7, ev7⟩
  refine ⟨fun c' => by simp [recheckB, wanted, Env.get, cls, evOp, Opd.ev, withH, CV.eqb, CV.eqb_refl, CV.eqbL_refl, w7, i64], ?_⟩
  have happ : appendTo h7 7 (.sl (h6.length + 1) 0 1 1) 0 [] = some (.sl (h6.length + 1) 0 1 1, h7) := by simp [appendTo, big]
  have hsp : spread h7 7 .nils = some (0, []) := rfl
  simp [hsp, happ]
  exact ⟨u7, ev7⟩
end Go.Cl
