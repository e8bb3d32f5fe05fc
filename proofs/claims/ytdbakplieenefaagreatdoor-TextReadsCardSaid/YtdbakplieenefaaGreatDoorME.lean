/-
  Texts laid together: ATextF ATextS ATextG ATextH ATextI.
-/
import Derived.Test.YtdbakplieenefaaGreatDoorMD
import Derived.Test.YtdbakplieenefaaGreatDoorMA
import Derived.Test.YtdbakplieenefaaGreatDoorMC
namespace Go.Cl
open Go
set_option linter.unusedSimpArgs false
set_option linter.unusedVariables false
set_option maxHeartbeats 2000000
variable {p : PP}
theorem OV_cpy {α : Type} {ec : Cod α} {H : Heap} {l : List α} {cc : List CV} {n : Nat} {P : Nat → Prop} {K : CV × Heap → Prop} (r : Rows ec (H ++ [.arr [] .tight]) P cc l) (hP : ∀ b, P b → b < H.length) (hn : n = l.length) (hl : l.length ≤ big) (he : 0 < ec.n)
  (kk : ∀ v1 h3, OwnL ec h3 P v1 l → Keep NoneOf H h3 → (∀ b, v1.blk = some b → H.length ≤ b) → K (v1, h3)) : OV (appendTo (H ++ [.arr [] .tight]) ec.n (.sl H.length 0 0 0) n cc) K := by
 have kap := Keep.app NoneOf H [.arr [] .tight]
 have ow0 : OwnL ec (H ++ [.arr [] .tight]) P (.sl H.length 0 0 0) [] := ⟨[], .inr ⟨H.length, 0, .tight, rfl, by simp, .inl rfl, by simp⟩, Rows.nil, fun b hb hn => by simp [CV.blk] at hb; have := hP b hn; omega⟩
 refine OV_pushes (e := ec) (m := l) ow0 r hn (fun b hb => by have := hP b hb; simp; omega) (by simp) hl he ?_
 intro v1 h3 o1 k3 hb3
 refine kk v1 h3 (by simpa using o1) (kap.then k3 fun b hb e => by simp [CV.blk] at e; omega) fun b hb => ?_
 rcases hb3 b hb with g | g
 ·simp [CV.blk] at g; omega
 ·simp at g; omega
theorem OV_cpyAt {α : Type} {ec : Cod α} {H : Heap} {b : Nat} {l : List α} {cc : List CV} {n : Nat} {P : Nat → Prop} {K : CV × Heap → Prop} (g : H[b]? = some (.arr [] .tight)) (r : Rows ec H P cc l) (hP : ∀ x, P x → x < H.length ∧ x ≠ b) (hn : n = l.length) (hl : l.length ≤ big) (he : 0 < ec.n)
  (kk : ∀ v1 h3, OwnL ec h3 P v1 l → Keep (fun x => x = b) H h3 → (∀ x, v1.blk = some x → x = b ∨ H.length ≤ x) → K (v1, h3)) : OV (appendTo H ec.n (.sl b 0 0 0) n cc) K := by
 have ow0 : OwnL ec H P (.sl b 0 0 0) [] := ⟨[], .inr ⟨b, 0, .tight, rfl, by simp, .inl rfl, g⟩, Rows.nil, fun x hx hn => by simp [CV.blk] at hx; exact (hP x hn).2 hx.symm⟩
 refine OV_pushes (e := ec) (m := l) ow0 r hn (fun x hx => (hP x hx).1) (by simp) hl he ?_
 intro v1 h3 o1 k3 hb3
 refine kk v1 h3 (by simpa using o1) (k3.mono fun x _ e => by simp [CV.blk] at e; exact e.symm) fun x hx => ?_
 rcases hb3 x hx with q | q
 ·simp [CV.blk] at q; exact .inl q.symm
 ·exact .inr q
def RfQ (P : Nat → Prop) (e : Int) (x : SetV) (h : Heap) (r : CV) (h' : Heap) : Prop :=
 ∃ d y, r = .tup [.agg d, .int .i64 e] ∧ setC.rep h' (fun b => P b ∨ h.length ≤ b) d y ∧ (e = 0 → y = x) ∧ Keep NoneOf h h'
theorem servesR_ref (w : Wd) : servesR w = if w = [45] then (-1, 0) else if (numP w).2 ≠ 0 then (0, (numP w).2) else if (numP w).1 < 0 then (0, 2) else if 2147483647 < (numP w).1 then (0, 14) else ((numP w).1, 0) := by
 unfold servesR
 split
 ·rfl
 ·split
  ·rfl
  ·split
   ·rfl
   ·rename_i h3
    unfold small32
    by_cases k : 2147483647 < (numP w).1
    ·rw [if_pos (.inr k), if_pos k]
    ·rw [if_neg (by omega), if_neg k]
theorem refChannel_spec (lp : LP p) {h : Heap} {P P2 : Nat → Prop} {s : SetV} {c : List CV} {wv : CV} {w : List Wd} (rs : setC.rep h P c s) (hP : ∀ b, P b → b < h.length) (sw : Sl .str h P2 wv w) (hw : ∀ x ∈ w, x.length ≤ 1000000) (hc : s.chans.length ≤ 8) :
  WF p 280 [.agg c, wv] h (RfQ P (chanR s w).2 (chanR s w).1 h) := by
 refine WF_of (by rw [lp.pg]; exact S.pg280) (lp.no ⟨rfl, rfl⟩) ?_
 show W p S.b280 _ _ (retQ [.cell (some 3) 4, .t 5] _)
 unfold S.b280
 have cl := setC.len rs
 have cf := setC.flat rs
 have cl3 : c.length = 3 := cl
 have kap := Keep.app NoneOf h [.arr c .tight, .arr [.int .i64 0, .nils, .nils] .tight]
 have gB : (h ++ [Obj.arr c .tight, .arr [.int .i64 0, .nils, .nils] .tight])[h.length]? = some (.arr c .tight) := by simp
 have gR : (h ++ [Obj.arr c .tight, .arr [.int .i64 0, .nils, .nils] .tight])[h.length + 1]? = some (.arr [.int .i64 0, .nils, .nils] .tight) := by simp
 have rs1 := setC.on rs kap
 have sw1 := sw.on kap
 have n0 := sw1.len (by decide)
 have hca : ∀ l, (CV.agg l).cells = l := fun _ => rfl
 have ff : fits (some 3) (.agg c) = true := by simp [cl3]
 obtain ⟨cv, tv, hc0, sc, st⟩ := rs
 have s1 : c[1]? = some cv := by subst hc0; rfl
 have hcv : c.set 1 cv = c := by subst hc0; rfl
 have sc1 := sc.on kap
 have nc := sc1.len (by decide)
 generalize hH : h ++ [Obj.arr c .tight, .arr [.int .i64 0, .nils, .nils] .tight] = H at *
 have hHl : H.length = h.length + 2 := by rw [← hH]; simp
 have lB := ld gB
 have lW := ldw gB cl3
 have out : ∀ (h2 : Heap) (e : Int), Keep NoneOf H h2 → ∃ h3, storeAt h2 (h.length + 1) 0 c = some h3 ∧ loadAt h3 (h.length + 1) 0 (some 3) = some (.agg c) ∧ ∀ x, (e = 0 → s = x) → RfQ P e x h (.tup [.agg c, .int .i64 e]) h3 := fun h2 e k2 => by
  have gR2 := k2.at gR id
  refine ⟨_, sto gR2 (vs := c) (by rw [cl3]; rfl) cf, ldw (get_set_self (lt_of_get gR2)) cl3, fun x hx => ⟨c, s, rfl, ?_, hx, (kap.trans k2).then (Keep.set (S := fun y => y = h.length + 1) _ _ rfl) fun y hy e => by omega⟩⟩
  exact setC.mono (setC.keep (setC.on rs1 k2) (Keep.set (S := fun y => y = h.length + 1) _ _ rfl) fun y hy e => by have := hP y hy; omega) fun y hy => .inl hy
 by_cases h8 : s.chans.length = 8
 ·have hR : chanR s w = (s, 4) := by unfold chanR; rw [if_pos h8]
  rw [h8] at nc
  obtain ⟨h3, z1, z2, z3⟩ := out H 4 (Keep.refl _ _)
  rw [hR]
  simp [hH, lB, s1, nc, lW, hca, ff, z1, z2]
  exact z3 s fun h => by cases h
 have h8' : ¬ (8 : Int) ≤ s.chans.length := by omega
 have h8n : ¬ 8 ≤ s.chans.length := by omega
 by_cases h3 : w.length = 3
 ·have hR : chanR s w = if (countW (at_ w 1)).2 ≠ 0 then (s, (countW (at_ w 1)).2) else ({ s with chans := s.chans ++ [⟨(countW (at_ w 1)).1, (servesR (at_ w 2)).1⟩] }, (servesR (at_ w 2)).2) := by
   unfold chanR; rw [if_neg h8, if_neg (by omega)]
  rw [h3] at n0
  obtain ⟨b1, o1, x1, x2⟩ := sw1.word (i := 1) (by omega)
  have x1 : idxAddrV 1 wv (.int .i64 1) = some (.ptr b1 o1) := x1
  have hl1 := at_mem_le (i := 1) hw
  have hl2 := at_mem_le (i := 2) hw
  simp [hH, lB, s1, nc, h8', h8n, n0, x1, x2]
  refine (tSmall_spec lp (by omega)).mono ?_
  rintro r1 h1 ⟨rfl, k1⟩
  obtain ⟨b2, o2, y1, y2⟩ := (sw1.on k1).word (i := 2) (by omega)
  have y1 : idxAddrV 1 wv (.int .i64 2) = some (.ptr b2 o2) := y1
  have lW1 := ldw (k1.at gB id) cl3
  generalize countW (at_ w 1) = C at *
  obtain ⟨room, e1⟩ := C
  simp only [] at hR ⊢
  by_cases he : e1 = 0
  ·subst he
   rw [if_neg (by simp)] at hR
   have fin : ∀ (who : Int) (h2 : Heap), Keep NoneOf H h2 → chanR s w = ({ s with chans := s.chans ++ [⟨room, who⟩] }, 0) →
     OV (loadAt (h2 ++ [Obj.arr [] St.tight]) (List.length h) 1 none) fun v =>
      OV (spread (h2 ++ [Obj.arr [] St.tight]) 2 v) fun q =>
       OV (appendTo (h2 ++ [Obj.arr [] St.tight]) 2 (CV.sl (List.length h2) 0 0 0) q.fst q.snd) fun r =>
        OV (fillC [CV.int IntKind.i64 0, CV.int IntKind.i64 0] [(0, 1, CV.int IntKind.i64 room), (1, 1, CV.int IntKind.i64 who)]) fun cs =>
         OV (fillC [CV.int IntKind.i64 0, CV.int IntKind.i64 0] [(0, 2, CV.agg cs)]) fun cs =>
          OV (spread (r.snd ++ [Obj.arr cs St.tight]) 2 (CV.sl (List.length r.snd) 0 1 1)) fun q =>
           OV (appendTo (r.snd ++ [Obj.arr cs St.tight]) 2 r.fst q.fst q.snd) fun r =>
            OV (if fits none r.fst = true then storeAt r.snd (List.length h) 1 r.fst.cells else none) fun h' =>
             OV (loadAt h' (List.length h) 0 (some 3)) fun v =>
              OV (if fits (some 3) v = true then storeAt h' (List.length h + 1) 0 v.cells else none) fun h' =>
               OV (consO (loadAt h' (List.length h + 1) 0 (some 3)) (some [CV.int IntKind.i64 0])) fun rs =>
                RfQ P (chanR s w).snd (chanR s w).fst h (result rs) h' := by
    intro who h2 k2 hR2
    rw [hR2]
    have ke := Keep.app NoneOf h2 [.arr [] .tight]
    have lB2 := ld (ke.at (k2.at gB id) id)
    obtain ⟨cc, q1, q2⟩ := ((sc1.on k2).on ke).spread (by decide)
    have q1 : spread (h2 ++ [.arr [] .tight]) 2 cv = some (s.chans.length, cc) := q1
    have q2 : Rows chanC (h2 ++ [.arr [] .tight]) NoneOf cc s.chans := q2
    have f2 : fillC [.int .i64 0, .int .i64 0] [(0, 1, .int .i64 room), (1, 1, .int .i64 who)] = some (chL ⟨room, who⟩) := rfl
    have f3 : fillC [.int .i64 0, .int .i64 0] [(0, 2, .agg (chL ⟨room, who⟩))] = some (chL ⟨room, who⟩) := rfl
    have htl : (chL ⟨room, who⟩).length = 2 := rfl
    have htt : List.take 2 (chL ⟨room, who⟩) = chL ⟨room, who⟩ := rfl
    simp [lB2, s1, q1]
    refine OV_cpy (ec := chanC) q2 (fun _ hb => hb.elim) rfl (by simp [big]; omega) (by decide) fun v1 h3 o1 k3 hb3 => ?_
    simp [f2, f3, spread, cellsAt, htl, htt]
    have kc := Keep.app NoneOf h3 [.arr (chL ⟨room, who⟩) .tight]
    refine OV_push (e := chanC) (x := ⟨room, who⟩) (o1.on kc) rfl (fun _ hb => hb.elim) (by simp [big]; omega) (by decide) fun v2 h4 o2 k4 hb4 => ?_
    have k23 := (k2.trans k3).trans kc
    have hlen := k2.len
    have hlen3 := k3.len
    have kall : Keep NoneOf H h4 := k23.then k4 fun b hb e => by have := hb3 b e; omega
    have gB4 := kall.at gB id
    have gR4 := kall.at gR id
    have hsc := o2.scalar
    have fs := fits_scalar hsc
    have cs := CV.cells_scalar hsc
    have s4 := sto1 gB4 (o := 1) (v := v2) (by omega) hsc
    have ks : Keep (fun y => y = h.length) h4 (h4.set h.length (.arr (c.set 1 v2) .tight)) := Keep.set _ _ rfl
    have gB5 := get_set_self (o := .arr (c.set 1 v2) .tight) (lt_of_get gB4)
    have gR5 := ks.at gR4 (by omega)
    have hl3 : (c.set 1 v2).length = 3 := by simp [cl3]
    have lB5 := ldw gB5 hl3
    have ff5 : fits (some 3) (.agg (c.set 1 v2)) = true := by simp [cl3]
    have hset : c.set 1 v2 = [.int .i64 s.locks, v2, tv] := by subst hc0; rfl
    have cf5 : (c.set 1 v2).all CV.scalar = true := by
     rw [hset]; have := st.scalar; simp only [List.all_cons, List.all_nil, hsc, this]; rfl
    have s6 := sto gR5 (vs := c.set 1 v2) (by rw [hl3]; rfl) cf5
    have ks2 : Keep (fun y => y = h.length + 1) (h4.set h.length (.arr (c.set 1 v2) .tight)) ((h4.set h.length (.arr (c.set 1 v2) .tight)).set (h.length + 1) (.arr (c.set 1 v2) .tight)) := Keep.set _ _ rfl
    have l6 := ldw (get_set_self (o := .arr (c.set 1 v2) .tight) (lt_of_get gR5)) hl3
    have hv2 : ∀ b, v2.blk = some b → H.length ≤ b := fun b hb => by
     rcases hb4 b hb with g | g
     ·have := hb3 b g; omega
     ·simp only [List.length_append, List.length_cons, List.length_nil] at g; omega
    simp [fs, cs, s4, lB5, hca, s6, l6, cl3]
    refine ⟨_, _, rfl, ?_, fun _ => rfl, ?_⟩
    ·refine ⟨v2, tv, hset, ?_, ?_⟩
     ·refine ((o2.sl.mono fun b hb => hb.elim (fun h => h.elim) (hv2 b)).keep ks fun b hb e => by omega).keep ks2 (fun b hb e => by omega) |>.mono fun b hb => .inr (by omega)
     ·exact ((((st.on kap).on kall).keep ks fun b hb e => by have := hP b hb; omega).keep ks2 fun b hb e => by have := hP b hb; omega).mono fun b hb => .inl hb
    ·exact ((kap.trans kall).then ks fun y hy e => by omega).then ks2 fun y hy e => by omega
   by_cases hd : at_ w 2 = [45]
   ·have hsr : servesR (at_ w 2) = (-1, 0) := by unfold servesR; rw [if_pos hd]
    have hb2 : (fillC ([] : List CV) []) = some [] := rfl
    rw [hsr] at hR
    simp [y1, y2, hd, hb2]
    exact fin (-1) h1 k1 hR
   ·rw [servesR_ref, if_neg hd] at hR
    have hb2 : (fillC ([] : List CV) []) = some [] := rfl
    simp [y1, y2, hd]
    refine (refNumber_spec lp (by omega)).mono ?_
    rintro r2 h2 ⟨rfl, k2⟩
    have k12 := k1.trans k2
    have lW2 := ldw (k12.at gB id) cl3
    generalize numP (at_ w 2) = D at *
    obtain ⟨who, e2⟩ := D
    simp only [] at hR ⊢
    by_cases d1 : e2 = 0
    ·subst d1
     rw [if_neg (by simp)] at hR
     by_cases d2 : who < 0
     ·rw [if_pos d2] at hR
      obtain ⟨h3, z1, z2, z3⟩ := out h2 2 k12
      rw [hR]
      simp [d2, lW2, hca, ff, z1, z2]
      exact z3 _ fun h => by cases h
     ·rw [if_neg d2] at hR
      by_cases d3 : 2147483647 < who
      ·rw [if_pos d3] at hR
       obtain ⟨h3, z1, z2, z3⟩ := out h2 14 k12
       rw [hR]
       simp [d2, d3, lW2, hca, ff, z1, z2]
       exact z3 _ fun h => by cases h
      ·rw [if_neg d3] at hR
       simp [d2, d3, hb2]
       exact fin who h2 k12 hR
    ·rw [if_pos d1] at hR
     obtain ⟨h3, z1, z2, z3⟩ := out h2 e2 k12
     rw [hR]
     simp [d1, lW2, hca, ff, z1, z2]
     exact z3 _ fun h => absurd h d1
  ·rw [if_pos he] at hR
   obtain ⟨h3, z1, z2, z3⟩ := out h1 e1 k1
   rw [hR]
   simp [he, lW1, hca, ff, z1, z2]
   exact z3 s fun h => absurd h he
 ·have hR : chanR s w = (s, 2) := by unfold chanR; rw [if_neg h8, if_pos h3]
  have h3' : ¬ (w.length : Int) = 3 := by omega
  obtain ⟨h4, z1, z2, z3⟩ := out H 2 (Keep.refl _ _)
  rw [hR]
  simp [hH, lB, s1, nc, h8', h8n, n0, h3, h3', lW, hca, ff, z1, z2]
  exact z3 s fun h => by cases h
theorem app2 (H : Heap) (a b : Obj) : Keep NoneOf (H ++ [a]) (H ++ [a, b]) := by
 rw [show H ++ [a, b] = (H ++ [a]) ++ [b] by simp]; exact Keep.app _ _ _
theorem SetV.eq_iff (a b : SetV) : a = b ↔ a.locks = b.locks ∧ a.chans = b.chans ∧ a.tasks = b.tasks := by
 cases a; cases b; simp
theorem eqChan (a b : ChanV) : eqv (.st [.i, .i]) (.agg (chL a)) (.agg (chL b)) = some (decide (a = b)) := by
 cases a; cases b
 simp only [eqv, chL, List.length_cons, List.length_nil, and_self, if_true, eqCells, eqKind, ChanV.mk.injEq]
 rename_i a1 a2 b1 b2
 cases hA : (a1 == b1) <;> cases hB : (a2 == b2) <;> simp_all
def SsA (b0 : Nat) (x y : SetV) (h : Heap) (m : Nat) (e : Env) (h' : Heap) : Prop :=
 ∃ i : Nat, i ≤ x.chans.length ∧ m = x.chans.length - i ∧ e = [(2, .ptr b0 0), (3, .ptr (b0 + 1) 0), (5, .int .i64 i)] ∧ Keep NoneOf h h' ∧ x.chans.take i = y.chans.take i
def SsB (b0 : Nat) (x y : SetV) (h : Heap) (m : Nat) (e : Env) (h' : Heap) : Prop :=
 ∃ i : Nat, i ≤ x.tasks.length ∧ m = x.tasks.length - i ∧ e = [(2, .ptr b0 0), (3, .ptr (b0 + 1) 0), (6, .int .i64 i)] ∧ Keep NoneOf h h' ∧ x.tasks.take i = y.tasks.take i
theorem sameSet_spec (lp : LP p) {h : Heap} {P Q : Nat → Prop} {x y : SetV} {c d : List CV} (rx : setC.rep h P c x) (ry : setC.rep h Q d y) (hx : x.Sane) :
  WF p 253 [.agg c, .agg d] h fun r h' => r = .bool (decide (x = y)) ∧ Keep NoneOf h h' := by
 refine WF_of (by rw [lp.pg]; exact S.pg253) (lp.no ⟨rfl, rfl⟩) ?_
 show W p S.b253 _ _ (retQ [.t 4] _)
 unfold S.b253
 have kap := Keep.app NoneOf h [.arr c .tight, .arr d .tight]
 have gC : (h ++ [Obj.arr c .tight, .arr d .tight])[h.length]? = some (.arr c .tight) := by simp
 have gD : (h ++ [Obj.arr c .tight, .arr d .tight])[h.length + 1]? = some (.arr d .tight) := by simp
 obtain ⟨cv, tv, hc0, sc, st⟩ := rx
 obtain ⟨dv, uv, hd0, sd, su⟩ := ry
 have c0 : c[0]? = some (.int .i64 x.locks) := by subst hc0; rfl
 have c1 : c[1]? = some cv := by subst hc0; rfl
 have c2 : c[2]? = some tv := by subst hc0; rfl
 have d0 : d[0]? = some (.int .i64 y.locks) := by subst hd0; rfl
 have d1 : d[1]? = some dv := by subst hd0; rfl
 have d2 : d[2]? = some uv := by subst hd0; rfl
 have hca : ∀ l, (CV.agg l).cells = l := fun _ => rfl
 have sc := sc.on kap
 have st := st.on kap
 have sd := sd.on kap
 have su := su.on kap
 generalize hH : h ++ [Obj.arr c .tight, .arr d .tight] = H at *
 have lC := ld gC
 have lD := ld gD
 have nc := sc.len (by decide)
 have nt := st.len (by decide)
 have nd := sd.len (by decide)
 have nu := su.len (by decide)
 have hcb := hx.c
 have htb := hx.t
 simp only [big] at hcb htb
 simp [hca, hH]
 by_cases e1 : x.locks = y.locks
 ·by_cases e2 : x.chans.length = y.chans.length
  ·by_cases e3 : x.tasks.length = y.tasks.length
   ·have e2' : (x.chans.length : Int) = y.chans.length := by omega
    have e3' : (x.tasks.length : Int) = y.tasks.length := by omega
    simp [lC, lD, c0, c1, c2, d0, d1, d2, nc, nt, nd, nu, e1, e2, e3, e2', e3']
    refine W_loop (SsA h.length x y H) ?_ x.chans.length ⟨0, by omega, by omega, rfl, Keep.refl _ _, rfl⟩
    rintro m e H1 ⟨i, hi, rfl, rfl, k1, hta⟩
    have lC := ld (k1.at gC id)
    have lD := ld (k1.at gD id)
    have nc := (sc.on k1).len (by decide)
    have nt := (st.on k1).len (by decide)
    by_cases hie : i = x.chans.length
    ·have hch : x.chans = y.chans := eqDone (by rw [← hie]; exact hta) e2
     subst hie
     simp [lC, c1, nc]
     refine W_loop (SsB h.length x y H) ?_ x.tasks.length ⟨0, by omega, by omega, rfl, k1, rfl⟩
     rintro m e H2 ⟨j, hj, rfl, rfl, k2, htj⟩
     have gC2 := k2.at gC id
     have gD2 := k2.at gD id
     have lC := ld gC2
     have lD := ld gD2
     have nt := (st.on k2).len (by decide)
     by_cases hje : j = x.tasks.length
     ·have htk : x.tasks = y.tasks := eqDone (by rw [← hje]; exact htj) e3
      have hxy : x = y := (SetV.eq_iff x y).2 ⟨e1, hch, htk⟩
      subst hje
      simp [lC, c2, nt, hxy]
      exact kap.trans k2
     ·have hlt : j < x.tasks.length := by omega
      have hlt' : (j : Int) < x.tasks.length := by omega
      have hlu : j < y.tasks.length := by omega
      obtain ⟨b0, o0, pv, x1, x2, x3, sp⟩ := taskRow (st.on k2) hlt
      have kA := Keep.app NoneOf H2 [.arr (tkL x.tasks[j] pv) .tight]
      obtain ⟨b1, o1, qv, y1, y2, y3, sq⟩ := taskRow ((su.on k2).on kA) hlu
      have kB := Keep.app NoneOf H2 [.arr (tkL x.tasks[j] pv) .tight, .arr (tkL y.tasks[j] qv) .tight]
      have stA := store_new (h := H2) (row := tkL x.tasks[j] pv) (z := [.str [], .int .i64 0, .int .i64 0, .int .i64 0, .nils]) rfl (tkL_flat sp.scalar)
      have stB := store_new2 (h := H2) (o := .arr (tkL x.tasks[j] pv) .tight) (row := tkL y.tasks[j] qv) (z := [.str [], .int .i64 0, .int .i64 0, .int .i64 0, .nils]) rfl (tkL_flat sq.scalar)
      have gX : (H2 ++ [Obj.arr (tkL x.tasks[j] pv) .tight, .arr (tkL y.tasks[j] qv) .tight])[H2.length]? = some (.arr (tkL x.tasks[j] pv) .tight) := by simp
      have gY : (H2 ++ [Obj.arr (tkL x.tasks[j] pv) .tight, .arr (tkL y.tasks[j] qv) .tight])[H2.length + 1]? = some (.arr (tkL y.tasks[j] qv) .tight) := by simp
      have lX := ld gX
      have lY := ld gY
      have lDA := ld (kA.at gD2 id)
      have tx0 : (tkL x.tasks[j] pv)[0]? = some (.str x.tasks[j].name) := rfl
      have tx1 : (tkL x.tasks[j] pv)[1]? = some (.int .i64 x.tasks[j].per) := rfl
      have tx2 : (tkL x.tasks[j] pv)[2]? = some (.int .i64 x.tasks[j].dl) := rfl
      have tx3 : (tkL x.tasks[j] pv)[3]? = some (.int .i64 x.tasks[j].bud) := rfl
      have tx4 : (tkL x.tasks[j] pv)[4]? = some pv := rfl
      have ty0 : (tkL y.tasks[j] qv)[0]? = some (.str y.tasks[j].name) := rfl
      have ty1 : (tkL y.tasks[j] qv)[1]? = some (.int .i64 y.tasks[j].per) := rfl
      have ty2 : (tkL y.tasks[j] qv)[2]? = some (.int .i64 y.tasks[j].dl) := rfl
      have ty3 : (tkL y.tasks[j] qv)[3]? = some (.int .i64 y.tasks[j].bud) := rfl
      have ty4 : (tkL y.tasks[j] qv)[4]? = some qv := rfl
      have hw : IntKind.i64.wrap ((j : Int) + 1) = ((j + 1 : Nat) : Int) := by rw [w64 (by omega) (by omega)]; omega
      have ff1 : fits (some 5) (.agg (tkL x.tasks[j] pv)) = true := rfl
      have ff2 : fits (some 5) (.agg (tkL y.tasks[j] qv)) = true := rfl
      have hno : x.tasks[j] ≠ y.tasks[j] → ¬ x = y := fun h e => h (by subst e; rfl)
      have hpx := hx.p x.tasks[j] (List.getElem_mem hlt)
      have spB := (sp.on kB)
      have sqB := (sq.on (app2 H2 (.arr (tkL x.tasks[j] pv) .tight) (.arr (tkL y.tasks[j] qv) .tight)))
      have hes : x.tasks[j] = y.tasks[j] → x.tasks.take (j + 1) = y.tasks.take (j + 1) := fun h => eqStep htj hlt hlu h
      generalize x.tasks[j] = a at *
      generalize y.tasks[j] = b at *
      have kf : Keep NoneOf h (H2 ++ [.arr (tkL a pv) .tight, .arr (tkL b qv) .tight]) := (kap.trans k2).trans kB
      simp [lC, c2, nt, hlt', x1, x2, stA, ff1, lDA, d2, y1, y2, stB, ff2, lX, lY, tx0, ty0]
      by_cases n1 : a.name = b.name
      ·by_cases n2 : a.per = b.per
       ·by_cases n3 : a.dl = b.dl
        ·by_cases n4 : a.bud = b.bud
         ·simp [n1, n2, n3, n4, lX, lY, tx0, tx1, tx2, tx3, tx4, ty0, ty1, ty2, ty3, ty4]
          refine (refSameProg_spec lp.pg (lp.no ⟨rfl, rfl⟩) (lp.no ⟨rfl, rfl⟩) spB sqB hpx.1 fun o ho => by have := hpx.2.1 o ho; simp [big]; omega).mono ?_
          rintro r h3 ⟨rfl, k3⟩
          by_cases n5 : a.prog = b.prog
          ·have hab : a = b := by cases a; cases b; simp_all
           simp [n5, hw]
           exact ⟨x.tasks.length - (j + 1), by omega, j + 1, by omega, rfl, rfl, (k2.trans kB).trans k3, hes hab⟩
          ·have hne := hno fun h => n5 (by rw [h])
           simp [n5, hne]
           exact kf.trans k3
         ·have hne := hno fun h => n4 (by rw [h])
          simp [n1, n2, n3, n4, lX, lY, tx0, tx1, tx2, tx3, tx4, ty0, ty1, ty2, ty3, ty4, hne]
          exact kf
        ·have hne := hno fun h => n3 (by rw [h])
         simp [n1, n2, n3, lX, lY, tx0, tx1, tx2, tx3, tx4, ty0, ty1, ty2, ty3, ty4, hne]
         exact kf
       ·have hne := hno fun h => n2 (by rw [h])
        simp [n1, n2, lX, lY, tx0, tx1, tx2, tx3, tx4, ty0, ty1, ty2, ty3, ty4, hne]
        exact kf
      ·have hne := hno fun h => n1 (by rw [h])
       simp [n1, lX, lY, tx0, tx1, tx2, tx3, tx4, ty0, ty1, ty2, ty3, ty4, hne]
       exact kf
    ·have hlt : i < x.chans.length := by omega
     have hlt' : (i : Int) < x.chans.length := by omega
     have hlu : i < y.chans.length := by omega
     obtain ⟨b0, o0, row0, x1, x2, x3, x4⟩ := (sc.on k1).row (k := .i64) (by decide) hlt
     obtain ⟨b1, o1, row1, y1, y2, y3, y4⟩ := (sd.on k1).row (k := .i64) (by decide) hlu
     have x4 : row0 = chL x.chans[i] := x4
     have y4 : row1 = chL y.chans[i] := y4
     subst x4; subst y4
     simp only [chanC] at x1 x2 y1 y2
     have hw : IntKind.i64.wrap ((i : Int) + 1) = ((i + 1 : Nat) : Int) := by rw [w64 (by omega) (by omega)]; omega
     by_cases he : x.chans[i] = y.chans[i]
     ·simp [lC, lD, c1, d1, nc, hlt', x1, x2, y1, y2, he, eqChan, hw]
      exact ⟨x.chans.length - (i + 1), by omega, i + 1, by omega, rfl, rfl, k1, eqStep hta hlt hlu he⟩
     ·have hne : ¬ x = y := fun e => he (by subst e; rfl)
      simp [lC, lD, c1, d1, nc, hlt', x1, x2, y1, y2, he, eqChan, hne]
      exact kap.trans k1
   ·have e2' : (x.chans.length : Int) = y.chans.length := by omega
    have e3' : ¬ (x.tasks.length : Int) = y.tasks.length := by omega
    have hne : ¬ x = y := fun h => e3 (by rw [h])
    simp [lC, lD, c0, c1, c2, d0, d1, d2, nc, nt, nd, nu, e1, e2, e3, e2', e3', hne]
    exact kap
  ·have e2' : ¬ (x.chans.length : Int) = y.chans.length := by omega
   have hne : ¬ x = y := fun h => e2 (by rw [h])
   simp [lC, lD, c0, c1, c2, d0, d1, d2, nc, nt, nd, nu, e1, e2, e2', hne]
   exact kap
 ·have hne : ¬ x = y := fun h => e1 (by rw [h])
  simp [lC, lD, c0, c1, c2, d0, d1, d2, nc, nt, nd, nu, e1, hne]
  exact kap
def RtkI (n : Nat) (wv : CV) (w : List Wd) (h : Heap) (m : Nat) (e : Env) (h' : Heap) : Prop :=
 ∃ k : Nat, k ≤ 3 ∧ m = 3 - k ∧ e = [(1, wv), (2, .ptr n 0), (4, .ptr (n + 1) 0), (6, .ptr (n + 2) 0), (7, .sl (n + 3) 0 3 3), (8, .int .i64 k)] ∧ Keep NoneOf h h' ∧ h'[n + 3]? = some (.arr (ints .i64 (nums w k)) .tight) ∧ ∀ j : Nat, j < k → (numP (at_ w (2 + j))).2 = 0
theorem refTaskLine_spec (lp : LP p) {h : Heap} {P P2 : Nat → Prop} {s : SetV} {c : List CV} {wv : CV} {w : List Wd} (rs : setC.rep h P c s) (hP : ∀ b, P b → b < h.length) (sw : Sl .str h P2 wv w) (hw : ∀ x ∈ w, x.length ≤ 1000000) (hc : s.tasks.length ≤ 12) :
  WF p 281 [.agg c, wv] h (RfQ P (taskR s w).2 (taskR s w).1 h) := by
 refine WF_of (by rw [lp.pg]; exact S.pg281) (lp.no ⟨rfl, rfl⟩) ?_
 show W p S.b281 _ _ (retQ [.cell (some 3) 4, .t 5] _)
 unfold S.b281
 have cl := setC.len rs
 have cf := setC.flat rs
 have cl3 : c.length = 3 := cl
 have kap := Keep.app NoneOf h [.arr c .tight, .arr [.int .i64 0, .nils, .nils] .tight]
 have gB : (h ++ [Obj.arr c .tight, .arr [.int .i64 0, .nils, .nils] .tight])[h.length]? = some (.arr c .tight) := by simp
 have gR : (h ++ [Obj.arr c .tight, .arr [.int .i64 0, .nils, .nils] .tight])[h.length + 1]? = some (.arr [.int .i64 0, .nils, .nils] .tight) := by simp
 have rs1 := setC.on rs kap
 have sw1 := sw.on kap
 have n0 := sw1.len (by decide)
 have hca : ∀ l, (CV.agg l).cells = l := fun _ => rfl
 have ff : fits (some 3) (.agg c) = true := by simp [cl3]
 obtain ⟨cv, tv, hc0, sc, st⟩ := rs
 have s2 : c[2]? = some tv := by subst hc0; rfl
 have st1 := st.on kap
 have nt := st1.len (by decide)
 generalize hH : h ++ [Obj.arr c .tight, .arr [.int .i64 0, .nils, .nils] .tight] = H at *
 have hHl : H.length = h.length + 2 := by rw [← hH]; simp
 have lB := ld gB
 have lW := ldw gB cl3
 have out : ∀ (h2 : Heap) (e : Int), Keep NoneOf H h2 → ∃ h3, storeAt h2 (h.length + 1) 0 c = some h3 ∧ loadAt h3 (h.length + 1) 0 (some 3) = some (.agg c) ∧ ∀ x, (e = 0 → s = x) → RfQ P e x h (.tup [.agg c, .int .i64 e]) h3 := fun h2 e k2 => by
  have gR2 := k2.at gR id
  refine ⟨_, sto gR2 (vs := c) (by rw [cl3]; rfl) cf, ldw (get_set_self (lt_of_get gR2)) cl3, fun x hx => ⟨c, s, rfl, ?_, hx, (kap.trans k2).then (Keep.set (S := fun y => y = h.length + 1) _ _ rfl) fun y hy e => by omega⟩⟩
  exact setC.mono (setC.keep (setC.on rs1 k2) (Keep.set (S := fun y => y = h.length + 1) _ _ rfl) fun y hy e => by have := hP y hy; omega) fun y hy => .inl hy
 by_cases h12 : s.tasks.length = 12
 ·have hR : taskR s w = (s, 4) := by unfold taskR; rw [if_pos h12]
  rw [h12] at nt
  obtain ⟨h3, z1, z2, z3⟩ := out H 4 (Keep.refl _ _)
  rw [hR]
  simp [hH, lB, s2, nt, lW, hca, ff, z1, z2]
  exact z3 s fun h => by cases h
 have h12' : ¬ (12 : Int) ≤ s.tasks.length := by omega
 have h12n : ¬ 12 ≤ s.tasks.length := by omega
 by_cases h5 : w.length = 5
 ·have hR : taskR s w = if (numP (at_ w 2)).2 ≠ 0 then (s, (numP (at_ w 2)).2) else if (numP (at_ w 3)).2 ≠ 0 then (s, (numP (at_ w 3)).2) else if (numP (at_ w 4)).2 ≠ 0 then (s, (numP (at_ w 4)).2)
    else ({ s with tasks := s.tasks ++ [⟨at_ w 1, (numP (at_ w 2)).1, (numP (at_ w 3)).1, (numP (at_ w 4)).1, []⟩] }, 0) := by
   unfold taskR; rw [if_neg h12, if_neg (by omega)]
  rw [h5] at n0
  obtain ⟨b1, o1, x1, x2⟩ := sw1.word (i := 1) (by omega)
  have x1 : idxAddrV 1 wv (.int .i64 1) = some (.ptr b1 o1) := x1
  have f1 : fillC [.str [], .int .i64 0, .int .i64 0, .int .i64 0, .nils] [(0, 1, .str (at_ w 1))] = some (tkL ⟨at_ w 1, 0, 0, 0, []⟩ .nils) := rfl
  have st5 := store_new (h := H) (row := tkL ⟨at_ w 1, 0, 0, 0, []⟩ .nils) (z := [.str [], .int .i64 0, .int .i64 0, .int .i64 0, .nils]) rfl (tkL_flat rfl)
  have kap5 := Keep.app NoneOf H [.arr (tkL ⟨at_ w 1, 0, 0, 0, []⟩ .nils) .tight]
  have gT := get_new (h := H) (o := .arr (tkL ⟨at_ w 1, 0, 0, 0, []⟩ .nils) .tight)
  have tl : (tkL ⟨at_ w 1, 0, 0, 0, []⟩ .nils).length = 5 := rfl
  rw [hHl] at st5 gT
  have fz : fillC [.int .i64 0, .int .i64 0, .int .i64 0] [(0, 1, .int .i64 0), (1, 1, .int .i64 0), (2, 1, .int .i64 0)] = some [.int .i64 0, .int .i64 0, .int .i64 0] := rfl
  simp [hH, lB, s2, nt, h12', h12n, n0, x1, x2, f1, hHl, tl, st5, fz]
  have hTl : (H ++ [Obj.arr (tkL ⟨at_ w 1, 0, 0, 0, []⟩ .nils) .tight]).length = h.length + 3 := by simp [hHl]
  refine W_loop (RtkI h.length wv w (H ++ [.arr (tkL ⟨at_ w 1, 0, 0, 0, []⟩ .nils) .tight])) ?_ 3 ⟨0, by omega, by omega, rfl, app2 _ _ _, by rw [← hTl]; simp [ints, nums], fun j hj => by omega⟩
  rintro m e H2 ⟨k, hk, rfl, rfl, k2, g2, hz⟩
  have K2 := kap5.trans k2
  by_cases hk3 : k = 3
  ·subst hk3
   have z0 := hz 0 (by omega)
   have z1 := hz 1 (by omega)
   have z2 := hz 2 (by omega)
   simp only [Nat.add_zero] at z0 z1 z2
   rw [if_neg (by simp [z0]), if_neg (by simp [z1]), if_neg (by simp [z2])] at hR
   rw [hR]
   have lA := ld g2
   have nu : nums w 3 = [(numP (at_ w 2)).1, (numP (at_ w 3)).1, (numP (at_ w 4)).1] := rfl
   rw [nu] at lA
   have gT2 := k2.at gT id
   generalize numP (at_ w 2) = N2 at *
   generalize numP (at_ w 3) = N3 at *
   generalize numP (at_ w 4) = N4 at *
   generalize at_ w 1 = nm at *
   have r1 : (tkL ⟨nm, 0, 0, 0, []⟩ .nils).set 1 (.int .i64 N2.1) = tkL ⟨nm, N2.1, 0, 0, []⟩ .nils := rfl
   have r2 : (tkL ⟨nm, N2.1, 0, 0, []⟩ .nils).set 2 (.int .i64 N3.1) = tkL ⟨nm, N2.1, N3.1, 0, []⟩ .nils := rfl
   have r3 : (tkL ⟨nm, N2.1, N3.1, 0, []⟩ .nils).set 3 (.int .i64 N4.1) = tkL ⟨nm, N2.1, N3.1, N4.1, []⟩ .nils := rfl
   have t1 := sto1 gT2 (o := 1) (v := .int .i64 N2.1) (by simp [tkL]) rfl
   rw [r1] at t1
   have gT3 := get_set_self (o := .arr (tkL ⟨nm, N2.1, 0, 0, []⟩ .nils) .tight) (lt_of_get gT2)
   have t2 := sto1 gT3 (o := 2) (v := .int .i64 N3.1) (by simp [tkL]) rfl
   rw [r2, List.set_set] at t2
   have gT4 := get_set_self (o := .arr (tkL ⟨nm, N2.1, N3.1, 0, []⟩ .nils) .tight) (lt_of_get gT2)
   have t3 := sto1 gT4 (o := 3) (v := .int .i64 N4.1) (by simp [tkL]) rfl
   rw [r3, List.set_set] at t3
   have gT5 := get_set_self (o := .arr (tkL ⟨nm, N2.1, N3.1, N4.1, []⟩ .nils) .tight) (lt_of_get gT2)
   have ks : ∀ r, Keep (fun y => y = h.length + 2) H2 (H2.set (h.length + 2) (.arr r .tight)) := fun r => Keep.set _ _ rfl
   have lA2 := ld ((ks (tkL ⟨nm, N2.1, 0, 0, []⟩ .nils)).at g2 (by omega))
   have lA3 := ld ((ks (tkL ⟨nm, N2.1, N3.1, 0, []⟩ .nils)).at g2 (by omega))
   rw [nu] at lA2 lA3
   have hx : ∀ i : Int, 0 ≤ i ∧ i < 3 → idxAddrV 1 (.sl (h.length + 3) 0 3 3) (.int .i64 i) = some (.ptr (h.length + 3) i.toNat) := fun i hi => by
    rw [idxAddrV_sl, if_pos ⟨by omega, by omega⟩]; simp
   have hx0 := hx 0 (by omega)
   have hx1 := hx 1 (by omega)
   have hx2 := hx 2 (by omega)
   have kH5 := ks (tkL ⟨nm, N2.1, N3.1, N4.1, []⟩ .nils)
   have hRl : (tkL ⟨nm, N2.1, N3.1, N4.1, []⟩ .nils).length = 5 := rfl
   have hRf : (tkL ⟨nm, N2.1, N3.1, N4.1, []⟩ .nils).all CV.scalar = true := rfl
   have rT : ∀ hh, taskC.rep hh P (tkL ⟨nm, N2.1, N3.1, N4.1, []⟩ .nils) ⟨nm, N2.1, N3.1, N4.1, []⟩ := fun hh => ⟨.nils, rfl, Sl.nil⟩
   simp [lA, lA2, lA3, hx0, hx1, hx2, ints, t1, t2, t3]
   generalize tkL ⟨nm, N2.1, N3.1, N4.1, []⟩ .nils = R at *
   have hH5l : (H2.set (h.length + 2) (.arr R .tight)).length = H2.length := by simp
   have hH2l := K2.len
   have hg2 := lt_of_get g2
   have gB2 := K2.at gB id
   have gR2 := K2.at gR id
   have gB5 := kH5.at gB2 (by omega)
   have gR5 := kH5.at gR2 (by omega)
   have st5 := ((st1.on K2).mono fun b hb => hb).keep kH5 fun b hb e => by have := hP b hb; omega
   generalize H2.set (h.length + 2) (.arr R .tight) = H5 at *
   have ke := Keep.app NoneOf H5 [.arr [] .tight]
   have ke2 := Keep.app NoneOf H5 [.arr [] .tight, .arr R .tight]
   have gB6 := ke2.at gB5 id
   have gR6 := ke2.at gR5 id
   have gT6 := ke2.at gT5 id
   have lB6 := ld (ke.at gB5 id)
   have lT6 := ldw (ke.at gT5 id) hRl
   have lB7 := ld (ke2.at gB5 id)
   obtain ⟨cc, q1, q2⟩ := (st5.on ke2).spread (by decide)
   have q1 : spread (H5 ++ [.arr [] .tight, .arr R .tight]) 5 tv = some (s.tasks.length, cc) := q1
   have f5 : fillC [.str [], .int .i64 0, .int .i64 0, .int .i64 0, .nils] [(0, 5, .agg R)] = some R := fill5 hRl
   have f0 : fillC ([] : List CV) [] = some [] := rfl
   have g6 : (H5 ++ [Obj.arr [] .tight, .arr R .tight])[H2.length]? = some (.arr [] .tight) := by rw [← hH5l]; simp
   have g7 : (H5 ++ [Obj.arr [] .tight, .arr R .tight])[H2.length + 1]? = some (.arr R .tight) := by rw [← hH5l]; simp
   simp [f0, lB6, s2, lT6, f5]
   refine WO_re_n ?_
   simp [q1]
   have hl6 : (H5 ++ [Obj.arr [] .tight, .arr R .tight]).length = H2.length + 2 := by simp [hH5l]
   generalize H5 ++ [Obj.arr [] .tight, .arr R .tight] = H6 at *
   refine OV_cpyAt (ec := taskC) g6 q2 (fun b hb => by have := hP b hb; omega) rfl (by simp [big]; omega) (by decide) fun v1 h3 o1 k3 hb3 => ?_
   have gB7 := k3.at gB6 (by omega)
   have gR7 := k3.at gR6 (by omega)
   have gT7 := k3.at gT6 (by omega)
   have gN7 := k3.at g7 (by omega)
   have lT7 := ldw gT7 hRl
   have sp7 : spread h3 5 (.sl (H2.length + 1) 0 1 1) = some (1, R) := by
    have htk : List.take 5 R = R := List.take_of_length_le (by omega)
    simp [spread, cellsAt, gN7, hRl, htk]
   refine ⟨fun c' => by simp [recheckB, wanted, Env.get, cls, evOp, Opd.ev, withH, CV.eqb, CV.eqb_refl, CV.eqbL_refl, lT7], ?_⟩
   simp [sp7]
   refine OV_push (e := taskC) (x := ⟨nm, N2.1, N3.1, N4.1, []⟩) o1 (rT h3) (fun b hb => by have := hP b hb; have := k3.len; omega) (by simp [big]; omega) (by decide) fun v2 h4 o2 k4 hb4 => ?_
   have hb34 : ∀ b, v2.blk = some b → H2.length ≤ b := fun b hb => by
    have := k3.len
    rcases hb4 b hb with g | g
    ·rcases hb3 b g with g | g <;> omega
    ·omega
   have hb33 : ∀ b, v1.blk = some b → H2.length ≤ b := fun b hb => by rcases hb3 b hb with g | g <;> omega
   have gB4 := k4.at gB7 fun e => by have := hb33 _ e; omega
   have gR4 := k4.at gR7 fun e => by have := hb33 _ e; omega
   have hsc := o2.scalar
   have fs := fits_scalar hsc
   have cs := CV.cells_scalar hsc
   have s4 := sto1 gB4 (o := 2) (v := v2) (by omega) hsc
   have ks : Keep (fun y => y = h.length) h4 (h4.set h.length (.arr (c.set 2 v2) .tight)) := Keep.set _ _ rfl
   have gB5' := get_set_self (o := .arr (c.set 2 v2) .tight) (lt_of_get gB4)
   have gR5' := ks.at gR4 (by omega)
   have hl3 : (c.set 2 v2).length = 3 := by simp [cl3]
   have lB5 := ldw gB5' hl3
   have ff5 : fits (some 3) (.agg (c.set 2 v2)) = true := by simp [cl3]
   have hset : c.set 2 v2 = [.int .i64 s.locks, cv, v2] := by subst hc0; rfl
   have cf5 : (c.set 2 v2).all CV.scalar = true := by
    rw [hset]; have := sc.scalar; simp only [List.all_cons, List.all_nil, hsc, this]; rfl
   have s6 := sto gR5' (vs := c.set 2 v2) (by rw [hl3]; rfl) cf5
   have ks2 : Keep (fun y => y = h.length + 1) (h4.set h.length (.arr (c.set 2 v2) .tight)) ((h4.set h.length (.arr (c.set 2 v2) .tight)).set (h.length + 1) (.arr (c.set 2 v2) .tight)) := Keep.set _ _ rfl
   have l6 := ldw (get_set_self (o := .arr (c.set 2 v2) .tight) (lt_of_get gR5')) hl3
   simp [fs, cs, s4, lB5, hca, s6, l6, cl3]
   have kall := ((((((kap.trans K2).then kH5 fun y hy e => by omega).trans ke2).then k3 fun y hy e => by omega).then k4 fun y hy e => by have := hb33 y e; omega).then ks fun y hy e => by omega).then ks2 fun y hy e => by omega
   refine ⟨_, { s with tasks := s.tasks ++ [⟨nm, N2.1, N3.1, N4.1, []⟩] }, rfl, ⟨cv, v2, hset, (sc.on kall).mono fun b hb => .inl hb, ?_⟩, fun _ => rfl, kall⟩
   refine ((o2.sl.keep ks fun b hb e => ?_).keep ks2 fun b hb e => ?_).mono fun b hb => ?_
   ·rcases hb with hb | hb
    ·have := hP b hb; omega
    ·have := hb34 b hb; omega
   ·rcases hb with hb | hb
    ·have := hP b hb; omega
    ·have := hb34 b hb; omega
   ·rcases hb with hb | hb
    ·exact .inl hb
    ·exact .inr (by have := hb34 b hb; omega)
  ·have hlt : k < 3 := by omega
   have hlt' : (k : Int) < 3 := by omega
   have hw1 : IntKind.i64.wrap ((k : Int) + 1) = ((k + 1 : Nat) : Int) := by rw [w64 (by omega) (by omega)]; omega
   have hw2 : IntKind.i64.wrap (2 + (k : Int)) = ((2 + k : Nat) : Int) := by rw [w64 (by omega) (by omega)]; omega
   obtain ⟨b1, o1, x1, x2⟩ := (sw1.on K2).word (i := 2 + k) (by omega)
   have x1 : idxAddrV 1 wv (.int .i64 (2 + (k : Int))) = some (.ptr b1 o1) := x1
   have hll := at_mem_le (i := 2 + k) hw
   simp [hlt', hw2, x1, x2]
   refine (refNumber_spec lp (by omega)).mono ?_
   rintro r2 h2 ⟨rfl, k3⟩
   have g3 := k3.at g2 id
   by_cases he : (numP (at_ w (2 + k))).2 = 0
   ·have st := sto1 g3 (o := k) (v := .int .i64 (numP (at_ w (2 + k))).1) (by simp [ints, nums]; omega) rfl
    have hnx : (ints .i64 (nums w k)).set k (.int .i64 (numP (at_ w (2 + k))).1) = ints .i64 (nums w (k + 1)) := by
     rcases (by omega : k = 0 ∨ k = 1 ∨ k = 2) with rfl | rfl | rfl <;> rfl
    rw [hnx] at st
    have hx : idxAddrV 1 (.sl (h.length + 3) 0 3 3) (.int .i64 (k : Int)) = some (.ptr (h.length + 3) k) := by
     rw [idxAddrV_sl, if_pos ⟨by omega, by omega⟩]; simp
    simp [he, hx, st, hw1]
    exact ⟨3 - (k + 1), by omega, k + 1, by omega, rfl, rfl, (k2.trans k3).then (Keep.set (S := fun x => x = h.length + 3) _ _ rfl) fun x hx e => by omega, get_set_self (lt_of_get g3), fun j hj => by
     by_cases hjk : j = k
     ·rw [hjk]; exact he
     ·exact hz j (by omega)⟩
   ·have hR2 : taskR s w = (s, (numP (at_ w (2 + k))).2) := by
     rw [hR]
     have z0 := fun h => hz 0 h
     have z1 := fun h => hz 1 h
     simp only [Nat.add_zero] at z0 z1
     rcases (by omega : k = 0 ∨ k = 1 ∨ k = 2) with rfl | rfl | rfl
     ·rw [if_pos he]
     ·rw [if_neg (by simp [z0 (by omega)]), if_pos he]
     ·rw [if_neg (by simp [z0 (by omega)]), if_neg (by simp [z1 (by omega)]), if_pos he]
    obtain ⟨h3, z1, z2, z3⟩ := out h2 (numP (at_ w (2 + k))).2 (K2.trans k3)
    have lW2 := ldw ((K2.trans k3).at gB id) cl3
    rw [hR2]
    simp [he, lW2, hca, ff, z1, z2]
    exact z3 s fun h => absurd h he
 ·have hR : taskR s w = (s, 2) := by unfold taskR; rw [if_neg h12, if_pos h5]
  have h5' : ¬ (w.length : Int) = 5 := by omega
  obtain ⟨h4, z1, z2, z3⟩ := out H 2 (Keep.refl _ _)
  rw [hR]
  simp [hH, lB, s2, nt, h12', h12n, n0, h5, h5', lW, hca, ff, z1, z2]
  exact z3 s fun h => by cases h
theorem own_last {h : Heap} {P : Nat → Prop} {v : CV} {init : List TaskV} {t : TaskV} (o : OwnL taskC h P v (init ++ [t])) :
  ∃ c0 pv tb st, v = .sl tb 0 (init.length + 1) (init.length + 1) ∧ h[tb]? = some (.arr (c0 ++ tkL t pv) st) ∧ (st = .tight ∨ st = .loose 5) ∧ c0.length = init.length * 5 ∧ Rows taskC h P c0 init ∧ Sl opC h P pv t.prog ∧ ¬ P tb := by
 obtain ⟨cells, m, r, np⟩ := o
 have hn : taskC.n = 5 := rfl
 have hcl : cells.length = (init.length + 1) * 5 := by have := r.1; rw [hn] at this; simpa using this
 rcases m with ⟨_, e⟩ | ⟨tb, n, st, rfl, hlen, hst, hg⟩
 ·rw [e] at hcl; simp at hcl
 ·rw [hn] at hlen hst
  have hnn : n = init.length + 1 := by omega
  subst hnn
  have r1 := Rows.take r (m := init.length) (by simp)
  rw [hn, List.take_left] at r1
  obtain ⟨pv, e, s⟩ := r.2 init.length t (by simp)
  rw [hn] at e
  have hd : (cells.drop (init.length * 5)).length = 5 := by rw [List.length_drop, hcl]; omega
  rw [List.take_of_length_le (by omega)] at e
  refine ⟨cells.take (init.length * 5), pv, tb, st, rfl, ?_, hst, by rw [List.length_take, hcl]; omega, r1, s, np tb rfl⟩
  rw [← e, List.take_append_drop]
  exact hg
theorem refLine_spec (lp : LP p) {h : Heap} {P : Nat → Prop} {s : SetV} {c : List CV} {i : Nat} {t : List UInt8} (rs : setC.rep h P c s) (hP : ∀ b, P b → b < h.length) (sm : s.Sm) (hi0 : i = 0 → s.tasks = []) (hi : i ≤ 100000000) (ht : t.length ≤ 100000) :
  WF p 268 [.agg c, .int .i64 i, .str t] h (RfQ P (lineSR s i t).2 (lineSR s i t).1 h) := by
 refine WF_of (by rw [lp.pg]; exact S.pg268) (lp.no ⟨rfl, rfl⟩) ?_
 show W p S.b268 _ _ (retQ [.cell (some 3) 6, .t 7] _)
 unfold S.b268
 have cl := setC.len rs
 have cf := setC.flat rs
 have cl3 : c.length = 3 := cl
 have kap := Keep.app NoneOf h [.arr c .tight, .arr [.int .i64 0, .nils, .nils] .tight]
 have gB : (h ++ [Obj.arr c .tight, .arr [.int .i64 0, .nils, .nils] .tight])[h.length]? = some (.arr c .tight) := by simp
 have gR : (h ++ [Obj.arr c .tight, .arr [.int .i64 0, .nils, .nils] .tight])[h.length + 1]? = some (.arr [.int .i64 0, .nils, .nils] .tight) := by simp
 have rs1 := setC.on rs kap
 have hca : ∀ l, (CV.agg l).cells = l := fun _ => rfl
 have ff : fits (some 3) (.agg c) = true := by simp [cl3]
 obtain ⟨cv, tv, hc0, sc, st⟩ := rs
 have s0 : c[0]? = some (.int .i64 s.locks) := by subst hc0; rfl
 have s2 : c[2]? = some tv := by subst hc0; rfl
 have st1 := st.on kap
 have sc1 := sc.on kap
 generalize hH : h ++ [Obj.arr c .tight, .arr [.int .i64 0, .nils, .nils] .tight] = H at *
 have hHl : H.length = h.length + 2 := by rw [← hH]; simp
 have out : ∀ (h2 : Heap) (d : List CV) (y : SetV) (e : Int), Keep (fun b => b = h.length) H h2 → setC.rep h2 (fun b => P b ∨ H.length ≤ b) d y → ∃ h3, storeAt h2 (h.length + 1) 0 d = some h3 ∧ loadAt h3 (h.length + 1) 0 (some 3) = some (.agg d) ∧ fits (some 3) (.agg d) = true ∧ ∀ x, (e = 0 → y = x) → RfQ P e x h (.tup [.agg d, .int .i64 e]) h3 := fun h2 d y e k2 rd => by
  have gR2 := k2.at gR (by omega)
  have dl : d.length = 3 := setC.len rd
  refine ⟨_, sto gR2 (vs := d) (by rw [dl]; rfl) (setC.flat rd), ldw (get_set_self (lt_of_get gR2)) dl, by simp [dl], fun x hx => ⟨d, y, rfl, ?_, hx, (kap.then k2 fun y hy e => by omega).then (Keep.set (S := fun y => y = h.length + 1) _ _ rfl) fun y hy e => by omega⟩⟩
  refine setC.mono (setC.keep rd (Keep.set (S := fun y => y = h.length + 1) _ _ rfl) fun y hy e => ?_) fun y hy => ?_
  ·rcases hy with hy | hy
   ·have := hP y hy; omega
   ·omega
  ·rcases hy with hy | hy
   ·exact .inl hy
   ·exact .inr (by omega)
 have same : ∀ (h2 : Heap) (e : Int), Keep NoneOf H h2 → ∃ h3, storeAt h2 (h.length + 1) 0 c = some h3 ∧ loadAt h3 (h.length + 1) 0 (some 3) = some (.agg c) ∧ RfQ P e s h (.tup [.agg c, .int .i64 e]) h3 := fun h2 e k2 => by
  obtain ⟨h3, a, b, _, d⟩ := out h2 c s e (k2.mono fun _ _ h => h.elim) (setC.mono (setC.on rs1 k2) fun b hb => .inl hb)
  exact ⟨h3, a, b, d s fun _ => rfl⟩
 simp [hH]
 refine (refSplit_spec lp (by omega)).mono ?_
 rintro r1 h1 ⟨wv, rfl, sw, k1⟩
 have gB1 := k1.at gB id
 have lB1 := ld gB1
 have lW1 := ldw gB1 cl3
 cases hw : wordsP t with
 | none =>
   have hR : lineSR s i t = (s, 2) := by unfold lineSR; rw [hw]
   rw [hR]
   obtain ⟨h3, z1, z2, z3⟩ := same h1 2 k1
   simp [errOf, lW1, hca, ff, z1, z2]
   exact z3
 | some w =>
   rw [hw] at sw
   have sw : Sl .str h1 (From H) wv w := sw
   obtain ⟨hwl, hwm⟩ := txWords_ne hw
   have hwm' : ∀ x ∈ w, x.length ≤ 1000000 := fun x hx => by have := hwm x hx; omega
   have n0 := sw.len (by decide)
   have nt := (st1.on k1).len (by decide)
   have hmc := sm.c
   have hmt := sm.t
   have hml := sm.last
   have hR : lineSR s i t = if i = 0 ∧ at_ w 0 = wLocks then locksR s w else if 0 < i ∧ at_ w 0 = wChan ∧ s.tasks = [] then chanR s w else if 0 < i ∧ at_ w 0 = wTask then taskR s w else if s.tasks ≠ [] ∧ kindOf (at_ w 0) ≠ 0 then stepR s t else (s, 2) := by
    unfold lineSR; rw [hw]
   obtain ⟨h3, z1, z2, z3⟩ := same h1 2 k1
   by_cases hwe : w = []
   ·subst hwe
    have e0 : at_ ([] : List Wd) 0 = [] := rfl
    rw [e0, if_neg (by rintro ⟨_, h⟩; exact absurd h (by decide)), if_neg (by rintro ⟨_, h, _⟩; exact absurd h (by decide)), if_neg (by rintro ⟨_, h⟩; exact absurd h (by decide)), if_neg (by rintro ⟨_, h⟩; exact absurd (by decide) h)] at hR
    rw [hR]
    simp [errOf, n0, lW1, hca, ff, z1, z2]
    exact z3
   have hwp : ¬ w.length = 0 := fun h => hwe (List.eq_nil_of_length_eq_zero h)
   have hwp' : ¬ (w.length : Int) = 0 := by omega
   obtain ⟨b1, o1, x1, x2⟩ := sw.word (i := 0) (by omega)
   have x1 : idxAddrV 1 wv (.int .i64 0) = some (.ptr b1 o1) := x1
   generalize hf : at_ w 0 = f at *
   by_cases hi : i = 0
   ·subst hi
    have hT := hi0 rfl
    by_cases hL : f = wLocks
    ·rw [if_pos ⟨rfl, hL⟩] at hR
     rw [hR]
     have hL' : f = [108, 111, 99, 107, 115] := hL
     by_cases h2 : w.length = 2
     ·have hLR : locksR s w = ({ s with locks := (countW (at_ w 1)).1 }, (countW (at_ w 1)).2) := by unfold locksR; rw [if_neg (by omega)]
      rw [hLR]
      rw [h2] at n0
      obtain ⟨b2, o2, y1, y2⟩ := sw.word (i := 1) (by omega)
      have y1 : idxAddrV 1 wv (.int .i64 1) = some (.ptr b2 o2) := y1
      have hl1 := at_mem_le (i := 1) hwm'
      simp [errOf, n0, x1, x2, hL', lB1, s2, nt, h2, y1, y2]
      refine (tSmall_spec lp (by omega)).mono ?_
      rintro r2 h4 ⟨rfl, k4⟩
      have k14 := k1.trans k4
      generalize countW (at_ w 1) = N at *
      obtain ⟨n, e⟩ := N
      have gB4 := k14.at gB id
      have s4 := sto1 gB4 (o := 0) (v := .int .i64 n) (by omega) rfl
      have ks : Keep (fun y => y = h.length) h4 (h4.set h.length (.arr (c.set 0 (.int .i64 n)) .tight)) := Keep.set _ _ rfl
      have lW4 := ldw (get_set_self (o := .arr (c.set 0 (.int .i64 n)) .tight) (lt_of_get gB4)) (n := 3) (by simp [cl3])
      have hset : c.set 0 (.int .i64 n) = [.int .i64 n, cv, tv] := by subst hc0; rfl
      have rd : setC.rep (h4.set h.length (.arr (c.set 0 (.int .i64 n)) .tight)) (fun b => P b ∨ H.length ≤ b) (c.set 0 (.int .i64 n)) { s with locks := n } :=
       ⟨cv, tv, hset, (((sc1.on k14).keep ks fun b hb e => by have := hP b hb; omega).mono fun b hb => .inl hb), (((st1.on k14).keep ks fun b hb e => by have := hP b hb; omega).mono fun b hb => .inl hb)⟩
      obtain ⟨h5, u1, u2, u3, u4⟩ := out _ _ _ e ((k14.mono fun _ _ h => h.elim).trans ks) rd
      simp [s4, lW4, hca, cl3, u1, u2]
      exact u4 _ fun _ => rfl
     ·have hLR : locksR s w = (s, 2) := by unfold locksR; rw [if_pos h2]
      have h2' : ¬ (w.length : Int) = 2 := by omega
      rw [hLR]
      simp [errOf, n0, hwp, hwp', x1, x2, hL', lB1, s2, nt, h2, h2', lW1, hca, ff, z1, z2]
      exact z3
    ·rw [if_neg (fun h => hL h.2), if_neg (by omega), if_neg (by omega), if_neg (fun h => h.1 hT)] at hR
     rw [hR]
     have hL' : ¬ f = [108, 111, 99, 107, 115] := hL
     simp [errOf, n0, hwp, hwp', x1, x2, hL', lW1, hca, ff, z1, z2]
     exact z3
   ·have hi' : 0 < i := by omega
    have hi2 : ¬ (i : Int) = 0 := by omega
    rw [if_neg (fun h => hi h.1)] at hR
    by_cases hL : f = wLocks
    ·have hL' : f = [108, 111, 99, 107, 115] := hL
     rw [hL, if_neg (by rintro ⟨_, h, _⟩; exact absurd h (by decide)), if_neg (by rintro ⟨_, h⟩; exact absurd h (by decide)), if_neg (by rintro ⟨_, h⟩; exact absurd (by decide) h)] at hR
     rw [hR]
     simp [errOf, n0, hwp, hwp', x1, x2, hL', hi, hi2, lW1, hca, ff, z1, z2]
     exact z3
    have hL' : ¬ f = [108, 111, 99, 107, 115] := hL
    have rs1' := setC.on rs1 k1
    have hP1 : ∀ b, P b → b < h1.length := fun b hb => by have := hP b hb; have := k1.len; omega
    have hb' : ∀ b, P b ∨ h1.length ≤ b → P b ∨ H.length ≤ b := fun b hb => hb.imp id fun h => by have := k1.len; omega
    by_cases hC : f = wChan ∧ s.tasks = []
    ·rw [if_pos ⟨hi', hC⟩] at hR
     rw [hR]
     have hC' : f = [99, 104, 97, 110] := hC.1
     have hT := hC.2
     simp [errOf, n0, hwp, hwp', x1, x2, hL', hC', hi, hi2, lB1, s2, nt, hT, lW1]
     refine (refChannel_spec lp rs1' hP1 sw hwm' (by omega)).mono ?_
     rintro r2 h4 ⟨d, y, rfl, rd, hy, k4⟩
     obtain ⟨h5, u1, u2, u3, u4⟩ := out h4 d y (chanR s w).2 ((k1.trans k4).mono fun _ _ h => h.elim) (setC.mono rd hb')
     simp [u3, hca, u1, u2]
     exact u4 _ hy
    ·rw [if_neg (fun h => hC h.2)] at hR
     have hTl : s.tasks = [] ↔ s.tasks.length = 0 := by rw [List.length_eq_zero_iff]
     have hTl' : s.tasks = [] ↔ (s.tasks.length : Int) = 0 := by rw [hTl]; omega
     by_cases hK : f = wTask
     ·rw [if_pos ⟨hi', hK⟩] at hR
      rw [hR]
      have hK' : f = [116, 97, 115, 107] := hK
      simp [errOf, n0, hwp, hwp', x1, x2, hL', hK', hi, hi2, lB1, s2, nt, lW1]
      refine (refTaskLine_spec lp rs1' hP1 sw hwm' (by omega)).mono ?_
      rintro r2 h4 ⟨d, y, rfl, rd, hy, k4⟩
      obtain ⟨h5, u1, u2, u3, u4⟩ := out h4 d y (taskR s w).2 ((k1.trans k4).mono fun _ _ h => h.elim) (setC.mono rd hb')
      simp [u3, hca, u1, u2]
      exact u4 _ hy
     ·rw [if_neg (fun h => hK h.2)] at hR
      have hK' : ¬ f = [116, 97, 115, 107] := hK
      by_cases hT : s.tasks = []
      ·have hC' : ¬ f = [99, 104, 97, 110] := fun h => hC ⟨h, hT⟩
       rw [if_neg (fun h => h.1 hT)] at hR
       rw [hR]
       simp [errOf, n0, hwp, hwp', x1, x2, hL', hC', hK', hi, hi2, lB1, s2, nt, hT, lW1, hca, ff, z1, z2]
       exact z3
      ·have hT1 : ¬ s.tasks.length = 0 := fun h => hT (hTl.2 h)
       have hT2 : ¬ (s.tasks.length : Int) = 0 := by omega
       by_cases hC' : f = [99, 104, 97, 110]
       ·have hk : kindOf f = 0 := by rw [hC']; rfl
        rw [if_neg (fun h => h.2 hk)] at hR
        rw [hR]
        simp [errOf, n0, hwp, hwp', x1, x2, hL', hC', hK', hi, hi2, lB1, s2, nt, hT, hT1, hT2]
        refine (refKind_spec lp).mono ?_
        rintro r2 h4 ⟨rfl, k4⟩
        have lW4 := ldw ((k1.trans k4).at gB id) cl3
        obtain ⟨h5, u1, u2, u3⟩ := same h4 2 (k1.trans k4)
        rw [← hC', hk]
        simp [lW4, hca, ff, u1, u2]
        exact u3
       ·simp [errOf, n0, hwp, hwp', x1, x2, hL', hC', hK', hi, hi2, lB1, s2, nt, hT, hT1, hT2]
        refine (refKind_spec lp).mono ?_
        rintro r2 h4 ⟨rfl, k4⟩
        have k14 := k1.trans k4
        have gB4 := k14.at gB id
        have lW4 := ldw gB4 cl3
        by_cases hk : kindOf f = 0
        ·rw [if_neg (fun h => h.2 hk)] at hR
         rw [hR]
         obtain ⟨h5, u1, u2, u3⟩ := same h4 2 k14
         simp [hk, lW4, hca, ff, u1, u2]
         exact u3
        ·rw [if_pos ⟨hT, hk⟩] at hR
         rw [hR]
         obtain ⟨init, tk, e1⟩ : ∃ init tk, s.tasks = init ++ [tk] := by
          rcases List.eq_nil_or_concat s.tasks with e | ⟨l, u, e⟩
          ·exact absurd e hT
          ·exact ⟨l, u, by rw [e, List.concat_eq_append]⟩
         have hSR : stepR s t = if tk.prog.length = 48 then (s, 4) else ({ s with tasks := init ++ [{ tk with prog := tk.prog ++ [(parseP t).1] }] }, (parseP t).2) := by
          unfold stepR; rw [e1, lastLen_snoc, addOp_snoc]
         rw [e1, lastLen_snoc] at hml
         rw [e1] at st1 nt hmt
         simp only [List.length_append, List.length_cons, List.length_nil] at nt hmt
         have st4 := st1.on k14
         obtain ⟨bb, ob, row0, y1, y2, y3, pv0, hrow0, sp0⟩ := st4.row (k := .i64) (by decide) (i := init.length) (by simp)
         have y4 := y3 4 (by decide)
         rw [hrow0, List.getElem_append_right (by omega)] at y4
         simp only [Nat.sub_self, List.getElem_cons_zero] at y4
         have y4 : loadAt h4 bb (ob + 4) none = some pv0 := y4
         simp only [taskC] at y1
         simp only [List.getElem_append_right (Nat.le_refl init.length), Nat.sub_self, List.getElem_cons_zero] at sp0
         have np := sp0.len (by decide)
         have hw1 : IntKind.i64.wrap (init.length : Int) = (init.length : Int) := w64 (by omega) (by omega)
         have lB4 := ld gB4
         by_cases h48 : tk.prog.length = 48
         ·rw [if_pos h48] at hSR
          rw [hSR]
          rw [h48] at np
          obtain ⟨h5, u1, u2, u3⟩ := same h4 4 k14
          simp [hk, lB4, s2, e1, hw1, y1, y4, np, lW4, hca, ff, u1, u2]
          exact u3
         ·rw [if_neg h48] at hSR
          have h48' : ¬ (48 : Int) ≤ tk.prog.length := by omega
          rw [hSR]
          simp [hk, lB4, s2, e1, hw1, y1, y4, np, h48, h48']
          refine (refParseOp_spec lp ht).mono ?_
          rintro r2 h5 ⟨⟨row, rfl, ro⟩, k5⟩
          generalize parseP t = O at *
          obtain ⟨o, e⟩ := O
          have ro : opC.rep h5 (From h4) row o := ro
          simp only [] at hSR ⊢
          have hr5 : row.length = 5 := opC.len ro
          have hrf := opC.flat ro
          have st6 := store_new (h := h5) (row := row) (z := [.int .i64 0, .int .i64 0, .int .i64 0, .int .i64 0, .nils]) hr5 hrf
          have kap6 := Keep.app NoneOf h5 [.arr row .tight]
          have gT6 := get_new (h := h5) (o := .arr row .tight)
          have ff6 : fits (some 5) (.agg row) = true := by simp [hr5]
          have k16 := (k14.trans k5).trans kap6
          have hl6 : (h5 ++ [Obj.arr row .tight]).length = h5.length + 1 := by simp
          have ro6 := opC.lt (opC.on ro kap6)
          by_cases he : e = 0
          ·subst he
           have f0 : fillC ([] : List CV) [] = some [] := rfl
           simp [st6, ff6, f0]
           rw [show h5 ++ [Obj.arr row .tight, .arr [] .tight] = (h5 ++ [Obj.arr row .tight]) ++ [.arr [] .tight] by simp]
           rw [← hl6]
           generalize hH6 : h5 ++ [Obj.arr row .tight] = H6 at *
           have ke := Keep.app NoneOf H6 [.arr [] .tight]
           have lB7 := ld (ke.at (k16.at gB id) id)
           obtain ⟨cc, q1, q2⟩ := ((st1.on k16).on ke).spread (by decide)
           have q1 : spread (H6 ++ [.arr [] .tight]) 5 tv = some ((init ++ [tk]).length, cc) := q1
           have hHh : h.length < H6.length := lt_of_get (k16.at gB id)
           simp [lB7, s2, q1]
           have hwi := hw1
           have hH6l := k16.len
           have gT6' : H6[h5.length]? = some (.arr row .tight) := gT6
           refine OV_cpy (ec := taskC) q2 (fun b hb => by have := hP b hb; omega) (by simp) (by simp [big]; omega) (by decide) fun v1 h7 o1 k7 hb7 => ?_
           obtain ⟨c0, pv, tb, stt, hv1, hg, hst, hcl, rr, sp, hPt⟩ := own_last o1
           have htb : H6.length ≤ tb := hb7 tb (by rw [hv1]; rfl)
           have htl := lt_of_get hg
           have hsv1 : v1.scalar = true := o1.scalar
           have hx : idxAddrV 5 v1 (.int .i64 (init.length : Int)) = some (.ptr tb (init.length * 5)) := by
            rw [hv1, idxAddrV_sl, if_pos ⟨by omega, by omega⟩]; simp
           have hf4 : (c0 ++ tkL tk pv)[init.length * 5 + 4]? = some pv := by rw [List.getElem?_append_right (by omega), hcl, Nat.add_sub_cancel_left]; rfl
           have kap7 := Keep.app NoneOf h7 [.arr [] .tight]
           have lT7 := ld (kap7.at hg id)
           have lR7 := ldw (kap7.at (k7.at gT6' id) id) hr5
           simp [hw1, hx, lT7, hf4, lR7, fill5 hr5]
           have kap8 := Keep.app NoneOf h7 [.arr [] .tight, .arr row .tight]
           obtain ⟨cc3, q3, q4⟩ := (sp.on kap8).spread (by decide)
           have q3 : spread (h7 ++ [.arr [] .tight, .arr row .tight]) 5 pv = some (tk.prog.length, cc3) := q3
           have g8a : (h7 ++ [Obj.arr [] .tight, .arr row .tight])[h7.length]? = some (.arr [] .tight) := by simp
           have g8b : (h7 ++ [Obj.arr [] .tight, .arr row .tight])[h7.length + 1]? = some (.arr row .tight) := by simp
           have hl8 : (h7 ++ [Obj.arr [] .tight, .arr row .tight]).length = h7.length + 2 := by simp
           refine WO_re_n ?_
           simp [q3]
           have hg8 := kap8.at hg id
           have k68 := k7.trans kap8
           generalize h7 ++ [Obj.arr [] .tight, .arr row .tight] = H8 at *
           have h7l := k7.len
           refine OV_cpyAt (ec := opC) (P := fun x => P x ∨ (H.length ≤ x ∧ x < H6.length)) g8a (q4.mono fun x hx => .inl hx) (fun x hx => by
            rcases hx with hx | hx
            ·have := hP x hx; omega
            ·omega) rfl (by simp [big]; omega) (by decide) fun v2 h9 o2 k9 hb9 => ?_
           have k69 := k68.then k9 fun y hy e => by omega
           have lR9 := ldw (k69.at gT6' id) hr5
           have gN9 := k9.at g8b (by omega)
           have sp9 : spread h9 5 (.sl (h7.length + 1) 0 1 1) = some (1, row) := by
            have htk : List.take 5 row = row := List.take_of_length_le (by omega)
            simp [spread, cellsAt, gN9, hr5, htk]
           refine ⟨fun c' => by simp [recheckB, wanted, Env.get, cls, evOp, Opd.ev, withH, CV.eqb, CV.eqb_refl, CV.eqbL_refl, lR9], ?_⟩
           simp [sp9]
           have h9l := k9.len
           have k5l := k14.len
           have k4l := k5.len
           refine OV_push (e := opC) (x := o) o2 (opC.mono (opC.on ro6 k69) fun x hx => .inr ⟨by have : h4.length ≤ x := hx.1; omega, hx.2⟩) (fun x hx => by
            rcases hx with hx | hx
            ·have := hP x hx; omega
            ·omega) (by simp [big]; omega) (by decide) fun v3 h10 o3 k10 hb10 => ?_
           have hb2 : ∀ x, v2.blk = some x → h7.length ≤ x := fun x hx => by rcases hb9 x hx with q | q <;> omega
           have hb3 : ∀ x, v3.blk = some x → h7.length ≤ x := fun x hx => by
            rcases hb10 x hx with q | q
            ·exact hb2 x q
            ·omega
           have hg10 := k10.at (k9.at hg8 (by omega)) fun e => by have := hb2 tb e; omega
           have k6x : Keep NoneOf H6 h10 := k69.then k10 fun y hy e => by have := hb2 y e; omega
           have hsc := o3.scalar
           have fs := fits_scalar hsc
           have cs := CV.cells_scalar hsc
           have s10 := sto_last (t' := { tk with prog := tk.prog ++ [o] }) hg10 hst hcl hsc rfl
           have kt : Keep (fun y => y = tb) h10 (h10.set tb (.arr (c0 ++ tkL { tk with prog := tk.prog ++ [o] } v3) stt)) := Keep.set _ _ rfl
           have gt11 := get_set_self (o := .arr (c0 ++ tkL { tk with prog := tk.prog ++ [o] } v3) stt) (lt_of_get hg10)
           have gB11 := kt.at (k6x.at (k16.at gB id) id) (by omega)
           have s12 := sto1 gB11 (o := 2) (v := v1) (by omega) hsv1
           have fs1 := fits_scalar hsv1
           have cs1 := CV.cells_scalar hsv1
           simp [fs, cs, hx, s10, fs1, cs1, s12]
           have h10l := k6x.len
           have kb : Keep (fun y => y = h.length) (h10.set tb (.arr (c0 ++ tkL { tk with prog := tk.prog ++ [o] } v3) stt)) ((h10.set tb (.arr (c0 ++ tkL { tk with prog := tk.prog ++ [o] } v3) stt)).set h.length (.arr (c.set 2 v1) .tight)) := Keep.set _ _ rfl
           have gt12 := kb.at gt11 (by omega)
           have lW12 := ldw (get_set_self (o := .arr (c.set 2 v1) .tight) (lt_of_get gB11)) (n := 3) (by simp [cl3])
           have kall : Keep (fun y => y = h.length) H ((h10.set tb (.arr (c0 ++ tkL { tk with prog := tk.prog ++ [o] } v3) stt)).set h.length (.arr (c.set 2 v1) .tight)) :=
            (((k16.trans k6x).then kt fun y hy e => by omega).mono fun _ _ e => e.elim).trans kb
           have hset : c.set 2 v1 = [.int .i64 s.locks, cv, v1] := by subst hc0; rfl
           have kA : Keep NoneOf h7 h10 := (kap8.then k9 fun y hy e => by omega).then k10 fun y hy e => by have := hb2 y e; omega
           have hm : Mine ((h10.set tb (.arr (c0 ++ tkL { tk with prog := tk.prog ++ [o] } v3) stt)).set h.length (.arr (c.set 2 v1) .tight)) 5 v1 (c0 ++ tkL { tk with prog := tk.prog ++ [o] } v3) :=
            .inr ⟨tb, init.length + 1, stt, hv1, by simp [tkL]; omega, hst, gt12⟩
           have rd : setC.rep ((h10.set tb (.arr (c0 ++ tkL { tk with prog := tk.prog ++ [o] } v3) stt)).set h.length (.arr (c.set 2 v1) .tight)) (fun b => P b ∨ H.length ≤ b) (c.set 2 v1) { s with tasks := init ++ [{ tk with prog := tk.prog ++ [o] }] } := by
            refine ⟨cv, v1, hset, ?_, c0 ++ tkL { tk with prog := tk.prog ++ [o] } v3, hm.read, ⟨hm.ok, fun x hx => ?_⟩, ?_⟩
            ·exact ((((sc1.on k16).on k6x).keep kt fun b hb e => by have := hP b hb; omega).keep kb fun b hb e => by have := hP b hb; omega).mono fun b hb => .inl hb
            ·have := hb7 x hx; exact .inr (by omega)
            ·refine ((((rr.keep kA fun _ _ => id).keep kt fun b hb e => by have := hP b hb; omega).keep kb fun b hb e => by have := hP b hb; omega).mono fun b hb => .inl hb).append (Rows.one ⟨v3, rfl, ?_⟩)
             refine ((o3.sl.keep kt fun b hb e => ?_).keep kb fun b hb e => ?_).mono fun b hb => ?_
             ·rcases hb with (hb | hb) | hb
              ·have := hP b hb; omega
              ·omega
              ·have := hb3 b hb; omega
             ·rcases hb with (hb | hb) | hb
              ·have := hP b hb; omega
              ·omega
              ·have := hb3 b hb; omega
             ·rcases hb with (hb | hb) | hb
              ·exact .inl hb
              ·exact .inr hb.1
              ·exact .inr (by have := hb3 b hb; omega)
           obtain ⟨h13, u1, u2, u3, u4⟩ := out _ _ _ 0 kall rd
           simp [lW12, hca, cl3, u1, u2]
           exact u4 _ fun _ => rfl
          ·obtain ⟨h7, u1, u2, u3⟩ := same (h5 ++ [.arr row .tight]) e k16
           have lW7 := ldw (k16.at gB id) cl3
           have u3 : RfQ P e { s with tasks := init ++ [{ tk with prog := tk.prog ++ [o] }] } h (.tup [.agg c, .int .i64 e]) h7 := by
            obtain ⟨d, y, a1, a2, a3, a4⟩ := u3
            exact ⟨d, y, a1, a2, fun h => absurd h he, a4⟩
           simp [st6, ff6, he, lW7, hca, ff, u1, u2]
           exact u3
def RpI (A : Nat) (lv : CV) (ls : List Wd) (h : Heap) (m : Nat) (e : Env) (h' : Heap) : Prop :=
 ∃ (i : Nat) (s : SetV) (c : List CV), i ≤ ls.length ∧ m = ls.length - i ∧ e = [(2, .ptr A 0), (5, lv), (7, .ptr h.length 0), (8, .int .i64 i)] ∧ h'[h.length]? = some (.arr c .tight) ∧ setC.rep h' (fun b => h.length < b) c s ∧ s.Sm ∧ (i = 0 → s.tasks = []) ∧ Keep NoneOf h h' ∧
  setGo 0 ls set0 = setGo i (ls.drop i) s
theorem refTextParse_spec (lp : LP p) {s : List UInt8} {h : Heap} (hs : s.length ≤ 10000000) (hlong : ∀ ls, linesP s = some ls → ∀ l ∈ ls, l.length ≤ 100000) : WF p 255 [.str s] h (SetQ (setR s) h) := by
 refine WF_of (by rw [lp.pg]; exact S.pg255) (lp.no ⟨rfl, rfl⟩) ?_
 show W p S.b255 _ _ (retQ [.cell (some 3) 2, .t 3, .t 4] _)
 unfold S.b255
 have f0 : fillC [.int .i64 0, .nils, .nils] [] = some [.int .i64 0, .nils, .nils] := rfl
 have ki := Keep.app NoneOf h [.arr [.int .i64 0, .nils, .nils] .tight]
 have g0 := get_new (h := h) (o := .arr [.int .i64 0, .nils, .nils] .tight)
 simp
 refine (refLines_spec lp (by omega)).mono ?_
 rintro r h1 ⟨lv, rfl, sl, k1⟩
 have g1 := k1.at g0 id
 have s1 := sto g1 (vs := [.int .i64 0, .nils, .nils]) rfl rfl
 have w1 := ldw (get_set_self (o := .arr [.int .i64 0, .nils, .nils] .tight) (lt_of_get g1)) (n := 3) rfl
 have ks : ∀ (hh : Heap), Keep NoneOf h hh → ∀ o, Keep NoneOf h (hh.set h.length o) := fun hh k o => k.then (Keep.set (S := fun x => x = h.length) _ _ rfl) fun x hx e => by omega
 cases hl : linesP s with
 | none =>
   have hR : setR s = (set0, 0, 2) := by unfold setR; rw [hl]
   rw [hR]
   simp [errOf, f0, s1, w1]
   exact ⟨_, rfl, set0_rep, ks _ (ki.trans k1) _⟩
 | some ls =>
   rw [hl] at sl
   have sl : Sl .str h1 (From (h ++ [.arr [.int .i64 0, .nils, .nils] .tight])) lv ls := sl
   have n0 := sl.len (by decide)
   obtain ⟨hll, hlm⟩ := lines_bnd hl
   have hlq := hlong ls hl
   by_cases hle : ls = []
   ·subst hle
    have hR : setR s = (set0, 0, 2) := by unfold setR; rw [hl]
    rw [hR]
    simp [errOf, n0, f0, s1, w1]
    exact ⟨_, rfl, set0_rep, ks _ (ki.trans k1) _⟩
   ·have hlp : ls.length ≠ 0 := fun h => hle (List.eq_nil_of_length_eq_zero h)
    have hlp' : ¬ (ls.length : Int) = 0 := by omega
    have hR : setR s = setGo 0 ls set0 := by
     unfold setR; rw [hl]
     cases ls with
     | nil => exact absurd rfl hle
     | cons _ _ => rfl
    have st7 := store_new (h := h1) (row := [.int .i64 0, .nils, .nils]) (z := [.int .i64 0, .nils, .nils]) rfl rfl
    simp [errOf, n0, hle, hlp, hlp', f0, st7]
    have kb := Keep.app NoneOf h1 [.arr [.int .i64 0, .nils, .nils] .tight]
    refine W_loop (RpI h.length lv ls h1) ?_ ls.length ⟨0, set0, _, by omega, by omega, rfl, get_new, set0_rep, set0_sm, fun _ => rfl, kb, rfl⟩
    rintro m e h2 ⟨i, x, c, hi, rfl, rfl, gc, rx, sm, hi0, k2, hgo⟩
    have K2 := (ki.trans k1).trans k2
    have g2 := k2.at g1 id
    have n2 := (sl.on k2).len (by decide)
    have hcl : c.length = 3 := setC.len rx
    have lW := ldw gc hcl
    have hca : ∀ l, (CV.agg l).cells = l := fun _ => rfl
    by_cases hie : i = ls.length
    ·subst hie
     rw [List.drop_length, setGo] at hgo
     simp [n2, lW]
     refine (refSet_spec lp rx).mono ?_
     rintro r h3 ⟨rfl, k3⟩
     have g3 := k3.at g2 id
     have s3 := sto g3 (vs := [.int .i64 0, .nils, .nils]) rfl rfl
     have w3 := ldw (get_set_self (o := .arr [.int .i64 0, .nils, .nils] .tight) (lt_of_get g3)) (n := 3) rfl
     have gc3 := k3.at gc id
     have lW3 := ldw gc3 hcl
     by_cases hc : (setP x).2 = 0
     ·rw [if_pos hc] at hgo
      rw [hR, hgo]
      have s4 := sto g3 (vs := c) (by rw [hcl]; rfl) (setC.flat rx)
      have w4 := ldw (get_set_self (o := .arr c .tight) (lt_of_get g3)) hcl
      have hA := lt_of_get g0
      simp only [List.length_append, List.length_cons, List.length_nil] at hA
      have hbl := k1.len
      simp only [List.length_append, List.length_cons, List.length_nil] at hbl
      simp [hc, lW3, hca, hcl, s4, w4]
      refine ⟨_, rfl, ?_, ks _ (K2.trans k3) _⟩
      have kk : Keep (fun y => y = h.length) h3 (h3.set h.length (.arr c .tight)) := Keep.set _ _ rfl
      exact setC.mono (setC.keep (setC.on rx k3) kk fun y hy e => by omega) fun y hy => by simp only [From]; omega
     ·rw [if_neg hc] at hgo
      rw [hR, hgo]
      simp [hc, f0, s3, w3]
      exact ⟨_, rfl, set0_rep, ks _ (K2.trans k3) _⟩
    ·have hlt : i < ls.length := by omega
     have hlt' : (i : Int) < ls.length := by omega
     obtain ⟨b1, o1, x1, x2⟩ := (sl.on k2).word hlt
     have hat : at_ ls i = ls[i] := by simp [at_, List.getElem?_eq_getElem hlt]
     rw [hat] at x2
     have hli := hlq _ (List.getElem_mem hlt)
     have hw1 : IntKind.i64.wrap ((i : Int) + 1) = ((i + 1 : Nat) : Int) := by rw [w64 (by omega) (by omega)]; omega
     rw [List.drop_eq_getElem_cons hlt, setGo] at hgo
     have kap9 := Keep.app NoneOf h2 [.arr [.int .i64 0, .nils, .nils] .tight]
     have rx9 := setC.on (setC.lt rx) kap9
     simp [n2, hlt', x1, x2, lW]
     refine (refLine_spec lp (i := i) rx9 (fun b hb => by simp; omega) sm hi0 (by omega) hli).mono ?_
     rintro r h3 ⟨d, y, rfl, rd, hy, k3⟩
     have sm3 := lineSR_sm (i := i) sm hli
     have hdl : d.length = 3 := setC.len rd
     have g9 := k3.at (get_new (h := h2) (o := .arr [.int .i64 0, .nils, .nils] .tight)) id
     have s9 := sto g9 (vs := d) (by rw [hdl]; rfl) (setC.flat rd)
     have k9 : Keep (fun y => y = h2.length) h3 (h3.set h2.length (.arr d .tight)) := Keep.set _ _ rfl
     have w9 := ldw (get_set_self (o := .arr d .tight) (lt_of_get g9)) hdl
     have k29 : Keep NoneOf h2 (h3.set h2.length (.arr d .tight)) := (kap9.trans k3).then k9 fun y hy e => by omega
     have K9 := K2.trans k29
     have g10 := k29.at g2 id
     have s10 := sto g10 (vs := [.int .i64 0, .nils, .nils]) rfl rfl
     have w10 := ldw (get_set_self (o := .arr [.int .i64 0, .nils, .nils] .tight) (lt_of_get g10)) (n := 3) rfl
     have h2l := lt_of_get gc
     by_cases he : (lineSR x i ls[i]).2 = 0
     ·rw [if_pos he] at hgo
      have hyx := hy he
      subst hyx
      have gc10 := k29.at gc id
      have s11 := sto gc10 (vs := d) (by rw [hdl, hcl]) (setC.flat rd)
      have k11 : Keep (fun y => y = h1.length) (h3.set h2.length (.arr d .tight)) ((h3.set h2.length (.arr d .tight)).set h1.length (.arr d .tight)) := Keep.set _ _ rfl
      have hl2 : (h2 ++ [Obj.arr [.int .i64 0, .nils, .nils] .tight]).length = h2.length + 1 := by simp
      simp [he, hca, hdl, s9, w9, s11, hw1]
      refine ⟨ls.length - (i + 1), by omega, i + 1, _, d, by omega, rfl, rfl, get_set_self (lt_of_get gc10), ?_, sm3, fun h => by omega, (k2.trans k29).then k11 fun y hy e => by omega, hgo⟩
      refine setC.mono (setC.keep (setC.keep rd k9 fun y hy e => ?_) k11 fun y hy e => ?_) fun y hy => ?_
      ·rcases hy with hy | hy <;> omega
      ·rcases hy with hy | hy <;> omega
      ·rcases hy with hy | hy <;> omega
     ·rw [if_neg he] at hgo
      rw [hR, hgo]
      simp [he, hca, hdl, s9, f0, s10, w10]
      exact ⟨_, rfl, set0_rep, ks _ K9 _⟩
end Go.Cl
