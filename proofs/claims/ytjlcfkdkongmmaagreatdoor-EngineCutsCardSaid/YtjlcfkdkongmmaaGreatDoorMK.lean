/-
  Texts laid together: AEnP AEnQ AEnS AEnT AEnR AEnU.
-/
import Derived.Test.YtjlcfkdkongmmaaGreatDoorMJ
namespace Go.Cl
open Go
set_option linter.unusedSimpArgs false
set_option linter.unusedVariables false
set_option maxHeartbeats 1000000
theorem RunJ.now {x : JobV} {c left used : Int} (r : RunJ x c left used) : nowF x = (⟨1, c, 0, 0, []⟩, true) := by
 unfold nowF
 rw [r.live, r.pc, r.flat]
 simp
theorem RunJ.begin {x : JobV} {c : Int} (r : RunJ x c 0 0) : beginF x = ({ x with left := c }, true) := by
 unfold beginF
 rw [r.now, r.left, r.used, r.most]
 simp
theorem RunJ.begun {x : JobV} {c : Int} (r : RunJ x c 0 0) : RunJ { x with left := c } c c 0 := ⟨r.live, r.flat, r.pc, rfl, r.used, r.most, r.held, r.waits⟩
theorem RunJ.tick {x : JobV} {c d u : Int} (r : RunJ x c d u) (h1 : 2 ≤ d) (h2 : d ≤ 20) (h3 : 0 ≤ u) (h4 : u ≤ 20) : (tickF x).2 = false ∧ RunJ (tickF x).1 c (d - 1) (u + 1) := by
 have e : tickF x = ({ x with left := d - 1, used := u + 1 }, false) := by
  unfold tickF
  rw [r.live, r.left, r.used, r.most, w64 (x := d - 1) (by omega) (by omega), w64 (x := u + 1) (by omega) (by omega), if_pos ⟨rfl, by omega⟩, if_neg (by omega)]
  have : ¬ u + 1 = 500 := by omega
  simp [this]
 rw [e]
 exact ⟨rfl, r.live, r.flat, r.pc, rfl, rfl, r.most, r.held, r.waits⟩
theorem RunJ.last {x : JobV} {c u : Int} (r : RunJ x c 1 u) (h3 : 0 ≤ u) (h4 : u ≤ 20) : (tickF x).2 = false ∧ (tickF x).1.live = true ∧ (tickF x).1.left = 0 ∧ (tickF x).1.waits = false ∧ (nowF (tickF x).1).2 = false := by
 have e : tickF x = ({ x with left := 0, used := u + 1, pc := 1 }, false) := by
  unfold tickF
  rw [r.live, r.left, r.used, r.pc, w64 (x := u + 1) (by omega) (by omega)]
  rfl
 rw [e]
 refine ⟨rfl, r.live, rfl, r.waits, ?_⟩
 unfold nowF
 simp [r.live, r.flat]
variable {cs : List Int} {s : CoreS} {k : Nat} {d c : Int}
theorem behindF_plain : ∀ {n : Nat} {s s' : CoreS} {e : List (List CV)}, Plain s → behindF n s = some (s', e) → Plain s'
 | 0, s, s', e, q, h => by simp [behindF] at h
 | n + 1, s, s', e, q, h => by
   simp only [behindF] at h
   split at h
   ·simp at h; rw [← h.1]; exact q
   ·split at h
    ·simp at h
    ·split at h
     ·simp at h; rw [← h.1]; exact q
     ·split at h
      ·simp at h
      ·rename_i s1 e1 ho
       split at h
       ·simp at h
       ·rename_i s2 e2 hb
        simp at h
        rw [← h.1]
        exact behindF_plain (opS_plain q ho).1 hb
theorem loopF_plain : ∀ {n : Nat} {s s' : CoreS} {e : List (List CV)}, Plain s → loopF n s = some (s', e) → Plain s'
 | 0, s, s', e, q, h => by simp [loopF] at h
 | n + 1, s, s', e, q, h => by
   simp only [loopF] at h
   split at h
   ·simp at h; rw [← h.1]; exact q
   ·split at h
    ·simp at h
    ·rename_i x hx
     split at h
     ·split at h
      ·simp at h
      ·split at h
       ·simp at h
       ·rename_i s2 e2 hb
        simp at h
        rw [← h.1]
        exact behindF_plain (Plain.set q (q x (List.mem_of_getElem? hx)).tick) hb
     ·split at h
      ·simp at h
      ·rename_i s1 e1 ho
       split at h
       ·simp at h
       ·rename_i s2 e2 hb
        simp at h
        rw [← h.1]
        exact loopF_plain (opS_plain q ho).1 hb
def rev : Nat → List Int
 | 0 => []
 | n + 1 => (n : Int) :: rev n
@[simp] theorem rev_length : ∀ n, (rev n).length = n
 | 0 => rfl
 | n + 1 => by simp [rev, rev_length n]
abbrev Ev := Int × Int × Int × Int
def evq (q : Ev) : List CV := evt q.1 q.2.1 q.2.2.1 q.2.2.2
theorem ask_new {l : List TaskV} {s : CoreS} {i : Nat} (hi : i < l.length) (hf : s.f i = none) (hl : liveAt s i = false) (h0 : s.gn ≤ s.now) (h1 : 0 ≤ s.now) (h2 : s.now ≤ 1099511627776) : askErr l s i = 0 := by
 unfold askErr askE
 rw [hl, hf, if_neg (by simp; omega), if_neg (by omega)]
 simp
theorem topF_live {jobs : List JobV} {k : Nat} {x : JobV} (ht : topF jobs = some k) (hl : x.live = true) (y : JobV) (hy : jobs[k]? = some y) : topF (jobs.set k x) = some k := by
 have hk := topF_lt ht
 have hd : ∀ m, m ≤ jobs.length → topTo (jobs.set k x) m = topTo jobs m := by
  intro m
  induction m with
  | zero => intro _; rfl
  | succ m ih =>
    intro hm
    simp only [topTo]
    rw [ih (by omega)]
    cases topTo jobs m with
    | some t => rfl
    | none =>
      by_cases hmk : m = k
      ·subst hmk
       obtain ⟨_, z, hz, hzl⟩ := topTo_some ht
       rw [List.getElem?_set_self hk, hz]
       simp only [hl, hzl]
      ·rw [List.getElem?_set_ne (by omega)]
 unfold topF at ht ⊢
 rw [List.length_set, hd _ (Nat.le_refl _), ht]
variable {s : CoreS} {k : Nat} {c d u : Int} {x : JobV}
theorem sim_begin (ht : topF s.jobs = some k) (hx : s.jobs[k]? = some x) (r : RunJ x c 0 0) (m : Nat) : loopF (m + 1) s = loopF m { s with jobs := s.jobs.set k { x with left := c } } ∧ behindF (m + 1) s = behindF m { s with jobs := s.jobs.set k { x with left := c } } := by
 have ho : ∀ bh, opS s k bh = some ({ s with jobs := s.jobs.set k { x with left := c } }, []) := fun bh => by
  unfold opS
  simp only [hx]
  rw [if_pos ⟨r.live, r.waits, r.left⟩, r.now, if_neg (by simp), if_pos ⟨rfl, by rw [r.begin]⟩, r.begin]
 constructor
 ·conv => lhs; rw [loopF]
  simp only [ht, hx, ho]
  rw [if_neg (by rw [r.left]; simp)]
  cases loopF m { s with jobs := s.jobs.set k { x with left := c } } with
  | none => rfl
  | some q => rfl
 ·conv => lhs; rw [behindF]
  simp only [ht, hx, ho]
  rw [if_neg (by rw [r.left]; simp)]
  cases behindF m { s with jobs := s.jobs.set k { x with left := c } } with
  | none => rfl
  | some q => rfl
theorem sim_stop (h : ∀ k x, topF s.jobs = some k → s.jobs[k]? = some x → x.left ≠ 0) (m : Nat) : behindF (m + 1) s = some (s, []) := by
 rw [behindF]
 cases ht : topF s.jobs with
 | none => rfl
 | some k =>
   have hx : s.jobs[k]? = some (s.jobs[k]'(topF_lt ht)) := List.getElem?_eq_getElem _
   simp only [hx]
   rw [if_pos (h k _ ht hx)]
theorem sim_more (ht : topF s.jobs = some k) (hx : s.jobs[k]? = some x) (r : RunJ x c d u) (h1 : 2 ≤ d) (h2 : d ≤ 20) (h3 : 0 ≤ u) (h4 : u ≤ 20) (m : Nat) :
  loopF (m + 2) s = some ({ s with jobs := s.jobs.set k (tickF x).1 }, [evt s.now 3 k 0]) ∧ RunJ (tickF x).1 c (d - 1) (u + 1) := by
 obtain ⟨t1, t2⟩ := r.tick h1 h2 h3 h4
 refine ⟨?_, t2⟩
 have hkl := topF_lt ht
 rw [loopF]
 simp only [ht, hx]
 rw [if_pos (by rw [r.left]; omega), if_neg (by rw [t1]; simp), sim_stop (s := { s with jobs := s.jobs.set k (tickF x).1 })]
 intro k' x' ht' hx'
 simp only at ht' hx'
 rw [topF_live ht t2.live x hx] at ht'
 cases ht'
 rw [List.getElem?_set_self hkl] at hx'
 cases hx'
 rw [t2.left]; omega
theorem sim_last (ht : topF s.jobs = some k) (hx : s.jobs[k]? = some x) (r : RunJ x c 1 u) (h3 : 0 ≤ u) (h4 : u ≤ 20) {m : Nat} {s2 : CoreS} {e2 : List (List CV)} (hb : behindF m { s with jobs := s.jobs.set k deadJ } = some (s2, e2)) :
  loopF (m + 2) s = some (s2, evt s.now 3 k 0 :: evt (s.now + 1) 6 k 0 :: e2) := by
 obtain ⟨t1, t2, t3, t4, t5⟩ := r.last h3 h4
 have hkl := topF_lt ht
 have htop := topF_live ht t2 x hx
 have hget : (s.jobs.set k (tickF x).1)[k]? = some (tickF x).1 := List.getElem?_set_self hkl
 have ho : opS { s with jobs := s.jobs.set k (tickF x).1 } k true = some ({ s with jobs := s.jobs.set k deadJ }, [evt (s.now + 1) 6 k 0]) := by
  unfold opS
  simp only [hget]
  rw [if_pos ⟨t2, t4, t3⟩, if_pos t5]
  simp [List.set_set]
 rw [loopF]
 simp only [ht, hx]
 rw [if_pos (by rw [r.left]; simp), if_neg (by rw [t1]; simp), behindF]
 simp only [htop, hget]
 rw [if_neg (by rw [t3]; simp), ho]
 simp only
 rw [hb]
 rfl
theorem top2 {a b : JobV} : topF [a, b] = if a.live = true then some 0 else if b.live = true then some 1 else none := by
 by_cases ha : a.live = true
 ·simp [topF, topTo, ha]
 ·by_cases hb : b.live = true
  ·simp [topF, topTo, ha, hb]
  ·simp [topF, topTo, ha, hb]
theorem a_runs {s : CoreS} {a b : JobV} {x y d e d2 u2 : Int} (hj : s.jobs = [a, b]) (r : RunJ a x d e) (h1 : 1 ≤ d) (h2 : d ≤ 20) (h3 : 0 ≤ e) (h4 : e ≤ 20) (rb : RunJ b y d2 u2) (hb : (d2 = 0 ∧ u2 = 0 ∧ 1 ≤ y) ∨ 1 ≤ d2) (m : Nat) :
  (2 ≤ d ∧ ∃ a', loopF (m + 4) s = some ({ s with jobs := [a', b] }, [evt s.now 3 0 0]) ∧ RunJ a' x (d - 1) (e + 1)) ∨
  (d = 1 ∧ ∃ b', loopF (m + 4) s = some ({ s with jobs := [deadJ, b'] }, [evt s.now 3 0 0, evt (s.now + 1) 6 0 0]) ∧ RunJ b' y (if d2 = 0 then y else d2) u2) := by
 have ht : topF s.jobs = some 0 := by rw [hj, top2, if_pos r.live]
 have hx : s.jobs[0]? = some a := by rw [hj]; rfl
 by_cases h : 2 ≤ d
 ·obtain ⟨q1, q2⟩ := sim_more ht hx r h h2 h3 h4 (m + 2)
  refine .inl ⟨h, _, ?_, q2⟩
  rw [q1, hj]; rfl
 ·obtain rfl : d = 1 := by omega
  refine .inr ⟨rfl, ?_⟩
  have hd : s.jobs.set 0 deadJ = [deadJ, b] := by rw [hj]; rfl
  have ht2 : topF [deadJ, b] = some 1 := by rw [top2, if_neg (by decide), if_pos rb.live]
  rcases hb with ⟨rfl, rfl, hy⟩ | hb
  ·have q := (sim_begin (s := { s with jobs := [deadJ, b] }) ht2 rfl rb (m + 1)).2
   have q2 : behindF (m + 1) { s with jobs := [deadJ, { b with left := y }] } = some ({ s with jobs := [deadJ, { b with left := y }] }, []) := sim_stop (fun k' x' hk hx' => by
    simp only at hk hx'
    have rl : topF [deadJ, { b with left := y }] = some 1 := by rw [top2, if_neg (by decide), if_pos rb.live]
    rw [rl] at hk
    cases hk
    simp at hx'
    rw [← hx']
    show y ≠ 0
    omega) m
   refine ⟨{ b with left := y }, ?_, by rw [if_pos rfl]; exact rb.begun⟩
   have := sim_last ht hx r h3 h4 (m := m + 2) (s2 := { s with jobs := [deadJ, { b with left := y }] }) (e2 := []) (by rw [hd, q]; exact q2)
   exact this
  ·have q2 : behindF (m + 2) { s with jobs := [deadJ, b] } = some ({ s with jobs := [deadJ, b] }, []) := sim_stop (fun k' x' hk hx' => by
    simp only at hk hx'
    rw [ht2] at hk
    cases hk
    simp at hx'
    rw [← hx', rb.left]
    omega) (m + 1)
   refine ⟨b, ?_, by rw [if_neg (by omega)]; exact rb⟩
   exact sim_last ht hx r h3 h4 (by rw [hd]; exact q2)
theorem b_runs {s : CoreS} {a b : JobV} {y d u : Int} (hj : s.jobs = [a, b]) (ha : a.live = false) (r : RunJ b y d u) (h1 : 1 ≤ d) (h2 : d ≤ 20) (h3 : 0 ≤ u) (h4 : u ≤ 20) (m : Nat) :
  (2 ≤ d ∧ ∃ b', loopF (m + 4) s = some ({ s with jobs := [a, b'] }, [evt s.now 3 1 0]) ∧ RunJ b' y (d - 1) (u + 1)) ∨
  (d = 1 ∧ loopF (m + 4) s = some ({ s with jobs := [a, deadJ] }, [evt s.now 3 1 0, evt (s.now + 1) 6 1 0])) := by
 have ht : topF s.jobs = some 1 := by rw [hj, top2, if_neg (by rw [ha]; simp), if_pos r.live]
 have hx : s.jobs[1]? = some b := by rw [hj]; rfl
 by_cases h : 2 ≤ d
 ·obtain ⟨q1, q2⟩ := sim_more ht hx r h h2 h3 h4 (m + 2)
  refine .inl ⟨h, _, ?_, q2⟩
  rw [q1, hj]; rfl
 ·obtain rfl : d = 1 := by omega
  refine .inr ⟨rfl, ?_⟩
  have hd : s.jobs.set 1 deadJ = [a, deadJ] := by rw [hj]; rfl
  have q2 : behindF (m + 2) { s with jobs := [a, deadJ] } = some ({ s with jobs := [a, deadJ] }, []) := sim_stop (fun k' x' hk hx' => by
   simp only at hk
   rw [top2, if_neg (by rw [ha]; simp), if_neg (by decide)] at hk
   cases hk) (m + 1)
  exact sim_last ht hx r h3 h4 (by rw [hd]; exact q2)
def cutAsks (w t : Int) : List Int := (if t = 0 then [1] else []) ++ (if t = w then [0] else [])
structure CutB (s : CoreS) (t : Int) : Prop where
 plain : Plain s
 now : s.now = t
 gn : s.gn ≤ t
 q0 : 0 ≤ s.seq
 q1 : s.seq ≤ 2 * t + 2
def CutP (x y w : Int) (s : CoreS) (t : Int) : Prop := ∃ a b, s.jobs = [a, b] ∧
 ((t = 0 ∧ a.live = false ∧ b.live = false ∧ s.f 0 = none ∧ s.f 1 = none) ∨
  (0 < t ∧ t ≤ w ∧ a.live = false ∧ s.f 0 = none ∧ RunJ b y (y - t) t) ∨
  (w < t ∧ t < w + x ∧ RunJ a x (x - (t - w)) (t - w) ∧ ((w = 0 ∧ RunJ b y 0 0) ∨ (0 < w ∧ RunJ b y (y - w) w))) ∨
  (w + x ≤ t ∧ t < x + y ∧ a.live = false ∧ RunJ b y (y - (t - x)) (t - x)) ∨
  (t = x + y ∧ a.live = false ∧ b.live = false))
def cutOk (x y w t : Int) (e : Ev) : Prop := (e.2.1 = 3 → (e.2.2.1 = 0 ↔ (w ≤ t ∧ t < w + x))) ∧ (e.2.1 = 6 → (e.2.2.1 = 0 → e.1 = w + x) ∧ (e.2.2.1 = 1 → e.1 = x + y))
theorem ask_one {l : List Int} {s : CoreS} {i : Nat} (hi : i < l.length) (hf : s.f i = none) (hl : liveAt s i = false) (h0 : s.gn ≤ s.now) (h1 : 0 ≤ s.now) (h2 : s.now ≤ 1099511627776) :
  ∃ z, RunJ z (sumC l[i]) 0 0 ∧ PlainJ z ∧ askI (runTs l) s i = (⟨s.jobs.set i z, updI s.f i s.now, s.now, s.now, s.seq + 1⟩, evt s.now 1 i 0) := by
 have he : askErr (runTs l) s i = 0 := ask_new (by simpa using hi) hf hl h0 h1 h2
 refine ⟨newF (runT i l[i]).prog (runT i l[i]).bud s.now (s.seq + 1), ⟨rfl, rfl, rfl, rfl, rfl, rfl, rfl, rfl⟩, ⟨rfl, rfl, by simp [newF, runT]⟩, ?_⟩
 unfold askI
 rw [if_pos he]
 simp [askS, runTs_get hi]
theorem cut_asked {va vb : Int} {x y w : Int} (hx : x = sumC va) (hy : y = sumC vb) {s : CoreS} {t : Int} (B : CutB s t) (P : CutP x y w s t) (h0 : 0 ≤ t) (ht : t ≤ 1000) (hw : 0 ≤ w) (hwy : w < y) (hx1 : 1 ≤ x) (htt : t < x + y) :
  ∃ s1 qe, askL (runTs [va, vb]) (cutAsks w t) s = (s1, (qe : List Ev).map evq) ∧ (∀ e ∈ qe, e.2.1 = 1) ∧ qe.length ≤ 2 ∧ s1.now = t ∧ s1.gn ≤ t ∧ 0 ≤ s1.seq ∧ s1.seq ≤ 2 * t + 4 ∧ ∃ a b, s1.jobs = [a, b] ∧
   ((t < w ∧ a.live = false ∧ s1.f 0 = none ∧ ((t = 0 ∧ RunJ b y 0 0) ∨ (0 < t ∧ RunJ b y (y - t) t))) ∨
    (t = w ∧ RunJ a x 0 0 ∧ ((w = 0 ∧ RunJ b y 0 0) ∨ (0 < w ∧ RunJ b y (y - w) w))) ∨
    (w < t ∧ t < w + x ∧ RunJ a x (x - (t - w)) (t - w) ∧ ((w = 0 ∧ RunJ b y 0 0) ∨ (0 < w ∧ RunJ b y (y - w) w))) ∨
    (w + x ≤ t ∧ a.live = false ∧ RunJ b y (y - (t - x)) (t - x))) := by
 obtain ⟨a, b, hj, P⟩ := P
 obtain ⟨pl, hn, hg, hq0, hq1⟩ := B
 have la : ∀ (s : CoreS) (z : JobV) (r : List JobV), s.jobs = z :: r → z.live = false → liveAt s ((0 : Nat) : Int) = false := fun s z r e hz => by simp [liveAt, e, hz]
 have lb : ∀ (s : CoreS) (z z2 : JobV), s.jobs = [z, z2] → z2.live = false → liveAt s ((1 : Nat) : Int) = false := fun s z z2 e hz => by simp [liveAt, e, hz]
 rcases P with ⟨rfl, ha, hb, f0, f1⟩ | ⟨t0, t1, ha, f0, rb⟩ | ⟨t0, t1, ra, rb⟩ | ⟨t0, t1, ha, rb⟩ | ⟨t0, _⟩
 ·obtain ⟨z, rz, pz, ez⟩ := ask_one (l := [va, vb]) (s := s) (i := 1) (by simp) f1 (lb s a b hj hb) (by omega) (by omega) (by omega)
  rw [hj] at ez
  have ez : askI (runTs [va, vb]) s 1 = (⟨[a, z], updI s.f 1 s.now, s.now, s.now, s.seq + 1⟩, evt s.now 1 1 0) := ez
  have rz : RunJ z y 0 0 := by rw [hy]; exact rz
  by_cases hw0 : w = 0
  ·subst hw0
   obtain ⟨z2, rz2, pz2, ez2⟩ := ask_one (l := [va, vb]) (s := ⟨[a, z], updI s.f 1 s.now, s.now, s.now, s.seq + 1⟩) (i := 0) (by simp) (by simpa [updI] using f0) (la _ a [z] rfl ha) (by simp) (by simp; omega) (by simp; omega)
   have ez2 : askI (runTs [va, vb]) ⟨[a, z], updI s.f 1 s.now, s.now, s.now, s.seq + 1⟩ 0 = (⟨[z2, z], updI (updI s.f 1 s.now) 0 s.now, s.now, s.now, s.seq + 1 + 1⟩, evt s.now 1 0 0) := ez2
   have rz2 : RunJ z2 x 0 0 := by rw [hx]; exact rz2
   refine ⟨⟨[z2, z], updI (updI s.f 1 s.now) 0 s.now, s.now, s.now, s.seq + 1 + 1⟩, [(s.now, 1, 1, 0), (s.now, 1, 0, 0)], ?_, by simp, by simp, hn, by simp; omega, by simp; omega, by simp; omega, z2, z, rfl, .inr (.inl ⟨rfl, rz2, .inl ⟨rfl, rz⟩⟩)⟩
   simp [cutAsks, askL, ez, ez2, evq]
  ·refine ⟨⟨[a, z], updI s.f 1 s.now, s.now, s.now, s.seq + 1⟩, [(s.now, 1, 1, 0)], ?_, by simp, by simp, hn, by simp; omega, by simp; omega, by simp; omega, a, z, rfl, .inl ⟨by omega, ha, by simpa [updI] using f0, .inl ⟨rfl, rz⟩⟩⟩
   have : ¬ (0 : Int) = w := fun e => hw0 e.symm
   simp [cutAsks, askL, ez, evq, this]
 ·have h00 : ¬ t = 0 := by omega
  by_cases htw : t = w
  ·obtain ⟨z2, rz2, pz2, ez2⟩ := ask_one (l := [va, vb]) (s := s) (i := 0) (by simp) f0 (la _ a [b] hj ha) (by omega) (by omega) (by omega)
   rw [hj] at ez2
   have ez2 : askI (runTs [va, vb]) s 0 = (⟨[z2, b], updI s.f 0 s.now, s.now, s.now, s.seq + 1⟩, evt s.now 1 0 0) := ez2
   have rz2 : RunJ z2 x 0 0 := by rw [hx]; exact rz2
   refine ⟨⟨[z2, b], updI s.f 0 s.now, s.now, s.now, s.seq + 1⟩, [(s.now, 1, 0, 0)], ?_, by simp, by simp, hn, by simp; omega, by simp; omega, by simp; omega, z2, b, rfl, .inr (.inl ⟨htw, rz2, .inr ⟨by omega, by rw [← htw]; exact rb⟩⟩)⟩
   have : cutAsks w t = [0] := by
    simp [cutAsks, h00, htw]
    omega
   rw [this]
   simp [askL, ez2, evq]
  ·refine ⟨s, [], by simp [cutAsks, h00, htw, askL], by simp, by simp, hn, hg, hq0, by omega, a, b, hj, .inl ⟨by omega, ha, f0, .inr ⟨t0, rb⟩⟩⟩
 ·have h00 : ¬ t = 0 := by omega
  have htw : ¬ t = w := by omega
  exact ⟨s, [], by simp [cutAsks, h00, htw, askL], by simp, by simp, hn, hg, hq0, by omega, a, b, hj, .inr (.inr (.inl ⟨t0, t1, ra, rb⟩))⟩
 ·have h00 : ¬ t = 0 := by omega
  have htw : ¬ t = w := by omega
  exact ⟨s, [], by simp [cutAsks, h00, htw, askL], by simp, by simp, hn, hg, hq0, by omega, a, b, hj, .inr (.inr (.inr ⟨t0, ha, rb⟩))⟩
 ·omega
theorem cut_step {va vb : Int} {x y w : Int} (hx : x = sumC va) (hy : y = sumC vb) {s : CoreS} {t : Int} (B : CutB s t) (P : CutP x y w s t) (hT : TasksOk (runTs [va, vb])) (h0 : 0 ≤ t) (hw : 0 ≤ w) (hwy : w < y) (hx1 : 1 ≤ x) (hx20 : x ≤ 20) (hy1 : 1 ≤ y) (hy20 : y ≤ 20) (htt : t < x + y) :
  ∃ n s' E2, ∃ EQ : List Ev, loopF n (askL (runTs [va, vb]) (cutAsks w t) s).1 = some (s', E2) ∧ E2.length ≤ 1000 ∧ (askL (runTs [va, vb]) (cutAsks w t) s).2 ++ E2 = EQ.map evq ∧ EQ.length ≤ 100 ∧ (∀ e ∈ EQ, cutOk x y w t e) ∧
   CutB { s' with now := s.now + 1 } (t + 1) ∧ CutP x y w { s' with now := s.now + 1 } (t + 1) := by
 have hn := B.now
 have hp1 : Plain (askL (runTs [va, vb]) (cutAsks w t) s).1 := askL_plain B.plain hT
 obtain ⟨s1, qe, e1, e2, e3, n1, g1, q0, q1, a, b, hj, P1⟩ := cut_asked hx hy B P h0 (by omega) hw hwy hx1 htt
 have seqs : s1.seq ≤ 2 * (t + 1) + 2 := by omega
 rw [e1] at hp1 ⊢
 simp only at hp1 ⊢
 have fin : ∀ {m : Nat} {J : List JobV} {E2 : List (List CV)} {EQ2 : List Ev}, loopF m s1 = some ({ s1 with jobs := J }, E2) → E2 = EQ2.map evq → EQ2.length ≤ 2 → (∀ e ∈ EQ2, cutOk x y w t e) → CutP x y w { s1 with jobs := J, now := s.now + 1 } (t + 1) →
   ∃ n s' E2, ∃ EQ : List Ev, loopF n s1 = some (s', E2) ∧ E2.length ≤ 1000 ∧ qe.map evq ++ E2 = EQ.map evq ∧ EQ.length ≤ 100 ∧ (∀ e ∈ EQ, cutOk x y w t e) ∧ CutB { s' with now := s.now + 1 } (t + 1) ∧ CutP x y w { s' with now := s.now + 1 } (t + 1) := by
  intro m J E2 EQ2 hl he hlen hok hcp
  refine ⟨m, _, E2, qe ++ EQ2, hl, by rw [he]; simp; omega, by rw [he, List.map_append], by simp; omega, fun e hin => ?_, ⟨?_, by show s.now + 1 = _; omega, by show s1.gn ≤ _; omega, q0, seqs⟩, hcp⟩
  ·rcases List.mem_append.1 hin with h | h
   ·have := e2 e h
    exact ⟨fun h3 => by omega, fun h6 => by omega⟩
   ·exact hok e h
  ·have := loopF_plain hp1 hl
   exact this
 have ev3 : ∀ i : Int, (i = 0 ↔ (w ≤ t ∧ t < w + x)) → cutOk x y w t (s1.now, 3, i, 0) := fun i h => ⟨fun _ => h, fun q => by simp at q⟩
 have ev60 : t + 1 = w + x → cutOk x y w t (s1.now + 1, 6, 0, 0) := fun h => ⟨fun q => by simp at q, fun _ => ⟨fun _ => by show s1.now + 1 = _; omega, fun q => by simp at q⟩⟩
 have ev61 : t + 1 = x + y → cutOk x y w t (s1.now + 1, 6, 1, 0) := fun h => ⟨fun q => by simp at q, fun _ => ⟨fun q => by simp at q, fun _ => by show s1.now + 1 = _; omega⟩⟩
 have one : ∀ {e : Ev}, cutOk x y w t e → ∀ e' ∈ [e], cutOk x y w t e' := fun h e' he => by simp at he; rw [he]; exact h
 have two : ∀ {e f : Ev}, cutOk x y w t e → cutOk x y w t f → ∀ e' ∈ [e, f], cutOk x y w t e' := fun h1 h2 e' he => by
  simp at he
  rcases he with rfl | rfl
  ·exact h1
  ·exact h2
 have runA : ∀ (m : Nat) (a : JobV), loopF m s1 = loopF 4 { s1 with jobs := [a, b] } → RunJ a x (x - (t - w)) (t - w) → w ≤ t → t < w + x → ((w = 0 ∧ RunJ b y 0 0) ∨ (0 < w ∧ RunJ b y (y - w) w)) →
   ∃ n s' E2, ∃ EQ : List Ev, loopF n s1 = some (s', E2) ∧ E2.length ≤ 1000 ∧ qe.map evq ++ E2 = EQ.map evq ∧ EQ.length ≤ 100 ∧ (∀ e ∈ EQ, cutOk x y w t e) ∧ CutB { s' with now := s.now + 1 } (t + 1) ∧ CutP x y w { s' with now := s.now + 1 } (t + 1) := by
  intro m a hm ra hwt htx hb
  obtain ⟨d2, u2, rb, hd2, hdu⟩ : ∃ d2 u2, RunJ b y d2 u2 ∧ ((d2 = 0 ∧ u2 = 0 ∧ 1 ≤ y) ∨ 1 ≤ d2) ∧ ((w = 0 ∧ d2 = 0 ∧ u2 = 0) ∨ (0 < w ∧ d2 = y - w ∧ u2 = w)) := by
   rcases hb with ⟨h, r⟩ | ⟨h, r⟩
   ·exact ⟨0, 0, r, .inl ⟨rfl, rfl, hy1⟩, .inl ⟨h, rfl, rfl⟩⟩
   ·exact ⟨y - w, w, r, .inr (by omega), .inr ⟨h, rfl, rfl⟩⟩
  rcases a_runs (s := { s1 with jobs := [a, b] }) rfl ra (by omega) (by omega) (by omega) (by omega) rb hd2 0 with ⟨h, a', l1, r1⟩ | ⟨h, b', l1, r1⟩
  ·refine fin (m := m) (J := [a', b]) (EQ2 := [(s1.now, 3, 0, 0)]) (hm.trans l1) rfl (by simp) (one (ev3 0 (by simp; omega))) ⟨a', b, rfl, .inr (.inr (.inl ⟨by omega, by omega, ?_, hb⟩))⟩
   rw [show x - (t + 1 - w) = x - (t - w) - 1 by omega, show t + 1 - w = t - w + 1 by omega]
   exact r1
  ·refine fin (m := m) (J := [deadJ, b']) (EQ2 := [(s1.now, 3, 0, 0), (s1.now + 1, 6, 0, 0)]) (hm.trans l1) rfl (by simp) (two (ev3 0 (by simp; omega)) (ev60 (by omega))) ⟨deadJ, b', rfl, .inr (.inr (.inr (.inl ⟨by omega, by omega, rfl, ?_⟩)))⟩
   rcases hdu with ⟨h1, h2, h3⟩ | ⟨h1, h2, h3⟩
   ·rw [if_pos h2] at r1
    rw [show y - (t + 1 - x) = y by omega, show t + 1 - x = u2 by omega]
    exact r1
   ·rw [if_neg (by omega)] at r1
    rw [show y - (t + 1 - x) = d2 by omega, show t + 1 - x = u2 by omega]
    exact r1
 have runB : ∀ (m : Nat) (b : JobV) (d u : Int), loopF m s1 = loopF 4 { s1 with jobs := [a, b] } → a.live = false → RunJ b y d u → 1 ≤ d → d ≤ 20 → 0 ≤ u → u ≤ 20 → ¬ (w ≤ t ∧ t < w + x) → (d = 1 → t + 1 = x + y) →
   (∀ b', 2 ≤ d → RunJ b' y (d - 1) (u + 1) → CutP x y w { s1 with jobs := [a, b'], now := s.now + 1 } (t + 1)) →
   ∃ n s' E2, ∃ EQ : List Ev, loopF n s1 = some (s', E2) ∧ E2.length ≤ 1000 ∧ qe.map evq ++ E2 = EQ.map evq ∧ EQ.length ≤ 100 ∧ (∀ e ∈ EQ, cutOk x y w t e) ∧ CutB { s' with now := s.now + 1 } (t + 1) ∧ CutP x y w { s' with now := s.now + 1 } (t + 1) := by
  intro m b d u hm ha rb h1 h2 h3 h4 hno hd1 hnx
  rcases b_runs (s := { s1 with jobs := [a, b] }) rfl ha rb h1 h2 h3 h4 0 with ⟨h, b', l1, r1⟩ | ⟨h, l1⟩
  ·exact fin (m := m) (J := [a, b']) (EQ2 := [(s1.now, 3, 1, 0)]) (hm.trans l1) rfl (by simp) (one (ev3 1 (by simp; omega))) (hnx b' h r1)
  ·exact fin (m := m) (J := [a, deadJ]) (EQ2 := [(s1.now, 3, 1, 0), (s1.now + 1, 6, 1, 0)]) (hm.trans l1) rfl (by simp) (two (ev3 1 (by simp; omega)) (ev61 (hd1 h))) ⟨a, deadJ, rfl, .inr (.inr (.inr (.inr ⟨hd1 h, ha, rfl⟩)))⟩
 have here : s1 = { s1 with jobs := [a, b] } := by rw [← hj]
 rcases P1 with ⟨h1, ha, f0, hb⟩ | ⟨h1, ra, hb⟩ | ⟨h1, h2, ra, hb⟩ | ⟨h1, ha, rb⟩
 ·have nxt : ∀ b', RunJ b' y (y - t - 1) (t + 1) → CutP x y w { s1 with jobs := [a, b'], now := s.now + 1 } (t + 1) := fun b' r => ⟨a, b', rfl, .inr (.inl ⟨by omega, by omega, ha, f0, by rw [show y - (t + 1) = y - t - 1 by omega]; exact r⟩)⟩
  rcases hb with ⟨rfl, rb⟩ | ⟨h0', rb⟩
  ·have ht : topF s1.jobs = some 1 := by rw [hj, top2, if_neg (by rw [ha]; simp), if_pos rb.live]
   have hxb : s1.jobs[1]? = some b := by rw [hj]; rfl
   have q := (sim_begin ht hxb rb 4).1
   have hd : s1.jobs.set 1 { b with left := y } = [a, { b with left := y }] := by rw [hj]; rfl
   rw [hd] at q
   exact runB 5 { b with left := y } y 0 q ha rb.begun hy1 hy20 (by omega) (by omega) (by omega) (by omega) fun b' _ r => nxt b' (by simpa using r)
  ·exact runB 4 b (y - t) t (by rw [← here]) ha rb (by omega) (by omega) (by omega) (by omega) (by omega) (by omega) fun b' _ r => nxt b' r
 ·have ht : topF s1.jobs = some 0 := by rw [hj, top2, if_pos ra.live]
  have hxa : s1.jobs[0]? = some a := by rw [hj]; rfl
  have q := (sim_begin ht hxa ra 4).1
  have hd : s1.jobs.set 0 { a with left := x } = [{ a with left := x }, b] := by rw [hj]; rfl
  rw [hd] at q
  refine runA 5 { a with left := x } q ?_ (by omega) (by omega) hb
  rw [show t - w = 0 by omega, show x - 0 = x by omega]
  exact ra.begun
 ·exact runA 4 a (by rw [← here]) ra (by omega) (by omega) hb
 ·refine runB 4 b (y - (t - x)) (t - x) (by rw [← here]) ha rb (by omega) (by omega) (by omega) (by omega) (by omega) (by omega) fun b' h r => ⟨a, b', rfl, .inr (.inr (.inr (.inl ⟨by omega, by omega, ha, ?_⟩)))⟩
  rw [show y - (t + 1 - x) = y - (t - x) - 1 by omega, show t + 1 - x = t - x + 1 by omega]
  exact r
variable {p : PP}
structure EngH (K : CoreB) (eb : Nat) (l : List TaskV) (s : CoreS) (h : Heap) (h' : Heap) : Prop where
 k : Keep NoneOf h h'
 core : ∃ Q cells, CoreA K cells l s Q h'
 eg : h'[eb]? = some (.arr [.ptr K.b 0] .tight)
 eo : ¬ K.own eb
 own : ∀ y, K.own y → h.length ≤ y
def CuI (K : CoreB) (eb : Nat) (l : List TaskV) (x y w : Int) (h : Heap) (m : Nat) (e : Env) (h' : Heap) : Prop :=
 ∃ (t : Nat) (s : CoreS), (t : Int) ≤ x + y ∧ m = (x + y).toNat - t ∧ e = [(7, .ptr eb 0), (9, .int .i64 x), (10, .int .i64 y), (11, .int .i64 w), (12, .int .i64 t)] ∧ EngH K eb l s h h' ∧ CutB s t ∧ CutP x y w s t
def CuM (eb : Nat) (x y w t : Int) (l : List Int) (h : Heap) (e : Env) (h' : Heap) : Prop :=
 ∃ av r, e = (7, .ptr eb 0) :: (9, .int .i64 x) :: (10, .int .i64 y) :: (11, .int .i64 w) :: (12, .int .i64 t) :: (13, av) :: r ∧ Keep NoneOf h h' ∧ OwnL (.int .i64) h' NoneOf av l ∧ ∀ b, av.blk = some b → h.length ≤ b
def CuC (eb : Nat) (x y w : Int) (EQ : List Ev) (t : Nat) (v : CV) (h : Heap) (m : Nat) (e : Env) (h' : Heap) : Prop :=
 ∃ i : Nat, i ≤ EQ.length ∧ m = EQ.length - i ∧ e = [(7, .ptr eb 0), (9, .int .i64 x), (10, .int .i64 y), (11, .int .i64 w), (12, .int .i64 t), (14, v), (16, .int .i64 i)] ∧ h' = h
theorem core443 (lp : LP p) {eb b : Nat} {h : Heap} (g : h[eb]? = some (.arr [.ptr b 0] .tight)) : WF p 443 [.ptr eb 0] h fun r h' => r = .ptr b 0 ∧ h' = h := by
 refine WF_of (by rw [lp.pg]; exact S.pg443) (lp.no ⟨rfl, rfl⟩) ?_
 show W p S.b443 _ _ (retQ [.t 2] _)
 unfold S.b443
 have l0 := ld g
 simp [l0]
theorem OV_one {h h0 : Heap} {av : CV} {l : List Int} {i : Int} {K : CV × Heap → Prop} (ow : OwnL (.int .i64) h NoneOf av l) (hav : ∀ b, av.blk = some b → h0.length ≤ b) (k : Keep NoneOf h0 h) (hl : l.length ≤ big)
  (kk : ∀ v' h', OwnL (.int .i64) h' NoneOf v' (l ++ [i]) → Keep NoneOf h0 h' → (∀ b, v'.blk = some b → h0.length ≤ b) → K (v', h')) : OV (appendTo (h ++ [.arr [.int .i64 i] .tight]) 1 av 1 [.int .i64 i]) K := by
 refine OV_push (e := .int .i64) (x := i) (ow.on (Keep.app NoneOf h [.arr [.int .i64 i] .tight])) (show Cod.rep (.int .i64) _ NoneOf _ _ from rfl) (fun b hb => hb.elim) hl (by decide) fun v' h' o k' hb => ?_
 refine kk v' h' o ((k.trans (Keep.app _ _ _)).then k' fun y hy e => by have := hav y e; omega) fun b hb' => ?_
 rcases hb b hb' with q | q
 ·exact hav b q
 ·have := k.len; simp at q; omega
theorem engineCuts_law (lp : LP p) (hpr : p.pr = addKnown [439] lib) {h : Heap} {va vb wn : Int} (hva : 0 ≤ va ∧ va ≤ 255) (hvb : 0 ≤ vb ∧ vb ≤ 255) (hwn : 0 ≤ wn ∧ wn ≤ 255) :
  WF p 473 [.int .u8 va, .int .u8 vb, .int .u8 wn] h fun r h' => r = .bool true := by
 refine WF_of (by rw [lp.pg]; exact S.pg473) (lp.no' hpr ⟨rfl, rfl⟩) ?_
 show W p S.b473 _ _ (retQ [.t 6] _)
 unfold S.b473
 simp
 refine WF_known hpr rfl ?_
 have f2 : fillC [.int .u8 0, .int .u8 0] [(0, 1, .int .u8 va), (1, 1, .int .u8 vb)] = some [.int .u8 va, .int .u8 vb] := rfl
 simp [f2]
 have kA := Keep.app NoneOf h [.arr [.int .u8 va, .int .u8 vb] .tight]
 have r0 : Read (h ++ [.arr [.int .u8 va, .int .u8 vb] .tight]) 1 (.sl h.length 0 2 2) (ints .u8 [va, vb]) := Mine.read (.inr ⟨h.length, 2, .tight, rfl, rfl, .inl rfl, get_new⟩)
 have hx : ∀ x ∈ [va, vb], 0 ≤ x ∧ x ≤ 255 := fun x hx => by
  simp at hx
  rcases hx with rfl | rfl
  ·exact hva
  ·exact hvb
 refine (run440 lp r0 hx (by simp)).mono ?_
 rintro r hA ⟨tv, rfl, k1, st⟩
 obtain ⟨ok1, ok2, ok3, hT⟩ := run_ok hx (by simp) (by simp)
 refine (new441 lp (x := runSet [va, vb]) st.lt rfl rfl (fun b hb => hb.2) ok2 ok1 ok3).mono ?_
 rintro r h2 ⟨k2, eb, K, cells, Q, rfl, c2, eg, eo, eq, hel, hown⟩
 have hnp : eqv .p (.ptr eb 0) .nilp = some false := rfl
 obtain ⟨sx1, sx2⟩ := sumC_le hva
 obtain ⟨sy1, sy2⟩ := sumC_le hvb
 have wa : IntKind.i64.wrap (va.tmod 20) = va.tmod 20 := w64 (by unfold sumC at *; omega) (by unfold sumC at *; omega)
 have wb : IntKind.i64.wrap (vb.tmod 20) = vb.tmod 20 := w64 (by unfold sumC at *; omega) (by unfold sumC at *; omega)
 have ua : IntKind.u8.wrap (va.tmod 20) = va.tmod 20 := wrap_u8 (by unfold sumC at *; omega) (by unfold sumC at *; omega)
 have ub : IntKind.u8.wrap (vb.tmod 20) = vb.tmod 20 := wrap_u8 (by unfold sumC at *; omega) (by unfold sumC at *; omega)
 have wa1 : IntKind.i64.wrap (1 + va.tmod 20) = sumC va := w64 (by unfold sumC at *; omega) (by unfold sumC at *; omega)
 have wb1 : IntKind.i64.wrap (1 + vb.tmod 20) = sumC vb := w64 (by unfold sumC at *; omega) (by unfold sumC at *; omega)
 have ww : IntKind.i64.wrap wn = wn := w64 (by omega) (by omega)
 obtain ⟨x, hxd⟩ : ∃ x, x = sumC va := ⟨_, rfl⟩
 obtain ⟨y, hyd⟩ : ∃ y, y = sumC vb := ⟨_, rfl⟩
 rw [← hxd] at sx1 sx2 wa1
 rw [← hyd] at sy1 sy2 wb1
 have hy0 : ¬ y = 0 := by omega
 obtain ⟨w, hwd⟩ : ∃ w, w = wn.tmod y := ⟨_, rfl⟩
 have hw0 : 0 ≤ w := by rw [hwd]; exact Int.tmod_nonneg _ hwn.1
 have hwy : w < y := by rw [hwd]; exact Int.tmod_lt_of_pos _ (by omega)
 simp [hnp, wa, wb, ua, ub, wa1, wb1, ww, hy0, hwd.symm]
 have c2 : CoreA K cells (runTs [va, vb]) ⟨[deadJ, deadJ], fun _ => none, 0, 0, 0⟩ Q h2 := c2
 refine W_loop (CuI K eb (runTs [va, vb]) x y w h) ?_ (x + y).toNat ⟨0, ⟨[deadJ, deadJ], fun _ => none, 0, 0, 0⟩, by omega, by omega, rfl, ⟨(kA.trans k1).trans k2, ⟨Q, cells, c2⟩, eg, eo, fun y hy => by have := hown y hy; have := kA.len; have := k1.len; omega⟩, ⟨fun z hz => by simp at hz; rw [hz]; exact PlainJ.dead, rfl, by simp, by simp, by simp⟩, deadJ, deadJ, rfl, .inl ⟨rfl, rfl, rfl, rfl, rfl⟩⟩
 rintro m e h4 ⟨t, s, ht, rfl, rfl, EH, B, P⟩
 have wxy : IntKind.i64.wrap (x + y) = x + y := w64 (by omega) (by omega)
 obtain ⟨Q4, cells4, c4⟩ := EH.core
 by_cases htt : (t : Int) < x + y
 case neg =>
  obtain ⟨a, b, hj, P⟩ := P
  have hta : (t : Int) = x + y ∧ a.live = false ∧ b.live = false := by
   rcases P with ⟨h0, _⟩ | ⟨h0, h1, _⟩ | ⟨h0, h1, _⟩ | ⟨h0, h1, _⟩ | h
   ·omega
   ·omega
   ·omega
   ·omega
   ·exact h
  obtain ⟨_, hal, hbl⟩ := hta
  have hj0 : s.jobs[0]? = some a := by rw [hj]; rfl
  have hj1 : s.jobs[1]? = some b := by rw [hj]; rfl
  have pa := B.plain a (by rw [hj]; simp)
  have pb := B.plain b (by rw [hj]; simp)
  have ep : eqv .p (.ptr K.b 0) .nilp = some false := rfl
  simp [wxy, htt]
  refine (core443 lp EH.eg).mono ?_
  rintro r h5 ⟨rfl, rfl⟩
  simp [ep]
  refine (core443 lp EH.eg).mono ?_
  rintro r h6 ⟨rfl, rfl⟩
  try simp
  refine (job312 lp c4 (i := 0) (by simp) hj0 pa.2.2 (by rw [pa.1]; simp)).mono ?_
  rintro r h7 ⟨d, rfl, dl, d0, d3, k7⟩
  have dp : partOf d 0 none = some (.bool a.live) := d0
  simp [dp, hal]
  refine (core443 lp (k7.at EH.eg id)).mono ?_
  rintro r h8 ⟨rfl, rfl⟩
  try simp
  refine (job312 lp (c4.on k7) (i := 1) (by simp) hj1 pb.2.2 (by rw [pb.1]; simp)).mono ?_
  rintro r h9 ⟨d, rfl, dl, d0, d3, k9⟩
  have dp : partOf d 0 none = some (.bool b.live) := d0
  simp [dp, hbl]
 simp [wxy, htt]
 refine W_to (CuM eb x y w t (if (t : Int) = 0 then [1] else []) h4) ?_ ?_
 ·by_cases h0 : (t : Int) = 0
  ·have h0' : t = 0 := by omega
   have f1 : fillC [.int .i64 0] [(0, 1, .int .i64 1)] = some [.int .i64 1] := rfl
   simp [h0, h0', f1, spread, cellsAt]
   refine OV_one (l := []) OwnL.nil (by simp [CV.blk]) (Keep.refl _ _) (by simp) fun v' h' o k' hb => ?_
   simp
   exact ⟨v', _, rfl, k', o, hb⟩
  ·have h0' : ¬ t = 0 := by omega
   simp [h0, h0']
   exact ⟨.nils, _, rfl, Keep.refl _ _, OwnL.nil, by simp [CV.blk]⟩
 ·rintro e h5 ⟨av, r, rfl, k5, ow5, hav5⟩
  simp
  refine W_to (CuM eb x y w t (cutAsks w t) h4) ?_ ?_
  ·by_cases hw : (t : Int) = w
   ·subst hw
    have f1 : fillC [.int .i64 0] [(0, 1, .int .i64 0)] = some [.int .i64 0] := rfl
    simp [f1, spread, cellsAt]
    refine OV_one ow5 hav5 k5 (by split <;> simp [big]) fun v' h' o k' hb => ?_
    simp
    refine ⟨v', _, rfl, k', ?_, hb⟩
    have : cutAsks t t = (if (t : Int) = 0 then [1] else []) ++ [0] := by rw [cutAsks, if_pos rfl]
    rw [this]
    exact o
   ·simp [hw]
    refine ⟨av, _, rfl, k5, ?_, hav5⟩
    have : cutAsks w t = (if (t : Int) = 0 then [1] else []) := by rw [cutAsks, if_neg hw, List.append_nil]
    rw [this]
    exact ow5
  ·rintro e h6 ⟨av6, r6, rfl, k6, ow6, hav6⟩
   have hlc : (cutAsks w t).length ≤ 2 := by unfold cutAsks; split <;> split <;> simp
   obtain ⟨n, s', E2, EQ, hF, hE2, hEQ, hEQl, hok, B', P'⟩ := cut_step hxd hyd B P hT (by omega) hw0 hwy sx1 sx2 sy1 sy2 htt
   simp
   have eg6 := k6.at EH.eg id
   refine (tick442 lp (c4.on k6) eg6 EH.eo B.plain hT (by simp) (ow6.sl.mono fun b hb => hb.elim False.elim fun e => hav6 b e) (fun y hy o => by have := c4.own_lt y o; omega) (by omega) (by have := B.now; omega) (by have := B.q0; have := B.q1; omega) hF hE2).mono ?_
   rintro r h7 ⟨v, rfl, ⟨k7, Q7, cells7, c7, q7⟩, ev7⟩
   rw [hEQ] at ev7
   have K7 : Keep NoneOf h h7 := (EH.k.trans k6).then k7 fun y hy o => by have := EH.own y o; omega
   have n7 := ev7.len (by decide)
   rw [List.length_map] at n7
   have hw1 : IntKind.i64.wrap ((t : Int) + 1) = ((t + 1 : Nat) : Int) := by rw [w64 (by omega) (by omega)]; omega
   have hwx : IntKind.i64.wrap (w + x) = w + x := w64 (by omega) (by omega)
   simp
   refine W_loop (CuC eb x y w EQ t v h7) ?_ EQ.length ⟨0, by omega, by omega, rfl, rfl⟩
   rintro m e h8 ⟨i, hi, rfl, rfl, rfl⟩
   by_cases hie : i = EQ.length
   ·subst hie
    simp [n7, hw1]
    exact ⟨(x + y).toNat - (t + 1), by omega, t + 1, { s' with now := s.now + 1 }, by omega, rfl, rfl, ⟨K7, ⟨Q7, cells7, c7⟩, k7.at eg6 EH.eo, EH.eo, EH.own⟩, by simpa using B', by simpa using P'⟩
   ·have hlt : i < EQ.length := by omega
    have hlt' : (i : Int) < EQ.length := by omega
    have hw2 : IntKind.i64.wrap ((i : Int) + 1) = ((i + 1 : Nat) : Int) := by rw [w64 (by omega) (by omega)]; omega
    obtain ⟨b0, o0, row, x1, x2, x3, x4⟩ := ev7.row (k := .i64) (by decide) (i := i) (by simpa using hlt)
    have x1 : idxAddrV 7 v (.int .i64 (i : Int)) = some (.ptr b0 o0) := x1
    obtain ⟨x4, _, _⟩ := x4
    simp only [List.getElem_map] at x4
    obtain ⟨o3, o6⟩ := hok EQ[i] (List.getElem_mem hlt)
    generalize EQ[i] = ev at x4 o3 o6
    obtain ⟨T, kd, tk, er⟩ := ev
    have y0 : loadAt h8 b0 o0 none = some (.int .i64 T) := by have := x3 0 (by decide); rw [Nat.add_zero, x4] at this; exact this
    have y1 : loadAt h8 b0 (o0 + 1) none = some (.int .i64 kd) := by have := x3 1 (by decide); rw [x4] at this; exact this
    have y2 : loadAt h8 b0 (o0 + 2) none = some (.int .i64 tk) := by have := x3 2 (by decide); rw [x4] at this; exact this
    simp only at o3 o6
    have nxt : ∃ m', m' < EQ.length - i ∧ CuC eb x y w EQ t v h8 m' [(7, .ptr eb 0), (9, .int .i64 x), (10, .int .i64 y), (11, .int .i64 w), (12, .int .i64 t), (14, v), (16, .int .i64 ((i + 1 : Nat) : Int))] h8 := ⟨EQ.length - (i + 1), by omega, i + 1, by omega, rfl, rfl, rfl⟩
    by_cases q3 : kd = 3
    ·subst q3
     have o3 := o3 rfl
     by_cases hk : tk = 0
     ·obtain ⟨g1, g2⟩ := o3.1 hk
      simp [n7, hlt, hlt', x1, y1, y2, hk, g1, g2, hwx, hw2]
      exact nxt
     ·have hno : ¬ (w ≤ (t : Int) ∧ (t : Int) < w + x) := fun g => hk (o3.2 g)
      by_cases g1 : w ≤ (t : Int)
      ·have g2 : ¬ (t : Int) < w + x := fun g => hno ⟨g1, g⟩
       have g2' : w + x ≤ t := by omega
       simp [n7, hlt, hlt', x1, y1, y2, hk, g1, g2, g2', hwx, hw2]
       exact nxt
      ·have g1' : (t : Int) < w := by omega
       simp [n7, hlt, hlt', x1, y1, y2, hk, g1, g1', hwx, hw2]
       exact nxt
    ·by_cases q6 : kd = 6
     ·subst q6
      obtain ⟨o60, o61⟩ := o6 rfl
      by_cases hk0 : tk = 0
      ·have hT := o60 hk0
       simp [n7, hlt, hlt', x1, y0, y1, y2, hk0, hT, hwx, wxy, hw2]
       exact nxt
      ·by_cases hk1 : tk = 1
       ·have hT := o61 hk1
        simp [n7, hlt, hlt', x1, y0, y1, y2, hk1, hT, hwx, wxy, hw2]
        exact nxt
       ·simp [n7, hlt, hlt', x1, y0, y1, y2, hk0, hk1, hwx, wxy, hw2]
        exact nxt
     ·simp [n7, hlt, hlt', x1, y0, y1, y2, q3, q6, hw2]
      exact nxt
end Go.Cl
