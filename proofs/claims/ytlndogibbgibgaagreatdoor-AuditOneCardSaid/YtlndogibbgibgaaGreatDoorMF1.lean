/-
  Texts laid together: ClRan.
-/
import Derived.Test.YtlndogibbgibgaaGreatDoorMF
import Derived.Test.YtlndogibbgibgaaGreatDoorM3
namespace Go.Cl
open Go
set_option linter.unusedSimpArgs false
set_option linter.unusedVariables false
abbrev MapE := CV × CV × Nat
def upI : CV → CV
 | .int .i64 x => .int .i64 (IntKind.i64.wrap (x + 1))
 | c => c
def isI : Option CV → Bool
 | some (.int .i64 _) => true
 | _ => false
def prAt (pcs : List CV) (po : Nat) (k : Int) : Int := match pcs[po + k.toNat]? with
 | some (.int .i64 v) => v
 | _ => 0
def tgt (pcs : List CV) (po oo : Nat) (task : Int) (x : MapE) : Option Nat := match x.1, x.2.1 with
 | .int .i64 k, .int .i64 i => if k = task then some (oo + i.toNat * 7 + 5) else if prAt pcs po task < prAt pcs po k then some (oo + i.toNat * 7 + 6) else none
 | _, _ => none
def turned (T : MapE → Option Nat) (es : List MapE) (seen : List Nat) (cells : List CV) : List CV := cells.mapIdx fun j c => if es.any (fun x => seen.contains x.2.2 && decide (T x = some j)) = true then upI c else c
def turnAll (T : MapE → Option Nat) (es : List MapE) (cells : List CV) : List CV := cells.mapIdx fun j c => if es.any (fun x => decide (T x = some j)) = true then upI c else c
def entOk (pcs : List CV) (po pn n : Nat) (cells : List CV) (T : MapE → Option Nat) (x : MapE) : Bool := match x.1, x.2.1 with
 | .int .i64 k, .int .i64 i => decide (0 ≤ k) && decide (k < pn) && decide (0 ≤ i) && decide (i < n) && isI pcs[po + k.toNat]? && (match T x with | none => true | some j => isI cells[j]?)
 | _, _ => false
def ixE (x : MapE) : Nat := match x.2.1 with
 | .int .i64 i => i.toNat
 | _ => 0
theorem tgt_ix {pcs : List CV} {po oo : Nat} {task : Int} {x : MapE} {j : Nat} (h : tgt pcs po oo task x = some j) : ixE x = (j - oo) / 7 := by
 unfold tgt at h
 split at h
 ·rename_i k i e1 e2
  unfold ixE
  rw [e2]
  simp only
  split at h
  ·cases h; omega
  ·split at h
   ·cases h; omega
   ·cases h
 ·cases h
def ranOk (ob pb : Nat) (pcs : List CV) (po pn n : Nat) (cells : List CV) (st : St) (T : MapE → Option Nat) (es : List MapE) (ck : Nat) (task : Int) : Bool :=
 !Nat.beq ob pb && decide (st ≠ .ro) && es.all (entOk pcs po pn n cells T) && es.all (fun x => decide (x.2.2 < ck)) && decide ((es.map (·.2.2)).Nodup) && decide ((es.map ixE).Nodup) && decide (0 ≤ task) && decide (task < pn) && isI pcs[po + task.toNat]?
def ranP (vs : List CV) (h : Heap) : Option (CV × Heap) := match vs with
 | [.sl ob oo n c, .mp bm, .sl pb po pn pc, .int .i64 task] => match h[ob]?, h[bm]?, h[pb]? with
   | some (.arr cells st), some (.map es ck), some (.arr pcs pst) =>
     if ranOk ob pb pcs po pn n cells st (tgt pcs po oo task) es ck task = true then some (.tup [], (h ++ [Obj.dead]).set ob (.arr (turnAll (tgt pcs po oo task) es cells) st)) else none
   | _, _, _ => none
 | _ => none
theorem isI_some {o : Option CV} (h : isI o = true) : ∃ v, o = some (.int .i64 v) := by
 unfold isI at h
 split at h
 ·exact ⟨_, rfl⟩
 ·cases h
@[simp] theorem turned_length {T : MapE → Option Nat} {es : List MapE} {seen : List Nat} {cells : List CV} : (turned T es seen cells).length = cells.length := by simp [turned]
theorem turned_get {T : MapE → Option Nat} {es : List MapE} {seen : List Nat} {cells : List CV} {j : Nat} : (turned T es seen cells)[j]? = cells[j]?.map fun c => if es.any (fun x => seen.contains x.2.2 && decide (T x = some j)) = true then upI c else c := by simp [turned]
theorem turned_nil {T : MapE → Option Nat} {es : List MapE} {cells : List CV} : turned T es [] cells = cells := by
 apply List.ext_getElem? fun j => ?_
 rw [turned_get]
 simp
theorem turned_all {T : MapE → Option Nat} {es : List MapE} {seen : List Nat} {cells : List CV} (h : ∀ x ∈ es, x.2.2 ∈ seen) : turned T es seen cells = turnAll T es cells := by
 unfold turned turnAll
 congr 1
 funext j c
 have : es.any (fun x => seen.contains x.2.2 && decide (T x = some j)) = es.any (fun x => decide (T x = some j)) := by
  rw [Bool.eq_iff_iff, List.any_eq_true, List.any_eq_true]
  constructor
  ·rintro ⟨x, hx, q⟩
   exact ⟨x, hx, by simp only [Bool.and_eq_true] at q; exact q.2⟩
  ·rintro ⟨x, hx, q⟩
   exact ⟨x, hx, by simp only [Bool.and_eq_true]; exact ⟨by simpa using h x hx, q⟩⟩
 rw [this]
theorem inj_of_map {α β : Type} {f : α → β} : ∀ {es : List α}, (es.map f).Nodup → ∀ {x y : α}, x ∈ es → y ∈ es → f x = f y → x = y
 | [], _, x, y, hx, _, _ => by cases hx
 | a :: l, hn, x, y, hx, hy, e => by
   rw [List.map_cons, List.nodup_cons] at hn
   rcases List.mem_cons.1 hx with rfl | hx'
   ·rcases List.mem_cons.1 hy with rfl | hy'
    ·rfl
    ·exact absurd (e ▸ List.mem_map_of_mem hy') hn.1
   ·rcases List.mem_cons.1 hy with rfl | hy'
    ·exact absurd (e ▸ List.mem_map_of_mem hx') hn.1
    ·exact inj_of_map hn.2 hx' hy' e
theorem turned_more {T : MapE → Option Nat} {es : List MapE} {seen : List Nat} {cells : List CV} {x : MapE} (hx : x ∈ es) (hb : (es.map (·.2.2)).Nodup) (hT : ∀ y ∈ es, ∀ j, T x = some j → T y = some j → x = y) (hn : x.2.2 ∉ seen) :
  (T x = none → turned T es (seen ++ [x.2.2]) cells = turned T es seen cells) ∧
  ∀ j c, T x = some j → cells[j]? = some c → (turned T es seen cells)[j]? = some c ∧ turned T es (seen ++ [x.2.2]) cells = (turned T es seen cells).set j (upI c) := by
 have key : ∀ j, T x ≠ some j → es.any (fun y => (seen ++ [x.2.2]).contains y.2.2 && decide (T y = some j)) = es.any (fun y => seen.contains y.2.2 && decide (T y = some j)) := fun j hj => by
  rw [Bool.eq_iff_iff, List.any_eq_true, List.any_eq_true]
  constructor
  ·rintro ⟨y, hy, h⟩
   simp only [Bool.and_eq_true, decide_eq_true_eq] at h
   refine ⟨y, hy, ?_⟩
   simp only [Bool.and_eq_true, decide_eq_true_eq]
   refine ⟨?_, h.2⟩
   have h1 := h.1
   simp only [List.contains_eq_mem, List.mem_append, List.mem_singleton, decide_eq_true_eq] at h1 ⊢
   rcases h1 with h1 | h1
   ·exact h1
   ·obtain rfl := inj_of_map hb hy hx h1
    exact absurd h.2 hj
  ·rintro ⟨y, hy, h⟩
   simp only [Bool.and_eq_true, decide_eq_true_eq] at h
   refine ⟨y, hy, ?_⟩
   simp only [Bool.and_eq_true, decide_eq_true_eq]
   refine ⟨?_, h.2⟩
   have h1 := h.1
   simp only [List.contains_eq_mem, List.mem_append, List.mem_singleton, decide_eq_true_eq] at h1 ⊢
   exact .inl h1
 constructor
 ·intro h0
  apply List.ext_getElem? fun j => ?_
  rw [turned_get, turned_get, key j (by rw [h0]; simp)]
 ·intro j c hj hc
  have hno : es.any (fun y => seen.contains y.2.2 && decide (T y = some j)) = false := by
   rw [List.any_eq_false]
   intro y hy h
   simp only [Bool.and_eq_true, decide_eq_true_eq, List.contains_eq_mem] at h
   obtain rfl := hT y hy j hj h.2
   exact hn h.1
  have hyes : es.any (fun y => (seen ++ [x.2.2]).contains y.2.2 && decide (T y = some j)) = true := by
   rw [List.any_eq_true]
   exact ⟨x, hx, by simp [hj]⟩
  have hlt := (List.getElem?_eq_some_iff.1 hc).1
  refine ⟨by rw [turned_get, hc, hno]; rfl, ?_⟩
  apply List.ext_getElem? fun i => ?_
  by_cases hij : i = j
  ·subst hij
   rw [turned_get, hc, hyes, List.getElem?_set_self (by simpa using hlt)]
   rfl
  ·rw [List.getElem?_set_ne (Ne.symm hij), turned_get, turned_get, key i (by rw [hj]; simp; omega)]
noncomputable section
def arrAt (t : HT) (b : Nat) (k : List CV → St → Bool) : Bool := getK t b fun o => Obj.rec k (fun _ _ => false) (fun _ _ => false) false (fun _ _ => false) (fun _ _ => false) (fun _ _ => false) o
theorem arrAt_snd {t : HT} {h : Heap} (R : Rep t h) {b : Nat} {k : List CV → St → Bool} (hk : arrAt t b k = true) : ∃ cs st, h[b]? = some (.arr cs st) ∧ k cs st = true := by
 obtain ⟨o, h1, h2⟩ := getK_snd R hk
 cases o <;> (try (cases h2; done))
 exact ⟨_, _, h1, h2⟩
def ranF (vs : List CV) (t : HT) (k : CV → HT → Bool) : Bool := match vs with
 | [a, b, c, d] => kSl a false fun ob oo n _ => kMp b false fun bm => kSl c false fun pb po pn _ => kI d fun kk task => arrAt t ob fun cells st => mapAt t bm fun es ck => arrAt t pb fun pcs _ =>
   Bool.rec false (Bool.rec false (pushK t .dead fun _ t1 => setK t1 ob (.arr (turnAll (tgt pcs po oo task) es cells) st) fun t2 => k (.tup []) t2) (ranOk ob pb pcs po pn n cells st (tgt pcs po oo task) es ck task)) (decide (kk = .i64))
 | _ => false
theorem ran_fs : PrimFS ranF ranP := by
 intro vs t h k R hk
 unfold ranF at hk
 split at hk
 ·rename_i a b c d
  rcases kSl_snd hk with ⟨_, q⟩ | ⟨ob, oo, n, cc, rfl, hk1⟩
  ·cases q
  rcases kMp_snd hk1 with ⟨_, q⟩ | ⟨bm, rfl, hk2⟩
  ·cases q
  rcases kSl_snd hk2 with ⟨_, q⟩ | ⟨pb, po, pn, pc, rfl, hk3⟩
  ·cases q
  obtain ⟨kk, task, rfl, hk4⟩ := kI_snd hk3
  obtain ⟨cells, st, h1, hk5⟩ := arrAt_snd R hk4
  obtain ⟨es, ck, h2, hk6⟩ := mapAt_snd R hk5
  obtain ⟨pcs, pst, h3, hk7⟩ := arrAt_snd R hk6
  clear hk hk1 hk2 hk3 hk4 hk5 hk6
  cases hi : decide (kk = .i64) with
  | false => rw [hi] at hk7; cases hk7
  | true =>
    rw [hi] at hk7
    have hi := of_decide_eq_true hi
    subst hi
    cases ho : ranOk ob pb pcs po pn n cells st (tgt pcs po oo task) es ck task with
    | false => rw [ho] at hk7; cases hk7
    | true =>
      rw [ho] at hk7
      obtain ⟨t1, R1, hk8⟩ := pushK_snd R hk7
      have hlt := (List.getElem?_eq_some_iff.1 h1).1
      obtain ⟨t2, R2, hk9⟩ := setK_snd R1 (o' := .arr cells st) (by rw [List.getElem?_append_left hlt]; exact h1) hk8
      simp only [ranP, h1, h2, h3, ho, if_true]
      exact ⟨_, rfl, t2, R2, hk9⟩
 ·cases hk
def addRan (pr : Prims) : Prims := fun f => match Nat.beq f 482 with | true => some ranP | false => pr f
def addRanF (fp : FPrims) : FPrims := fun f => match Nat.beq f 482 with | true => some ranF | false => fp f
theorem PrimSnd.ran {fp : FPrims} {pr : Prims} (h : PrimSnd fp pr) : PrimSnd (addRanF fp) (addRan pr) := by
 intro f
 unfold addRanF addRan
 cases Nat.beq f 482 with
 | true => exact fun vs t h k R hk => ⟨_, rfl, ran_fs vs t h k R hk⟩
 | false => exact h f
end
end Go.Cl
