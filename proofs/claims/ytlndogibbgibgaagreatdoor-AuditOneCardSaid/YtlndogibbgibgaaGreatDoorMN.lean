/-
  Texts laid together: AXA AXB AXC AXD.
-/
import Derived.Test.YtlndogibbgibgaaGreatDoorMH
namespace Go.Cl
open Go
set_option linter.unusedSimpArgs false
set_option linter.unusedVariables false
set_option maxHeartbeats 2000000
variable {p : PP}
def insR (lt : Int → Int → Bool) (x : Int) : List Int → List Int
 | [] => [x]
 | y :: r => if lt x y = true then y :: insR lt x r else x :: y :: r
def insS (lt : Int → Int → Bool) (s : List Int) (x : Int) : List Int := (insR lt x s.reverse).reverse
def sortS (lt : Int → Int → Bool) (l : List Int) : List Int := l.foldl (insS lt) []
@[simp] theorem insR_length {lt : Int → Int → Bool} {x : Int} : ∀ {r : List Int}, (insR lt x r).length = r.length + 1
 | [] => rfl
 | y :: r => by
   unfold insR
   split
   ·simp [insR_length (r := r)]
   ·simp
@[simp] theorem insS_length {lt : Int → Int → Bool} {x : Int} {s : List Int} : (insS lt s x).length = s.length + 1 := by simp [insS]
theorem sortS_take {lt : Int → Int → Bool} {l : List Int} {i : Nat} (h : i < l.length) : sortS lt (l.take (i + 1)) = insS lt (sortS lt (l.take i)) l[i] := by
 unfold sortS
 rw [← List.take_append_getElem h, List.foldl_append]
 rfl
theorem sortS_length {lt : Int → Int → Bool} : ∀ {l : List Int}, (sortS lt l).length = l.length := by
 intro l
 have : ∀ i, i ≤ l.length → (sortS lt (l.take i)).length = i := by
  intro i
  induction i with
  | zero => intro _; simp [sortS]
  | succ i ih => intro h; rw [sortS_take (by omega), insS_length, ih (by omega)]
 have := this l.length (Nat.le_refl _)
 rwa [List.take_length] at this
theorem insR_mem {lt : Int → Int → Bool} {x y : Int} : ∀ {r : List Int}, y ∈ insR lt x r ↔ y = x ∨ y ∈ r
 | [] => by simp [insR]
 | z :: r => by
   unfold insR
   split
   ·rw [List.mem_cons, insR_mem (r := r), List.mem_cons]
    constructor
    ·rintro (h | h | h)
     ·exact .inr (.inl h)
     ·exact .inl h
     ·exact .inr (.inr h)
    ·rintro (h | h | h)
     ·exact .inr (.inl h)
     ·exact .inl h
     ·exact .inr (.inr h)
   ·simp
theorem insS_mem {lt : Int → Int → Bool} {x y : Int} {s : List Int} : y ∈ insS lt s x ↔ y = x ∨ y ∈ s := by simp [insS, insR_mem]
theorem sortS_mem {lt : Int → Int → Bool} {y : Int} : ∀ {l : List Int}, y ∈ sortS lt l ↔ y ∈ l := by
 intro l
 have : ∀ (l s : List Int), y ∈ l.foldl (insS lt) s ↔ y ∈ s ∨ y ∈ l := by
  intro l
  induction l with
  | nil => intro s; simp
  | cons x l ih =>
    intro s
    rw [List.foldl_cons, ih, insS_mem, List.mem_cons]
    constructor
    ·rintro ((h | h) | h)
     ·exact .inr (.inl h)
     ·exact .inl h
     ·exact .inr (.inr h)
    ·rintro (h | h | h)
     ·exact .inl (.inr h)
     ·exact .inl (.inl h)
     ·exact .inr h
 rw [sortS, this]
 simp
def CmpOk (p : PP) (f : Nat) (caps : List CV) (c : Int → Int → Int) (l : List Int) (db : Nat) (h : Heap) : Prop :=
 ∀ x ∈ l, ∀ y ∈ l, ∀ h', Keep (fun q => q = db) h h' → WF p f ([.int .i64 x, .int .i64 y] ++ caps) h' fun r h2 => r = .int .i64 (c x y) ∧ h2 = h'
def SrtO (v f : CV) (c : Int → Int → Int) (l : List Int) (db : Nat) (st : St) (h : Heap) (m : Nat) (e : Env) (h' : Heap) : Prop :=
 ∃ i : Nat, 1 ≤ i ∧ i ≤ l.length ∧ m = l.length - i ∧ e = [(0, v), (1, .int .i64 0), (2, .int .i64 l.length), (3, f), (8, .int .i64 i)] ∧ Keep (fun q => q = db) h h' ∧
  h'[db]? = some (.arr (ints .i64 (sortS (fun a b => decide (c a b < 0)) (l.take i) ++ l.drop i)) st)
def SrtI (v f : CV) (c : Int → Int → Int) (n : Nat) (T : List Int) (x : Int) (i : Nat) (L : List Int) (db : Nat) (st : St) (h : Heap) (m : Nat) (e : Env) (h' : Heap) : Prop :=
 ∃ (P M : List Int), m = P.length ∧ P.length ≤ i ∧ P.length + 1 + M.length = n ∧ (∀ y ∈ P, y ∈ L) ∧ insS (fun a b => decide (c a b < 0)) P x ++ M = T ∧ e = [(0, v), (1, .int .i64 0), (2, .int .i64 n), (3, f), (8, .int .i64 i), (9, .int .i64 P.length)] ∧ Keep (fun q => q = db) h h' ∧
  h'[db]? = some (.arr (ints .i64 (P ++ x :: M)) st)
theorem sto1S {h : Heap} {b o : Nat} {cs : List CV} {v : CV} {st : St} (hs : st = .tight ∨ st = .loose 1) (e : h[b]? = some (.arr cs st)) (ho : o < cs.length) (hv : v.scalar = true) : storeAt h b o [v] = some (h.set b (.arr (cs.set o v) st)) := by
 have hro : st ≠ .ro := by rcases hs with rfl | rfl <;> simp
 simp only [storeAt, e]
 rw [if_pos ⟨hro, by simp; omega, by simp [hv]⟩, splice_set ho]
theorem sortC (lp : LP p) {h : Heap} {f : Nat} {caps : List CV} {c : Int → Int → Int} {l : List Int} {db : Nat} {st : St} (hs : st = .tight ∨ st = .loose 1) (g : h[db]? = some (.arr (ints .i64 l) st)) (hn : 1 ≤ l.length) (hb : l.length ≤ 1000) (hc : CmpOk p f caps c l db h) :
  WF p 379 [.sl db 0 l.length l.length, .int .i64 0, .int .i64 l.length, .fn f caps] h fun r h' => Keep (fun q => q = db) h h' ∧ h'[db]? = some (.arr (ints .i64 (sortS (fun a b => decide (c a b < 0)) l)) st) := by
 refine WF_of (by rw [lp.pg]; exact S.pg379) (lp.no ⟨rfl, rfl⟩) ?_
 show W p S.b379 _ _ (retQ [] _)
 unfold S.b379
 have hw1 : IntKind.i64.wrap 1 = 1 := rfl
 simp [hw1]
 refine W_loop (SrtO (.sl db 0 l.length l.length) (.fn f caps) c l db st h) ?_ (l.length - 1) ⟨1, by omega, hn, by omega, rfl, Keep.refl _ _, ?_⟩
 case refine_2 =>
  rw [g]
  have : sortS (fun a b => decide (c a b < 0)) (l.take 1) ++ l.drop 1 = l := by
   cases l with
   | nil => simp at hn
   | cons x r => simp [sortS, insS, insR]
  rw [this]
 rintro m e H ⟨i, h1, hi, rfl, rfl, kH, gH⟩
 by_cases hie : i = l.length
 ·subst hie
  rw [List.take_length, List.drop_length, List.append_nil] at gH
  simp
  exact ⟨kH, gH⟩
 have hlt : i < l.length := by omega
 have hlt' : (i : Int) < l.length := by omega
 have hsl : (sortS (fun a b => decide (c a b < 0)) (l.take i)).length = i := by rw [sortS_length, List.length_take]; omega
 have hT := sortS_take (lt := fun a b => decide (c a b < 0)) hlt
 have hwi : IntKind.i64.wrap ((i : Int) + 1) = ((i + 1 : Nat) : Int) := by rw [w64 (by omega) (by omega)]; omega
 simp [hlt, hlt']
 refine W_loop (SrtI (.sl db 0 l.length l.length) (.fn f caps) c l.length (sortS (fun a b => decide (c a b < 0)) (l.take (i + 1)) ++ l.drop (i + 1)) l[i] i l db st h) ?_ i ⟨sortS (fun a b => decide (c a b < 0)) (l.take i), l.drop (i + 1), by rw [hsl], by omega, by rw [hsl, List.length_drop]; omega, fun y hy => List.mem_of_mem_take (sortS_mem.1 hy), by rw [hT], by rw [hsl], kH, ?_⟩
 case refine_2 =>
  rw [gH, List.drop_eq_getElem_cons hlt]
 rintro m e H2 ⟨P, M, rfl, hP, hPM, hPL, hTT, rfl, k2, g2⟩
 have fin : insS (fun a b => decide (c a b < 0)) P l[i] ++ M = P ++ l[i] :: M → ∃ m', m' < l.length - i ∧ SrtO (.sl db 0 l.length l.length) (.fn f caps) c l db st h m' [(0, .sl db 0 l.length l.length), (1, .int .i64 0), (2, .int .i64 l.length), (3, .fn f caps), (8, .int .i64 ((i + 1 : Nat) : Int))] H2 := fun e => by
  refine ⟨l.length - (i + 1), by omega, i + 1, by omega, by omega, rfl, rfl, k2, ?_⟩
  rw [g2, ← hTT, e]
 by_cases hP0 : P.length = 0
 ·have hP0' : P = [] := List.eq_nil_of_length_eq_zero hP0
  subst hP0'
  have := fin rfl
  simp [hwi]
  simpa using this
 obtain ⟨P', y, rfl⟩ : ∃ P' y, P = P' ++ [y] := ⟨P.dropLast, P.getLast (by intro e; rw [e] at hP0; simp at hP0), (List.dropLast_concat_getLast _).symm⟩
 have hll : (P' ++ [y]).length = P'.length + 1 := by simp
 rw [hll] at hP hPM ⊢
 generalize hx : l[i] = x at *
 have hxl : x ∈ l := by rw [← hx]; exact List.getElem_mem hlt
 have hA : P' ++ [y] ++ x :: M = P' ++ y :: x :: M := by simp
 rw [hA] at g2
 have hAl : (ints .i64 (P' ++ y :: x :: M)).length = l.length := by simp [ints]; omega
 have l2 := ld g2
 have a1 : (ints .i64 (P' ++ y :: x :: M))[P'.length + 1]? = some (.int .i64 x) := by simp [ints]
 have a0 : (ints .i64 (P' ++ y :: x :: M))[P'.length]? = some (.int .i64 y) := by simp [ints]
 have i1 : idxAddrV 1 (.sl db 0 l.length l.length) (.int .i64 ((P'.length : Int) + 1)) = some (.ptr db (P'.length + 1)) := by
  have : idxAddrV 1 (.sl db 0 l.length l.length) (.int .i64 (((P'.length + 1 : Nat)) : Int)) = some (.ptr db (P'.length + 1)) := by
   rw [idxAddrV_sl, if_pos ⟨by omega, by omega⟩]; simp
  simpa using this
 have i0 : idxAddrV 1 (.sl db 0 l.length l.length) (.int .i64 (P'.length : Int)) = some (.ptr db P'.length) := by
  rw [idxAddrV_sl, if_pos ⟨by omega, by omega⟩]; simp
 have L1 : loadAt H2 db (P'.length + 1) none = some (.int .i64 x) := by rw [l2]; exact a1
 have L0 : loadAt H2 db P'.length none = some (.int .i64 y) := by rw [l2]; exact a0
 clear a1 a0 l2
 have hw0 : IntKind.i64.wrap (P'.length : Int) = P'.length := w64 (by omega) (by omega)
 have hpos : (0 : Int) < (P'.length : Int) + 1 := by omega
 have key := hc x hxl y (hPL y (by simp)) H2 k2
 have hins : insS (fun a b => decide (c a b < 0)) (P' ++ [y]) x = if c x y < 0 then insS (fun a b => decide (c a b < 0)) P' x ++ [y] else P' ++ [y] ++ [x] := by
  unfold insS
  rw [List.reverse_append, List.reverse_singleton, List.singleton_append, insR]
  by_cases hcy : c x y < 0
  ·simp [hcy]
  ·simp [hcy]
 simp [hpos, i1, i0, hw0, L1, L0]
 refine key.mono ?_
 rintro r H3 ⟨rfl, rfl⟩
 by_cases hcy : c x y < 0
 ·rw [if_pos hcy] at hins
  have s1 := sto1S hs g2 (o := P'.length + 1) (v := .int .i64 y) (by rw [hAl]; omega) rfl
  have g3 := get_set_self (o := .arr ((ints .i64 (P' ++ y :: x :: M)).set (P'.length + 1) (.int .i64 y)) st) (lt_of_get g2)
  have s2 := sto1S hs g3 (o := P'.length) (v := .int .i64 x) (by rw [List.length_set, hAl]; omega) rfl
  have g4 := get_set_self (o := .arr (((ints .i64 (P' ++ y :: x :: M)).set (P'.length + 1) (.int .i64 y)).set P'.length (.int .i64 x)) st) (lt_of_get g3)
  have hset : ((ints .i64 (P' ++ y :: x :: M)).set (P'.length + 1) (.int .i64 y)).set P'.length (.int .i64 x) = ints .i64 (P' ++ x :: y :: M) := by
   simp [ints, List.set_append]
  rw [hset] at s2 g4
  have k4 : Keep (fun q => q = db) h ((H3.set db (.arr ((ints .i64 (P' ++ y :: x :: M)).set (P'.length + 1) (.int .i64 y)) st)).set db (.arr (ints .i64 (P' ++ x :: y :: M)) st)) := (k2.trans (Keep.set _ _ rfl)).trans (Keep.set _ _ rfl)
  simp [hcy, i1, i0, hw0, L1, L0, s1, s2]
  rw [List.set_set] at k4 g4
  refine ⟨P'.length, by omega, P', y :: M, rfl, by omega, by simp; omega, fun z hz => hPL z (by simp [hz]), ?_, rfl, k4, g4⟩
  rw [← hTT, hins]
  simp
 ·rw [if_neg hcy] at hins
  have := fin (by rw [hins]; simp)
  simp [hcy, hwi]
  simpa using this
def dlAt (l : List TaskV) (a : Int) : Int := match l[a.toNat]? with
 | some t => t.dl
 | none => 0
def byDl (l : List TaskV) (a b : Int) : Int := cmpI (dlAt l a) (dlAt l b)
def sorted (l : List TaskV) : List Int := sortS (fun a b => decide (byDl l a b < 0)) (ups l.length)
def prF (n : Nat) : Nat → List Int → List Int → List Int
 | _, [], o => o
 | k, i :: r, o => prF n (k + 1) r (o.set i.toNat ((n - k : Nat) : Int))
def priosP (l : List TaskV) : List Int := prF l.length 0 (sorted l) (List.replicate l.length 0)
@[simp] theorem ups_length {n : Nat} : (ups n).length = n := by simp [ups]
theorem ups_mem {n : Nat} {x : Int} : x ∈ ups n ↔ 0 ≤ x ∧ x < n := by
 simp only [ups, List.mem_map, List.mem_range]
 constructor
 ·rintro ⟨i, hi, rfl⟩; omega
 ·rintro ⟨h1, h2⟩; exact ⟨x.toNat, by omega, by omega⟩
@[simp] theorem sorted_length {l : List TaskV} : (sorted l).length = l.length := by rw [sorted, sortS_length, ups_length]
theorem sorted_mem {l : List TaskV} {x : Int} : x ∈ sorted l ↔ 0 ≤ x ∧ x < l.length := by rw [sorted, sortS_mem, ups_mem]
@[simp] theorem prF_length {n : Nat} : ∀ {r : List Int} {k : Nat} {o : List Int}, (prF n k r o).length = o.length
 | [], k, o => rfl
 | i :: r, k, o => by rw [prF, prF_length, List.length_set]
@[simp] theorem priosP_length {l : List TaskV} : (priosP l).length = l.length := by simp [priosP]
theorem prCmp_ok (lp : LP p) {h : Heap} {b db : Nat} {c : List CV} {tv : CV} {l : List TaskV} {P : Nat → Prop} (g : h[b]? = some (.arr c .tight)) (c2 : c[2]? = some tv) (st : Sl taskC h P tv l) (hb : b ≠ db) (hP : ∀ y, P y → y ≠ db) :
  CmpOk p 337 [.ptr b 0] (byDl l) (ups l.length) db h := by
 intro x hx y hy h' k
 obtain ⟨x0, x1⟩ := ups_mem.1 hx
 obtain ⟨y0, y1⟩ := ups_mem.1 hy
 obtain ⟨i, rfl⟩ : ∃ i : Nat, x = i := ⟨x.toNat, by omega⟩
 obtain ⟨j, rfl⟩ : ∃ j : Nat, y = j := ⟨y.toNat, by omega⟩
 have hi : i < l.length := by omega
 have hj : j < l.length := by omega
 refine (prCmp_spec lp (i := i) (j := j) (k.at g hb) c2 (st.keep k fun q hq e => hP q hq e) hi hj).mono ?_
 rintro r h2 ⟨rfl, rfl⟩
 simp [byDl, dlAt, hi, hj]
theorem sort338 (lp : LP p) {h : Heap} {f : Nat} {caps : List CV} {c : Int → Int → Int} {l : List Int} {db : Nat} {st : St} (hs : st = .tight ∨ st = .loose 1) (g : h[db]? = some (.arr (ints .i64 l) st)) (hn : 1 ≤ l.length) (hb : l.length ≤ 12) (hc : CmpOk p f caps c l db h) :
  WF p 338 [.sl db 0 l.length l.length, .fn f caps] h fun r h' => Keep (fun q => q = db) h h' ∧ h'[db]? = some (.arr (ints .i64 (sortS (fun a b => decide (c a b < 0)) l)) st) := by
 refine WF_of (by rw [lp.pg]; exact S.pg338) (lp.no ⟨rfl, rfl⟩) ?_
 show W p S.b338 _ _ (retQ [] _)
 unfold S.b338
 simp
 refine WF_of (by rw [lp.pg]; exact S.pg357) (lp.no ⟨rfl, rfl⟩) ?_
 show W p S.b357 _ _ (retQ [] _)
 unfold S.b357
 have h20 : ¬ (20 : Int) ≤ l.length := by omega
 have h20n : ¬ 20 ≤ l.length := by omega
 have h20' : ¬ (20 : Int) < l.length := by omega
 have h20n' : ¬ 20 < l.length := by omega
 try simp
 refine W_loop (fun m e h' => m = 0 ∧ e = [(0, .sl db 0 l.length l.length), (1, .int .i64 l.length), (2, .fn f caps), (6, .int .i64 20), (7, .int .i64 0), (8, .int .i64 20)] ∧ h' = h) ?_ 0 ⟨rfl, rfl, rfl⟩
 rintro m e H2 ⟨rfl, rfl, rfl⟩
 simp [h20, h20n]
 refine (sortC lp hs g hn (by omega) hc).mono ?_
 rintro r H3 q
 try simp
 refine W_loop (fun m e h' => m = 0 ∧ e = [(0, .sl db 0 l.length l.length), (1, .int .i64 l.length), (2, .fn f caps), (6, .int .i64 20)] ∧ h' = H3) ?_ 0 ⟨rfl, rfl, rfl⟩
 rintro m e H4 ⟨rfl, rfl, rfl⟩
 simp [h20', h20n']
 exact q
def OpG (v : CV) (ob n : Nat) (S : List Int) (h : Heap) (m : Nat) (e : Env) (h' : Heap) : Prop :=
 ∃ (k : Nat) (lo : List Int), k ≤ n ∧ m = n - k ∧ e = [(3, v), (5, .sl ob 0 n n), (25, v), (26, .int .i64 n), (27, .int .i64 k)] ∧ Keep (fun x => x = ob) h h' ∧ h'[ob]? = some (.arr (ints .i64 lo) .tight) ∧ lo.length = n ∧ prF n k (S.drop k) lo = prF n 0 S (List.replicate n 0)
theorem priosG (lp : LP p) {h : Heap} {P : Nat → Prop} {x : SetV} {c : List CV} (rx : setC.rep h P c x) (hP : ∀ y, P y → y < h.length) (hn : 1 ≤ x.tasks.length) (hb : x.tasks.length ≤ 12) :
  WF p 318 [.agg c] h fun r h' => Keep NoneOf h h' ∧ ∃ ob, r = .sl ob 0 x.tasks.length x.tasks.length ∧ h.length ≤ ob ∧ h'[ob]? = some (.arr (ints .i64 (priosP x.tasks)) .tight) := by
 refine WF_of (by rw [lp.pg]; exact S.pg318) (lp.no ⟨rfl, rfl⟩) ?_
 show W p S.b318 _ _ (retQ [.t 2] _)
 unfold S.b318
 have hca : ∀ l, (CV.agg l).cells = l := fun _ => rfl
 have kap := Keep.app NoneOf h [.arr c .tight]
 have gS := get_new (h := h) (o := .arr c .tight)
 obtain ⟨cv, tv, hc0, sc, st⟩ := rx
 have c2 : c[2]? = some tv := by subst hc0; rfl
 have st1 := st.on kap
 have n0 := st1.len (by decide)
 have lS := ld gS
 simp [hca, lS, c2, n0]
 generalize hNN : x.tasks.length = n at *
 refine W_loop (OpA h.length n (h ++ [.arr c .tight])) ?_ n ⟨0, .nils, by omega, by omega, rfl, Keep.refl _ _, OwnL.nil, by simp [CV.blk]⟩
 rintro m e H1 ⟨i, v, hi, rfl, rfl, k1, ow, hv⟩
 by_cases hie : i = n
 ·subst hie
  have gS1 := k1.at gS id
  have st2 := st1.on k1
  have hk1 := k1.len
  simp at hk1
  obtain ⟨cc, mi, rs, _⟩ := ow
  obtain rfl := rows_ints.1 rs
  rcases mi with ⟨_, e0⟩ | ⟨db, n', stt, rfl, hlen, hst, gd⟩
  ·have := congrArg List.length e0; simp at this; omega
  have hn1 : (Cod.int IntKind.i64).n = 1 := rfl
  rw [hn1] at hlen
  have hn' : n' = i := by simpa [ints, ups] using hlen.symm
  subst hn'
  have hdb : h.length + 1 ≤ db := by have := hv db rfl; simpa using this
  have cok := prCmp_ok lp (db := db) gS1 c2 st2 (by omega) (fun y hy => by have := hP y hy; omega)
  rw [hNN] at cok
  have key := sort338 lp hst gd (by simp; omega) (by simp; omega) cok
  rw [ups_length] at key
  have hsd : sortS (fun a b => decide (byDl x.tasks a b < 0)) (ups n') = sorted x.tasks := by rw [sorted, hNN]
  rw [hsd] at key
  try simp
  refine key.mono ?_
  rintro r H2 ⟨kS, gd2⟩
  have hbg : n' ≤ big := by simp [big]; omega
  have kap2 := Keep.app NoneOf H2 [.arr (List.replicate n' (.int .i64 0)) .tight]
  have gO : (H2 ++ [Obj.arr (List.replicate n' (.int .i64 0)) .tight])[H2.length]? = some (.arr (ints .i64 (List.replicate n' 0)) .tight) := by simp [ints]
  have gd3 := kap2.at gd2 id
  have hkS := kS.len
  have hdbl := lt_of_get gd2
  simp [hbg]
  generalize hH3 : H2 ++ [Obj.arr (List.replicate n' (.int .i64 0)) .tight] = H3 at *
  have hS : (sorted x.tasks).length = n' := by rw [sorted_length, hNN]
  refine W_loop (OpG (.sl db 0 n' n') H2.length n' (sorted x.tasks) H3) ?_ n' ⟨0, _, by omega, by omega, rfl, Keep.refl _ _, gO, by simp, by simp⟩
  rintro m e H4 ⟨k, lo, hk, rfl, rfl, k4, g4, hlo, hj⟩
  have gd4 := k4.at gd3 (by omega)
  by_cases hke : k = n'
  ·subst hke
   rw [List.drop_of_length_le (by omega), prF] at hj
   subst hj
   simp
   refine ⟨((kap.trans k1).then kS fun y hy e => by omega).trans (kap2.then k4 fun y hy e => by omega), by omega, ?_⟩
   rw [g4, priosP, hNN]
  ·have hlt : k < n' := by omega
   have hlt' : (k : Int) < n' := by omega
   have hks : k < (sorted x.tasks).length := by omega
   obtain ⟨z0, z1⟩ := sorted_mem.1 (List.getElem_mem hks)
   obtain ⟨q, hq⟩ : ∃ q : Nat, (sorted x.tasks)[k] = q := ⟨(sorted x.tasks)[k].toNat, by omega⟩
   have hqn : q < n' := by omega
   have hqn' : (q : Int) < n' := by omega
   have hix0 : idxAddrV 1 (.sl db 0 n' n') (.int .i64 (k : Int)) = some (.ptr db k) := by
    rw [idxAddrV_sl, if_pos ⟨by omega, by omega⟩]; simp
   have L0 : loadAt H4 db k none = some (.int .i64 (q : Int)) := by
    rw [ld gd4, ints_get, List.getElem?_eq_getElem hks, hq]; rfl
   have hw : IntKind.i64.wrap ((k : Int) + 1) = ((k + 1 : Nat) : Int) := by rw [w64 (by omega) (by omega)]; omega
   have hws : IntKind.i64.wrap ((n' : Int) - (k : Int)) = ((n' - k : Nat) : Int) := by rw [w64 (by omega) (by omega)]; omega
   have hix : idxAddrV 1 (.sl H2.length 0 n' n') (.int .i64 (q : Int)) = some (.ptr H2.length q) := by
    rw [idxAddrV_sl, if_pos ⟨by omega, by omega⟩]; simp
   have s4 := sto1 g4 (o := q) (v := .int .i64 ((n' - k : Nat) : Int)) (by simp [ints]; omega) rfl
   have hset : (ints .i64 lo).set q (.int .i64 ((n' - k : Nat) : Int)) = ints .i64 (lo.set q ((n' - k : Nat) : Int)) := by simp [ints, List.map_set]
   rw [hset] at s4
   have hdr : (sorted x.tasks).drop k = (q : Int) :: (sorted x.tasks).drop (k + 1) := by rw [List.drop_eq_getElem_cons hks, hq]
   rw [hdr, prF] at hj
   have hqq : (q : Int).toNat = q := by omega
   rw [hqq] at hj
   generalize hz : ((n' - k : Nat) : Int) = z at *
   simp [hlt, hlt', hix0, L0, hws, hix, s4, hw]
   exact ⟨n' - (k + 1), by omega, k + 1, _, by omega, rfl, rfl, k4.trans (Keep.set _ _ rfl), get_set_self (lt_of_get g4), by simp [hlo], hj⟩
 ·have hlt : i < n := by omega
  have hlt' : (i : Int) < n := by omega
  have hw : IntKind.i64.wrap ((i : Int) + 1) = ((i + 1 : Nat) : Int) := by rw [w64 (by omega) (by omega)]; omega
  simp [hlt, hlt', fillC, splice, spread, cellsAt]
  refine OV_push (e := .int .i64) (x := (i : Int)) (ow.on (Keep.app _ _ _)) rfl (fun _ hb => hb.elim) (by simp [ups, big]; omega) (by decide) fun v2 h2 o2 k2 hb2 => ?_
  simp [hw]
  refine ⟨n - (i + 1), by omega, i + 1, v2, by omega, rfl, rfl, (k1.trans (Keep.app _ _ _)).then k2 fun b hb e => by have := hv b e; omega, ?_, fun b hb => ?_⟩
  ·have : ups (i + 1) = ups i ++ [(i : Int)] := by simp [ups, List.range_succ]
   rw [this]; exact o2
  ·rcases hb2 b hb with q | q
   ·exact hv b q
   ·have := k1.len; simp at q; omega
def locksL (l : List OpV) : List Int := (l.filter fun o => decide (o.kind = 2)).map (·.n)
def LkI (pv : CV) (l : List OpV) (h : Heap) (m : Nat) (e : Env) (h' : Heap) : Prop :=
 ∃ (i : Nat) (v : CV), i ≤ l.length ∧ m = l.length - i ∧ e = [(3, v), (6, pv), (7, .int .i64 l.length), (8, .int .i64 i)] ∧ Keep NoneOf h h' ∧ OwnL (.int .i64) h' NoneOf v (locksL (l.take i)) ∧ ∀ b, v.blk = some b → h.length ≤ b
set_option maxRecDepth 20000 in
theorem sort361 (lp : LP p) {h : Heap} {v : CV} {l : List Int} {P : Nat → Prop} (s : Sl (.int .i64) h P v l) (hl : l.length ≤ 1) : WF p 361 [v] h fun r h' => h' = h := by
 refine WF_of (by rw [lp.pg]; exact S.pg361) (lp.no ⟨rfl, rfl⟩) ?_
 show W p S.b361 _ _ (retQ [] _)
 unfold S.b361
 have n0 := s.len (by decide)
 have fin : ∀ (k r : Int), (k = 0 ∨ k = 1) → WF p 382 [v, .int .i64 0, .int .i64 k, .int .i64 r] h fun r h' => h' = h := by
  intro k r hk
  refine WF_of (by rw [lp.pg]; exact S.pg382) (lp.no ⟨rfl, rfl⟩) ?_
  show W p S.b382 _ _ (retQ [] _)
  unfold S.b382
  have w0 : IntKind.i64.wrap k = k := by rcases hk with rfl | rfl <;> rfl
  have h12 : k ≤ 12 := by omega
  have h1 : ¬ 1 < k := by omega
  have hw1 : IntKind.i64.wrap 1 = 1 := rfl
  simp
  refine W_loop (fun m e h' => m = 0 ∧ e = [(0, v), (1, .int .i64 0), (2, .int .i64 k), (3, .int .i64 r), (8, .bool true), (9, .bool true)] ∧ h' = h) ?_ 0 ⟨rfl, rfl, rfl⟩
  rintro m e h' ⟨rfl, rfl, rfl⟩
  simp [w0, h12]
  refine WF_of (by rw [lp.pg]; exact S.pg399) (lp.no ⟨rfl, rfl⟩) ?_
  show W p S.b399 _ _ (retQ [] _)
  unfold S.b399
  simp [hw1]
  refine W_loop (fun m e h2 => m = 0 ∧ e = [(0, v), (1, .int .i64 0), (2, .int .i64 k), (6, .int .i64 1)] ∧ h2 = h') ?_ 0 ⟨rfl, rfl, rfl⟩
  rintro m e h2 ⟨rfl, rfl, rfl⟩
  simp [h1]
 have hcase : l.length = 0 ∨ l.length = 1 := by omega
 have hlen : ∀ k : Nat, (k = 0 ∨ k = 1) → WF p 381 [.int .u64 (k : Int)] h fun r h' => (∃ q : Int, r = .int .i64 q) ∧ h' = h := by
  intro k hk
  refine WF_of (by rw [lp.pg]; exact S.pg381) (lp.no ⟨rfl, rfl⟩) ?_
  show W p S.b381 _ _ (retQ [.t 2] _)
  unfold S.b381
  simp
  rw [W_cond]
  simp
  refine WF_of (by rw [lp.pg]; exact S.pg188) (lp.no ⟨rfl, rfl⟩) ?_
  show W p S.b188 _ _ (retQ [.t 2] _)
  unfold S.b188
  have e0 : IntKind.u8.wrap 0 = 0 := rfl
  have e1 : IntKind.u8.wrap 1 = 1 := rfl
  rcases hk with rfl | rfl
  ·simp [e0]
  ·simp [e1]
 rcases hcase with e | e
 ·rw [e] at n0
  have hw : IntKind.u64.wrap 0 = 0 := rfl
  simp [n0, hw]
  refine (hlen 0 (.inl rfl)).mono ?_
  rintro r h' ⟨⟨q, rfl⟩, rfl⟩
  try simp
  exact fin 0 q (.inl rfl)
 ·rw [e] at n0
  have hw : IntKind.u64.wrap 1 = 1 := rfl
  simp [n0, hw]
  refine (hlen 1 (.inr rfl)).mono ?_
  rintro r h' ⟨⟨q, rfl⟩, rfl⟩
  try simp
  exact fin 1 q (.inr rfl)
theorem compact362 (lp : LP p) {h : Heap} {v : CV} {l : List Int} {P : Nat → Prop} (s : Sl (.int .i64) h P v l) (hl : l.length ≤ 1) : WF p 362 [v] h fun r h' => r = v ∧ h' = h := by
 refine WF_of (by rw [lp.pg]; exact S.pg362) (lp.no ⟨rfl, rfl⟩) ?_
 show W p S.b362 _ _ (retQ [.t 2] _)
 unfold S.b362
 have n0 := s.len (by decide)
 have h2 : (l.length : Int) < 2 := by omega
 have h2' : l.length < 2 := by omega
 simp [n0, h2, h2']
theorem locks339 (lp : LP p) {h : Heap} {P : Nat → Prop} {pv : CV} {l : List OpV} (s : Sl opC h P pv l) (hb : l.length ≤ 1000) (h1 : (locksL l).length ≤ 1) :
  WF p 339 [pv] h fun r h' => Keep NoneOf h h' ∧ OwnL (.int .i64) h' NoneOf r (locksL l) ∧ ∀ b, r.blk = some b → h.length ≤ b := by
 refine WF_of (by rw [lp.pg]; exact S.pg339) (lp.no ⟨rfl, rfl⟩) ?_
 show W p S.b339 _ _ (retQ [.t 2] _)
 unfold S.b339
 have n0 := s.len (by decide)
 have hca : ∀ l, (CV.agg l).cells = l := fun _ => rfl
 simp [n0]
 refine W_loop (LkI pv l h) ?_ l.length ⟨0, .nils, by omega, by omega, rfl, Keep.refl _ _, OwnL.nil, by simp [CV.blk]⟩
 rintro m e h1' ⟨i, v, hi, rfl, rfl, k1, ow, hv⟩
 by_cases hie : i = l.length
 ·subst hie
  rw [List.take_length] at ow
  simp
  refine (sort361 lp ow.sl h1).mono ?_
  rintro r h2 rfl
  try simp
  refine (compact362 lp ow.sl h1).mono ?_
  rintro r h3 ⟨rfl, rfl⟩
  try simp
  exact ⟨k1, ow, hv⟩
 ·have hlt : i < l.length := by omega
  have hlt' : (i : Int) < l.length := by omega
  have hw : IntKind.i64.wrap ((i : Int) + 1) = ((i + 1 : Nat) : Int) := by rw [w64 (by omega) (by omega)]; omega
  obtain ⟨b0, o0, row, x1, x2, x3, rp⟩ := (s.on k1).row (k := .i64) (by decide) hlt
  have x1 : idxAddrV 5 pv (.int .i64 (i : Int)) = some (.ptr b0 o0) := x1
  have x2 : loadAt h1' b0 o0 (some 5) = some (.agg row) := x2
  have dl : row.length = 5 := opC.len rp
  have sn := store_new (h := h1') (row := row) (z := [.int .i64 0, .int .i64 0, .int .i64 0, .int .i64 0, .nils]) (by rw [dl]; rfl) (opC.flat rp)
  have kap := Keep.app NoneOf h1' [.arr row .tight]
  have g5 := get_new (h := h1') (o := .arr row .tight)
  obtain ⟨cv, rfl, _⟩ := rp
  have l0 : loadAt (h1' ++ [.arr [.int .i64 l[i].kind, .int .i64 l[i].n, .int .i64 l[i].v, .int .i64 l[i].wait, cv] .tight]) h1'.length 0 none = some (.int .i64 l[i].kind) := by rw [ld g5]; rfl
  have l1 : loadAt (h1' ++ [.arr [.int .i64 l[i].kind, .int .i64 l[i].n, .int .i64 l[i].v, .int .i64 l[i].wait, cv] .tight]) h1'.length 1 none = some (.int .i64 l[i].n) := by rw [ld g5]; rfl
  have ow1 := ow.on kap
  have hkl := k1.len
  simp [hlt, hlt', x1, x2, sn]
  generalize h1' ++ [Obj.arr [.int .i64 l[i].kind, .int .i64 l[i].n, .int .i64 l[i].v, .int .i64 l[i].wait, cv] .tight] = H at *
  by_cases hk : l[i].kind = 2
  ·rw [hk] at l0
   have f1 : fillC [.int .i64 0] [(0, 1, .int .i64 l[i].n)] = some [.int .i64 l[i].n] := rfl
   have htk : locksL (l.take (i + 1)) = locksL (l.take i) ++ [l[i].n] := by
    unfold locksL
    rw [← List.take_append_getElem hlt, List.filter_append, List.map_append]
    simp [hk]
   have hll : (locksL (l.take i)).length ≤ big := by
    have : (locksL (l.take i)).length ≤ i := by
     unfold locksL
     rw [List.length_map]
     exact Nat.le_trans (List.length_filter_le _ _) (by rw [List.length_take]; omega)
    simp [big]; omega
   have kap2 := Keep.app NoneOf H [.arr [.int .i64 l[i].n] .tight]
   simp [l0, l1, f1, spread, cellsAt]
   refine OV_push (e := .int .i64) (x := l[i].n) (ow1.on kap2) rfl (fun _ hb => hb.elim) hll (by decide) fun v2 h2 o2 k2 hb2 => ?_
   simp [hw]
   have hkk := kap.len
   refine ⟨l.length - (i + 1), by omega, i + 1, v2, by omega, rfl, rfl, ((k1.trans kap).trans kap2).then k2 fun b hb e => by have := hv b e; omega, by rw [htk]; exact o2, fun b hb => ?_⟩
   rcases hb2 b hb with q | q
   ·exact hv b q
   ·simp at q; omega
  ·have htk : locksL (l.take (i + 1)) = locksL (l.take i) := by
    unfold locksL
    rw [← List.take_append_getElem hlt, List.filter_append, List.map_append]
    simp [hk]
   simp [l0, hk, hw]
   exact ⟨l.length - (i + 1), by omega, i + 1, v, by omega, rfl, rfl, k1.trans kap, by rw [htk]; exact ow1, hv⟩
def CtI (v : CV) (x : Int) (l : List Int) (h : Heap) (m : Nat) (e : Env) (h' : Heap) : Prop :=
 ∃ i : Nat, i ≤ l.length ∧ m = l.length - i ∧ e = [(0, v), (1, .int .i64 x), (7, .int .i64 l.length), (8, .int .i64 i)] ∧ h' = h ∧ x ∉ l.take i
theorem contains340 (lp : LP p) {h : Heap} {v : CV} {l : List Int} {P : Nat → Prop} (s : Sl (.int .i64) h P v l) (x : Int) (hb : l.length ≤ 1000) : WF p 340 [v, .int .i64 x] h fun r h' => r = .bool (decide (x ∈ l)) ∧ h' = h := by
 refine WF_of (by rw [lp.pg]; exact S.pg340) (lp.no ⟨rfl, rfl⟩) ?_
 show W p S.b340 _ _ (retQ [.t 4] _)
 unfold S.b340
 simp
 have key : WF p 360 [v, .int .i64 x] h fun r h' => (∃ q : Int, r = .int .i64 q ∧ decide (0 ≤ q) = decide (x ∈ l)) ∧ h' = h := by
  refine WF_of (by rw [lp.pg]; exact S.pg360) (lp.no ⟨rfl, rfl⟩) ?_
  show W p S.b360 _ _ (retQ [.t 4] _)
  unfold S.b360
  have n0 := s.len (by decide)
  simp [n0]
  refine W_loop (CtI v x l h) ?_ l.length ⟨0, by omega, by omega, rfl, rfl, by simp⟩
  rintro m e h' ⟨i, hi, rfl, rfl, rfl, ht⟩
  by_cases hie : i = l.length
  ·subst hie
   rw [List.take_length] at ht
   simp [ht]
  ·have hlt : i < l.length := by omega
   have hlt' : (i : Int) < l.length := by omega
   have hw : IntKind.i64.wrap ((i : Int) + 1) = ((i + 1 : Nat) : Int) := by rw [w64 (by omega) (by omega)]; omega
   obtain ⟨b0, o0, x1, x2, x3⟩ := readI_idx (k' := .i64) s.ints hlt
   by_cases hx : x = l[i]
   ·have hm : x ∈ l := by rw [hx]; exact List.getElem_mem hlt
    simp [hlt, hlt', x1, x3, ← hx, hm]
   ·simp [hlt, hlt', x1, x3, hx, hw]
    refine ⟨l.length - (i + 1), by omega, i + 1, by omega, rfl, rfl, rfl, ?_⟩
    rw [← List.take_append_getElem hlt, List.mem_append]
    simp [hx]
    exact ht
 refine key.mono ?_
 rintro r h' ⟨⟨q, rfl, hq⟩, rfl⟩
 simp [← hq]
def hasLock (t : TaskV) (i : Int) : Bool := decide (i ∈ locksL t.prog)
def ceilGo (n i : Int) : List (TaskV × Int) → Int → Int
 | [], o => o
 | (t, q) :: r, o => if hasLock t i = true then (if max o q = n then max o q else ceilGo n i r (max o q)) else ceilGo n i r o
def ceilAt (x : SetV) (i : Int) : Int := ceilGo x.tasks.length i (x.tasks.zip (priosP x.tasks)) 0
def ceilsP (x : SetV) : List Int := (List.range x.locks.toNat).map fun (i : Nat) => ceilAt x i
theorem mxL_two {a b : Int} : mxL [.int .i64 a, .int .i64 b] = some (.int .i64 (max a b)) := by
 simp only [mxL, mxR]
 by_cases h : a < b
 ·simp [h]; omega
 ·simp [h]; omega
def ClgO (sb pb ob n k : Nat) (x : SetV) (h : Heap) (m : Nat) (e : Env) (h' : Heap) : Prop :=
 ∃ (i : Nat) (lo : List Int), i ≤ k ∧ m = k - i ∧ e = [(1, .ptr sb 0), (3, .sl pb 0 n n), (4, .sl ob 0 k k), (15, .int .i64 k), (16, .int .i64 i)] ∧ Keep (fun y => y = ob) h h' ∧ h'[ob]? = some (.arr (ints .i64 lo) .tight) ∧ lo.length = k ∧
  ∀ j, j < k → lo[j]? = some (if j < i then ceilAt x j else 0)
def ClgI (sb pb ob n k i : Nat) (tv : CV) (x : SetV) (lo : List Int) (h : Heap) (m : Nat) (e : Env) (h' : Heap) : Prop :=
 ∃ (j : Nat) (o : Int), j ≤ n ∧ m = n - j ∧ e = [(1, .ptr sb 0), (3, .sl pb 0 n n), (4, .sl ob 0 k k), (5, .int .i64 i), (15, .int .i64 k), (16, .int .i64 i), (20, tv), (21, .int .i64 n), (22, .int .i64 j)] ∧ Keep (fun y => y = ob) h h' ∧
  h'[ob]? = some (.arr (ints .i64 (lo.set i o)) .tight) ∧ ceilGo n i ((x.tasks.zip (priosP x.tasks)).drop j) o = ceilAt x i
theorem ceilG (lp : LP p) {h : Heap} {P : Nat → Prop} {x : SetV} {c : List CV} {k : Nat} (rx : setC.rep h P c x) (hl : x.locks = k) (hk : k ≤ 8) (hP : ∀ y, P y → y < h.length) (hn : 1 ≤ x.tasks.length) (hb : x.tasks.length ≤ 12)
  (ht : ∀ t ∈ x.tasks, t.prog.length ≤ 1000 ∧ (locksL t.prog).length ≤ 1) :
  WF p 319 [.agg c] h fun r h' => Keep NoneOf h h' ∧ ∃ ob, r = .sl ob 0 k k ∧ h.length ≤ ob ∧ h'[ob]? = some (.arr (ints .i64 (ceilsP x)) .tight) := by
 refine WF_of (by rw [lp.pg]; exact S.pg319) (lp.no ⟨rfl, rfl⟩) ?_
 show W p S.b319 _ _ (retQ [.t 2] _)
 unfold S.b319
 have hca : ∀ l, (CV.agg l).cells = l := fun _ => rfl
 have kap := Keep.app NoneOf h [.arr c .tight]
 have gS := get_new (h := h) (o := .arr c .tight)
 have lW := ldw gS (n := 3) (setC.len rx)
 have r1 := setC.on rx kap
 have rx0 := rx
 obtain ⟨cv, tv, hc0, sc, st⟩ := rx
 have c0 : c[0]? = some (.int .i64 k) := by rw [← hl]; subst hc0; rfl
 have c2 : c[2]? = some tv := by subst hc0; rfl
 simp [hca, lW]
 refine (priosG lp r1 (fun y hy => by have := hP y hy; simp; omega) hn hb).mono ?_
 rintro r h1 ⟨k1, pb, rfl, hpb, gp⟩
 have gS1 := k1.at gS id
 have lS := ld gS1
 have hmx : mxL [.int .i64 (k : Int), .int .i64 0] = some (.int .i64 k) := by rw [mxL_two]; congr 2; omega
 have hbg : k ≤ big := by simp [big]; omega
 have hmk : mkslV h1 [.int .i64 0] (.int .i64 (k : Int)) (.int .i64 (k : Int)) = some (.sl h1.length 0 k k, h1 ++ [.arr (List.replicate k (.int .i64 0)) .tight]) := by simp [mkslV, hbg]
 have kap2 := Keep.app NoneOf h1 [.arr (List.replicate k (.int .i64 0)) .tight]
 have gO : (h1 ++ [Obj.arr (List.replicate k (.int .i64 0)) .tight])[h1.length]? = some (.arr (ints .i64 (List.replicate k 0)) .tight) := by simp [ints]
 have gS2 := kap2.at gS1 id
 have gp2 := kap2.at gp id
 have st2 := ((st.on kap).on k1).on kap2
 have hk1 := k1.len
 simp at hk1
 have hpl := lt_of_get gp
 simp [lS, c0, hmx, hmk]
 generalize hH : h1 ++ [Obj.arr (List.replicate k (.int .i64 0)) .tight] = H at *
 have hHl : H.length = h1.length + 1 := by rw [← hH]; simp
 generalize hNN : x.tasks.length = n at *
 have hpn : (priosP x.tasks).length = n := by rw [priosP_length, hNN]
 refine W_loop (ClgO h.length pb h1.length n k x H) ?_ k ⟨0, List.replicate k 0, by omega, by omega, rfl, Keep.refl _ _, gO, by simp, fun j hj => by simp [hj]⟩
 rintro m e H2 ⟨i, lo, hi, rfl, rfl, k2, g2, hlo, hj⟩
 by_cases hik : i = k
 ·subst hik
  have : lo = ceilsP x := by
   apply List.ext_getElem?
   intro j
   by_cases hji : j < i
   ·rw [hj j hji, if_pos hji]
    simp [ceilsP, hl, hji]
   ·rw [List.getElem?_eq_none (by omega), List.getElem?_eq_none (by simp [ceilsP, hl]; omega)]
  subst this
  simp
  exact ⟨(kap.trans k1).trans (kap2.then k2 fun y hy e => by omega), by omega, g2⟩
 have hik' : i < k := by omega
 have hik'' : (i : Int) < k := by omega
 have gS3 := k2.at gS2 (by omega)
 have lS3 := ld gS3
 have st3 := st2.keep k2 fun y hy e => by have := hP y hy; omega
 have n3 := st3.len (by decide)
 rw [hNN] at n3
 have hwi : IntKind.i64.wrap ((i : Int) + 1) = ((i + 1 : Nat) : Int) := by rw [w64 (by omega) (by omega)]; omega
 have hl0 : lo.set i 0 = lo := by
  apply List.ext_getElem?
  intro j
  by_cases hji : j = i
  ·subst hji
   rw [List.getElem?_set_self (by omega), hj j hik']; simp
  ·rw [List.getElem?_set_ne (by omega)]
 simp [hik', hik'', lS3, c2, n3]
 have fin : ∀ H4, Keep (fun y => y = h1.length) H H4 → H4[h1.length]? = some (.arr (ints .i64 (lo.set i (ceilAt x i))) .tight) →
   ∃ m', m' < k - i ∧ ClgO h.length pb h1.length n k x H m' [(1, .ptr h.length 0), (3, .sl pb 0 n n), (4, .sl h1.length 0 k k), (15, .int .i64 k), (16, .int .i64 ((i + 1 : Nat) : Int))] H4 := by
  intro H4 k4 g4
  refine ⟨k - (i + 1), by omega, i + 1, lo.set i (ceilAt x i), by omega, rfl, rfl, k4, g4, by simpa using hlo, fun j hjk => ?_⟩
  by_cases hji : j = i
  ·subst hji; rw [List.getElem?_set_self (by omega), if_pos (by omega)]
  ·rw [List.getElem?_set_ne (by omega), hj j hjk]
   by_cases h5 : j < i
   ·rw [if_pos h5, if_pos (by omega)]
   ·rw [if_neg h5, if_neg (by omega)]
 refine W_loop (ClgI h.length pb h1.length n k i tv x lo H) ?_ n ⟨0, 0, by omega, by omega, rfl, k2, by rw [hl0]; exact g2, by rw [List.drop_zero, ceilAt, hNN]⟩
 rintro m e H4 ⟨j, o, hjn, rfl, rfl, k4, g4, hgo⟩
 by_cases hjn' : j = n
 ·rw [List.drop_of_length_le (by rw [List.length_zip, hNN, hpn]; omega), ceilGo] at hgo
  subst hgo
  have := fin H4 k4 g4
  simp [hjn', hwi]
  simpa using this
 have hlt : j < n := by omega
 have hlt' : (j : Int) < n := by omega
 have hjt : j < x.tasks.length := by omega
 have hjp : j < (priosP x.tasks).length := by omega
 have hw : IntKind.i64.wrap ((j : Int) + 1) = ((j + 1 : Nat) : Int) := by rw [w64 (by omega) (by omega)]; omega
 have st4 := st2.keep k4 fun y hy e => by have := hP y hy; omega
 obtain ⟨b0, o0, row, x1, x2, x3, rt⟩ := st4.row (k := .i64) (by decide) hjt
 have x1 : idxAddrV 5 tv (.int .i64 (j : Int)) = some (.ptr b0 o0) := x1
 have x2 : loadAt H4 b0 o0 (some 5) = some (.agg row) := x2
 have dl : row.length = 5 := taskC.len rt
 have sn := store_new (h := H4) (row := row) (z := [.str [], .int .i64 0, .int .i64 0, .int .i64 0, .nils]) (by rw [dl]; rfl) (taskC.flat rt)
 have kap4 := Keep.app NoneOf H4 [.arr row .tight]
 have g7 := get_new (h := H4) (o := .arr row .tight)
 obtain ⟨pv, rfl, sp⟩ := rt
 have l4 : loadAt (H4 ++ [.arr (tkL x.tasks[j] pv) .tight]) H4.length 4 none = some pv := by rw [ld g7]; rfl
 have sp4 := sp.on kap4
 obtain ⟨t1, t2⟩ := ht _ (List.getElem_mem hjt)
 have g4' := kap4.at g4 id
 have k4' : Keep (fun y => y = h1.length) H (H4 ++ [.arr (tkL x.tasks[j] pv) .tight]) := k4.trans (kap4.mono fun _ _ => False.elim)
 have hdr : (x.tasks.zip (priosP x.tasks)).drop j = (x.tasks[j], (priosP x.tasks)[j]) :: (x.tasks.zip (priosP x.tasks)).drop (j + 1) := by
  rw [List.drop_eq_getElem_cons (by rw [List.length_zip]; omega), List.getElem_zip]
 rw [hdr, ceilGo] at hgo
 simp [hlt, hlt', x1, x2, sn, dl]
 generalize H4 ++ [Obj.arr (tkL x.tasks[j] pv) .tight] = H5 at *
 simp [l4]
 refine (locks339 lp sp4 t1 t2).mono ?_
 rintro r H6 ⟨k6, ow, hob⟩
 try simp
 refine (contains340 lp ow.sl i (by omega)).mono ?_
 rintro r H7 ⟨rfl, rfl⟩
 have g6 := k6.at g4' id
 have k6' : Keep (fun y => y = h1.length) H H7 := k4'.trans (k6.mono fun _ _ => False.elim)
 have hlk : decide ((i : Int) ∈ locksL x.tasks[j].prog) = hasLock x.tasks[j] i := rfl
 rw [hlk]
 by_cases hh : hasLock x.tasks[j] i = true
 case neg =>
  rw [if_neg hh] at hgo
  simp only [Bool.not_eq_true] at hh
  simp [hh, hw]
  exact ⟨n - (j + 1), by omega, j + 1, o, by omega, rfl, rfl, k6', g6, hgo⟩
 rw [if_pos hh] at hgo
 have gp6 := k6'.at gp2 (by omega)
 have hix : idxAddrV 1 (.sl h1.length 0 k k) (.int .i64 (i : Int)) = some (.ptr h1.length i) := by
  rw [idxAddrV_sl, if_pos ⟨by omega, by omega⟩]; simp
 have hip : idxAddrV 1 (.sl pb 0 n n) (.int .i64 (j : Int)) = some (.ptr pb j) := by
  rw [idxAddrV_sl, if_pos ⟨by omega, by omega⟩]; simp
 have L1 : loadAt H7 h1.length i none = some (.int .i64 o) := by
  rw [ld g6, ints_get, List.getElem?_set_self (by omega)]; rfl
 have L2 : loadAt H7 pb j none = some (.int .i64 (priosP x.tasks)[j]) := by
  rw [ld gp6, ints_get, List.getElem?_eq_getElem hjp]; rfl
 generalize (priosP x.tasks)[j] = q at *
 have s7 := sto1 g6 (o := i) (v := .int .i64 (max o q)) (by simp [ints]; omega) rfl
 have hset : (ints .i64 (lo.set i o)).set i (.int .i64 (max o q)) = ints .i64 (lo.set i (max o q)) := by simp [ints, List.map_set]
 rw [hset] at s7
 have g8 := get_set_self (o := .arr (ints .i64 (lo.set i (max o q))) .tight) (lt_of_get g6)
 have k8 : Keep (fun y => y = h1.length) H (H7.set h1.length (.arr (ints .i64 (lo.set i (max o q))) .tight)) := k6'.trans (Keep.set _ _ rfl)
 have L3 : loadAt (H7.set h1.length (.arr (ints .i64 (lo.set i (max o q))) .tight)) h1.length i none = some (.int .i64 (max o q)) := by
  rw [ld g8, ints_get, List.getElem?_set_self (by omega)]; rfl
 have hmq := mxL_two (a := o) (b := q)
 generalize max o q = z at *
 by_cases hz : z = n
 ·rw [if_pos hz] at hgo
  have := fin _ k8 (by rw [← hgo]; exact g8)
  subst hz
  simp [hh, hix, hip, L1, L2, L3, hmq, s7, hwi]
  simpa using this
 ·rw [if_neg hz] at hgo
  simp [hh, hix, hip, L1, L2, L3, hmq, s7, hz, hw]
  exact ⟨n - (j + 1), by omega, j + 1, z, by omega, rfl, rfl, k8, g8, hgo⟩
end Go.Cl
