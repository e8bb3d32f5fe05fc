/-
  Texts laid together: Cl18 ClPrim Cl16 Cl17 ClR ClH ClMap.
-/
import Derived.Test.YtlndogibbgibgaaGreatDoorM2
import Derived.Below
import Derived.Sort.Grow
import Derived.Deep.Draws
import Derived.Lib.ConvBytes
import Derived.ChangeArms
import Derived.ProofKit
import Derived.ChangeCalls
namespace Go.Cl
open Go
set_option linter.unusedSimpArgs false
set_option linter.unusedVariables false
mutual
def CV.flat : CV → Bool
 | .ptr _ _ | .sl _ _ _ _ | .mp _ | .ch _ => false
 | .fn _ l => CV.flatL l
 | .ifc _ v => CV.flat v
 | .agg l => CV.flatL l
 | .tup l => CV.flatL l
 | _ => true
def CV.flatL : List CV → Bool
 | [] => true
 | v :: r => CV.flat v && CV.flatL r
end
mutual
theorem tr_flat (G : Gam) (m m' : Mp) : ∀ (v : CV), v.flat = true → tr G m v = tr G m' v
 | .int _ _, _ | .bool _, _ | .str _, _ | .nilp, _ | .nils, _ | .nilm, _ | .nilc, _ | .nilf, _ | .nili, _ => by simp [tr]
 | .ptr _ _, h | .sl _ _ _ _, h | .mp _, h | .ch _, h => by simp [CV.flat] at h
 | .fn f l, h => by simp only [tr]; rw [trL_flat G m m' l h]
 | .ifc t v, h => by simp only [tr]; rw [tr_flat G m m' v h]
 | .agg l, h => by simp only [tr]; rw [trL_flat G m m' l h]
 | .tup l, h => by simp only [tr]; rw [trL_flat G m m' l h]
theorem trL_flat (G : Gam) (m m' : Mp) : ∀ (l : List CV), CV.flatL l = true → trL G m l = trL G m' l
 | [], _ => rfl
 | v :: r, h => by
   simp only [CV.flatL, Bool.and_eq_true] at h
   simp only [trL]
   rw [tr_flat G m m' v h.1, trL_flat G m m' r h.2]
end
theorem flat_sim {P : Program} {G : Gam} {fid : FuncId} {vs : List CV} {r : CV} {h1 : Heap} (hv : CV.flatL vs = true) (hr : r.flat = true) (hc : CallSim P G fid vs G.K r h1) (h : Heap) : CallSim P G fid vs h r h := by
 intro m w rvs s ht
 have hm0 : ∀ b L, (fun k => if k < G.K.length then m k else none : Mp) b = some L → b < G.K.length ∧ m b = some L := by
  intro b L e
  by_cases hb : b < G.K.length
  ·simp [hb] at e; exact ⟨hb, e⟩
  ·simp [hb] at e
 rw [trL_flat G m (fun k => if k < G.K.length then m k else none) vs hv] at ht
 have hun : ∀ b, ¬ owned G.K b := by
  rintro b ⟨o, ho, hO⟩
  obtain ⟨_, ⟨g, q, rfl⟩, _⟩ := s.base b o ho
  cases hO
 have s0 : Sim G (fun k => if k < G.K.length then m k else none) G.K w := by
  refine ⟨fun b L e => (hm0 b L e).1, fun b L o e ho => ?_, fun b b' L L' _ _ _ hO _ => absurd hO (hun b), fun k o hk => ?_⟩
  ·obtain ⟨a1, ⟨g, q, rfl⟩, _⟩ := s.base b o ho
   exact s.obj b L _ (hm0 b L e).2 a1
  ·obtain ⟨_, a2, L, a3⟩ := s.base k o hk
   have hlt : k < G.K.length := by
    rcases Nat.lt_or_ge k G.K.length with g | g
    ·exact g
    ·simp [List.getElem?_eq_none g] at hk
   exact ⟨hk, a2, L, by simp [hlt, a3]⟩
 refine (hc _ w rvs s0 ht).mono fun e w' ⟨m', rv, he, hrv, hs', hev⟩ => ?_
 have hold : ∀ k, k < w.heap.size → w'.heap[k]? = w.heap[k]? := fun k hk => hev.frame k hk fun b L _ hO => absurd hO (hun b)
 exact ⟨m, rv, he, by rw [tr_flat G m m' r hr]; exact hrv, s.world fun b L e l => hold _ (s.blk_lt e l), ⟨Mp.le_refl _, Nat.le_refl _, fun _ _ e => ⟨e, rfl⟩, hev.os, hev.out, hev.size, fun k hk _ => hold k hk, fun b L e o => .inr ⟨b, L, e, o, rfl⟩⟩⟩
def yes (o : Option (CV × Heap)) : Bool := match o with | some (.bool true, _) => true | _ => false
def addKnown (l : List Nat) (pr : Prims) : Prims := fun f => match l.contains f with
 | true => some (fun vs h => match vs with | [] => some (.bool true, h) | _ => none)
 | false => pr f
def noPr : Prims := fun _ => none
theorem addKnown_ok {P : Program} {G : Gam} {Pg : Prog} {pr : Prims} (hmix : P.follows .mixedOrders = true) (hG : Good P G) (hLk : Linked P G Pg) (hPr : PrimOK P G pr) {l : List Nat}
  (hk : ∀ f ∈ l, ∃ n, yes (evCall Pg pr n f [] G.K) = true) : PrimOK P G (addKnown l pr) := by
 intro f g hf vs h r h' hev
 unfold addKnown at hf
 cases hc : l.contains f with
 | false => rw [hc] at hf; exact hPr f g hf vs h r h' hev
 | true =>
   rw [hc] at hf
   cases hf
   cases vs with
   | cons _ _ => simp at hev
   | nil =>
     simp at hev
     obtain ⟨rfl, rfl⟩ := hev
     refine ⟨Nat.le_refl _, fun fid hfid => ?_⟩
     obtain ⟨n, hy⟩ := hk f (by simpa using hc)
     cases ho : evCall Pg pr n f [] G.K with
     | none => simp [yes, ho] at hy
     | some q =>
       obtain ⟨v, h1⟩ := q
       have hv : v = .bool true := by
        rw [ho] at hy
        cases v <;> (try (cases hy; done))
        rename_i b
        cases b
        ·cases hy
        ·rfl
       subst hv
       exact flat_sim rfl rfl ((call_all hmix hG hLk hPr n).1 f [] G.K _ _ ho fid hfid) h
structure Calm (w w' : World) : Prop where
 os : w'.os = w.os
 out : w'.output = w.output
 size : w.heap.size ≤ w'.heap.size
 old : ∀ r, r < w.heap.size → w'.heap[r]? = w.heap[r]?
theorem Calm.refl (w : World) : Calm w w := ⟨rfl, rfl, Nat.le_refl _, fun _ _ => rfl⟩
theorem Calm.below {w w' : World} (h : RowKit.Below w.heap.size w w') : Calm w w' := ⟨h.os, h.output, h.size, h.block⟩
theorem Calm.grow (w : World) (k : Nat) (os : Array Go.Obj) : Calm w (Sort.grow (w.drewN k) os) := by
 refine ⟨rfl, rfl, ?_, fun r hr => ?_⟩
 ·show w.heap.size ≤ (w.heap ++ os).size
  simp
 ·show (w.heap ++ os)[r]? = _
  exact Array.getElem?_append_left hr
theorem Calm.alloc (w : World) (o : Go.Obj) : Calm w (w.alloc o) := by
 have g := WGrow.alloc w o
 exact ⟨g.os, g.out, g.size, g.old⟩
section
variable {P : Program} {G : Gam}
theorem Sim.fresh {m : Mp} {h : Heap} {w : World} (s : Sim G m h w) : m h.length = none := by
 cases hk : m h.length with
 | none => rfl
 | some L' => exact absurd (s.dom _ _ hk) (by omega)
theorem Sim.calm {m : Mp} {h : Heap} {w w' : World} (s : Sim G m h w) (c : Calm w w') : Sim G m h w' :=
 s.world fun b L e l => c.old _ (s.blk_lt e l)
theorem Evo.calm {m : Mp} {h : Heap} {w w' : World} (c : Calm w w') : Evo m h w m h w' :=
 ⟨Mp.le_refl _, Nat.le_refl _, fun _ _ e => ⟨e, rfl⟩, c.os, c.out, c.size, fun k hk _ => c.old k hk, fun b L e o => .inr ⟨b, L, e, o, rfl⟩⟩
theorem calm_sim {fid : FuncId} {vs : List CV} {r : CV} {h : Heap}
  (hc : ∀ m w rvs, Sim G m h w → trL G m vs = some rvs → ∃ rv, tr G m r = some rv ∧ Calls P fid rvs.toArray w fun e w' => e = .returned rv ∧ Calm w w') : CallSim P G fid vs h r h := by
 intro m w rvs s ht
 obtain ⟨rv, h1, h2⟩ := hc m w rvs s ht
 refine h2.mono fun e w' ⟨he, c⟩ => ⟨m, rv, he, h1, s.calm c, Evo.calm c⟩
theorem trL_str {m : Mp} {s : List UInt8} {r : List CV} {rvs : List Value} (h : trL G m (.str s :: r) = some rvs) : ∃ xs, rvs = .string ⟨s.toArray⟩ :: xs ∧ trL G m r = some xs := by
 obtain ⟨x, xs, h1, h2, rfl⟩ := trL_cons h
 simp [tr] at h1
 exact ⟨xs, by rw [h1], h2⟩
theorem trL_nil {m : Mp} {rvs : List Value} (h : trL G m [] = some rvs) : rvs = [] := by simpa [trL] using h.symm
end
inductive Ty where
 | int (k : IntKind)
 | bool
 | str
 | sl (e : Ty)
 | nil
 | cons (a b : Ty)
 deriving DecidableEq, Inhabited
def Ty.n : Ty → Nat
 | .nil => 0
 | .cons a b => a.n + b.n
 | _ => 1
def flds (P : Program) : Sum TypeId (List Field × Nat) → Option (List Field × Nat)
 | .inl t => match P.underlying t with
   | some (.struct fs) => some (fs.toList, 0)
   | _ => none
 | .inr x => some x
def tyM (P : Program) : Ty → Sum TypeId (List Field × Nat) → Bool
 | .int k, .inl t => (match P.underlying t with | some (.int k') => k == k' | _ => false) && P.cellsOf t == 1
 | .bool, .inl t => (match P.underlying t with | some .bool => true | _ => false) && P.cellsOf t == 1
 | .str, .inl t => (match P.underlying t with | some .string => true | _ => false) && P.cellsOf t == 1
 | .sl e, .inl t => (match P.underlying t with | some (.slice u) => tyM P e (.inl u) | _ => false) && P.cellsOf t == 1
 | .nil, x => (match flds P x with | some ([], _) => true | _ => false) && (match x with | .inl t => P.cellsOf t == 0 | _ => true)
 | .cons a b, x => (match flds P x with | some (f :: fs, off) => f.offset == off && tyM P a (.inl f.type) && tyM P b (.inr (fs, off + a.n)) | _ => false) &&
   (match x with | .inl t => P.cellsOf t == a.n + b.n | _ => true)
 | _, _ => false
def Sh (h : Heap) : Ty → List CV → Prop
 | .int k, c => ∃ n, c = [.int k n] ∧ (Lit.int k n).wf = true
 | .bool, c => ∃ b, c = [.bool b]
 | .str, c => ∃ s, c = [.str s] ∧ s.length ≤ maxLen
 | .sl e, c => c = [.nils] ∨ ∃ b n cs, c = [.sl b 0 n n] ∧ h[b]? = some (.arr cs .ro) ∧ cs.length = n * e.n ∧ n ≤ maxLen ∧ ∀ i, i < n → Sh h e ((cs.drop (i * e.n)).take e.n)
 | .nil, c => c = []
 | .cons a b, c => Sh h a (c.take a.n) ∧ Sh h b (c.drop a.n)
theorem Sh.more {h : Heap} (g : Heap) : ∀ {ty : Ty} {c : List CV}, Sh h ty c → Sh (h ++ g) ty c
 | .int _, _, k => k
 | .bool, _, k => k
 | .str, _, k => k
 | .nil, _, k => k
 | .cons _ _, _, k => ⟨Sh.more g k.1, Sh.more g k.2⟩
 | .sl e, _, k => by
   rcases k with k | ⟨b, n, cs, k1, k2, k3, k4, k5⟩
   ·exact .inl k
   ·refine .inr ⟨b, n, cs, k1, ?_, k3, k4, fun i hi => Sh.more g (k5 i hi)⟩
    have : b < h.length := (List.getElem?_eq_some_iff.1 k2).1
    rw [List.getElem?_append_left this]; exact k2
theorem tyM_cells {P : Program} : ∀ {ty : Ty} {t : TypeId}, tyM P ty (.inl t) = true → P.cellsOf t = ty.n
 | .int _, t, h => by simp [tyM] at h; exact h.2
 | .bool, t, h => by simp [tyM] at h; exact h.2
 | .str, t, h => by simp [tyM] at h; exact h.2
 | .sl _, t, h => by simp [tyM] at h; exact h.2
 | .nil, t, h => by simp [tyM] at h; exact h.2
 | .cons _ _, t, h => by simp [tyM] at h; exact h.2
structure Inv (G : Gam) (m : Mp) (h : Heap) (w : World) : Prop where
 dom : ∀ b L, m b = some L → b < h.length
 obj : ∀ b L o, m b = some L → h[b]? = some o → ObjR G m L w o
 ro : ∀ o ∈ h, ownedO o = false
 base : ∀ k o, G.K[k]? = some o → h[k]? = some o ∧ (∃ g q, o = .pin g q) ∧ ∃ L, m k = some L
theorem Inv.sim {G : Gam} {m : Mp} {h : Heap} {w : World} (i : Inv G m h w) : Sim G m h w := by
 refine ⟨i.dom, i.obj, ?_, i.base⟩
 rintro b b' L L' _ _ _ ⟨o, ho, hO⟩ _
 rw [i.ro o (List.mem_of_getElem? ho)] at hO
 cases hO
theorem Inv.owned {G : Gam} {m : Mp} {h : Heap} {w : World} (i : Inv G m h w) {b : Nat} : ¬ owned h b := by
 rintro ⟨o, ho, hO⟩
 rw [i.ro o (List.mem_of_getElem? ho)] at hO
 cases hO
theorem Inv.empty (G : Gam) (hK : G.K = []) (w : World) : Inv G (fun _ => none) [] w := ⟨fun b L h => (by cases h), fun b L o h => (by cases h), by simp, fun k o hk => by rw [hK] at hk; simp at hk⟩
theorem Inv.newO {G : Gam} {m : Mp} {h : Heap} {w : World} (i : Inv G m h w) {ob : Obj} {L : Loc} (hob : ownedO ob = false) (ho : ObjR G m L w ob) : m.le (m.upd h.length L) ∧ Inv G (m.upd h.length L) (h ++ [ob]) w := by
 have hn : m h.length = none := by
  cases hk : m h.length with
  | none => rfl
  | some L' => exact absurd (i.dom _ _ hk) (by omega)
 have hle := Mp.upd_le (L := L) hn
 refine ⟨hle, ⟨?_, ?_, ?_, fun k o hk => let ⟨a1, a0, L', a2⟩ := i.base k o hk; ⟨(List.getElem?_append_left (i.dom k L' a2)).trans a1, a0, L', hle _ _ a2⟩⟩⟩
 ·intro b L' e
  by_cases hb : b = h.length
  ·simp; omega
  ·simp [Mp.upd, hb] at e; have := i.dom b L' e; simp; omega
 ·intro b L' o e hg
  by_cases hb : b = h.length
  ·subst hb; rw [Mp.upd_same] at e; cases e
   simp at hg; subst hg
   exact ho.mono hle fun _ => rfl
  ·simp [Mp.upd, hb] at e
   rw [List.getElem?_append_left (i.dom b L' e)] at hg
   exact (i.obj b L' o e hg).mono hle fun _ => rfl
 ·intro o ho'
  rcases List.mem_append.1 ho' with k | k
  ·exact i.ro o k
  ·simp at k; subst k; exact hob
theorem Inv.new {G : Gam} {m : Mp} {h : Heap} {w : World} (i : Inv G m h w) {cs : List CV} {L : Loc} (ho : ObjR G m L w (.arr cs .ro)) : m.le (m.upd h.length L) ∧ Inv G (m.upd h.length L) (h ++ [.arr cs .ro]) w :=
 i.newO (by simp [ownedO]) ho
structure Laid (G : Gam) (m : Mp) (h : Heap) (w : World) (m' : Mp) (h' : Heap) : Prop where
 inv : Inv G m' h' w
 le : m.le m'
 pre : ∃ g, h' = h ++ g
theorem Laid.trans {G : Gam} {m m1 m2 : Mp} {h h1 h2 : Heap} {w : World} (a : Laid G m h w m1 h1) (b : Laid G m1 h1 w m2 h2) : Laid G m h w m2 h2 := by
 obtain ⟨g1, e1⟩ := a.pre
 obtain ⟨g2, e2⟩ := b.pre
 exact ⟨b.inv, Mp.le_trans a.le b.le, g1 ++ g2, by rw [e2, e1, List.append_assoc]⟩
theorem Sh.laid {G : Gam} {m m' : Mp} {h h' : Heap} {w : World} (a : Laid G m h w m' h') {ty : Ty} {c : List CV} (k : Sh h ty c) : Sh h' ty c := by
 obtain ⟨g, rfl⟩ := a.pre
 exact k.more g
section
variable {H : Type} {enc : TypeId × Value → H} {P : Program} {w : World} {G : Gam}
theorem cells?_get {w : World} {base : Nat} {a : Addr} {n : Nat} {cs : List Value} (h : w.cells? base a n = some cs) : cs.length = n ∧ ∀ i, i < n → w.cell? (a.add i) = cs[i]? := by
 unfold World.cells? at h
 split at h
 ·exact ⟨by simpa using mapM_some_length h, fun i hi => mapM_some_get h i i (by simp [hi])⟩
 ·cases h
theorem cell?_get {w : World} {a : Addr} {v : Value} (h : w.cell? a = some v) : a.spot = none ∧ ∃ C e fr, w.heap[a.block]? = some (.cells C e fr) ∧ C[a.off]? = some v := by
 unfold World.cell? at h
 split at h
 ·rename_i C e fr hh
  split at h
  ·cases h
  ·rename_i hs
   exact ⟨by simpa using hs, C, e, fr, hh, h⟩
 ·cases h
theorem addr_add_add (a : Addr) (i j : Nat) : (a.add i).add j = a.add (i + j) := by
 unfold Addr.add
 by_cases h : i = 0 <;> by_cases h2 : j = 0 <;> simp [h, h2]
 omega
def Reads (P : Program) (G : Gam) (w : World) (H : Type) (enc : TypeId × Value → H) (ty : Ty) : Prop :=
 (∀ t, tyM P ty (.inl t) = true → ∀ fuel (cs : List Value) (x : DataW H × List MemPlace) m h, DataW.trod enc P w 0 (fun _ => true) true fuel t cs = some x → Inv G m h w →
  ∃ m' h' ccs, Laid G m h w m' h' ∧ trL G m' ccs = some cs ∧ ccs.length = ty.n ∧ Sh h' ty ccs) ∧
 (∀ fs off, tyM P ty (.inr (fs, off)) = true → ∀ fuel (cs : List Value) (xs : List (DataW H × List MemPlace)) m h, xs.length = fs.length → (∀ (i : Nat) f, fs[i]? = some f → DataW.trod enc P w 0 (fun _ => true) true fuel f.type ((cs.drop f.offset).take (P.cellsOf f.type)) = xs[i]?) →
  cs.length = off + ty.n → Inv G m h w →
  ∃ m' h' ccs, Laid G m h w m' h' ∧ trL G m' ccs = some (cs.drop off) ∧ ccs.length = ty.n ∧ Sh h' ty ccs)
theorem Laid.refl {m : Mp} {h : Heap} (i : Inv G m h w) : Laid G m h w m h := ⟨i, Mp.le_refl _, [], by simp⟩
theorem reads_one {ty : Ty} (hno : ∀ x, tyM P ty (.inr x) = false)
  (h1 : ∀ t, tyM P ty (.inl t) = true → ∀ fuel (cs : List Value) (x : DataW H × List MemPlace), DataW.trod enc P w 0 (fun _ => true) true fuel t cs = some x → ∃ c, (∀ m : Mp, trL G m [c] = some cs) ∧ ∀ h, Sh h ty [c]) (hn : ty.n = 1) : Reads P G w H enc ty := by
 refine ⟨fun t ht fuel cs x m h hx i => ?_, fun fs off ht => by rw [hno] at ht; cases ht⟩
 obtain ⟨c, k1, k2⟩ := h1 t ht fuel cs x hx
 exact ⟨m, h, [c], Laid.refl i, k1 m, by simp [hn], k2 h⟩
theorem reads_cons {a b : Ty} (ha : Reads P G w H enc a) (hb : Reads P G w H enc b) : Reads P G w H enc (.cons a b) := by
 have key : ∀ (f : Field) fs off, f.offset = off → tyM P a (.inl f.type) = true → tyM P b (.inr (fs, off + a.n)) = true → ∀ fuel (cs : List Value) (xs : List (DataW H × List MemPlace)) m h, xs.length = (f :: fs).length →
   (∀ (i : Nat) g, (f :: fs)[i]? = some g → DataW.trod enc P w 0 (fun _ => true) true fuel g.type ((cs.drop g.offset).take (P.cellsOf g.type)) = xs[i]?) →
   cs.length = off + (a.n + b.n) → Inv G m h w →
   ∃ m' h' ccs, Laid G m h w m' h' ∧ trL G m' ccs = some (cs.drop off) ∧ ccs.length = a.n + b.n ∧ Sh h' (.cons a b) ccs := by
  intro f fs off hoff hta htb fuel cs xs m h hl hget hlen i
  cases xs with
  | nil => simp at hl
  | cons x xs =>
  have h0 := hget 0 f rfl
  simp at h0
  obtain ⟨m1, h1, c1, l1, t1, n1, s1⟩ := ha.1 f.type hta fuel _ x m h h0 i
  obtain ⟨m2, h2, c2, l2, t2, n2, s2⟩ := hb.2 fs (off + a.n) htb fuel cs xs m1 h1 (by simpa using hl) (fun j g hg => by simpa using hget (j + 1) g (by simpa using hg)) (by omega) l1.inv
  refine ⟨m2, h2, c1 ++ c2, l1.trans l2, ?_, by simp [n1, n2], ?_⟩
  ·have := trL_append (trL_mono G l2.le _ _ t1) t2
   rw [this, tyM_cells hta, hoff]
   congr 1
   rw [← List.drop_drop]
   exact List.take_append_drop _ _
  ·refine ⟨?_, ?_⟩
   ·rw [show List.take a.n (c1 ++ c2) = c1 by rw [← n1]; simp]; exact s1.laid l2
   ·rw [show List.drop a.n (c1 ++ c2) = c2 by rw [← n1]; simp]; exact s2
 refine ⟨?_, ?_⟩
 ·intro t ht fuel cs x m h hx i
  simp only [tyM, Bool.and_eq_true, beq_iff_eq, flds] at ht
  obtain ⟨ht, hc⟩ := ht
  cases hu : P.underlying t with
  | none => simp [hu] at ht
  | some u =>
    cases u <;> simp only [hu] at ht <;> (try (cases ht; done))
    rename_i fs
    obtain ⟨xs, n, rfl, rfl, hl, hlen, hget⟩ := DataW.trod_struct hu hx
    cases hfs : fs.toList with
    | nil => simp [hfs] at ht
    | cons f fr =>
      simp only [hfs, Bool.and_eq_true, beq_iff_eq] at ht
      obtain ⟨⟨h1, h2⟩, h3⟩ := ht
      have hg2 : ∀ (i : Nat) g, (f :: fr)[i]? = some g → DataW.trod enc P w 0 (fun _ => true) true n g.type ((cs.drop g.offset).take (P.cellsOf g.type)) = xs[i]? := by
       intro i g hg
       refine hget i g ?_
       rw [← hfs] at hg
       simpa using hg
      have hlen' : xs.length = (f :: fr).length := by rw [hlen, ← hfs]; simp
      obtain ⟨m', h', ccs, k1, k2, k3, k4⟩ := key f fr 0 h1 h2 h3 n cs xs m h hlen' hg2 (by rw [hl, hc]; omega) i
      exact ⟨m', h', ccs, k1, by simpa using k2, by simpa [Ty.n] using k3, k4⟩
 ·intro fs off ht fuel cs xs m h hl hget hlen i
  simp only [tyM, flds, Bool.and_eq_true] at ht
  obtain ⟨ht, _⟩ := ht
  cases fs with
  | nil => simp at ht
  | cons f fr =>
    simp only [Bool.and_eq_true, beq_iff_eq] at ht
    obtain ⟨⟨h1, h2⟩, h3⟩ := ht
    obtain ⟨m', h', ccs, k1, k2, k3, k4⟩ := key f fr off h1 h2 h3 fuel cs xs m h hl hget (by simpa [Ty.n] using hlen) i
    exact ⟨m', h', ccs, k1, k2, by simpa [Ty.n] using k3, k4⟩
theorem reads_nil : Reads P G w H enc .nil := by
 refine ⟨?_, ?_⟩
 ·intro t ht fuel cs x m h hx i
  simp only [tyM, Bool.and_eq_true, beq_iff_eq, flds] at ht
  obtain ⟨ht, hc⟩ := ht
  cases hu : P.underlying t with
  | none => simp [hu] at ht
  | some u =>
    cases u <;> simp only [hu] at ht <;> (try (cases ht; done))
    obtain ⟨xs, n, rfl, rfl, hl, hlen, hget⟩ := DataW.trod_struct hu hx
    rw [hc] at hl
    obtain rfl := List.length_eq_zero_iff.1 hl
    exact ⟨m, h, [], Laid.refl i, rfl, rfl, rfl⟩
 ·intro fs off ht fuel cs xs m h hl hget hlen i
  refine ⟨m, h, [], Laid.refl i, ?_, rfl, rfl⟩
  have : cs.length ≤ off := by simp [Ty.n] at hlen; omega
  rw [List.drop_eq_nil_of_le this]; rfl
theorem reads_sl {e : Ty} (he : Reads P G w H enc e) : Reads P G w H enc (.sl e) := by
 refine ⟨?_, fun fs off ht => by simp [tyM] at ht⟩
 intro t ht fuel cs x m h hx i
 simp only [tyM, Bool.and_eq_true, beq_iff_eq] at ht
 obtain ⟨ht, hc⟩ := ht
 cases hu : P.underlying t with
 | none => simp [hu] at ht
 | some u =>
   cases u <;> simp only [hu] at ht <;> (try (cases ht; done))
   rename_i et
   have hce := tyM_cells ht
   rcases DataW.trod_slice hu hx with ⟨rfl, _⟩ | ⟨a, len, cap, elems, rest, n, rfl, rfl, _, _, hlc, hcm, hel, hget, _, _⟩
   ·exact ⟨m, h, [.nils], Laid.refl i, rfl, rfl, .inl rfl⟩
   ·rw [hce] at hget
    have hb : ∀ k, k ≤ len → ∃ (m' : Mp) (h' : Heap) (ccs : List CV), Laid G m h w m' h' ∧ ccs.length = k * e.n ∧ (∀ j, j < k → Sh h' e ((ccs.drop (j * e.n)).take e.n)) ∧
      (∀ (j : Nat) v, ccs[j]? = some v → ∃ rv, tr G m' v = some rv ∧ w.cell? (a.add j) = some rv) := by
     intro k
     induction k with
     | zero => intro _; exact ⟨m, h, [], Laid.refl i, by simp, by intro j hj; omega, by simp⟩
     | succ k ih =>
       intro hk
       obtain ⟨m1, h1, c1, l1, n1, s1, r1⟩ := ih (by omega)
       have hg := hget k (by omega)
       have hk' : k < elems.length := by omega
       rw [List.getElem?_eq_getElem hk'] at hg
       obtain ⟨cv, hcv, htr⟩ := Option.bind_eq_some_iff.1 hg
       obtain ⟨hlv, hcell⟩ := cells?_get hcv
       obtain ⟨m2, h2, c2, l2, t2, n2, s2⟩ := he.1 et ht n cv _ m1 h1 htr l1.inv
       refine ⟨m2, h2, c1 ++ c2, l1.trans l2, ?_, ?_, ?_⟩
       ·rw [List.length_append, n1, n2, Nat.succ_mul]
       ·intro j hj
        by_cases hjk : j = k
        ·subst hjk
         rw [← n1, List.drop_left, ← n2, List.take_length]; exact s2
        ·have hj2 : (j + 1) * e.n ≤ k * e.n := Nat.mul_le_mul_right _ (by omega)
         rw [Nat.succ_mul] at hj2
         rw [List.drop_append_of_le_length (by rw [n1]; omega), List.take_append_of_le_length (by rw [List.length_drop, n1]; omega)]
         exact (s1 j (by omega)).laid l2
       ·intro j v hv
        by_cases hjl : j < c1.length
        ·rw [List.getElem?_append_left hjl] at hv
         obtain ⟨rv, q1, q2⟩ := r1 j v hv
         exact ⟨rv, tr_mono G l2.le _ _ q1, q2⟩
        ·rw [List.getElem?_append_right (by omega)] at hv
         obtain ⟨rv, q1, q2⟩ := trL_get t2 _ v hv
         refine ⟨rv, q1, ?_⟩
         have hlt : j - c1.length < e.n := by have := (List.getElem?_eq_some_iff.1 hv).1; omega
         have := hcell (j - c1.length) hlt
         rw [q2] at this
         rw [← this, addr_add_add]
         congr 2
         omega
    obtain ⟨m1, h1, c1, l1, n1, s1, r1⟩ := hb len (Nat.le_refl _)
    have hobj : ObjR G m1 ⟨a.block, a.off, cap - len, a.spot⟩ w (.arr c1 .ro) := by
     cases hc1 : c1 with
     | nil => exact .inl ⟨rfl, rfl⟩
     | cons v0 vr =>
       obtain ⟨rv0, q0, p0⟩ := r1 0 v0 (by simp [hc1])
       obtain ⟨hs, C, et', fr, hh, _⟩ := cell?_get p0
       have hsp : a.spot = none := by simpa [Addr.add] using hs
       refine .inr ⟨C, et', fr, hsp, by simpa [Addr.add] using hh, ?_, fun k => absurd rfl k⟩
       intro j v hv
       obtain ⟨rv, q1, q2⟩ := r1 j v (by rw [hc1]; exact hv)
       refine ⟨rv, q1, ?_⟩
       obtain ⟨_, C', e', fr', hh', hv'⟩ := cell?_get q2
       have ha : a = ⟨a.block, a.off, none⟩ := by cases a; simp_all
       rw [ha, Addr.add_lit] at hh' hv'
       have : w.heap[a.block]? = some (.cells C et' fr) := by simpa [Addr.add] using hh
       rw [this] at hh'
       cases hh'
       exact hv'
    obtain ⟨hle, hinv⟩ := l1.inv.new hobj
    refine ⟨_, _, [.sl h1.length 0 len len], l1.trans ⟨hinv, hle, [_], rfl⟩, ?_, rfl, .inr ⟨h1.length, len, c1, rfl, by simp, n1, by omega, fun j hj => (s1 j hj).more _⟩⟩
    have hcap : len + (cap - len) = cap := by omega
    simp [trL, tr, Mp.upd_same, Loc.ad, Addr.add, hcap]
theorem reads : ∀ (ty : Ty), Reads P G w H enc ty
 | .int k => by
   refine reads_one (by intro x; rfl) ?_ rfl
   intro t ht fuel cs x hx
   simp only [tyM, Bool.and_eq_true] at ht
   cases hu : P.underlying t with
   | none => simp [hu] at ht
   | some u =>
     cases u <;> simp [hu] at ht
     rename_i k'
     obtain ⟨rfl, _⟩ := ht
     obtain ⟨n, rfl, _, hwf⟩ := DataW.trod_int hu hx
     exact ⟨.int k n, fun m => rfl, fun h => ⟨n, rfl, hwf⟩⟩
 | .bool => by
   refine reads_one (by intro x; rfl) ?_ rfl
   intro t ht fuel cs x hx
   simp only [tyM, Bool.and_eq_true] at ht
   cases hu : P.underlying t with
   | none => simp [hu] at ht
   | some u =>
     cases u <;> simp [hu] at ht
     obtain ⟨b, rfl, _⟩ := DataW.trod_bool hu hx
     exact ⟨.bool b, fun m => rfl, fun h => ⟨b, rfl⟩⟩
 | .str => by
   refine reads_one (by intro x; rfl) ?_ rfl
   intro t ht fuel cs x hx
   simp only [tyM, Bool.and_eq_true] at ht
   cases hu : P.underlying t with
   | none => simp [hu] at ht
   | some u =>
     cases u <;> simp [hu] at ht
     obtain ⟨s, rfl, _, hl⟩ := DataW.trod_string hu hx
     exact ⟨.str s.data.toList, fun m => by simp [trL, tr], fun h => ⟨_, rfl, by simpa using hl⟩⟩
 | .sl e => reads_sl (reads e)
 | .nil => reads_nil
 | .cons a b => reads_cons (reads a) (reads b)
end
open Go Go.ChangeShapes Go.WideShapes Go.RowKit
def Ty.isSt : Ty → Bool
 | .nil => true
 | .cons _ _ => true
 | _ => false
def Arg (h : Heap) (ty : Ty) (v : CV) : Prop :=
 match ty.isSt with
 | true => ∃ c, v = .agg c ∧ c.length = ty.n ∧ Sh h ty c
 | false => Sh h ty [v]
def ArgL (h : Heap) : List Ty → List CV → Prop
 | [], [] => True
 | t :: ts, v :: vs => Arg h t v ∧ ArgL h ts vs
 | _, _ => False
theorem Arg.laid {G : Gam} {m m' : Mp} {h h' : Heap} {w : World} (a : Laid G m h w m' h') {ty : Ty} {v : CV} (k : Arg h ty v) : Arg h' ty v := by
 unfold Arg at *
 cases he : ty.isSt <;> rw [he] at k
 ·exact Sh.laid a k
 ·obtain ⟨c, k1, k2, k3⟩ := k; exact ⟨c, k1, k2, k3.laid a⟩
def tysM (P : Program) : List Ty → List TypeId → Bool
 | [], [] => true
 | ty :: tys, t :: ts => tyM P ty (.inl t) && tysM P tys ts
 | _, _ => false
section
variable {H : Type} {enc : TypeId × Value → H} {P : Program} {w : World} {G : Gam}
theorem okWide_shape {ty : Ty} {t : TypeId} {v : Value} {base : Nat} (ht : tyM P ty (.inl t) = true) (hv : Value.okWide P w .any base t v) :
  (ty.isSt = true → ∃ cs, v = .agg cs) ∧ (ty.isSt = false → v.cells = #[v]) := by
 have noagg : ∀ (hc : Cell.okWide P w .any base t v), (∀ u, P.underlying t = some u → ∀ l, u ≠ .struct l) → ∀ l, v ≠ .agg l := by
  intro hc _ l e
  subst e
  unfold Cell.okWide at hc
  split at hc <;> (try (rename_i h1 h2; cases h2; done)) <;> (try (rename_i h1; cases h1; done))
  unfold Cell.ok at hc
  split at hc <;> simp_all
 have cells1 : (∀ l, v ≠ .agg l) → v.cells = #[v] := by
  intro h
  cases v <;> first | rfl | exact absurd rfl (h _)
 refine ⟨fun hs => ?_, fun hs => ?_⟩
 ·have : ∃ fs, P.underlying t = some (.struct fs) := by
   cases ty <;> simp [Ty.isSt] at hs <;> simp only [tyM, Bool.and_eq_true, flds] at ht <;>
    (cases hu : P.underlying t with
    | none => simp [hu] at ht
    | some u => cases u <;> simp [hu] at ht <;> exact ⟨_, rfl⟩)
  obtain ⟨fs, hfs⟩ := this
  unfold Value.okWide at hv
  rw [hfs] at hv
  obtain ⟨cs, rfl, _⟩ := hv
  exact ⟨cs, rfl⟩
 ·have hu : ∃ u, P.underlying t = some u ∧ (∀ l, u ≠ .struct l) ∧ ∀ n e, u ≠ .array n e := by
   cases ty <;> simp [Ty.isSt] at hs <;> simp only [tyM, Bool.and_eq_true] at ht <;>
    (cases hu : P.underlying t with
    | none => simp [hu] at ht
    | some u => cases u <;> simp [hu] at ht <;> exact ⟨_, rfl, by simp, by simp⟩)
  obtain ⟨u, hu, h1, h2⟩ := hu
  refine cells1 (noagg ?_ fun u' hu' l => ?_)
  ·unfold Value.okWide at hv
   rw [hu] at hv
   cases u <;> first | exact hv | exact absurd rfl (h1 _) | exact absurd rfl (h2 _ _)
  ·rw [hu] at hu'; cases hu'; exact h1 l
theorem arg_of {ty : Ty} {t : TypeId} {v : Value} {base : Nat} {d : DataW H} {p : List MemPlace} {m : Mp} {h : Heap} (ht : tyM P ty (.inl t) = true) (hv : Value.okWide P w .any base t v)
  (hd : DataW.Trod enc P w 0 (fun _ => true) true t v d p) (i : Inv G m h w) : ∃ m' h' c, Laid G m h w m' h' ∧ tr G m' c = some v ∧ Arg h' ty c := by
 obtain ⟨fuel, hd⟩ := hd
 obtain ⟨m', h', ccs, k1, k2, k3, k4⟩ := (reads (H := H) (enc := enc) (P := P) (w := w) (G := G) ty).1 t ht fuel _ _ m h hd i
 obtain ⟨o1, o2⟩ := okWide_shape ht hv
 cases hs : ty.isSt with
 | true =>
   obtain ⟨cs, rfl⟩ := o1 hs
   refine ⟨m', h', .agg ccs, k1, ?_, ?_⟩
   ·have : trL G m' ccs = some cs.toList := k2
    simp [tr, this]
   ·unfold Arg; rw [hs]; exact ⟨ccs, rfl, k3, k4⟩
 | false =>
   have hc := o2 hs
   rw [hc] at k2
   have hn : ty.n = 1 := by cases ty <;> first | rfl | simp [Ty.isSt] at hs
   rw [hn] at k3
   match ccs, k3 with
   | [c], _ =>
     refine ⟨m', h', c, k1, ?_, ?_⟩
     ·obtain ⟨x, xs, q1, q2, q3⟩ := trL_cons k2
      simp [trL] at q2; subst q2; simp at q3; subst q3; exact q1
     ·unfold Arg; rw [hs]; exact k4
theorem args_of : ∀ (tys : List Ty) (ts : List TypeId) (vs : List Value) (ds : List (DataW H)) (ps : List MemPlace) (base : Nat) (m : Mp) (h : Heap), tysM P tys ts = true →
  DataW.TrodAll enc P w 0 (fun _ => true) true ts vs ds ps → (∀ (j : Nat) t v, ts[j]? = some t → vs[j]? = some v → Value.okWide P w .any base t v) → Inv G m h w →
  ∃ m' h' cs, Laid G m h w m' h' ∧ trL G m' cs = some vs ∧ ArgL h' tys cs
 | [], [], vs, ds, ps, base, m, h, _, hd, _, i => by
   obtain ⟨rfl, _⟩ := trodAll_nil hd
   exact ⟨m, h, [], Laid.refl i, rfl, trivial⟩
 | ty :: tys, t :: ts, vs, ds, ps, base, m, h, ht, hd, hok, i => by
   simp only [tysM, Bool.and_eq_true] at ht
   obtain ⟨v, vs', d, ds', p, q, rfl, rfl, rfl, h1, h2⟩ := trodAll_cons hd
   obtain ⟨m1, hp1, c, l1, t1, a1⟩ := arg_of ht.1 (hok 0 t v rfl rfl) h1 i
   obtain ⟨m2, hp2, cs, l2, t2, a2⟩ := args_of tys ts vs' ds' q base m1 hp1 ht.2 h2 (fun j t' v' e e' => hok (j + 1) t' v' (by simpa using e) (by simpa using e')) l1.inv
   exact ⟨m2, hp2, c :: cs, l1.trans l2, trL_cons_mk (tr_mono G l2.le _ _ t1) t2, a1.laid l2, a2⟩
 | [], _ :: _, _, _, _, _, _, _, ht, _, _, _ => by simp [tysM] at ht
 | _ :: _, [], _, _, _, _, _, _, ht, _, _, _ => by simp [tysM] at ht
theorem trodAll_stays (hl : laidOutB P = true) {W W' : World} (hb : ∀ k, k < W.heap.size → W'.heap[k]? = W.heap[k]?) : ∀ (ts : List TypeId) (vs : List Value) (ds : List (DataW H)) (ps : List MemPlace),
  (∀ t ∈ ts, P.readableRec t = true ∧ t < P.types.size) → DataW.TrodAll enc P W 0 (fun _ => true) true ts vs ds ps → (∀ p ∈ ps, p.block < W.heap.size) →
  DataW.TrodAll enc P W' 0 (fun b => decide (b < W.heap.size)) true ts vs ds ps
 | [], vs, ds, ps, _, hd, _ => by
   obtain ⟨rfl, rfl, rfl⟩ := trodAll_nil hd
   rfl
 | t :: ts, vs, ds, ps, hr, hd, hlt => by
   obtain ⟨v, vs', d, ds', p, q, rfl, rfl, rfl, h1, h2⟩ := trodAll_cons hd
   obtain ⟨r1, r2⟩ := hr t (by simp)
   refine ⟨p, q, WideElems.Trod_stays hl r1 r2 h1 ?_ (fun x hx => by simpa using hlt x (by simp [hx])), trodAll_stays hl hb ts vs' ds' q (fun t' ht' => hr t' (by simp [ht'])) h2 (fun x hx => hlt x (by simp [hx])), rfl⟩
   intro x hx
   have hk := hlt x (by simp [hx])
   cases x with
   | cell b o => exact World.cell?_of_block (w := W) (hb b hk)
   | map b => exact hb b hk
theorem law_lifted_laid {C : Checked} {os : Os} {f : FuncId} {fn : Func} {s : ChangeSpec} {tys : List Ty} {g : Nat} {Pg : Prog} {pr : Prims} {tb : TypeId} {conds : List PathCond} {X : World → Array Value → Prop}
  (hX : ∀ (w w' : World) (args : Array Value), w.heap = w'.heap → X w args → X w' args)
  (own : ownKnob C.prog.godebug = none) (started : os.Started) (noInit : C.prog.inits.idxOf? f = none) (hfn : C.prog.funcs[f]? = some fn)
  (witness : ∃ (w : World) (tape : Tape) (i : Input), w.os = os ∧ (w.forCall tape i).Shaped C.prog ∧ i.vars = [] ∧ Input.okWide C.prog (w.forCall tape i) .any w.heap.size f i ∧
   ((s.pre enc C.prog fn conds false (w.forCall tape i).memory i.args ∧ X (w.forCall tape i).memory i.args) ∧ sizedMet enc C.prog fn (OpenSpec.ofChange s) false (w.forCall tape i).memory i.args) ∧ (Assume.holds {} C.prog (lone (Frame.enter C.prog f i.args .normal) [] (w.forCall tape i))))
  (hvars : s.vars = []) (hspec : ∀ ds : List (DataW H), ds.length = fn.params.size → s.fn H ds = { results := [.lit (.bool true)], args := ds })
  (hres : fn.resultTypes = #[tb]) (htb : C.prog.underlying tb = some .bool) (hlaid : laidOutB C.prog = true)
  (hpar : fn.params.toList.all (fun t => C.prog.readableRec t && decide (t < C.prog.types.size)) = true) (htys : tysM C.prog tys fn.params.toList = true)
  (hmix : C.prog.follows .mixedOrders = true) (hG : Good C.prog G) (hLk : Linked C.prog G Pg) (hPr : PrimOK C.prog G pr) (hg : G.F g = some f)
  (hbase : ∀ W args, X W args → W.ShapedOpen C.prog → ∃ m, Inv G m G.K W)
  (law : ∀ (h : Heap) (args : List CV), ArgL h tys args → ∃ n h', evCall Pg pr n g args h = some (.bool true, h')) :
  ReturnsInHanded {} C os f .any (fun w args => (s.pre enc C.prog fn conds false w args ∧ X w args) ∧ sizedMet enc C.prog fn (OpenSpec.ofChange s) false w args) (s.post enc C.prog fn false true false false) := by
 refine returnsInHanded_of_calls own started noInit witness ?_
 intro w tape i _ hsh _ hok hpre hholds
 obtain ⟨_, _, _, fn', hfn', _, _, _, _, hval⟩ := hok
 have e : fn' = fn := Option.some.inj (hfn'.symm.trans hfn)
 subst e
 obtain ⟨⟨⟨ds, gs, before, hw, hc0⟩, hx⟩, hz⟩ := hpre
 have hw' := DataW.Whole.of_heap (w' := w.forCall tape i) (by rfl) hw
 have hxx : X (w.forCall tape i) i.args := hX _ _ _ (by rfl) hx
 clear hx hz hc0 hw witness
 generalize hWW : w.forCall tape i = W at *
 generalize hbb : w.heap.size = base at *
 generalize hAA : i.args = args at *
 suffices hfin : Calls C.prog f args W fun e W' => ∃ v, e = .returned v ∧ s.post enc C.prog fn' false true false false W args v W' by
  refine hfin.mono fun e W' ⟨v, he, hp⟩ => ?_
  subst he
  exact ChangeSpec.post_blind hp
 have hW := hw'
 have hW0 := hW
 obtain ⟨p, q, hA, hV, rfl, _, _⟩ := hW
 obtain ⟨m0, i0⟩ := hbase W args hxx hsh
 obtain ⟨m, h, cs, l, ht, ha⟩ := args_of tys fn'.params.toList args.toList ds p base m0 G.K htys hA (fun j t v e e' => hval j t v (by simpa using e) (by simpa using e')) i0
 obtain ⟨n, h', hev⟩ := law h cs ha
 have hc := ((call_all hmix hG hLk hPr n).1 g cs _ _ _ hev f hg) m W args.toList l.inv.sim ht
 rw [show args.toList.toArray = args by simp] at hc
 refine hc.mono fun e W' ⟨m', rv, he, hrv, hs', hevo⟩ => ?_
 simp [tr] at hrv
 subst hrv
 refine ⟨.bool true, he, ?_⟩
 have hb : ∀ k, k < W.heap.size → W'.heap[k]? = W.heap[k]? := fun k hk => hevo.frame k hk fun b L _ ho => absurd ho l.inv.owned
 have hgs : gs = [] ∧ q = [] := by
  rw [hvars] at hV
  cases gs with
  | nil => exact ⟨rfl, hV⟩
  | cons _ _ => exact hV.elim
 obtain ⟨rfl, rfl⟩ := hgs
 have hlen : ds.length = fn'.params.size := by
  have := (trodAll_length hA).2
  simpa using this
 have hlt : ∀ x ∈ p, x.block < W.heap.size := hA.lt
 refine ⟨ds, [], p ++ [], [], p, [], hW0, ?_, ?_, ?_, ?_, ?_⟩
 ·rw [List.append_nil, hspec ds hlen, hres]
  exact trodAll_mk1 (shut_bool htb true)
 ·rw [List.append_nil, hspec ds hlen]
  exact trodAll_stays hlaid hb _ _ _ _ (fun t htm => by simpa using List.all_eq_true.1 hpar t htm) hA hlt
 ·rw [List.append_nil, hspec ds hlen, hvars]
  rfl
 ·refine ⟨hevo.os, hevo.out, fun i hi => ?_⟩
  rw [hb i hi]
  cases hh : W.heap[i]? with
  | none => rfl
  | some o => cases o <;> first | rfl | exact ⟨rfl, rfl, rfl, fun _ _ => rfl⟩ | exact .inr ⟨rfl, rfl⟩
 ·intro hc; cases hc
end
structure PP where
 Pg : Prog
 pr : Prims
def PP.call (p : PP) (n : Nat) : CallF := evCall p.Pg p.pr n
theorem PP.le (p : PP) {n n' : Nat} (h : n ≤ n') : CallLe (p.call n) (p.call n') := evCall_le _ _ n n' h
def OV {α : Type} (o : Option α) (K : α → Prop) : Prop := ∃ v, o = some v ∧ K v
@[simp ↓] theorem OV_some {α : Type} {v : α} {K : α → Prop} : OV (some v) K = K v := by simp [OV]
@[simp] theorem OV_none {α : Type} {K : α → Prop} : OV none K = False := by simp [OV]
section
variable (p : PP)
def WF (f : Nat) (vs : List CV) (h : Heap) (K : CV → Heap → Prop) : Prop := ∃ n r h', p.call n f vs h = some (r, h') ∧ K r h'
def W1 (op : SOp) (e : Env) (h : Heap) (K : CV → Heap → Prop) : Prop := ∃ n r h', evOp (p.call n) op e h = some (r, h') ∧ K r h'
def WO (all l : List SOper) (e : Env) (h : Heap) (K : Env → Heap → Prop) : Prop := ∃ n e' h', evOps (p.call n) all l e h = some (e', h') ∧ K e' h'
def W (c : SCode) (e : Env) (h : Heap) (Q : Ex → Env → Heap → Prop) : Prop := ∃ n k x e' h', evC (p.call n) k c e h = some (x, e', h') ∧ Q x e' h'
variable {p}
theorem WF.mono {f : Nat} {vs : List CV} {h : Heap} {K K' : CV → Heap → Prop} (w : WF p f vs h K) (k : ∀ r h', K r h' → K' r h') : WF p f vs h K' :=
 let ⟨n, r, h', a, b⟩ := w; ⟨n, r, h', a, k r h' b⟩
theorem W.mono {c : SCode} {e : Env} {h : Heap} {Q Q' : Ex → Env → Heap → Prop} (w : W p c e h Q) (k : ∀ x e' h', Q x e' h' → Q' x e' h') : W p c e h Q' :=
 let ⟨n, m, x, e', h', a, b⟩ := w; ⟨n, m, x, e', h', a, k x e' h' b⟩
theorem WO.mono {all l : List SOper} {e : Env} {h : Heap} {K K' : Env → Heap → Prop} (w : WO p all l e h K) (k : ∀ e' h', K e' h' → K' e' h') : WO p all l e h K' :=
 let ⟨n, e', h', a, b⟩ := w; ⟨n, e', h', a, k e' h' b⟩
@[simp ↓] theorem WO_nil {all : List SOper} {e : Env} {h : Heap} {K : Env → Heap → Prop} : WO p all [] e h K = K e h := by
 apply propext
 constructor
 ·rintro ⟨n, e', h', a, b⟩; simp [evOps] at a; obtain ⟨rfl, rfl⟩ := a; exact b
 ·intro k; exact ⟨0, e, h, rfl, k⟩
theorem evOper_none {call : CallF} {all : List SOper} {d : Option Nat} {op : SOp} {e : Env} {h : Heap} :
  evOper call all ⟨d, op, none, []⟩ e h = match evOp call op e h with | some (v, h') => some (e.put d v, h') | none => none := by
 simp only [evOper, wanted]
 cases evOp call op e h with
 | none => rfl
 | some q => obtain ⟨v, h'⟩ := q; simp [recheckB]
@[simp ↓] theorem WO_cons {all l : List SOper} {d : Option Nat} {op : SOp} {e : Env} {h : Heap} {K : Env → Heap → Prop} :
  WO p all (⟨d, op, none, []⟩ :: l) e h K = W1 p op e h (fun v h' => WO p all l (e.put d v) h' K) := by
 apply propext
 constructor
 ·rintro ⟨n, e', h', a, b⟩
  simp only [evOps, evOper_none] at a
  cases ho : evOp (p.call n) op e h with
  | none => simp [ho] at a
  | some q => obtain ⟨v, h1⟩ := q; simp [ho] at a; exact ⟨n, v, h1, ho, n, e', h', a, b⟩
 ·rintro ⟨n, v, h1, ho, m, e', h', a, b⟩
  refine ⟨max n m, e', h', ?_, b⟩
  simp only [evOps, evOper_none]
  rw [evOp_le (p.le (Nat.le_max_left n m)) ho]
  exact evOps_le (p.le (Nat.le_max_right n m)) a
theorem WO_guard {all l : List SOper} {d : Option Nat} {op : SOp} {t : Nat} {want : Bool} {e : Env} {h : Heap} {K : Env → Heap → Prop} :
  WO p all (⟨d, op, some (t, want), []⟩ :: l) e h K = OV (wanted e (some (t, want))) fun b => if b = true then W1 p op e h (fun v h' => WO p all l (e.put d v) h' K) else WO p all l (e.put d .undef) h K := by
 have key : ∀ n, evOper (p.call n) all ⟨d, op, some (t, want), []⟩ e h = match wanted e (some (t, want)) with
   | some true => evOper (p.call n) all ⟨d, op, none, []⟩ e h
   | some false => some (e.put d .undef, h)
   | none => none := by
  intro n
  rw [evOper_none]
  simp only [evOper]
  cases wanted e (some (t, want)) with
  | none => rfl
  | some b =>
    cases b with
    | false => rfl
    | true => cases evOp (p.call n) op e h with
      | none => rfl
      | some q => obtain ⟨v, h'⟩ := q; simp [recheckB]
 cases hw : wanted e (some (t, want)) with
 | none =>
   simp only [OV_none, eq_iff_iff, iff_false]
   rintro ⟨n, e', h', a, b⟩
   simp [evOps, key, hw] at a
 | some b =>
   cases b with
   | true =>
     simp only [OV_some, if_true]
     rw [← WO_cons]
     apply propext
     constructor <;>
     ·rintro ⟨n, e', h', a, b⟩
      refine ⟨n, e', h', ?_, b⟩
      simpa only [evOps, key, hw] using a
   | false =>
     simp only [OV_some, Bool.false_eq_true, if_false]
     apply propext
     constructor
     ·rintro ⟨n, e', h', a, b⟩
      simp only [evOps, key, hw] at a
      exact ⟨n, e', h', a, b⟩
     ·rintro ⟨n, e', h', a, b⟩
      refine ⟨n, e', h', ?_, b⟩
      simp only [evOps, key, hw]
      exact a
theorem W1_of {op : SOp} {e : Env} {h : Heap} {K : CV → Heap → Prop} {r : Option (CV × Heap)} (hr : ∀ c, evOp c op e h = r) : W1 p op e h K = OV r fun q => K q.1 q.2 := by
 apply propext
 constructor
 ·rintro ⟨n, v, h', a, b⟩; rw [hr] at a; exact ⟨_, a, b⟩
 ·rintro ⟨⟨v, h'⟩, a, b⟩; exact ⟨0, v, h', by rw [hr]; exact a, b⟩
theorem OV_withH {h : Heap} {o : Option CV} {K : CV → Heap → Prop} : (OV (withH h o) fun q => K q.1 q.2) = OV o fun v => K v h := by
 cases o <;> simp [withH]
section ops
variable {e : Env} {h : Heap} {K : CV → Heap → Prop} {x y z : Opd}
@[simp ↓] theorem W1_move : W1 p (.move x) e h K = OV (x.ev e) fun v => K v h := by rw [W1_of fun c => rfl]; exact OV_withH
@[simp ↓] theorem W1_bin {op : BinOp} : W1 p (.bin op x y) e h K = OV (x.ev e) fun a => OV (y.ev e) fun b => OV (Cl.bin op a b) fun v => K v h := by
 rw [W1_of fun c => rfl]
 try simp only [evOp]
 cases x.ev e <;> cases y.ev e <;> simp [OV_withH]
def pickV (c : CV) (a b : Option CV) : Option CV := match c with | .bool t => if t then a else b | _ => none
@[simp] theorem pickV_bool {t : Bool} {a b : Option CV} : pickV (.bool t) a b = if t then a else b := rfl
@[simp ↓] theorem W1_pick : W1 p (.pick x y z) e h K = OV (x.ev e) fun c => OV (pickV c (y.ev e) (z.ev e)) fun v => K v h := by
 rw [W1_of fun c => rfl]
 try simp only [evOp]
 cases hx : x.ev e with
 | none => simp
 | some c => cases c <;> simp [OV_withH, pickV]
@[simp ↓] theorem W1_eq {n : Bool} {t : EqT} : W1 p (.eq n t x y) e h K = OV (x.ev e) fun a => OV (y.ev e) fun b => OV (eqv t a b) fun r => K (.bool (if n then !r else r)) h := by
 rw [W1_of fun c => rfl]
 try simp only [evOp]
 cases x.ev e with
 | none => simp
 | some a => cases y.ev e with
   | none => simp
   | some b => simp; cases eqv t a b <;> simp
def negV : CV → Option CV | .int k n => some (.int k (k.wrap (0 - n))) | _ => none
def notV : CV → Option CV | .bool b => some (.bool (!b)) | _ => none
def convV (k : IntKind) : CV → Option CV | .int _ n => some (.int k (k.wrap n)) | _ => none
@[simp] theorem negV_int {k : IntKind} {n : Int} : negV (.int k n) = some (.int k (k.wrap (0 - n))) := rfl
@[simp] theorem notV_bool {b : Bool} : notV (.bool b) = some (.bool (!b)) := rfl
@[simp] theorem convV_int {k k' : IntKind} {n : Int} : convV k (.int k' n) = some (.int k (k.wrap n)) := rfl
@[simp ↓] theorem W1_neg : W1 p (.neg x) e h K = OV (x.ev e) fun a => OV (negV a) fun v => K v h := by
 rw [W1_of fun c => rfl]
 try simp only [evOp]
 cases x.ev e with
 | none => simp
 | some a => cases a <;> simp [negV]
@[simp ↓] theorem W1_not : W1 p (.not x) e h K = OV (x.ev e) fun a => OV (notV a) fun v => K v h := by
 rw [W1_of fun c => rfl]
 try simp only [evOp]
 cases x.ev e with
 | none => simp
 | some a => cases a <;> simp [notV]
@[simp ↓] theorem W1_conv {k : IntKind} : W1 p (.conv k x) e h K = OV (x.ev e) fun a => OV (convV k a) fun v => K v h := by
 rw [W1_of fun c => rfl]
 try simp only [evOp]
 cases x.ev e with
 | none => simp
 | some a => cases a <;> simp [convV]
@[simp ↓] theorem W1_alloc {v : CV} : W1 p (.alloc v) e h K = K (.ptr h.length 0) (h ++ [.arr v.cells .tight]) := by
 rw [W1_of fun c => rfl]; simp
@[simp ↓] theorem W1_allocB {T : Nat} : W1 p (.allocB T) e h K = K (.ptr h.length 0) (h ++ [.bld T none]) := by
 rw [W1_of fun c => rfl]; simp
@[simp ↓] theorem W1_box : W1 p (.box x) e h K = OV (x.ev e) fun v => K (.ptr h.length 0) (h ++ [.arr v.cells .tight]) := by
 rw [W1_of fun c => rfl]; cases x.ev e <;> simp
def loadV (h : Heap) (n : Option Nat) : CV → Option CV | .ptr b o => loadAt h b o n | _ => none
@[simp] theorem loadV_ptr {n : Option Nat} {b o : Nat} : loadV h n (.ptr b o) = loadAt h b o n := rfl
@[simp ↓] theorem W1_load {n : Option Nat} : W1 p (.load n x) e h K = OV (x.ev e) fun a => OV (loadV h n a) fun v => K v h := by
 rw [W1_of fun c => rfl]
 try simp only [evOp]
 cases x.ev e with
 | none => simp
 | some a => cases a <;> simp [loadV, OV_withH]
def storeV (h : Heap) (n : Option Nat) (a v : CV) : Option Heap := match a with | .ptr b o => if fits n v = true then storeAt h b o v.cells else none | _ => none
@[simp] theorem storeV_ptr {n : Option Nat} {b o : Nat} {v : CV} : storeV h n (.ptr b o) v = if fits n v = true then storeAt h b o v.cells else none := rfl
@[simp ↓] theorem W1_store {n : Option Nat} : W1 p (.store n x y) e h K = OV (x.ev e) fun a => OV (y.ev e) fun v => OV (storeV h n a v) fun h' => K .undef h' := by
 rw [W1_of fun c => rfl]
 try simp only [evOp]
 cases x.ev e with
 | none => simp
 | some a => cases y.ev e with
   | none => cases a <;> simp
   | some v =>
     cases a <;> simp [storeV]
     rename_i b o
     by_cases hf : fits n v = true
     ·simp only [hf, if_true]; cases storeAt h b o v.cells <;> simp
     ·simp [hf]
def nilckV : CV → Option CV | .ptr b o => some (.ptr b o) | .fn f c => some (.fn f c) | .ifc t v => some (.ifc t v) | _ => none
@[simp] theorem nilckV_ptr {b o : Nat} : nilckV (.ptr b o) = some (.ptr b o) := rfl
@[simp] theorem nilckV_fn {f : Nat} {c : List CV} : nilckV (.fn f c) = some (.fn f c) := rfl
@[simp ↓] theorem W1_nilck : W1 p (.nilck x) e h K = OV (x.ev e) fun a => OV (nilckV a) fun v => K v h := by
 rw [W1_of fun c => rfl]
 try simp only [evOp]
 cases x.ev e with
 | none => simp
 | some a => cases a <;> simp [nilckV]
def fldV (off : Nat) (n : Option Nat) : CV → Option CV | .agg cs => partOf cs off n | _ => none
@[simp] theorem fldV_agg {off : Nat} {n : Option Nat} {cs : List CV} : fldV off n (.agg cs) = partOf cs off n := rfl
@[simp ↓] theorem W1_fld {off : Nat} {n : Option Nat} : W1 p (.fld off n x) e h K = OV (x.ev e) fun a => OV (fldV off n a) fun v => K v h := by
 rw [W1_of fun c => rfl]
 try simp only [evOp]
 cases x.ev e with
 | none => simp
 | some a => cases a <;> simp [fldV, OV_withH]
def fldAddrV (off : Nat) : CV → Option CV | .ptr b o => some (.ptr b (o + off)) | _ => none
@[simp] theorem fldAddrV_ptr {off b o : Nat} : fldAddrV off (.ptr b o) = some (.ptr b (o + off)) := rfl
@[simp ↓] theorem W1_fldAddr {off : Nat} : W1 p (.fldAddr off x) e h K = OV (x.ev e) fun a => OV (fldAddrV off a) fun v => K v h := by
 rw [W1_of fun c => rfl]
 try simp only [evOp]
 cases x.ev e with
 | none => simp
 | some a => cases a <;> simp [fldAddrV]
def idxAddrV (esz : Nat) : CV → CV → Option CV | .sl b o n _, .int _ i => if 0 ≤ i ∧ i < n then some (.ptr b (o + i.toNat * esz)) else none | _, _ => none
@[simp] theorem idxAddrV_sl {esz b o n c : Nat} {k : IntKind} {i : Int} : idxAddrV esz (.sl b o n c) (.int k i) = if 0 ≤ i ∧ i < n then some (.ptr b (o + i.toNat * esz)) else none := rfl
@[simp ↓] theorem W1_idxAddr {esz : Nat} : W1 p (.idxAddr esz x y) e h K = OV (x.ev e) fun a => OV (y.ev e) fun b => OV (idxAddrV esz a b) fun v => K v h := by
 rw [W1_of fun c => rfl]
 try simp only [evOp]
 cases x.ev e with
 | none => simp
 | some a => cases y.ev e with
   | none => cases a <;> simp
   | some b =>
     cases a <;> (try (simp [idxAddrV]; done)) <;> cases b <;> (try (simp [idxAddrV]; done))
     simp only [idxAddrV, OV_some]
     split <;> simp
def idxArrAddrV (esz len : Nat) : CV → CV → Option CV | .ptr b o, .int _ i => if 0 ≤ i ∧ i < len then some (.ptr b (o + i.toNat * esz)) else none | _, _ => none
@[simp] theorem idxArrAddrV_ptr {esz len b o : Nat} {k : IntKind} {i : Int} : idxArrAddrV esz len (.ptr b o) (.int k i) = if 0 ≤ i ∧ i < len then some (.ptr b (o + i.toNat * esz)) else none := rfl
@[simp ↓] theorem W1_idxArrAddr {esz len : Nat} : W1 p (.idxArrAddr esz len x y) e h K = OV (x.ev e) fun a => OV (y.ev e) fun b => OV (idxArrAddrV esz len a b) fun v => K v h := by
 rw [W1_of fun c => rfl]
 try simp only [evOp]
 cases x.ev e with
 | none => simp
 | some a => cases y.ev e with
   | none => cases a <;> simp
   | some b =>
     cases a <;> (try (simp [idxArrAddrV]; done)) <;> cases b <;> (try (simp [idxArrAddrV]; done))
     simp only [idxArrAddrV, OV_some]
     split <;> simp
def idxStrV : CV → CV → Option CV | .str s, .int _ i => if 0 ≤ i then (match s[i.toNat]? with | some b => some (.int .u8 b.toNat) | none => none) else none | _, _ => none
@[simp] theorem idxStrV_str {s : List UInt8} {k : IntKind} {i : Int} : idxStrV (.str s) (.int k i) = if 0 ≤ i then (match s[i.toNat]? with | some b => some (.int .u8 b.toNat) | none => none) else none := rfl
@[simp ↓] theorem W1_idxStr : W1 p (.idxStr x y) e h K = OV (x.ev e) fun a => OV (y.ev e) fun b => OV (idxStrV a b) fun v => K v h := by
 rw [W1_of fun c => rfl]
 try simp only [evOp]
 cases x.ev e with
 | none => simp
 | some a => cases y.ev e with
   | none => cases a <;> simp
   | some b =>
     cases a <;> (try (simp [idxStrV]; done)) <;> cases b <;> (try (simp [idxStrV]; done))
     rename_i s k i
     simp only [idxStrV, OV_some]
     by_cases hi : 0 ≤ i
     ·simp only [hi, if_true]; cases s[i.toNat]? <;> simp
     ·simp only [hi, if_false]; simp
def idxArrV (esz len : Nat) (n : Option Nat) : CV → CV → Option CV | .agg cs, .int _ i => if 0 ≤ i ∧ i < len then partOf cs (i.toNat * esz) n else none | _, _ => none
@[simp] theorem idxArrV_agg {esz len : Nat} {n : Option Nat} {cs : List CV} {k : IntKind} {i : Int} : idxArrV esz len n (.agg cs) (.int k i) = if 0 ≤ i ∧ i < len then partOf cs (i.toNat * esz) n else none := rfl
@[simp ↓] theorem W1_idxArr {esz len : Nat} {n : Option Nat} : W1 p (.idxArr esz len n x y) e h K = OV (x.ev e) fun a => OV (y.ev e) fun b => OV (idxArrV esz len n a b) fun v => K v h := by
 rw [W1_of fun c => rfl]
 try simp only [evOp]
 cases x.ev e with
 | none => simp
 | some a => cases y.ev e with
   | none => cases a <;> simp
   | some b =>
     cases a <;> (try (simp [idxArrV]; done)) <;> cases b <;> (try (simp [idxArrV]; done))
     simp only [idxArrV, OV_some]
     split <;> simp [OV_withH]
@[simp ↓] theorem W1_build {zs : List CV} {ps : List (Nat × Nat × Opd)} : W1 p (.build zs ps) e h K = OV (evParts e ps) fun q => OV (fillC zs q) fun cs => K (.agg cs) h := by
 rw [W1_of fun c => rfl]
 try simp only [evOp]
 cases evParts e ps with
 | none => simp
 | some q => simp; cases fillC zs q <;> simp
@[simp ↓] theorem W1_buildSl {len : Nat} {zs : List CV} {ps : List (Nat × Nat × Opd)} : W1 p (.buildSl len zs ps) e h K = OV (evParts e ps) fun q => OV (fillC zs q) fun cs => K (.sl h.length 0 len len) (h ++ [.arr cs .tight]) := by
 rw [W1_of fun c => rfl]
 try simp only [evOp]
 cases evParts e ps with
 | none => simp
 | some q => simp; cases fillC zs q <;> simp
def lenV (h : Heap) : LK → CV → Option CV
 | .str, .str s => some (i64 s.length)
 | .sl, .nils => some (i64 0)
 | .sl, .sl _ _ n _ => some (i64 n)
 | .map, .nilm => some (i64 0)
 | .map, .mp b => match h[b]? with | some (.map es _) => some (i64 es.length) | _ => none
 | .ch, .ch b => match h[b]? with | some (.chan _ l) => some (i64 l.length) | _ => none
 | _, _ => none
@[simp] theorem lenV_ch {b : Nat} : lenV h .ch (.ch b) = match h[b]? with | some (.chan _ l) => some (.int .i64 l.length) | _ => none := rfl
@[simp] theorem lenV_str {s : List UInt8} : lenV h .str (.str s) = some (.int .i64 s.length) := rfl
@[simp] theorem lenV_nils : lenV h .sl .nils = some (.int .i64 0) := rfl
@[simp] theorem lenV_sl {b o n c : Nat} : lenV h .sl (.sl b o n c) = some (.int .i64 n) := rfl
@[simp] theorem lenV_nilm : lenV h .map .nilm = some (.int .i64 0) := rfl
@[simp] theorem lenV_mp {b : Nat} : lenV h .map (.mp b) = match h[b]? with | some (.map es _) => some (.int .i64 es.length) | _ => none := rfl
@[simp ↓] theorem W1_len {k : LK} : W1 p (.len k x) e h K = OV (x.ev e) fun a => OV (lenV h k a) fun v => K v h := by
 rw [W1_of fun c => rfl]
 try simp only [evOp]
 cases x.ev e with
 | none => cases k <;> simp
 | some a =>
   cases k <;> cases a <;> simp [lenV]
   all_goals (split <;> simp_all)
@[simp ↓] theorem W1_mx {xs : List Opd} : W1 p (.mx xs) e h K = OV (evs e xs) fun vs => OV (mxL vs) fun v => K v h := by
 rw [W1_of fun c => rfl]
 try simp only [evOp]
 cases evs e xs <;> simp [OV_withH]
@[simp ↓] theorem W1_mn {xs : List Opd} : W1 p (.mn xs) e h K = OV (evs e xs) fun vs => OV (mnL vs) fun v => K v h := by
 rw [W1_of fun c => rfl]
 try simp only [evOp]
 cases evs e xs <;> simp [OV_withH]
@[simp ↓] theorem W1_append {esz : Nat} : W1 p (.append esz x y) e h K = OV (x.ev e) fun a => OV (y.ev e) fun b => OV (spread h esz b) fun q => OV (appendTo h esz a q.1 q.2) fun r => K r.1 r.2 := by
 rw [W1_of fun c => rfl]
 try simp only [evOp]
 cases x.ev e with
 | none => simp
 | some a => cases y.ev e with
   | none => simp
   | some b =>
     simp
     cases spread h esz b with
     | none => simp
     | some q => obtain ⟨k, ys⟩ := q; simp
@[simp ↓] theorem W1_call {f : Nat} {xs : List Opd} : W1 p (.call f xs) e h K = OV (evs e xs) fun vs => WF p f vs h K := by
 apply propext
 constructor
 ·rintro ⟨n, v, h', a, b⟩
  simp only [evOp] at a
  cases hv : evs e xs with
  | none => simp [hv] at a
  | some vs => simp [hv] at a; exact ⟨vs, rfl, n, v, h', a, b⟩
 ·rintro ⟨vs, hv, n, v, h', a, b⟩
  exact ⟨n, v, h', by simp only [evOp, hv]; exact a, b⟩
def callvP (p : PP) (f : CV) (vs : List CV) (h : Heap) (K : CV → Heap → Prop) : Prop := match f with | .fn g caps => WF p g (vs ++ caps) h K | _ => False
@[simp ↓] theorem callvP_fn {g : Nat} {caps vs : List CV} : callvP p (.fn g caps) vs h K = WF p g (vs ++ caps) h K := rfl
@[simp ↓] theorem W1_callv {xs : List Opd} : W1 p (.callv x xs) e h K = OV (x.ev e) fun f => OV (evs e xs) fun vs => callvP p f vs h K := by
 apply propext
 constructor
 ·rintro ⟨n, v, h', a, b⟩
  simp only [evOp] at a
  cases hx : x.ev e with
  | none => simp [hx] at a
  | some f =>
    cases hv : evs e xs with
    | none => cases f <;> simp [hx, hv] at a
    | some vs =>
      cases f <;> simp [hx, hv] at a
      exact ⟨_, rfl, vs, rfl, n, v, h', a, b⟩
 ·rintro ⟨f, hx, vs, hv, k⟩
  cases f <;> simp only [callvP] at k <;> (try exact k.elim)
  obtain ⟨n, v, h', a, b⟩ := k
  exact ⟨n, v, h', by simp only [evOp, hx, hv]; exact a, b⟩
@[simp ↓] theorem W1_mkfn {f : Nat} {xs : List Opd} : W1 p (.mkfn f xs) e h K = OV (evs e xs) fun vs => K (.fn f vs) h := by
 rw [W1_of fun c => rfl]
 try simp only [evOp]
 cases evs e xs <;> simp
@[simp ↓] theorem W1_mkmap : W1 p .mkmap e h K = K (.mp h.length) (h ++ [.map [] 0]) := by
 rw [W1_of fun c => rfl]; simp
def lookupV (h : Heap) (ok : Bool) (bk : BK) (zv : CV) (m k : CV) : Option CV :=
 match m with
 | .nilm => some (if ok then .tup [zv, .bool false] else zv)
 | .mp b => match h[b]? with
   | some (.map es _) => match findKey bk k es 0 with
     | some (some (_, v, _)) => some (if ok then .tup [v, .bool true] else v)
     | some none => some (if ok then .tup [zv, .bool false] else zv)
     | none => none
   | _ => none
 | _ => none
@[simp ↓] theorem W1_lookup {ok : Bool} {bk : BK} {zv : CV} : W1 p (.lookup ok bk zv x y) e h K = OV (x.ev e) fun m => OV (y.ev e) fun k => OV (lookupV h ok bk zv m k) fun v => K v h := by
 rw [W1_of fun c => rfl]
 try simp only [evOp]
 cases x.ev e with
 | none => simp
 | some a => cases y.ev e with
   | none => cases a <;> simp
   | some b =>
     cases a <;> (try (simp [lookupV]; done))
     rename_i bb
     simp only [lookupV, OV_some]
     cases h[bb]? with
     | none => simp
     | some o =>
       cases o <;> (try (simp; done))
       rename_i es clock
       simp only []
       cases findKey bk b es 0 with
       | none => simp
       | some q => cases q with
         | none => simp
         | some q => obtain ⟨i, v, born⟩ := q; simp
def mapupV (h : Heap) (bk : BK) (m k v : CV) : Option Heap :=
 match m with
 | .mp b => match h[b]? with
   | some (.map es clock) => match findKey bk k es 0 with
     | some (some (i, _, born)) => some (h.set b (.map (es.set i (k, v, born)) clock))
     | some none => some (h.set b (.map (es ++ [(k, v, clock)]) (clock + 1)))
     | none => none
   | _ => none
 | _ => none
@[simp ↓] theorem W1_mapup {bk : BK} : W1 p (.mapup bk x y z) e h K = OV (x.ev e) fun m => OV (y.ev e) fun k => OV (z.ev e) fun v => OV (mapupV h bk m k v) fun h' => K .undef h' := by
 rw [W1_of fun c => rfl]
 try simp only [evOp]
 cases x.ev e with
 | none => simp
 | some a => cases y.ev e with
   | none => cases a <;> simp
   | some b =>
     cases z.ev e with
     | none => cases a <;> simp
     | some c =>
     cases a <;> (try (simp [mapupV]; done))
     rename_i bb
     simp only [mapupV, OV_some]
     cases h[bb]? with
     | none => simp
     | some o =>
       cases o <;> (try (simp; done))
       rename_i es clock
       simp only []
       cases findKey bk b es 0 with
       | none => simp
       | some q => cases q with
         | none => simp
         | some q => obtain ⟨i, v, born⟩ := q; simp
def mapentV (h : Heap) (bk : BK) (zv : CV) (m k : CV) : Option (CV × Heap) :=
 match m with
 | .mp b => match h[b]? with
   | some (.map es clock) => match findKey bk k es 0 with
     | some (some (i, v, born)) => some (.tup [v, i64 born], h.set b (.map (es.set i (k, v, born)) clock))
     | some none => some (.tup [zv, i64 clock], h.set b (.map (es ++ [(k, zv, clock)]) (clock + 1)))
     | none => none
   | _ => none
 | _ => none
@[simp ↓] theorem W1_mapent {bk : BK} {zv : CV} : W1 p (.mapent bk zv x y) e h K = OV (x.ev e) fun m => OV (y.ev e) fun k => OV (mapentV h bk zv m k) fun q => K q.1 q.2 := by
 rw [W1_of fun c => rfl]
 try simp only [evOp]
 cases x.ev e with
 | none => simp
 | some a => cases y.ev e with
   | none => cases a <;> simp
   | some b =>
     cases a <;> (try (simp [mapentV]; done))
     rename_i bb
     simp only [mapentV, OV_some]
     cases h[bb]? with
     | none => simp
     | some o =>
       cases o <;> (try (simp; done))
       rename_i es clock
       simp only []
       cases findKey bk b es 0 with
       | none => simp
       | some q => cases q with
         | none => simp
         | some q => obtain ⟨i, v, born⟩ := q; simp
def entstV (h : Heap) (m s v : CV) : Option Heap :=
 match m, s with
 | .mp b, .int _ s => match h[b]? with
   | some (.map es clock) => match es.findIdx? (fun x => (x.2.2 : Int) == s) with
     | some i => some (h.set b (.map (es.modify i fun x => (x.1, v, x.2.2)) clock))
     | none => none
   | _ => none
 | _, _ => none
@[simp ↓] theorem W1_entst : W1 p (.entst x y z) e h K = OV (x.ev e) fun m => OV (y.ev e) fun k => OV (z.ev e) fun v => OV (entstV h m k v) fun h' => K .undef h' := by
 rw [W1_of fun c => rfl]
 try simp only [evOp]
 cases x.ev e with
 | none => simp
 | some a => cases y.ev e with
   | none => cases a <;> simp
   | some b =>
     cases z.ev e with
     | none => cases a <;> (try (simp; done)) <;> cases b <;> simp
     | some c =>
       cases a <;> (try (simp [entstV]; done)) <;> cases b <;> (try (simp [entstV]; done))
       rename_i bb k s
       simp only [entstV, OV_some]
       cases h[bb]? with
       | none => simp
       | some o =>
         cases o <;> (try (simp; done))
         rename_i es clock
         simp only []
         cases es.findIdx? (fun x => (x.2.2 : Int) == s) <;> simp
def delV (h : Heap) (bk : BK) (m k : CV) : Option Heap :=
 match m with
 | .nilm => some h
 | .mp b => match h[b]? with
   | some (.map es clock) => match findKey bk k es 0 with
     | some (some (i, _, _)) => some (h.set b (.map (es.eraseIdx i) clock))
     | some none => some h
     | none => none
   | _ => none
 | _ => none
@[simp ↓] theorem W1_del {bk : BK} : W1 p (.del bk x y) e h K = OV (x.ev e) fun m => OV (y.ev e) fun k => OV (delV h bk m k) fun h' => K .undef h' := by
 rw [W1_of fun c => rfl]
 try simp only [evOp]
 cases x.ev e with
 | none => simp
 | some a => cases y.ev e with
   | none => cases a <;> simp
   | some b =>
     cases a <;> (try (simp [delV]; done))
     rename_i bb
     simp only [delV, OV_some]
     cases h[bb]? with
     | none => simp
     | some o =>
       cases o <;> (try (simp; done))
       rename_i es clock
       simp only []
       cases findKey bk b es 0 with
       | none => simp
       | some q => cases q with
         | none => simp
         | some q => obtain ⟨i, v, born⟩ := q; simp
def extV (i : Nat) : CV → Option CV | .tup vs => vs[i]? | _ => none
@[simp] theorem extV_tup {i : Nat} {vs : List CV} : extV i (.tup vs) = vs[i]? := rfl
@[simp ↓] theorem W1_ext {i : Nat} : W1 p (.ext i x) e h K = OV (x.ev e) fun a => OV (extV i a) fun v => K v h := by
 rw [W1_of fun c => rfl]
 try simp only [evOp]
 cases x.ev e with
 | none => simp
 | some a => cases a <;> simp [extV, OV_withH]
def tasV (t : Nat) : CV → Option CV | .ifc t' v => if t' = t then some v else none | _ => none
@[simp] theorem tasV_ifc {t t' : Nat} {v : CV} : tasV t (.ifc t' v) = if t' = t then some v else none := rfl
@[simp ↓] theorem W1_tas {t : Nat} : W1 p (.tas t x) e h K = OV (x.ev e) fun a => OV (tasV t a) fun v => K v h := by
 rw [W1_of fun c => rfl]
 try simp only [evOp]
 cases x.ev e with
 | none => simp
 | some a =>
   cases a <;> (try (simp [tasV]; done))
   simp only [tasV, OV_some]
   split <;> simp
def appZV (h : Heap) (z : List CV) : CV → CV → Option (CV × Heap)
 | .nils, .int .i64 k => if 0 ≤ k ∧ k ≤ big then (if k = 0 then some (.nils, h) else some (.sl h.length 0 k.toNat k.toNat, h ++ [.arr (List.replicate k.toNat z).flatten (.loose z.length)])) else none
 | _, _ => none
@[simp] theorem appZV_nil {z : List CV} {k : Int} : appZV h z .nils (.int .i64 k) = if 0 ≤ k ∧ k ≤ big then (if k = 0 then some (.nils, h) else some (.sl h.length 0 k.toNat k.toNat, h ++ [.arr (List.replicate k.toNat z).flatten (.loose z.length)])) else none := rfl
@[simp ↓] theorem W1_appZ {z : List CV} : W1 p (.appZ z x y) e h K = OV (x.ev e) fun a => OV (y.ev e) fun b => OV (appZV h z a b) fun q => K q.1 q.2 := by
 rw [W1_of fun c => rfl]
 try simp only [evOp]
 cases x.ev e with
 | none => simp
 | some a =>
   cases y.ev e with
   | none => cases a <;> simp
   | some b =>
     cases a <;> (try (simp [appZV]; done))
     cases b <;> (try (simp [appZV]; done))
     rename_i kk k
     cases kk <;> simp [appZV]
def capV : CV → Option CV | .nils => some (.int .i64 0) | _ => none
@[simp] theorem capV_nil : capV .nils = some (.int .i64 0) := rfl
@[simp ↓] theorem W1_capn : W1 p (.capn x) e h K = OV (x.ev e) fun a => OV (capV a) fun v => K v h := by
 rw [W1_of fun c => rfl]
 try simp only [evOp]
 cases x.ev e with
 | none => simp
 | some a => cases a <;> simp [capV]
@[simp ↓] theorem W1_cpy {q : Nat} : W1 p (.cpy q x y) e h K = OV (x.ev e) fun a => OV (y.ev e) fun b => OV (copyTo h q a b) fun r => K r.1 r.2 := by
 rw [W1_of fun c => rfl]
 try simp only [evOp]
 cases x.ev e with
 | none => simp
 | some a =>
   cases y.ev e with
   | none => simp
   | some b => simp
def clrV (h : Heap) (z : List CV) : CV → Option Heap | .nils => some h | .sl b o n _ => if n = 0 then some h else storeAt h b o (List.replicate n z).flatten | _ => none
@[simp] theorem clrV_nil {z : List CV} : clrV h z .nils = some h := rfl
@[simp] theorem clrV_sl {z : List CV} {b o n c : Nat} : clrV h z (.sl b o n c) = if n = 0 then some h else storeAt h b o (List.replicate n z).flatten := rfl
@[simp ↓] theorem W1_clr {z : List CV} : W1 p (.clr z x) e h K = OV (x.ev e) fun a => OV (clrV h z a) fun h' => K .undef h' := by
 rw [W1_of fun c => rfl]
 try simp only [evOp]
 cases x.ev e with
 | none => simp
 | some a =>
   cases a <;> simp [clrV]
   rename_i b o n c
   by_cases hn : n = 0
   ·simp [hn]
   ·simp only [hn, if_false]; cases storeAt h b o (List.replicate n z).flatten <;> simp
@[simp ↓] theorem W1_slMax {esz : Nat} {lo : Option Opd} : W1 p (.slMax esz x lo y z) e h K = OV (x.ev e) fun s => OV (optEv e lo) fun l => OV (y.ev e) fun r => OV (z.ev e) fun q => OV (slMax h s l r q) fun t => K t.1 t.2 := by
 rw [W1_of fun c => rfl]
 try simp only [evOp]
 cases x.ev e with
 | none => simp
 | some s => cases optEv e lo with
   | none => simp
   | some l => cases y.ev e with
     | none => simp
     | some r => cases z.ev e <;> simp
def mkchV (h : Heap) : CV → Option (CV × Heap) | .int _ n => if 0 ≤ n ∧ n ≤ big then some (.ch h.length, h ++ [.chan n.toNat []]) else none | _ => none
@[simp] theorem mkchV_int {k : IntKind} {n : Int} : mkchV h (.int k n) = if 0 ≤ n ∧ n ≤ big then some (.ch h.length, h ++ [.chan n.toNat []]) else none := rfl
@[simp ↓] theorem W1_mkch : W1 p (.mkch x) e h K = OV (x.ev e) fun a => OV (mkchV h a) fun q => K q.1 q.2 := by
 rw [W1_of fun c => rfl]
 try simp only [evOp]
 cases x.ev e with
 | none => simp
 | some a => cases a <;> simp [mkchV]
def capcV (h : Heap) : CV → Option CV | .ch b => (match h[b]? with | some (.chan c _) => some (.int .i64 c) | _ => none) | _ => none
@[simp] theorem capcV_ch {b : Nat} : capcV h (.ch b) = match h[b]? with | some (.chan c _) => some (.int .i64 c) | _ => none := rfl
@[simp ↓] theorem W1_capc : W1 p (.capc x) e h K = OV (x.ev e) fun a => OV (capcV h a) fun v => K v h := by
 rw [W1_of fun c => rfl]
 try simp only [evOp]
 cases x.ev e with
 | none => simp
 | some a =>
   cases a <;> simp [capcV]
   rename_i b
   cases h[b]? with
   | none => simp
   | some ob => cases ob <;> simp [i64]
@[simp ↓] theorem W1_slTail {esz : Nat} : W1 p (.slTail esz x y) e h K = OV (x.ev e) fun s => OV (y.ev e) fun a => OV (slTail h esz s a) fun q => K q.1 q.2 := by
 rw [W1_of fun c => rfl]
 try simp only [evOp]
 cases x.ev e with
 | none => simp
 | some s => cases y.ev e <;> simp
@[simp ↓] theorem W1_mkifc {t : Nat} : W1 p (.mkifc t x) e h K = OV (x.ev e) fun v => K (.ifc t v) h := by
 rw [W1_of fun c => rfl]
 try simp only [evOp]
 cases x.ev e <;> simp
@[simp ↓] theorem W1_slStr {l r : Option Opd} : W1 p (.slStr x l r) e h K = OV (x.ev e) fun s => OV (optEv e l) fun a => OV (optEv e r) fun b => OV (match s with | .str s => slStr s a b | _ => none) fun v => K v h := by
 rw [W1_of fun c => rfl]
 try simp only [evOp]
 cases x.ev e with
 | none => simp
 | some s => cases optEv e l with
   | none => cases s <;> simp
   | some a => cases optEv e r with
     | none => cases s <;> simp
     | some b => cases s <;> simp [OV_withH]
@[simp ↓] theorem W1_slSl {esz : Nat} {l r : Option Opd} : W1 p (.slSl esz x l r) e h K = OV (x.ev e) fun s => OV (optEv e l) fun a => OV (optEv e r) fun b => OV (slSl h esz s a b) fun q => K q.1 q.2 := by
 rw [W1_of fun c => rfl]
 try simp only [evOp]
 cases x.ev e with
 | none => simp
 | some s => cases optEv e l with
   | none => simp
   | some a => cases optEv e r <;> simp
def mkslV (h : Heap) (zs : List CV) : CV → CV → Option (CV × Heap)
 | .int .i64 l, .int .i64 c => if 0 ≤ l ∧ l ≤ c ∧ c ≤ big then some (.sl h.length 0 l.toNat c.toNat, h ++ [.arr (List.replicate c.toNat zs).flatten .tight]) else none
 | _, _ => none
@[simp] theorem mkslV_int {zs : List CV} {l c : Int} : mkslV h zs (.int .i64 l) (.int .i64 c) = if 0 ≤ l ∧ l ≤ c ∧ c ≤ big then some (.sl h.length 0 l.toNat c.toNat, h ++ [.arr (List.replicate c.toNat zs).flatten .tight]) else none := rfl
@[simp ↓] theorem W1_mksl {zs : List CV} : W1 p (.mksl zs x y) e h K = OV (x.ev e) fun a => OV (y.ev e) fun b => OV (mkslV h zs a b) fun q => K q.1 q.2 := by
 rw [W1_of fun c => rfl]
 try simp only [evOp]
 cases x.ev e with
 | none => simp
 | some a => cases y.ev e with
   | none => cases a <;> (try (simp; done))
   | some b =>
     cases a <;> (try (simp [mkslV]; done))
     rename_i k i
     cases k <;> (try (simp [mkslV]; done))
     cases b <;> (try (simp [mkslV]; done))
     rename_i k i
     cases k <;> (try (simp [mkslV]; done))
@[simp ↓] theorem W1_toStr : W1 p (.toStr x) e h K = OV (x.ev e) fun a => OV (match a with | .nils => some (.str []) | .sl b o n _ => (match cellsAt h b o n with | some cs => (match ofBytes cs with | some s => some (.str s) | none => none) | none => none) | _ => none) fun v => K v h := by
 rw [W1_of fun c => rfl]
 try simp only [evOp]
 cases x.ev e with
 | none => simp
 | some a =>
   cases a <;> simp
   split
   ·split <;> simp_all
   ·simp_all
@[simp ↓] theorem W1_same : W1 p (.same x) e h K = OV (x.ev e) fun a => OV (match a with | .str s => some (.str s) | _ => none) fun v => K v h := by
 rw [W1_of fun c => rfl]
 try simp only [evOp]
 cases x.ev e with
 | none => simp
 | some a => cases a <;> simp
@[simp ↓] theorem W1_toBytes : W1 p (.toBytes x) e h K = OV (x.ev e) fun a => OV (match a with | .str s => if s.length ≤ big then some (CV.sl h.length 0 s.length s.length, h ++ [.arr (s.map fun x => .int .u8 x.toNat) (.loose 1)]) else none | _ => none) fun q => K q.1 q.2 := by
 rw [W1_of fun c => rfl]
 try simp only [evOp]
 cases x.ev e with
 | none => simp
 | some a => cases a <;> simp
end ops
@[simp ↓] theorem W_skip {e : Env} {h : Heap} {Q : Ex → Env → Heap → Prop} : W p .skip e h Q = Q .normal e h := by
 apply propext
 constructor
 ·rintro ⟨n, k, x, e', h', a, b⟩
  cases k <;> simp [evC] at a
  obtain ⟨rfl, rfl, rfl⟩ := a; exact b
 ·intro q; exact ⟨0, 1, _, _, _, rfl, q⟩
@[simp ↓] theorem W_exit {id : Nat} {e : Env} {h : Heap} {Q : Ex → Env → Heap → Prop} : W p (.exit id) e h Q = Q (.exit id) e h := by
 apply propext
 constructor
 ·rintro ⟨n, k, x, e', h', a, b⟩
  cases k <;> simp [evC] at a
  obtain ⟨rfl, rfl, rfl⟩ := a; exact b
 ·intro q; exact ⟨0, 1, _, _, _, rfl, q⟩
@[simp ↓] theorem W_ret {e : Env} {h : Heap} {Q : Ex → Env → Heap → Prop} : W p .ret e h Q = Q .ret e h := by
 apply propext
 constructor
 ·rintro ⟨n, k, x, e', h', a, b⟩
  cases k <;> simp [evC] at a
  obtain ⟨rfl, rfl, rfl⟩ := a; exact b
 ·intro q; exact ⟨0, 1, _, _, _, rfl, q⟩
theorem W_ops {l : List SOper} {D : Option (List (Nat × List Nat))} {keep : List Nat} {e : Env} {h : Heap} {Q : Ex → Env → Heap → Prop} :
  W p (.ops l D keep) e h Q = WO p l l e h fun e' h' => Q .normal (Env.only keep e') h' := by
 apply propext
 constructor
 ·rintro ⟨n, k, x, e', h', a, b⟩
  cases k with
  | zero => simp [evC] at a
  | succ k =>
    simp only [evC] at a
    cases ho : evOps (p.call n) l l e h with
    | none => simp [ho] at a
    | some q => obtain ⟨e1, h1⟩ := q; simp [ho] at a; obtain ⟨rfl, rfl, rfl⟩ := a; exact ⟨n, e1, _, ho, b⟩
 ·rintro ⟨n, e', h', a, b⟩
  exact ⟨n, 1, .normal, Env.only keep e', h', by simp only [evC, a], b⟩
def thenQ (p : PP) (b : SCode) (Q : Ex → Env → Heap → Prop) : Ex → Env → Heap → Prop
 | .normal, e, h => W p b e h Q
 | x, e, h => Q x e h
@[simp ↓] theorem thenQ_normal {b : SCode} {Q : Ex → Env → Heap → Prop} {e : Env} {h : Heap} : thenQ p b Q .normal e h = W p b e h Q := rfl
@[simp ↓] theorem thenQ_exit {b : SCode} {Q : Ex → Env → Heap → Prop} {e : Env} {h : Heap} {i : Nat} : thenQ p b Q (.exit i) e h = Q (.exit i) e h := rfl
@[simp ↓] theorem thenQ_ret {b : SCode} {Q : Ex → Env → Heap → Prop} {e : Env} {h : Heap} : thenQ p b Q .ret e h = Q .ret e h := rfl
theorem evC_more {n n' k k' : Nat} {c : SCode} {e : Env} {h : Heap} {r : Ex × Env × Heap} (a : evC (p.call n) k c e h = some r) (hn : n ≤ n') (hk : k ≤ k') : evC (p.call n') k' c e h = some r :=
 evC_le (p.le hn) k k' hk a
@[simp ↓] theorem W_seq {a b : SCode} {e : Env} {h : Heap} {Q : Ex → Env → Heap → Prop} : W p (.seq a b) e h Q = W p a e h (thenQ p b Q) := by
 apply propext
 constructor
 ·rintro ⟨n, k, x, e', h', ha, hb⟩
  cases k with
  | zero => simp [evC] at ha
  | succ k =>
    simp only [evC] at ha
    cases h1 : evC (p.call n) k a e h with
    | none => simp [h1] at ha
    | some q =>
      obtain ⟨x1, e1, h1'⟩ := q
      cases x1 with
      | normal => simp only [h1] at ha; exact ⟨n, k, _, e1, h1', h1, n, k, x, e', h', ha, hb⟩
      | exit i => simp [h1] at ha; obtain ⟨rfl, rfl, rfl⟩ := ha; exact ⟨n, k, _, _, _, h1, hb⟩
      | ret => simp [h1] at ha; obtain ⟨rfl, rfl, rfl⟩ := ha; exact ⟨n, k, _, _, _, h1, hb⟩
 ·rintro ⟨n, k, x, e', h', ha, hb⟩
  cases x with
  | normal =>
    obtain ⟨n2, k2, x2, e2, h2, ha2, hb2⟩ := hb
    refine ⟨max n n2, max k k2 + 1, x2, e2, h2, ?_, hb2⟩
    simp only [evC]
    rw [evC_more ha (Nat.le_max_left ..) (Nat.le_max_left ..)]
    exact evC_more ha2 (Nat.le_max_right ..) (Nat.le_max_right ..)
  | exit i => exact ⟨n, k + 1, _, _, _, by simp only [evC, ha], hb⟩
  | ret => exact ⟨n, k + 1, _, _, _, by simp only [evC, ha], hb⟩
def condP (c : CV) (a b : Prop) : Prop := match c with | .bool true => a | .bool false => b | _ => False
@[simp] theorem condP_bool {t : Bool} {a b : Prop} : condP (.bool t) a b = if t = true then a else b := by cases t <;> simp [condP]
theorem W_cond {c : Opd} {a b : SCode} {e : Env} {h : Heap} {Q : Ex → Env → Heap → Prop} : W p (.cond c a b) e h Q = OV (c.ev e) fun v => condP v (W p a e h Q) (W p b e h Q) := by
 apply propext
 constructor
 ·rintro ⟨n, k, x, e', h', ha, hb⟩
  cases k with
  | zero => simp [evC] at ha
  | succ k =>
    simp only [evC] at ha
    cases hc : c.ev e with
    | none => simp [hc] at ha
    | some v =>
      cases v <;> simp [hc] at ha
      rename_i t
      cases t <;> simp at ha <;> exact ⟨_, rfl, n, k, x, e', h', ha, hb⟩
 ·rintro ⟨v, hc, hk⟩
  cases v <;> simp only [condP] at hk <;> (try exact hk.elim)
  rename_i t
  cases t <;> simp only at hk <;> obtain ⟨n, k, x, e', h', ha, hb⟩ := hk <;> exact ⟨n, k + 1, x, e', h', by simp only [evC, hc]; exact ha, hb⟩
def blockQ (id : Nat) (Q : Ex → Env → Heap → Prop) : Ex → Env → Heap → Prop
 | .exit i, e, h => if i = id then Q .normal e h else Q (.exit i) e h
 | x, e, h => Q x e h
@[simp ↓] theorem blockQ_normal {id : Nat} {Q : Ex → Env → Heap → Prop} {e : Env} {h : Heap} : blockQ id Q .normal e h = Q .normal e h := rfl
@[simp ↓] theorem blockQ_exit {id i : Nat} {Q : Ex → Env → Heap → Prop} {e : Env} {h : Heap} : blockQ id Q (.exit i) e h = if i = id then Q .normal e h else Q (.exit i) e h := rfl
@[simp ↓] theorem blockQ_ret {id : Nat} {Q : Ex → Env → Heap → Prop} {e : Env} {h : Heap} : blockQ id Q .ret e h = Q .ret e h := rfl
@[simp ↓] theorem W_block {id : Nat} {b : SCode} {e : Env} {h : Heap} {Q : Ex → Env → Heap → Prop} : W p (.block id b) e h Q = W p b e h (blockQ id Q) := by
 apply propext
 constructor
 ·rintro ⟨n, k, x, e', h', ha, hb⟩
  cases k with
  | zero => simp [evC] at ha
  | succ k =>
    simp only [evC] at ha
    cases h1 : evC (p.call n) k b e h with
    | none => simp [h1] at ha
    | some q =>
      obtain ⟨x1, e1, h1'⟩ := q
      cases x1 with
      | normal => simp [h1] at ha; obtain ⟨rfl, rfl, rfl⟩ := ha; exact ⟨n, k, _, _, _, h1, hb⟩
      | exit i =>
        simp only [h1] at ha
        refine ⟨n, k, _, _, _, h1, ?_⟩
        simp only [blockQ_exit]
        split at ha
        ·rename_i hi; simp at ha; obtain ⟨rfl, rfl, rfl⟩ := ha; rw [if_pos hi]; exact hb
        ·rename_i hi; simp at ha; obtain ⟨rfl, rfl, rfl⟩ := ha; rw [if_neg hi]; exact hb
      | ret => simp [h1] at ha; obtain ⟨rfl, rfl, rfl⟩ := ha; exact ⟨n, k, _, _, _, h1, hb⟩
 ·rintro ⟨n, k, x, e', h', ha, hb⟩
  cases x with
  | normal => exact ⟨n, k + 1, _, _, _, by simp only [evC, ha], hb⟩
  | exit i =>
    simp only [blockQ_exit] at hb
    by_cases hi : i = id
    ·rw [if_pos hi] at hb; exact ⟨n, k + 1, .normal, e', h', by simp only [evC, ha, if_pos hi], hb⟩
    ·rw [if_neg hi] at hb; exact ⟨n, k + 1, .exit i, e', h', by simp only [evC, ha, if_neg hi], hb⟩
  | ret => exact ⟨n, k + 1, _, _, _, by simp only [evC, ha], hb⟩
theorem W_loop {live : List Nat} {b : SCode} {Q : Ex → Env → Heap → Prop} (I : Nat → Env → Heap → Prop)
  (step : ∀ m e h, I m e h → W p b (Env.only live e) h fun x e' h' => match x with | .normal => ∃ m', m' < m ∧ I m' e' h' | x => Q x e' h') :
  ∀ (m : Nat) {e : Env} {h : Heap}, I m e h → W p (.loop live b) e h Q := by
 intro m
 induction m using Nat.strongRecOn with
 | _ m ih =>
   intro e h hI
   obtain ⟨n, k, x, e', h', ha, hb⟩ := step m e h hI
   cases x with
   | normal =>
     obtain ⟨m', hm, hI'⟩ := hb
     obtain ⟨n2, k2, x2, e2, h2, ha2, hb2⟩ := ih m' hm hI'
     refine ⟨max n n2, max k k2 + 1, x2, e2, h2, ?_, hb2⟩
     simp only [evC]
     rw [evC_more ha (Nat.le_max_left ..) (Nat.le_max_left ..)]
     exact evC_more ha2 (Nat.le_max_right ..) (Nat.le_max_right ..)
   | exit i => exact ⟨n, k + 1, .exit i, e', h', by simp only [evC, ha], hb⟩
   | ret => exact ⟨n, k + 1, .ret, e', h', by simp only [evC, ha], hb⟩
def retQ (R : List RV) (K : CV → Heap → Prop) : Ex → Env → Heap → Prop
 | .exit _, _, _ => False
 | _, e, h => OV (rvs e h R) fun rs => K (result rs) h
@[simp ↓] theorem retQ_normal {R : List RV} {K : CV → Heap → Prop} {e : Env} {h : Heap} : retQ R K .normal e h = OV (rvs e h R) fun rs => K (result rs) h := rfl
@[simp ↓] theorem retQ_ret {R : List RV} {K : CV → Heap → Prop} {e : Env} {h : Heap} : retQ R K .ret e h = OV (rvs e h R) fun rs => K (result rs) h := rfl
@[simp ↓] theorem retQ_exit {R : List RV} {K : CV → Heap → Prop} {e : Env} {h : Heap} {i : Nat} : retQ R K (.exit i) e h = False := rfl
theorem WF_of {f : Nat} {sf : SFunc} (hf : p.Pg f = some sf) (hp : p.pr f = none) {vs : List CV} {h : Heap} {K : CV → Heap → Prop} (w : W p sf.body (args 0 vs) h (retQ sf.results K)) : WF p f vs h K := by
 obtain ⟨n, k, x, e', h', a, b⟩ := w
 have key : ∀ r, (∀ m, n ≤ m → k ≤ m → evBody (p.call m) m sf vs h = some r) → K r.1 r.2 → WF p f vs h K := by
  intro r hr hK
  refine ⟨max n k + 1, r.1, r.2, ?_, hK⟩
  show evCall p.Pg p.pr (max n k + 1) f vs h = _
  simp only [evCall, hp, hf]
  exact hr _ (Nat.le_max_left ..) (Nat.le_max_right ..)
 have hc : ∀ m, n ≤ m → k ≤ m → evC (p.call m) m sf.body (args 0 vs) h = some (x, e', h') := fun m h1 h2 => evC_more a h1 h2
 cases x with
 | exit i => exact b.elim
 | normal =>
   obtain ⟨rs, h1, h2⟩ := b
   exact key (result rs, h') (fun m q1 q2 => by simp only [evBody, hc m q1 q2, h1]) h2
 | ret =>
   obtain ⟨rs, h1, h2⟩ := b
   exact key (result rs, h') (fun m q1 q2 => by simp only [evBody, hc m q1 q2, h1]) h2
end
def FE (e : Env) (K : Env → Prop) : Prop := K e
@[congr] theorem FE_congr {e e' : Env} {K : Env → Prop} (h : e = e') : FE e K = FE e' K := by rw [h]
@[simp] theorem FE_cons {k : Nat} {v : CV} {r : Env} {K : Env → Prop} : FE ((k, v) :: r) K = K ((k, v) :: r) := rfl
@[simp] theorem FE_nil {K : Env → Prop} : FE [] K = K [] := rfl
@[simp] theorem OV_some' {α : Type} {v : α} {K : α → Prop} : OV (some v) K = K v := OV_some
def wantB (e : Env) (t : Nat) (w : Bool) : Option Bool := match e.get t with | some (.bool b) => some (b == w) | some (.tup []) => some false | _ => none
theorem wantB_eq {e : Env} {t : Nat} {w : Bool} : wantB e t w = wanted e (some (t, w)) := rfl
section
variable {p : PP}
@[simp ↓] theorem WO_guard_t {all l : List SOper} {d : Option Nat} {op : SOp} {t : Nat} {want : Bool} {e : Env} {h : Heap} {K : Env → Heap → Prop} (hw : wantB e t want = some true) :
  WO p all (⟨d, op, some (t, want), []⟩ :: l) e h K = W1 p op e h (fun v h' => WO p all l (e.put d v) h' K) := by
 rw [WO_guard, ← wantB_eq, hw]; simp
@[simp ↓] theorem WO_guard_f {all l : List SOper} {d : Option Nat} {op : SOp} {t : Nat} {want : Bool} {e : Env} {h : Heap} {K : Env → Heap → Prop} (hw : wantB e t want = some false) :
  WO p all (⟨d, op, some (t, want), []⟩ :: l) e h K = WO p all l (e.put d .undef) h K := by
 rw [WO_guard, ← wantB_eq, hw]; simp
@[simp ↓] theorem W_cond_t {c : Opd} {a b : SCode} {e : Env} {h : Heap} {Q : Ex → Env → Heap → Prop} (hc : c.ev e = some (.bool true)) : W p (.cond c a b) e h Q = W p a e h Q := by rw [W_cond, hc]; simp
@[simp ↓] theorem W_cond_f {c : Opd} {a b : SCode} {e : Env} {h : Heap} {Q : Ex → Env → Heap → Prop} (hc : c.ev e = some (.bool false)) : W p (.cond c a b) e h Q = W p b e h Q := by rw [W_cond, hc]; simp
@[simp ↓] theorem W_ops_cons {l : List SOper} {D : Option (List (Nat × List Nat))} {keep : List Nat} {k : Nat} {v : CV} {e : Env} {h : Heap} {Q : Ex → Env → Heap → Prop} :
  W p (.ops l D keep) ((k, v) :: e) h Q = WO p l l ((k, v) :: e) h fun e' h' => FE (Env.only keep e') fun e2 => Q .normal e2 h' := W_ops
@[simp ↓] theorem W_ops_nil {l : List SOper} {D : Option (List (Nat × List Nat))} {keep : List Nat} {h : Heap} {Q : Ex → Env → Heap → Prop} :
  W p (.ops l D keep) [] h Q = WO p l l [] h fun e' h' => FE (Env.only keep e') fun e2 => Q .normal e2 h' := W_ops
end
@[congr] theorem OV_congr {α : Type} {o o' : Option α} {K : α → Prop} (h : o = o') : OV o K = OV o' K := by rw [h]
@[congr] theorem WF_congr {p : PP} {f : Nat} {vs vs' : List CV} {h : Heap} {K : CV → Heap → Prop} (e : vs = vs') : WF p f vs h K = WF p f vs' h K := by rw [e]
@[congr] theorem W1_congr {p : PP} {op : SOp} {e e' : Env} {h : Heap} {K : CV → Heap → Prop} (k : e = e') : W1 p op e h K = W1 p op e' h K := by rw [k]
@[congr] theorem WO_congr {p : PP} {all l : List SOper} {e e' : Env} {h : Heap} {K : Env → Heap → Prop} (k : e = e') : WO p all l e h K = WO p all l e' h K := by rw [k]
@[congr] theorem W_congr {p : PP} {c : SCode} {e e' : Env} {h : Heap} {Q : Ex → Env → Heap → Prop} (k : e = e') : W p c e h Q = W p c e' h Q := by rw [k]
@[congr] theorem thenQ_congr {p : PP} {b : SCode} {Q : Ex → Env → Heap → Prop} {x x' : Ex} {e e' : Env} {h : Heap} (j : x = x') (k : e = e') : thenQ p b Q x e h = thenQ p b Q x' e' h := by rw [j, k]
@[congr] theorem blockQ_congr {id : Nat} {Q : Ex → Env → Heap → Prop} {x x' : Ex} {e e' : Env} {h : Heap} (j : x = x') (k : e = e') : blockQ id Q x e h = blockQ id Q x' e' h := by rw [j, k]
@[congr] theorem retQ_congr {R : List RV} {K : CV → Heap → Prop} {x x' : Ex} {e e' : Env} {h : Heap} (j : x = x') (k : e = e') : retQ R K x e h = retQ R K x' e' h := by rw [j, k]
@[congr] theorem condP_congr {c c' : CV} {a b : Prop} (k : c = c') : condP c a b = condP c' a b := by rw [k]
@[congr] theorem callvP_congr {p : PP} {f f' : CV} {vs : List CV} {h : Heap} {K : CV → Heap → Prop} (k : f = f') : callvP p f vs h K = callvP p f' vs h K := by rw [k]
@[simp] theorem Opd.ev_t {n : Nat} {e : Env} : (Opd.t n).ev e = e.get n := rfl
@[simp] theorem Opd.ev_c {v : CV} {e : Env} : (Opd.c v).ev e = some v := rfl
@[simp] theorem Env.get_cons {k i : Nat} {v : CV} {r : Env} : Env.get ((k, v) :: r) i = if i = k then some v else Env.get r i := rfl
@[simp] theorem Env.put_some {e : Env} {d : Nat} {v : CV} : Env.put e (some d) v = (d, v) :: e := rfl
@[simp] theorem Env.put_none {e : Env} {v : CV} : Env.put e none v = e := rfl
@[simp] theorem Env.only_nil {e : Env} : Env.only [] e = [] := rfl
theorem Env.only_cons' {k : Nat} {ks : List Nat} {e : Env} : Env.only (k :: ks) e = match e.get k with | some v => (k, v) :: Env.only ks e | none => Env.only ks e := rfl
@[simp] theorem evs_nil {e : Env} : evs e [] = some [] := rfl
def consO (a : Option CV) (b : Option (List CV)) : Option (List CV) := match a, b with | some v, some vs => some (v :: vs) | _, _ => none
@[simp] theorem consO_some {v : CV} {vs : List CV} : consO (some v) (some vs) = some (v :: vs) := rfl
@[simp] theorem evs_cons {e : Env} {x : Opd} {xs : List Opd} : evs e (x :: xs) = consO (x.ev e) (evs e xs) := by
 simp only [evs, consO]; cases x.ev e <;> cases evs e xs <;> rfl
def onlyC (k : Nat) (o : Option CV) (r : Env) : Env := match o with | some v => (k, v) :: r | none => r
@[simp] theorem onlyC_some {k : Nat} {v : CV} {r : Env} : onlyC k (some v) r = (k, v) :: r := rfl
@[simp] theorem onlyC_none {k : Nat} {r : Env} : onlyC k none r = r := rfl
@[simp] theorem Env.only_cons {k : Nat} {ks : List Nat} {e : Env} : Env.only (k :: ks) e = onlyC k (e.get k) (Env.only ks e) := by
 rw [Env.only_cons']; cases e.get k <;> rfl
def wantV (o : Option CV) (w : Bool) : Option Bool := match o with | some (.bool b) => some (b == w) | some (.tup []) => some false | _ => none
@[simp] theorem wantB_of {e : Env} {t : Nat} {w : Bool} : wantB e t w = wantV (e.get t) w := id rfl
@[simp] theorem wantV_bool {b w : Bool} : wantV (some (.bool b)) w = some (b == w) := id rfl
@[simp] theorem wantV_undef {w : Bool} : wantV (some .undef) w = some false := id rfl
@[simp] theorem wantV_tup {w : Bool} : wantV (some (.tup [])) w = some false := id rfl
@[simp] theorem rvs_nil {e : Env} {h : Heap} : rvs e h [] = some [] := rfl
@[simp] theorem rvs_t {e : Env} {h : Heap} {n : Nat} {r : List RV} : rvs e h (.t n :: r) = consO (e.get n) (rvs e h r) := by
 simp only [rvs, consO]; cases e.get n <;> cases rvs e h r <;> rfl
@[simp] theorem result_one {v : CV} : result [v] = v := rfl
@[simp] theorem args_nil {i : Nat} : args i [] = [] := rfl
@[simp] theorem args_cons {i : Nat} {v : CV} {r : List CV} : args i (v :: r) = (i, v) :: args (i + 1) r := rfl
@[simp] theorem evParts_nil {e : Env} : evParts e [] = some [] := rfl
def consP (o s : Nat) (a : Option CV) (b : Option (List (Nat × Nat × CV))) : Option (List (Nat × Nat × CV)) := match a, b with | some v, some vs => some ((o, s, v) :: vs) | _, _ => none
@[simp] theorem consP_some {o s : Nat} {v : CV} {vs : List (Nat × Nat × CV)} : consP o s (some v) (some vs) = some ((o, s, v) :: vs) := rfl
@[simp] theorem evParts_cons {e : Env} {o s : Nat} {x : Opd} {r : List (Nat × Nat × Opd)} : evParts e ((o, s, x) :: r) = consP o s (x.ev e) (evParts e r) := by
 simp only [evParts, consP]; cases x.ev e <;> cases evParts e r <;> rfl
@[simp] theorem optEv_none {e : Env} : optEv e none = some none := rfl
@[simp] theorem optEv_some {e : Env} {x : Opd} {v : CV} (h : x.ev e = some v) : optEv e (some x) = some (some v) := by simp [optEv, h]
@[simp] theorem bin_int {op : BinOp} {k : IntKind} {a b : Int} : bin op (.int k a) (.int k b) = binInt op k a b := by simp [bin]
@[simp] theorem bin_str {op : BinOp} {a b : List UInt8} : bin op (.str a) (.str b) = binStr op a b := rfl
@[simp] theorem binInt_add {k : IntKind} {a b : Int} : binInt .add k a b = some (.int k (k.wrap (a + b))) := rfl
@[simp] theorem binInt_sub {k : IntKind} {a b : Int} : binInt .sub k a b = some (.int k (k.wrap (a - b))) := rfl
@[simp] theorem binInt_mul {k : IntKind} {a b : Int} : binInt .mul k a b = some (.int k (k.wrap (a * b))) := rfl
@[simp] theorem binInt_quo {k : IntKind} {a b : Int} : binInt .quo k a b = if b = 0 then none else some (.int k (k.wrap (a.tdiv b))) := rfl
@[simp] theorem binInt_rem {k : IntKind} {a b : Int} : binInt .rem k a b = if b = 0 then none else some (.int k (a.tmod b)) := rfl
@[simp] theorem binInt_eql {k : IntKind} {a b : Int} : binInt .eql k a b = some (.bool (decide (a = b))) := by
 simp [binInt]; rfl
@[simp] theorem binInt_neq {k : IntKind} {a b : Int} : binInt .neq k a b = some (.bool (!decide (a = b))) := by
 simp [binInt]; rfl
@[simp] theorem binInt_lss {k : IntKind} {a b : Int} : binInt .lss k a b = some (.bool (decide (a < b))) := rfl
@[simp] theorem binInt_leq {k : IntKind} {a b : Int} : binInt .leq k a b = some (.bool (decide (a ≤ b))) := rfl
@[simp] theorem binInt_gtr {k : IntKind} {a b : Int} : binInt .gtr k a b = some (.bool (decide (b < a))) := rfl
@[simp] theorem binInt_geq {k : IntKind} {a b : Int} : binInt .geq k a b = some (.bool (decide (b ≤ a))) := rfl
theorem lt_of_get {h : Heap} {b : Nat} {o : Obj} (e : h[b]? = some o) : b < h.length := (List.getElem?_eq_some_iff.1 e).1
theorem get_app {h g : Heap} {b : Nat} {o : Obj} (e : h[b]? = some o) : (h ++ g)[b]? = some o := by
 rw [List.getElem?_append_left (lt_of_get e)]; exact e
theorem get_new {h : Heap} {o : Obj} : (h ++ [o])[h.length]? = some o := by simp
theorem get_set_ne {h : Heap} {b c : Nat} {o : Obj} (hne : c ≠ b) : (h.set c o)[b]? = h[b]? := List.getElem?_set_ne hne
theorem get_set_self {h : Heap} {b : Nat} {o : Obj} (hb : b < h.length) : (h.set b o)[b]? = some o := List.getElem?_set_self hb
theorem ne_of_obj {h : Heap} {a b : Nat} {x y : Obj} (e : h[a]? = some x) (f : h[b]? = some y) (hne : x ≠ y) : a ≠ b := fun he => by
 subst he; rw [e] at f; cases f; exact hne rfl
structure Keep (S : Nat → Prop) (h h' : Heap) : Prop where
 len : h.length ≤ h'.length
 get : ∀ b, b < h.length → ¬ S b → h'[b]? = h[b]?
theorem Keep.refl (S : Nat → Prop) (h : Heap) : Keep S h h := ⟨Nat.le_refl _, fun _ _ _ => rfl⟩
theorem Keep.trans {S : Nat → Prop} {a b c : Heap} (x : Keep S a b) (y : Keep S b c) : Keep S a c :=
 ⟨Nat.le_trans x.len y.len, fun i hi hS => (y.get i (Nat.lt_of_lt_of_le hi x.len) hS).trans (x.get i hi hS)⟩
theorem Keep.mono {S T : Nat → Prop} {a b : Heap} (x : Keep S a b) (h : ∀ i, i < a.length → S i → T i) : Keep T a b := ⟨x.len, fun i hi hT => x.get i hi fun k => hT (h i hi k)⟩
theorem Keep.app (S : Nat → Prop) (h g : Heap) : Keep S h (h ++ g) := ⟨by simp, fun b hb _ => List.getElem?_append_left hb⟩
theorem Keep.set {S : Nat → Prop} (h : Heap) {b : Nat} (o : Obj) (hS : S b) : Keep S h (h.set b o) := ⟨by simp, fun c hc k => List.getElem?_set_ne fun e => k (by rw [← e]; exact hS)⟩
theorem Keep.at {S : Nat → Prop} {h h' : Heap} (k : Keep S h h') {b : Nat} {o : Obj} (e : h[b]? = some o) (hS : ¬ S b) : h'[b]? = some o := (k.get b (lt_of_get e) hS).trans e
theorem Keep.then {S T : Nat → Prop} {h a b : Heap} (x : Keep T h a) (y : Keep S a b) (hS : ∀ i, i < h.length → S i → T i) : Keep T h b :=
 ⟨Nat.le_trans x.len y.len, fun i hi hT => (y.get i (Nat.lt_of_lt_of_le hi x.len) fun k => hT (hS i hi k)).trans (x.get i hi hT)⟩
def NoneOf : Nat → Prop := fun _ => False
theorem ld {h : Heap} {b : Nat} {cs : List CV} {st : St} (e : h[b]? = some (.arr cs st)) (o : Nat) : loadAt h b o none = cs[o]? := by simp [loadAt, e]
theorem ldn {h : Heap} {b : Nat} {cs : List CV} {st : St} (e : h[b]? = some (.arr cs st)) (o n : Nat) : loadAt h b o (some n) = if o + n ≤ cs.length then some (.agg ((cs.drop o).take n)) else none := by simp [loadAt, e]
theorem stt {h : Heap} {b : Nat} {cs : List CV} (e : h[b]? = some (.arr cs .tight)) (o : Nat) (vs : List CV) : storeAt h b o vs = if o + vs.length ≤ cs.length ∧ vs.all CV.scalar = true then some (h.set b (.arr (splice cs o vs) .tight)) else none := by simp [storeAt, e]
def CV.blk : CV → Option Nat
 | .sl b _ _ _ => some b
 | _ => none
def Grown (h : Heap) (esz : Nat) (v : CV) (l : List CV) : Prop :=
 (v = .nils ∧ l = []) ∨ ∃ b n, v = .sl b 0 n n ∧ l.length = n * esz ∧ 0 < n ∧ h[b]? = some (.arr l (.loose esz))
theorem Grown.keep {S : Nat → Prop} {h h' : Heap} {esz : Nat} {v : CV} {l : List CV} (g : Grown h esz v l) (k : Keep S h h') (hS : ∀ b, v.blk = some b → ¬ S b) : Grown h' esz v l := by
 rcases g with g | ⟨b, n, rfl, h1, h2, h3⟩
 ·exact .inl g
 ·exact .inr ⟨b, n, rfl, h1, h2, k.at h3 (hS b rfl)⟩
theorem append_grown {h : Heap} {esz : Nat} {v : CV} {l ys : List CV} {k : Nat} (g : Grown h esz v l) (hk : 0 < k) (hy : ys.length = k * esz) (hs : ys.all CV.scalar = true) (hbig : l.length ≤ big * esz) (hkb : k ≤ big) (hesz : 0 < esz) :
  ∃ h', appendTo h esz v k ys = some (.sl h.length 0 (l.length / esz + k) (l.length / esz + k), h') ∧ Grown h' esz (.sl h.length 0 (l.length / esz + k) (l.length / esz + k)) (l ++ ys) ∧ h'.length = h.length + 1 ∧ Keep (fun b => v.blk = some b) h h' := by
 have hkb' : ¬ (k > big ∨ ys.all CV.scalar = false) := by rw [hs]; simp; exact hkb
 rcases g with ⟨rfl, rfl⟩ | ⟨b, n, rfl, h1, h2, h3⟩
 ·refine ⟨h ++ [.arr ys (.loose esz)], ?_, ?_, by simp, Keep.app _ _ _⟩
  ·simp only [appendTo]
   rw [if_neg hkb', if_neg (by omega)]
   simp
  ·refine .inr ⟨h.length, k, by simp, by simpa using hy, hk, by simp⟩
 ·have hn : l.length / esz = n := by rw [h1]; exact Nat.mul_div_cancel _ hesz
  have hnb : ¬ n > big := by
   intro hgt
   have : (big + 1) * esz ≤ n * esz := Nat.mul_le_mul_right _ hgt
   rw [Nat.succ_mul] at this
   omega
  have hkill : kill h b = h.set b .dead := by simp [kill, h3]
  refine ⟨h.set b .dead ++ [.arr (l ++ ys) (.loose esz)], ?_, ?_, by simp, ?_⟩
  ·simp only [appendTo]
   rw [if_neg hkb', if_neg hnb, if_neg (by omega), if_neg (by omega)]
   simp only [h3]
   rw [if_pos ⟨by simp, by simp, by omega, by omega⟩, hkill, hn]
   simp [← h1]
  ·refine .inr ⟨h.length, n + k, by rw [hn], by rw [List.length_append, h1, hy, Nat.add_mul], by omega, ?_⟩
   have : h.length = (h.set b .dead).length := by simp
   rw [this]; exact get_new
  ·exact ⟨by simp, fun c hc hne => by rw [List.getElem?_append_left (by simpa using hc), List.getElem?_set_ne (fun e => hne (by simp [CV.blk, e]))]⟩
theorem splice_set {cs : List CV} {o : Nat} {v : CV} (h : o < cs.length) : splice cs o [v] = cs.set o v := by
 simp only [splice, List.length_singleton]
 rw [List.set_eq_take_append_cons_drop, if_pos h]
 simp
def Read (h : Heap) (esz : Nat) (v : CV) (l : List CV) : Prop :=
 (v = .nils ∧ l = []) ∨ ∃ b o n c cs st, v = .sl b o n c ∧ l.length = n * esz ∧ h[b]? = some (.arr cs st) ∧ o + n * esz ≤ cs.length ∧ l = (cs.drop o).take (n * esz)
theorem Read.keep {S : Nat → Prop} {h h' : Heap} {esz : Nat} {v : CV} {l : List CV} (g : Read h esz v l) (k : Keep S h h') (hS : ∀ b, v.blk = some b → ¬ S b) : Read h' esz v l := by
 rcases g with g | ⟨b, o, n, c, cs, st, rfl, h1, h2, h3⟩
 ·exact .inl g
 ·exact .inr ⟨b, o, n, c, cs, st, rfl, h1, k.at h2 (hS b rfl), h3⟩
theorem Read.blk_lt {h : Heap} {esz : Nat} {v : CV} {l : List CV} (g : Read h esz v l) : ∀ b, v.blk = some b → b < h.length := by
 rcases g with ⟨rfl, _⟩ | ⟨b, o, n, c, cs, st, rfl, _, h2, _⟩
 ·intro b hb; simp [CV.blk] at hb
 ·intro b' hb; simp [CV.blk] at hb; subst hb; exact lt_of_get h2
theorem Grown.read {h : Heap} {esz : Nat} {v : CV} {l : List CV} (g : Grown h esz v l) : Read h esz v l := by
 rcases g with g | ⟨b, n, rfl, h1, h2, h3⟩
 ·exact .inl g
 ·exact .inr ⟨b, 0, n, n, l, _, rfl, h1, h3, by omega, by simp [← h1]⟩
theorem Read.len {h : Heap} {esz : Nat} {v : CV} {l : List CV} (g : Read h esz v l) (he : 0 < esz) : lenV h .sl v = some (.int .i64 (l.length / esz : Nat)) := by
 rcases g with ⟨rfl, rfl⟩ | ⟨b, o, n, c, cs, st, rfl, h1, h2, h3, h4⟩
 ·simp
 ·rw [h1, Nat.mul_div_cancel _ he]; rfl
theorem Read.cell {h : Heap} {esz : Nat} {v : CV} {l : List CV} (g : Read h esz v l) {i : Nat} {k : IntKind} (hi : (i + 1) * esz ≤ l.length) (he : 0 < esz) :
  ∃ b o, idxAddrV esz v (.int k (i : Int)) = some (.ptr b o) ∧ v.blk = some b ∧ ∀ j, j < esz → loadAt h b (o + j) none = l[i * esz + j]? := by
 rcases g with ⟨rfl, rfl⟩ | ⟨b, o, n, c, cs, st, rfl, h1, h2, h3, h4⟩
 ·rw [Nat.succ_mul] at hi; simp at hi; omega
 ·have hin : i < n := by
   rw [h1] at hi
   have := Nat.le_of_mul_le_mul_right hi he
   omega
  refine ⟨b, o + i * esz, ?_, rfl, fun j hj => ?_⟩
  ·rw [idxAddrV_sl, if_pos ⟨by omega, by omega⟩]; simp
  ·simp only [loadAt, h2]
   have hlt : i * esz + j < n * esz := by
    have : (i + 1) * esz ≤ n * esz := Nat.mul_le_mul_right _ hin
    rw [Nat.succ_mul] at this; omega
   rw [h4, List.getElem?_take_of_lt hlt, List.getElem?_drop]
   congr 1; omega
theorem Read.row {h : Heap} {esz : Nat} {v : CV} {l : List CV} (g : Read h esz v l) {i : Nat} {k : IntKind} (hi : (i + 1) * esz ≤ l.length) (he : 0 < esz) :
  ∃ b o, idxAddrV esz v (.int k (i : Int)) = some (.ptr b o) ∧ v.blk = some b ∧ loadAt h b o (some esz) = some (.agg ((l.drop (i * esz)).take esz)) := by
 rcases g with ⟨rfl, rfl⟩ | ⟨b, o, n, c, cs, st, rfl, h1, h2, h3, h4⟩
 ·rw [Nat.succ_mul] at hi; simp at hi; omega
 ·have hin : i < n := by
   rw [h1] at hi
   have := Nat.le_of_mul_le_mul_right hi he
   omega
  have hm : (i + 1) * esz ≤ n * esz := Nat.mul_le_mul_right _ hin
  rw [Nat.succ_mul] at hm
  refine ⟨b, o + i * esz, ?_, rfl, ?_⟩
  ·rw [idxAddrV_sl, if_pos ⟨by omega, by omega⟩]; simp
  ·simp only [loadAt, h2]
   rw [if_pos (by omega), h4]
   congr 2
   rw [List.drop_take, List.drop_drop, List.take_take]
   congr 1; omega
abbrev Ent := CV × CV × Nat
def asc (k : CV) : List Ent → Option CV
 | [] => none
 | x :: r => if x.1 = k then some x.2.1 else asc k r
structure MapOK (kd : IntKind) (es : List Ent) (clock : Nat) : Prop where
 key : ∀ x ∈ es, ∃ n, x.1 = .int kd n
 lt : ∀ x ∈ es, x.2.2 < clock
 nd : (es.map (·.2.2)).Nodup
theorem find_cases {kd : IntKind} (k : Int) : ∀ (es : List Ent) (j : Nat), (∀ x ∈ es, ∃ n, x.1 = .int kd n) →
  (asc (.int kd k) es = none ∧ findKey .i (.int kd k) es j = some none) ∨
  ∃ l1 v b l2, es = l1 ++ (.int kd k, v, b) :: l2 ∧ (∀ x ∈ l1, x.1 ≠ .int kd k) ∧ asc (.int kd k) es = some v ∧ findKey .i (.int kd k) es j = some (some (j + l1.length, v, b))
 | [], j, _ => .inl ⟨rfl, rfl⟩
 | (k0, v0, b0) :: r, j, hk => by
   obtain ⟨n, hn⟩ := hk _ (List.mem_cons_self)
   simp only at hn
   subst hn
   by_cases h : n = k
   ·subst h
    exact .inr ⟨[], v0, b0, r, rfl, by simp, by simp [asc], by simp [findKey, eqKind]⟩
   ·have h2 : ¬ k = n := fun e => h e.symm
    rcases find_cases k r (j + 1) (fun x hx => hk x (List.mem_cons_of_mem _ hx)) with ⟨h1, h3⟩ | ⟨l1, v, b, l2, rfl, h1, h3, h4⟩
    ·exact .inl ⟨by simp [asc, h, h1], by simp only [findKey, eqKind, if_true, h3]; rw [show (k == n) = false by simpa using h2]⟩
    ·refine .inr ⟨(.int kd n, v0, b0) :: l1, v, b, l2, rfl, ?_, by simp [asc, h, h3], ?_⟩
     ·intro x hx
      rcases List.mem_cons.1 hx with rfl | hx
      ·simp [h]
      ·exact h1 x hx
     ·simp only [findKey, eqKind, if_true]
      rw [show (k == n) = false by simpa using h2]
      simp only [h4]
      simp only [List.length_cons]; congr 3; omega
theorem asc_append {k : CV} : ∀ (a b : List Ent), asc k (a ++ b) = match asc k a with | some v => some v | none => asc k b
 | [], b => rfl
 | x :: r, b => by
   simp only [List.cons_append, asc]
   by_cases h : x.1 = k
   ·simp [h]
   ·simp only [h, if_false]; exact asc_append r b
theorem asc_none {k : CV} : ∀ {a : List Ent}, (∀ x ∈ a, x.1 ≠ k) → asc k a = none
 | [], _ => rfl
 | x :: r, h => by simp [asc, h x (by simp), asc_none (a := r) fun y hy => h y (by simp [hy])]
def MapI (h : Heap) (kd : IntKind) (mb : Nat) (f : Int → Option CV) : Prop :=
 ∃ es clock, h[mb]? = some (.map es clock) ∧ MapOK kd es clock ∧ ∀ k, asc (.int kd k) es = f k
theorem MapI.keep {S : Nat → Prop} {h h' : Heap} {kd : IntKind} {mb : Nat} {f : Int → Option CV} (m : MapI h kd mb f) (k : Keep S h h') (hS : ¬ S mb) : MapI h' kd mb f := by
 obtain ⟨es, c, h1, h2⟩ := m
 exact ⟨es, c, k.at h1 hS, h2⟩
theorem MapI.lt {h : Heap} {kd : IntKind} {mb : Nat} {f : Int → Option CV} (m : MapI h kd mb f) : mb < h.length := let ⟨_, _, h1, _⟩ := m; lt_of_get h1
theorem MapI.new {h : Heap} {kd : IntKind} : MapI (h ++ [.map [] 0]) kd h.length fun _ => none :=
 ⟨[], 0, get_new, ⟨by simp, by simp, by simp⟩, fun _ => rfl⟩
theorem MapI.look {h : Heap} {kd : IntKind} {mb : Nat} {f : Int → Option CV} (m : MapI h kd mb f) (ok : Bool) (z : CV) (k : Int) :
  lookupV h ok .i z (.mp mb) (.int kd k) = some (match f k with | some v => (if ok then .tup [v, .bool true] else v) | none => if ok then .tup [z, .bool false] else z) := by
 obtain ⟨es, c, h1, h2, h3⟩ := m
 rw [← h3 k]
 simp only [lookupV, h1]
 rcases find_cases k es 0 h2.key with ⟨q1, q2⟩ | ⟨l1, v, b, l2, q0, _, q1, q2⟩
 ·simp [q1, q2]
 ·simp [q1, q2]
def upd (f : Int → Option CV) (k : Int) (v : CV) : Int → Option CV := fun i => if i = k then some v else f i
theorem findIdx_app {a : List Ent} {x : Ent} {b : List Ent} {s : Nat} (h : ∀ y ∈ a, y.2.2 ≠ s) (hx : x.2.2 = s) : (a ++ x :: b).findIdx? (fun y => (y.2.2 : Int) == (s : Int)) = some a.length := by
 induction a with
 | nil => simp [List.findIdx?_cons, hx]
 | cons y r ih =>
   have : ((y.2.2 : Int) == (s : Int)) = false := by
    have := h y (by simp)
    simpa using fun e => this (by exact_mod_cast e)
   simp only [List.cons_append, List.findIdx?_cons, this, ih fun z hz => h z (by simp [hz])]
   simp
theorem modify_app {a : List Ent} {x : Ent} {b : List Ent} (g : Ent → Ent) : (a ++ x :: b).modify a.length g = a ++ g x :: b := by
 induction a with
 | nil => rfl
 | cons y r ih => simp [ih]
theorem set_app {a : List Ent} {x y : Ent} {b : List Ent} : (a ++ x :: b).set a.length y = a ++ y :: b := by
 induction a with
 | nil => rfl
 | cons z r ih => simp [ih]
theorem MapI.put {h : Heap} {kd : IntKind} {mb : Nat} {f : Int → Option CV} (m : MapI h kd mb f) (z v : CV) (k : Int) :
  ∃ w s h1, mapentV h .i z (.mp mb) (.int kd k) = some (.tup [w, .int .i64 s], h1) ∧ Keep (· = mb) h h1 ∧ h1.length = h.length ∧
   ∀ h2, Keep (fun _ => False) h1 h2 → ∃ h3, entstV h2 (.mp mb) (.int .i64 s) v = some h3 ∧ MapI h3 kd mb (upd f k v) ∧ Keep (· = mb) h2 h3 ∧ h3.length = h2.length := by
 obtain ⟨es, c, h1, h2, h3⟩ := m
 have hl := lt_of_get h1
 rcases find_cases k es 0 h2.key with ⟨q1, q2⟩ | ⟨l1, u, b, l2, rfl, q0, q1, q2⟩
 ·refine ⟨z, c, h.set mb (.map (es ++ [(.int kd k, z, c)]) (c + 1)), by simp [mapentV, h1, q2, i64], Keep.set _ _ rfl, by simp, fun g hg => ?_⟩
  have hgm : g[mb]? = some (.map (es ++ [(.int kd k, z, c)]) (c + 1)) := hg.at (get_set_self hl) id
  have hlt := lt_of_get hgm
  have hfi : (es ++ [((CV.int kd k, z, c) : Ent)]).findIdx? (fun y => (y.2.2 : Int) == (c : Int)) = some es.length := findIdx_app (fun y hy => Nat.ne_of_lt (h2.lt y hy)) rfl
  refine ⟨g.set mb (.map (es ++ [(.int kd k, v, c)]) (c + 1)), ?_, ⟨_, _, get_set_self hlt, ⟨?_, ?_, ?_⟩, ?_⟩, Keep.set _ _ rfl, by simp⟩
  ·simp only [entstV, hgm, hfi]
   rw [modify_app]
  ·intro x hx
   rcases List.mem_append.1 hx with hx | hx
   ·exact h2.key x hx
   ·simp at hx; subst hx; exact ⟨k, rfl⟩
  ·intro x hx
   rcases List.mem_append.1 hx with hx | hx
   ·exact Nat.lt_succ_of_lt (h2.lt x hx)
   ·simp at hx; subst hx; exact Nat.lt_succ_self c
  ·rw [List.map_append, List.nodup_append]
   refine ⟨h2.nd, by simp, ?_⟩
   intro a ha b' hb e
   simp at hb
   subst hb; subst e
   obtain ⟨x, hx, hxe⟩ := List.mem_map.1 ha
   exact absurd hxe (Nat.ne_of_lt (h2.lt x hx))
  ·intro i
   rw [asc_append]
   unfold upd
   by_cases hi : i = k
   ·subst hi; simp [q1, asc]
   ·rw [h3 i]
    have : ¬ k = i := fun e => hi e.symm
    cases f i <;> simp [asc, this, hi]
 ·have hnb : ∀ y ∈ l1, y.2.2 ≠ b := by
   intro y hy e
   have := h2.nd
   rw [List.map_append, List.nodup_append] at this
   exact this.2.2 y.2.2 (List.mem_map.2 ⟨y, hy, rfl⟩) b (by simp) e
  refine ⟨u, b, h.set mb (.map (l1 ++ (.int kd k, u, b) :: l2) c), ?_, Keep.set _ _ rfl, by simp, fun g hg => ?_⟩
  ·simp only [mapentV, h1, q2, Nat.zero_add, set_app, i64]
  ·have hgm : g[mb]? = some (.map (l1 ++ (.int kd k, u, b) :: l2) c) := hg.at (get_set_self hl) id
   have hlt := lt_of_get hgm
   have hfi : (l1 ++ ((CV.int kd k, u, b) : Ent) :: l2).findIdx? (fun y => (y.2.2 : Int) == (b : Int)) = some l1.length := findIdx_app hnb rfl
   refine ⟨g.set mb (.map (l1 ++ (.int kd k, v, b) :: l2) c), ?_, ⟨_, _, get_set_self hlt, ⟨?_, ?_, ?_⟩, ?_⟩, Keep.set _ _ rfl, by simp⟩
   ·simp only [entstV, hgm, hfi]
    rw [modify_app]
   ·intro x hx
    rcases List.mem_append.1 hx with hx | hx
    ·exact h2.key x (by simp [hx])
    ·rcases List.mem_cons.1 hx with rfl | hx
     ·exact ⟨k, rfl⟩
     ·exact h2.key x (by simp [hx])
   ·intro x hx
    rcases List.mem_append.1 hx with hx | hx
    ·exact h2.lt x (by simp [hx])
    ·rcases List.mem_cons.1 hx with rfl | hx
     ·exact h2.lt (.int kd k, u, b) (by simp)
     ·exact h2.lt x (by simp [hx])
   ·have := h2.nd
    simpa using this
   ·intro i
    have hi3 := h3 i
    rw [asc_append] at hi3 ⊢
    unfold upd
    by_cases hi : i = k
    ·subst hi; simp [asc_none q0, asc]
    ·have : ¬ k = i := fun e => hi e.symm
     simp only [hi, if_false]
     rw [← hi3]
     simp [asc, this]
end Go.Cl
