/-
  A law's arguments as clean values: what reads as data of these shapes stands for clean values over a heap that is only read.
-/
import Derived.Test.YtiegjnklhafloaaDoorCl15
import Derived.ChangeArms
namespace Go.Cl
open Go
set_option linter.unusedSimpArgs false
set_option linter.unusedVariables false

/-- shapes of arguments; 'nil' and 'cons' are a struct's fields -/
inductive Ty where
  | int (k : IntKind)
  | bool
  | str
  | sl (e : Ty)
  | nil
  | cons (a b : Ty)
  deriving DecidableEq, Inhabited

def Ty.n : Ty → Nat
  | .nil => 0
  | .cons a b => a.n + b.n
  | _ => 1

def flds (P : Program) : Sum TypeId (List Field × Nat) → Option (List Field × Nat)
  | .inl t => match P.underlying t with
    | some (.struct fs) => some (fs.toList, 0)
    | _ => none
  | .inr x => some x

def tyM (P : Program) : Ty → Sum TypeId (List Field × Nat) → Bool
  | .int k, .inl t => (match P.underlying t with | some (.int k') => k == k' | _ => false) && P.cellsOf t == 1
  | .bool, .inl t => (match P.underlying t with | some .bool => true | _ => false) && P.cellsOf t == 1
  | .str, .inl t => (match P.underlying t with | some .string => true | _ => false) && P.cellsOf t == 1
  | .sl e, .inl t => (match P.underlying t with | some (.slice u) => tyM P e (.inl u) | _ => false) && P.cellsOf t == 1
  | .nil, x => (match flds P x with | some ([], _) => true | _ => false) && (match x with | .inl t => P.cellsOf t == 0 | _ => true)
  | .cons a b, x => (match flds P x with | some (f :: fs, off) => f.offset == off && tyM P a (.inl f.type) && tyM P b (.inr (fs, off + a.n)) | _ => false) &&
    (match x with | .inl t => P.cellsOf t == a.n + b.n | _ => true)
  | _, _ => false

def Sh (h : Heap) : Ty → List CV → Prop
  | .int k, c => ∃ n, c = [.int k n] ∧ (Lit.int k n).wf = true
  | .bool, c => ∃ b, c = [.bool b]
  | .str, c => ∃ s, c = [.str s] ∧ s.length ≤ maxLen
  | .sl e, c => c = [.nils] ∨ ∃ b n cs, c = [.sl b 0 n n] ∧ h[b]? = some (.arr cs .ro) ∧ cs.length = n * e.n ∧ n ≤ maxLen ∧ ∀ i, i < n → Sh h e ((cs.drop (i * e.n)).take e.n)
  | .nil, c => c = []
  | .cons a b, c => Sh h a (c.take a.n) ∧ Sh h b (c.drop a.n)

theorem Sh.more {h : Heap} (g : Heap) : ∀ {ty : Ty} {c : List CV}, Sh h ty c → Sh (h ++ g) ty c
  | .int _, _, k => k
  | .bool, _, k => k
  | .str, _, k => k
  | .nil, _, k => k
  | .cons _ _, _, k => ⟨Sh.more g k.1, Sh.more g k.2⟩
  | .sl e, _, k => by
    rcases k with k | ⟨b, n, cs, k1, k2, k3, k4, k5⟩
    · exact .inl k
    · refine .inr ⟨b, n, cs, k1, ?_, k3, k4, fun i hi => Sh.more g (k5 i hi)⟩
      have : b < h.length := (List.getElem?_eq_some_iff.1 k2).1
      rw [List.getElem?_append_left this]; exact k2

theorem tyM_cells {P : Program} : ∀ {ty : Ty} {t : TypeId}, tyM P ty (.inl t) = true → P.cellsOf t = ty.n
  | .int _, t, h => by simp [tyM] at h; exact h.2
  | .bool, t, h => by simp [tyM] at h; exact h.2
  | .str, t, h => by simp [tyM] at h; exact h.2
  | .sl _, t, h => by simp [tyM] at h; exact h.2
  | .nil, t, h => by simp [tyM] at h; exact h.2
  | .cons _ _, t, h => by simp [tyM] at h; exact h.2

structure Inv (G : Gam) (m : Mp) (h : Heap) (w : World) : Prop where
  dom : ∀ b L, m b = some L → b < h.length
  obj : ∀ b L o, m b = some L → h[b]? = some o → ObjR G m L w o
  ro : ∀ o ∈ h, ownedO o = false
  base : ∀ k o, G.K[k]? = some o → h[k]? = some o ∧ (∃ g q, o = .pin g q) ∧ ∃ L, m k = some L

theorem Inv.sim {G : Gam} {m : Mp} {h : Heap} {w : World} (i : Inv G m h w) : Sim G m h w := by
  refine ⟨i.dom, i.obj, ?_, i.base⟩
  rintro b b' L L' _ _ _ ⟨o, ho, hO⟩ _
  rw [i.ro o (List.mem_of_getElem? ho)] at hO
  cases hO

theorem Inv.owned {G : Gam} {m : Mp} {h : Heap} {w : World} (i : Inv G m h w) {b : Nat} : ¬ owned h b := by
  rintro ⟨o, ho, hO⟩
  rw [i.ro o (List.mem_of_getElem? ho)] at hO
  cases hO

theorem Inv.empty (G : Gam) (hK : G.K = []) (w : World) : Inv G (fun _ => none) [] w := ⟨fun b L h => (by cases h), fun b L o h => (by cases h), by simp, fun k o hk => by rw [hK] at hk; simp at hk⟩

theorem Inv.newO {G : Gam} {m : Mp} {h : Heap} {w : World} (i : Inv G m h w) {ob : Obj} {L : Loc} (hob : ownedO ob = false) (ho : ObjR G m L w ob) : m.le (m.upd h.length L) ∧ Inv G (m.upd h.length L) (h ++ [ob]) w := by
  have hn : m h.length = none := by
    cases hk : m h.length with
    | none => rfl
    | some L' => exact absurd (i.dom _ _ hk) (by omega)
  have hle := Mp.upd_le (L := L) hn
  refine ⟨hle, ⟨?_, ?_, ?_, fun k o hk => let ⟨a1, a0, L', a2⟩ := i.base k o hk; ⟨(List.getElem?_append_left (i.dom k L' a2)).trans a1, a0, L', hle _ _ a2⟩⟩⟩
  · intro b L' e
    by_cases hb : b = h.length
    · simp; omega
    · simp [Mp.upd, hb] at e; have := i.dom b L' e; simp; omega
  · intro b L' o e hg
    by_cases hb : b = h.length
    · subst hb; rw [Mp.upd_same] at e; cases e
      simp at hg; subst hg
      exact ho.mono hle fun _ => rfl
    · simp [Mp.upd, hb] at e
      rw [List.getElem?_append_left (i.dom b L' e)] at hg
      exact (i.obj b L' o e hg).mono hle fun _ => rfl
  · intro o ho'
    rcases List.mem_append.1 ho' with k | k
    · exact i.ro o k
    · simp at k; subst k; exact hob

theorem Inv.new {G : Gam} {m : Mp} {h : Heap} {w : World} (i : Inv G m h w) {cs : List CV} {L : Loc} (ho : ObjR G m L w (.arr cs .ro)) : m.le (m.upd h.length L) ∧ Inv G (m.upd h.length L) (h ++ [.arr cs .ro]) w :=
  i.newO (by simp [ownedO]) ho

/-- what is there behind some more has been laid -/
structure Laid (G : Gam) (m : Mp) (h : Heap) (w : World) (m' : Mp) (h' : Heap) : Prop where
  inv : Inv G m' h' w
  le : m.le m'
  pre : ∃ g, h' = h ++ g

theorem Laid.trans {G : Gam} {m m1 m2 : Mp} {h h1 h2 : Heap} {w : World} (a : Laid G m h w m1 h1) (b : Laid G m1 h1 w m2 h2) : Laid G m h w m2 h2 := by
  obtain ⟨g1, e1⟩ := a.pre
  obtain ⟨g2, e2⟩ := b.pre
  exact ⟨b.inv, Mp.le_trans a.le b.le, g1 ++ g2, by rw [e2, e1, List.append_assoc]⟩

theorem Sh.laid {G : Gam} {m m' : Mp} {h h' : Heap} {w : World} (a : Laid G m h w m' h') {ty : Ty} {c : List CV} (k : Sh h ty c) : Sh h' ty c := by
  obtain ⟨g, rfl⟩ := a.pre
  exact k.more g

section
variable {H : Type} {enc : TypeId × Value → H} {P : Program} {w : World} {G : Gam}

theorem cells?_get {w : World} {base : Nat} {a : Addr} {n : Nat} {cs : List Value} (h : w.cells? base a n = some cs) : cs.length = n ∧ ∀ i, i < n → w.cell? (a.add i) = cs[i]? := by
  unfold World.cells? at h
  split at h
  · exact ⟨by simpa using mapM_some_length h, fun i hi => mapM_some_get h i i (by simp [hi])⟩
  · cases h

theorem cell?_get {w : World} {a : Addr} {v : Value} (h : w.cell? a = some v) : a.spot = none ∧ ∃ C e fr, w.heap[a.block]? = some (.cells C e fr) ∧ C[a.off]? = some v := by
  unfold World.cell? at h
  split at h
  · rename_i C e fr hh
    split at h
    · cases h
    · rename_i hs
      exact ⟨by simpa using hs, C, e, fr, hh, h⟩
  · cases h

theorem addr_add_add (a : Addr) (i j : Nat) : (a.add i).add j = a.add (i + j) := by
  unfold Addr.add
  by_cases h : i = 0 <;> by_cases h2 : j = 0 <;> simp [h, h2]
  omega

/-- what an argument of this shape comes to -/
def Reads (P : Program) (G : Gam) (w : World) (H : Type) (enc : TypeId × Value → H) (ty : Ty) : Prop :=
  (∀ t, tyM P ty (.inl t) = true → ∀ fuel (cs : List Value) (x : DataW H × List MemPlace) m h, DataW.trod enc P w 0 (fun _ => true) true fuel t cs = some x → Inv G m h w →
    ∃ m' h' ccs, Laid G m h w m' h' ∧ trL G m' ccs = some cs ∧ ccs.length = ty.n ∧ Sh h' ty ccs) ∧
  (∀ fs off, tyM P ty (.inr (fs, off)) = true → ∀ fuel (cs : List Value) (xs : List (DataW H × List MemPlace)) m h, xs.length = fs.length → (∀ (i : Nat) f, fs[i]? = some f → DataW.trod enc P w 0 (fun _ => true) true fuel f.type ((cs.drop f.offset).take (P.cellsOf f.type)) = xs[i]?) →
    cs.length = off + ty.n → Inv G m h w →
    ∃ m' h' ccs, Laid G m h w m' h' ∧ trL G m' ccs = some (cs.drop off) ∧ ccs.length = ty.n ∧ Sh h' ty ccs)

theorem Laid.refl {m : Mp} {h : Heap} (i : Inv G m h w) : Laid G m h w m h := ⟨i, Mp.le_refl _, [], by simp⟩

theorem reads_one {ty : Ty} (hno : ∀ x, tyM P ty (.inr x) = false)
    (h1 : ∀ t, tyM P ty (.inl t) = true → ∀ fuel (cs : List Value) (x : DataW H × List MemPlace), DataW.trod enc P w 0 (fun _ => true) true fuel t cs = some x → ∃ c, (∀ m : Mp, trL G m [c] = some cs) ∧ ∀ h, Sh h ty [c]) (hn : ty.n = 1) : Reads P G w H enc ty := by
  refine ⟨fun t ht fuel cs x m h hx i => ?_, fun fs off ht => by rw [hno] at ht; cases ht⟩
  obtain ⟨c, k1, k2⟩ := h1 t ht fuel cs x hx
  exact ⟨m, h, [c], Laid.refl i, k1 m, by simp [hn], k2 h⟩

theorem trL_drop {m : Mp} {a : List CV} {x : List Value} (h : trL G m a = some x) (k : Nat) : trL G m (a.drop k) = some (x.drop k) := by
  induction a generalizing x k with
  | nil => simp [trL] at h; subst h; simp [trL]
  | cons v r ih =>
    obtain ⟨u, us, hv, hl, rfl⟩ := trL_cons h
    cases k with
    | zero => simpa using trL_cons_mk hv hl
    | succ k => simpa using ih hl k

theorem reads_cons {a b : Ty} (ha : Reads P G w H enc a) (hb : Reads P G w H enc b) : Reads P G w H enc (.cons a b) := by
  have key : ∀ (f : Field) fs off, f.offset = off → tyM P a (.inl f.type) = true → tyM P b (.inr (fs, off + a.n)) = true → ∀ fuel (cs : List Value) (xs : List (DataW H × List MemPlace)) m h, xs.length = (f :: fs).length →
      (∀ (i : Nat) g, (f :: fs)[i]? = some g → DataW.trod enc P w 0 (fun _ => true) true fuel g.type ((cs.drop g.offset).take (P.cellsOf g.type)) = xs[i]?) →
      cs.length = off + (a.n + b.n) → Inv G m h w →
      ∃ m' h' ccs, Laid G m h w m' h' ∧ trL G m' ccs = some (cs.drop off) ∧ ccs.length = a.n + b.n ∧ Sh h' (.cons a b) ccs := by
    intro f fs off hoff hta htb fuel cs xs m h hl hget hlen i
    cases xs with
    | nil => simp at hl
    | cons x xs =>
    have h0 := hget 0 f rfl
    simp at h0
    obtain ⟨m1, h1, c1, l1, t1, n1, s1⟩ := ha.1 f.type hta fuel _ x m h h0 i
    obtain ⟨m2, h2, c2, l2, t2, n2, s2⟩ := hb.2 fs (off + a.n) htb fuel cs xs m1 h1 (by simpa using hl) (fun j g hg => by simpa using hget (j + 1) g (by simpa using hg)) (by omega) l1.inv
    refine ⟨m2, h2, c1 ++ c2, l1.trans l2, ?_, by simp [n1, n2], ?_⟩
    · have := trL_append (trL_mono G l2.le _ _ t1) t2
      rw [this, tyM_cells hta, hoff]
      congr 1
      rw [← List.drop_drop]
      exact List.take_append_drop _ _
    · refine ⟨?_, ?_⟩
      · rw [show List.take a.n (c1 ++ c2) = c1 by rw [← n1]; simp]; exact s1.laid l2
      · rw [show List.drop a.n (c1 ++ c2) = c2 by rw [← n1]; simp]; exact s2
  refine ⟨?_, ?_⟩
  · intro t ht fuel cs x m h hx i
    simp only [tyM, Bool.and_eq_true, beq_iff_eq, flds] at ht
    obtain ⟨ht, hc⟩ := ht
    cases hu : P.underlying t with
    | none => simp [hu] at ht
    | some u =>
      cases u <;> simp only [hu] at ht <;> (try (cases ht; done))
      rename_i fs
      obtain ⟨xs, n, rfl, rfl, hl, hlen, hget⟩ := DataW.trod_struct hu hx
      cases hfs : fs.toList with
      | nil => simp [hfs] at ht
      | cons f fr =>
        simp only [hfs, Bool.and_eq_true, beq_iff_eq] at ht
        obtain ⟨⟨h1, h2⟩, h3⟩ := ht
        have hg2 : ∀ (i : Nat) g, (f :: fr)[i]? = some g → DataW.trod enc P w 0 (fun _ => true) true n g.type ((cs.drop g.offset).take (P.cellsOf g.type)) = xs[i]? := by
          intro i g hg
          refine hget i g ?_
          rw [← hfs] at hg
          simpa using hg
        have hlen' : xs.length = (f :: fr).length := by rw [hlen, ← hfs]; simp
        obtain ⟨m', h', ccs, k1, k2, k3, k4⟩ := key f fr 0 h1 h2 h3 n cs xs m h hlen' hg2 (by rw [hl, hc]; omega) i
        exact ⟨m', h', ccs, k1, by simpa using k2, by simpa [Ty.n] using k3, k4⟩
  · intro fs off ht fuel cs xs m h hl hget hlen i
    simp only [tyM, flds, Bool.and_eq_true] at ht
    obtain ⟨ht, _⟩ := ht
    cases fs with
    | nil => simp at ht
    | cons f fr =>
      simp only [Bool.and_eq_true, beq_iff_eq] at ht
      obtain ⟨⟨h1, h2⟩, h3⟩ := ht
      obtain ⟨m', h', ccs, k1, k2, k3, k4⟩ := key f fr off h1 h2 h3 fuel cs xs m h hl hget (by simpa [Ty.n] using hlen) i
      exact ⟨m', h', ccs, k1, k2, by simpa [Ty.n] using k3, k4⟩

theorem reads_nil : Reads P G w H enc .nil := by
  refine ⟨?_, ?_⟩
  · intro t ht fuel cs x m h hx i
    simp only [tyM, Bool.and_eq_true, beq_iff_eq, flds] at ht
    obtain ⟨ht, hc⟩ := ht
    cases hu : P.underlying t with
    | none => simp [hu] at ht
    | some u =>
      cases u <;> simp only [hu] at ht <;> (try (cases ht; done))
      obtain ⟨xs, n, rfl, rfl, hl, hlen, hget⟩ := DataW.trod_struct hu hx
      rw [hc] at hl
      obtain rfl := List.length_eq_zero_iff.1 hl
      exact ⟨m, h, [], Laid.refl i, rfl, rfl, rfl⟩
  · intro fs off ht fuel cs xs m h hl hget hlen i
    refine ⟨m, h, [], Laid.refl i, ?_, rfl, rfl⟩
    have : cs.length ≤ off := by simp [Ty.n] at hlen; omega
    rw [List.drop_eq_nil_of_le this]; rfl

theorem reads_sl {e : Ty} (he : Reads P G w H enc e) : Reads P G w H enc (.sl e) := by
  refine ⟨?_, fun fs off ht => by simp [tyM] at ht⟩
  intro t ht fuel cs x m h hx i
  simp only [tyM, Bool.and_eq_true, beq_iff_eq] at ht
  obtain ⟨ht, hc⟩ := ht
  cases hu : P.underlying t with
  | none => simp [hu] at ht
  | some u =>
    cases u <;> simp only [hu] at ht <;> (try (cases ht; done))
    rename_i et
    have hce := tyM_cells ht
    rcases DataW.trod_slice hu hx with ⟨rfl, _⟩ | ⟨a, len, cap, elems, rest, n, rfl, rfl, _, _, hlc, hcm, hel, hget, _, _⟩
    · exact ⟨m, h, [.nils], Laid.refl i, rfl, rfl, .inl rfl⟩
    · rw [hce] at hget
      have hb : ∀ k, k ≤ len → ∃ (m' : Mp) (h' : Heap) (ccs : List CV), Laid G m h w m' h' ∧ ccs.length = k * e.n ∧ (∀ j, j < k → Sh h' e ((ccs.drop (j * e.n)).take e.n)) ∧
          (∀ (j : Nat) v, ccs[j]? = some v → ∃ rv, tr G m' v = some rv ∧ w.cell? (a.add j) = some rv) := by
        intro k
        induction k with
        | zero => intro _; exact ⟨m, h, [], Laid.refl i, by simp, by intro j hj; omega, by simp⟩
        | succ k ih =>
          intro hk
          obtain ⟨m1, h1, c1, l1, n1, s1, r1⟩ := ih (by omega)
          have hg := hget k (by omega)
          have hk' : k < elems.length := by omega
          rw [List.getElem?_eq_getElem hk'] at hg
          obtain ⟨cv, hcv, htr⟩ := Option.bind_eq_some_iff.1 hg
          obtain ⟨hlv, hcell⟩ := cells?_get hcv
          obtain ⟨m2, h2, c2, l2, t2, n2, s2⟩ := he.1 et ht n cv _ m1 h1 htr l1.inv
          refine ⟨m2, h2, c1 ++ c2, l1.trans l2, ?_, ?_, ?_⟩
          · rw [List.length_append, n1, n2, Nat.succ_mul]
          · intro j hj
            by_cases hjk : j = k
            · subst hjk
              rw [← n1, List.drop_left, ← n2, List.take_length]; exact s2
            · have hj2 : (j + 1) * e.n ≤ k * e.n := Nat.mul_le_mul_right _ (by omega)
              rw [Nat.succ_mul] at hj2
              rw [List.drop_append_of_le_length (by rw [n1]; omega), List.take_append_of_le_length (by rw [List.length_drop, n1]; omega)]
              exact (s1 j (by omega)).laid l2
          · intro j v hv
            by_cases hjl : j < c1.length
            · rw [List.getElem?_append_left hjl] at hv
              obtain ⟨rv, q1, q2⟩ := r1 j v hv
              exact ⟨rv, tr_mono G l2.le _ _ q1, q2⟩
            · rw [List.getElem?_append_right (by omega)] at hv
              obtain ⟨rv, q1, q2⟩ := trL_get t2 _ v hv
              refine ⟨rv, q1, ?_⟩
              have hlt : j - c1.length < e.n := by have := (List.getElem?_eq_some_iff.1 hv).1; omega
              have := hcell (j - c1.length) hlt
              rw [q2] at this
              rw [← this, addr_add_add]
              congr 2
              omega
      obtain ⟨m1, h1, c1, l1, n1, s1, r1⟩ := hb len (Nat.le_refl _)
      have hobj : ObjR G m1 ⟨a.block, a.off, cap - len, a.spot⟩ w (.arr c1 .ro) := by
        cases hc1 : c1 with
        | nil => exact .inl ⟨rfl, rfl⟩
        | cons v0 vr =>
          obtain ⟨rv0, q0, p0⟩ := r1 0 v0 (by simp [hc1])
          obtain ⟨hs, C, et', fr, hh, _⟩ := cell?_get p0
          have hsp : a.spot = none := by simpa [Addr.add] using hs
          refine .inr ⟨C, et', fr, hsp, by simpa [Addr.add] using hh, ?_, fun k => absurd rfl k⟩
          intro j v hv
          obtain ⟨rv, q1, q2⟩ := r1 j v (by rw [hc1]; exact hv)
          refine ⟨rv, q1, ?_⟩
          obtain ⟨_, C', e', fr', hh', hv'⟩ := cell?_get q2
          have ha : a = ⟨a.block, a.off, none⟩ := by cases a; simp_all
          rw [ha, Addr.add_lit] at hh' hv'
          have : w.heap[a.block]? = some (.cells C et' fr) := by simpa [Addr.add] using hh
          rw [this] at hh'
          cases hh'
          exact hv'
      obtain ⟨hle, hinv⟩ := l1.inv.new hobj
      refine ⟨_, _, [.sl h1.length 0 len len], l1.trans ⟨hinv, hle, [_], rfl⟩, ?_, rfl, .inr ⟨h1.length, len, c1, rfl, by simp, n1, by omega, fun j hj => (s1 j hj).more _⟩⟩
      have hcap : len + (cap - len) = cap := by omega
      simp [trL, tr, Mp.upd_same, Loc.ad, Addr.add, hcap]

theorem reads : ∀ (ty : Ty), Reads P G w H enc ty
  | .int k => by
    refine reads_one (by intro x; rfl) ?_ rfl
    intro t ht fuel cs x hx
    simp only [tyM, Bool.and_eq_true] at ht
    cases hu : P.underlying t with
    | none => simp [hu] at ht
    | some u =>
      cases u <;> simp [hu] at ht
      rename_i k'
      obtain ⟨rfl, _⟩ := ht
      obtain ⟨n, rfl, _, hwf⟩ := DataW.trod_int hu hx
      exact ⟨.int k n, fun m => rfl, fun h => ⟨n, rfl, hwf⟩⟩
  | .bool => by
    refine reads_one (by intro x; rfl) ?_ rfl
    intro t ht fuel cs x hx
    simp only [tyM, Bool.and_eq_true] at ht
    cases hu : P.underlying t with
    | none => simp [hu] at ht
    | some u =>
      cases u <;> simp [hu] at ht
      obtain ⟨b, rfl, _⟩ := DataW.trod_bool hu hx
      exact ⟨.bool b, fun m => rfl, fun h => ⟨b, rfl⟩⟩
  | .str => by
    refine reads_one (by intro x; rfl) ?_ rfl
    intro t ht fuel cs x hx
    simp only [tyM, Bool.and_eq_true] at ht
    cases hu : P.underlying t with
    | none => simp [hu] at ht
    | some u =>
      cases u <;> simp [hu] at ht
      obtain ⟨s, rfl, _, hl⟩ := DataW.trod_string hu hx
      exact ⟨.str s.data.toList, fun m => by simp [trL, tr], fun h => ⟨_, rfl, by simpa using hl⟩⟩
  | .sl e => reads_sl (reads e)
  | .nil => reads_nil
  | .cons a b => reads_cons (reads a) (reads b)

/-- a cell or more as one value -/
def packs (ty : Ty) (c : List CV) : CV :=
  match ty, c with
  | .nil, c => .agg c
  | .cons _ _, c => .agg c
  | _, [v] => v
  | _, c => .agg c

end
end Go.Cl
