/-
  The operations that change nothing in memory: what the model does at each is what the clean evaluator says.
-/
import Derived.Test.YtiegjnklhafloaaDoorCl3
import Derived.Laws.StructEq
import Derived.Laws.Strings
namespace Go.Cl
open Go
set_option linter.unusedSimpArgs false
set_option linter.unusedVariables false

section inv
variable {G : Gam} {m : Mp} {rv : Value}
theorem tr_int {k : IntKind} {n : Int} (h : tr G m (.int k n) = some rv) : rv = .int k n := by simpa [tr, eq_comm] using h
theorem tr_bool {b : Bool} (h : tr G m (.bool b) = some rv) : rv = .bool b := by simpa [tr, eq_comm] using h
theorem tr_str {s : List UInt8} (h : tr G m (.str s) = some rv) : rv = .string ⟨s.toArray⟩ := by simpa [tr, eq_comm] using h
theorem tr_ptr {b o : Nat} (h : tr G m (.ptr b o) = some rv) : ∃ L, m b = some L ∧ rv = .pointer (some (L.ad o)) := by
  cases hb : m b <;> simp [tr, hb] at h; exact ⟨_, rfl, h.symm⟩
theorem tr_sl {b o n c : Nat} (h : tr G m (.sl b o n c) = some rv) : ∃ L, m b = some L ∧ rv = .slice (some (L.ad o)) n (c + L.slack) := by
  cases hb : m b <;> simp [tr, hb] at h; exact ⟨_, rfl, h.symm⟩
theorem tr_mp {b : Nat} (h : tr G m (.mp b) = some rv) : ∃ L, m b = some L ∧ rv = .map (some L.blk) := by
  cases hb : m b <;> simp [tr, hb] at h; exact ⟨_, rfl, h.symm⟩
theorem tr_nils (h : tr G m .nils = some rv) : rv = .slice none 0 0 := by simpa [tr, eq_comm] using h
theorem tr_nilm (h : tr G m .nilm = some rv) : rv = .map none := by simpa [tr, eq_comm] using h
theorem tr_nilp (h : tr G m .nilp = some rv) : rv = .pointer none := by simpa [tr, eq_comm] using h
theorem tr_nilf (h : tr G m .nilf = some rv) : rv = .nilFunc := by simpa [tr, eq_comm] using h
theorem tr_nili (h : tr G m .nili = some rv) : rv = .nilIface := by simpa [tr, eq_comm] using h
theorem tr_agg {l : List CV} (h : tr G m (.agg l) = some rv) : ∃ vs, trL G m l = some vs ∧ rv = .agg vs.toArray := by
  cases hl : trL G m l <;> simp [tr, hl] at h; exact ⟨_, rfl, h.symm⟩
theorem tr_tup {l : List CV} (h : tr G m (.tup l) = some rv) : ∃ vs, trL G m l = some vs ∧ rv = .tuple vs.toArray := by
  cases hl : trL G m l <;> simp [tr, hl] at h; exact ⟨_, rfl, h.symm⟩
theorem tr_fn {f : Nat} {caps : List CV} (h : tr G m (.fn f caps) = some rv) : ∃ fid vs, G.F f = some fid ∧ trL G m caps = some vs ∧ rv = .func (.func fid) #[] vs.toArray := by
  cases hf : G.F f <;> cases hl : trL G m caps <;> simp [tr, hf, hl] at h; exact ⟨_, _, rfl, rfl, h.symm⟩
theorem tr_ifc {t : Nat} {v : CV} (h : tr G m (.ifc t v) = some rv) : ∃ x, tr G m v = some x ∧ rv = .iface (G.T t) x := by
  cases hv : tr G m v <;> simp [tr, hv] at h; exact ⟨_, rfl, h.symm⟩
end inv

theorem bytes_toList (s : List UInt8) : (⟨s.toArray⟩ : ByteArray).toList = s := by rw [ByteArray.toList_eq]
theorem bytes_size (s : List UInt8) : (⟨s.toArray⟩ : ByteArray).size = s.length := rfl

theorem less_eq : ∀ a b : List UInt8, Op.bytesLess a b = bytesLess a b
  | _, [] => by simp [Op.bytesLess, bytesLess]
  | [], _ :: _ => by simp [Op.bytesLess, bytesLess]
  | a :: x, b :: y => by simp [Op.bytesLess, bytesLess, less_eq x y]

/-- '+', '<' and their like -/
theorem bin_sim {P : Program} {G : Gam} {m : Mp} {op : BinOp} {x y : CV} {v : CV} (h : bin op x y = some v) {rx ry : Value} (hx : tr G m x = some rx) (hy : tr G m y = some ry) (t : TypeId) (X Y : Operand) (w : World) :
    ∃ rv, (do eqGuard op t X Y rx ry; binOp op t rx ry : Sem Value).run P w = .ok rv w ∧ tr G m v = some rv := by
  cases x with
  | int k a =>
    cases y with
    | int k' b =>
      simp [bin] at h
      obtain ⟨rfl, h⟩ := h
      rw [tr_int hx, tr_int hy]
      simp only [Sem.run_bind, eqGuard_at_int, Sem.run_pure, Result.andThen_ok]
      cases op <;> simp [binInt] at h <;> (first | subst h | (obtain ⟨h0, h⟩ := h; subst h)) <;> simp [binOp, Op.intArith, Op.intDiv, Op.intCmp, tr, *]
    | _ => simp [bin] at h
  | str a =>
    cases y with
    | str b =>
      simp [bin] at h
      rw [tr_str hx, tr_str hy]
      simp only [Sem.run_bind, eqGuard_at_string, Sem.run_pure, Result.andThen_ok]
      by_cases ha : op = .add
      · subst ha
        simp [binStr] at h
        obtain ⟨h0, rfl⟩ := h
        refine ⟨.string (⟨a.toArray⟩ ++ ⟨b.toArray⟩), ?_, ?_⟩
        · simp only [binOp, Op.stringOp, bytes_size, IntKind.max_i64]
          rw [Sem.run_ite, if_neg (by omega)]; rfl
        · simp only [tr]
          congr 2
      · cases op <;> simp [binStr] at h <;> (first | subst h | exact absurd rfl ha) <;> simp [binOp, Op.stringOp, bytes_toList, bytes_size, less_eq, tr]
    | _ => simp [bin] at h
  | _ => cases y <;> simp [bin] at h

theorem eqKind_sim {P : Program} {G : Gam} {m : Mp} {k : BK} {x y : CV} {r : Bool} (h : eqKind k x y = some r) {rx ry : Value} (hx : tr G m x = some rx) (hy : tr G m y = some ry) {t : TypeId}
    (ht : bkM P t k = true) (d : Nat) (w : World) :
    (Op.equalIn (d + 1) t rx ry).run P w = .ok r w ∧ ldM P t none = (szOf P t == some 1) := by
  cases k with
  | i =>
    cases x <;> cases y <;> simp [eqKind] at h
    obtain ⟨rfl, rfl⟩ := h
    cases hu : P.underlying t with
    | none => simp [bkM, hu] at ht
    | some dd =>
      cases dd <;> simp [bkM, hu] at ht
      rw [tr_int hx, tr_int hy]
      exact ⟨by simp [run_equalIn_int w d t _ _ _ _ hu], by simp [ldM, hu]⟩
  | s =>
    cases x <;> cases y <;> simp [eqKind] at h
    subst h
    cases hu : P.underlying t with
    | none => simp [bkM, hu] at ht
    | some dd =>
      cases dd <;> simp [bkM, hu] at ht
      rw [tr_str hx, tr_str hy]
      exact ⟨by simp [run_equalIn_string w d t _ _ hu, bytes_toList], by simp [ldM, hu]⟩
  | b =>
    cases x <;> cases y <;> simp [eqKind] at h
    subst h
    cases hu : P.underlying t with
    | none => simp [bkM, hu] at ht
    | some dd =>
      cases dd <;> simp [bkM, hu] at ht
      rw [tr_bool hx, tr_bool hy]
      exact ⟨by simp [run_equalIn_bool' w d t _ _ hu], by simp [ldM, hu]⟩

theorem part_one {P : Program} {t : TypeId} (ht : ldM P t none = true) {vs : List Value} {i : Nat} {v : Value} (hv : vs[i]? = some v) (w : World) : (part t vs.toArray i).run P w = .ok v w := by
  simp [part, (run_isAgg_false ht w).1, hv]

theorem part_more {P : Program} {t : TypeId} {n : Nat} (ht : ldM P t (some n) = true) {vs : List Value} {i : Nat} (w : World) : (part t vs.toArray i).run P w = .ok (.agg ((vs.drop i).take n).toArray) w := by
  obtain ⟨h1, h2⟩ := run_isAgg_true ht w
  simp [part, h1, run_sizeOf h2, List.extract_eq_take_drop]

theorem partOf_sim {P : Program} {G : Gam} {m : Mp} {t : TypeId} {n : Option Nat} (ht : ldM P t n = true) {cs : List CV} {vs : List Value} (hl : trL G m cs = some vs) {off : Nat} {v : CV} (hv : partOf cs off n = some v) (w : World) :
    ∃ rv, (part t vs.toArray off).run P w = .ok rv w ∧ tr G m v = some rv := by
  cases n with
  | none =>
    obtain ⟨rv, h1, h2⟩ := trL_get hl off v hv
    exact ⟨rv, part_one ht h2 w, h1⟩
  | some n =>
    simp [partOf] at hv
    obtain ⟨hle, rfl⟩ := hv
    refine ⟨_, part_more ht w, ?_⟩
    have hlen := trL_length hl
    have : trL G m ((cs.drop off).take n) = some ((vs.drop off).take n) := by
      refine trL_mk (by simp [hlen]) fun i u hu => ?_
      rw [List.getElem?_take] at hu ⊢
      split at hu
      · rename_i hi
        rw [List.getElem?_drop] at hu
        obtain ⟨ru, g1, g2⟩ := trL_get hl _ u hu
        exact ⟨ru, g1, by rw [if_pos hi, List.getElem?_drop]; exact g2⟩
      · simp at hu
    simp [tr, this]

theorem eqFields_sim {P : Program} {G : Gam} {m : Mp} {xs ys : List CV} {rxs rys : List Value} (d : Nat) (w : World) (hx : trL G m xs = some rxs) (hy : trL G m ys = some rys) :
    ∀ (fs : List Field) (ks : List BK) (i : Nat) (r : Bool), fieldsM P i fs ks = true → eqCells ks (xs.drop i) (ys.drop i) = some r → (Op.eqFields (d + 1) rxs.toArray rys.toArray fs).run P w = .ok r w
  | [], [], i, r, _, h => by
    cases hX : xs.drop i <;> cases hY : ys.drop i <;> simp [hX, hY, eqCells] at h
    subst h; simp [Op.eqFields]
  | [], _ :: _, _, _, hf, _ => by simp [fieldsM] at hf
  | _ :: _, [], _, _, hf, _ => by simp [fieldsM] at hf
  | f :: fs, k :: ks, i, r, hf, h => by
    simp only [fieldsM, Bool.and_eq_true] at hf
    obtain ⟨⟨⟨⟨h1, h2⟩, h3⟩, h4⟩, h5⟩ := hf
    have h2 : f.offset = i := by simpa using h2
    cases hX : xs.drop i with
    | nil => simp [hX, eqCells] at h
    | cons x xr =>
      cases hY : ys.drop i with
      | nil => simp [hX, hY, eqCells] at h
      | cons y yr =>
        rw [hX, hY] at h
        simp only [eqCells] at h
        have gx : xs[i]? = some x := by have := congrArg (·[0]?) hX; simpa using this
        have gy : ys[i]? = some y := by have := congrArg (·[0]?) hY; simpa using this
        have ex : xs.drop (i + 1) = xr := by rw [← List.drop_drop, hX]; rfl
        have ey : ys.drop (i + 1) = yr := by rw [← List.drop_drop, hY]; rfl
        obtain ⟨rx, a1, a2⟩ := trL_get hx i x gx
        obtain ⟨ry, b1, b2⟩ := trL_get hy i y gy
        cases hq : eqKind k x y with
        | none => simp [hq] at h
        | some q =>
          obtain ⟨e1, e2⟩ := eqKind_sim (P := P) hq a1 b1 h4 d w
          have hld : ldM P f.type none = true := by rw [e2]; exact h3
          simp only [Op.eqFields]
          rw [if_pos (by simpa using h1)]
          simp only [Sem.run_bind, h2, part_one hld a2, part_one hld b2, Result.andThen_ok, e1]
          cases q with
          | false => simp [hq] at h; subst h; simp
          | true =>
            simp [hq] at h
            simp
            exact eqFields_sim d w hx hy fs ks (i + 1) r h5 (by rw [ex, ey]; exact h)

theorem eqv_sim {P : Program} {G : Gam} {m : Mp} {et : EqT} {t : TypeId} (ht : eqTM P t et = true) {x y : CV} {r : Bool} (h : eqv et x y = some r) {rx ry : Value} (hx : tr G m x = some rx) (hy : tr G m y = some ry)
    {X Y : Operand} (hc : et = .i → (isC X || isC Y) = true) (neg : Bool) (w : World) :
    (do eqGuard (if neg then .neq else .eql) t X Y rx ry; binOp (if neg then .neq else .eql) t rx ry : Sem Value).run P w = .ok (.bool (if neg then !r else r)) w := by
  have key : ∀ (hg : (eqGuard (if neg then .neq else .eql) t X Y rx ry).run P w = .ok () w)
      (hb : ∀ op, op = .eql ∨ op = .neq → binOp op t rx ry = (do let b ← Op.equal t rx ry; pure (.bool (if op = .neq then !b else b)) : Sem Value))
      (he : ∀ n, 2 ≤ n → (Op.equalIn n t rx ry).run P w = .ok r w),
      (do eqGuard (if neg then .neq else .eql) t X Y rx ry; binOp (if neg then .neq else .eql) t rx ry : Sem Value).run P w = .ok (.bool (if neg then !r else r)) w := by
    intro hg hb he
    rw [Sem.run_bind, hg, Result.andThen_ok, hb _ (by cases neg <;> simp), Sem.run_bind]
    have : (Op.equal t rx ry).run P w = .ok r w := he 10000 (by decide)
    rw [this]
    cases neg <;> rfl
  cases et with
  | b =>
    cases hu : P.underlying t with
    | none => simp [eqTM, hu] at ht
    | some d =>
      cases d <;> simp [eqTM, hu] at ht
      cases x <;> cases y <;> simp [eqv] at h
      subst h
      rw [tr_bool hx, tr_bool hy] at *
      exact key (by simp [eqGuard_at_bool]) (fun op ho => by rcases ho with rfl | rfl <;> rfl) (fun n hn => by cases n with | zero => omega | succ n => simp [run_equalIn_bool' w n t _ _ hu])
  | p =>
    cases hu : P.underlying t with
    | none => simp [eqTM, hu] at ht
    | some d =>
      cases d <;> simp [eqTM, hu] at ht
      cases x <;> cases y <;> simp [eqv] at h <;> subst h
      · obtain ⟨L, _, rfl⟩ := tr_ptr hx
        obtain rfl := tr_nilp hy
        exact key (by simp [eqGuard_at_pointer]) (fun op ho => by rcases ho with rfl | rfl <;> rfl) (fun n hn => by cases n with | zero => omega | succ n => simp [Op.equalIn, run_underlying hu])
      · obtain ⟨L, _, rfl⟩ := tr_ptr hy
        obtain rfl := tr_nilp hx
        exact key (by simp [eqGuard_at_pointer]) (fun op ho => by rcases ho with rfl | rfl <;> rfl) (fun n hn => by cases n with | zero => omega | succ n => simp [Op.equalIn, run_underlying hu])
      · obtain rfl := tr_nilp hx
        obtain rfl := tr_nilp hy
        exact key (by simp [eqGuard_at_pointer]) (fun op ho => by rcases ho with rfl | rfl <;> rfl) (fun n hn => by cases n with | zero => omega | succ n => simp [Op.equalIn, run_underlying hu])
  | s =>
    cases hu : P.underlying t with
    | none => simp [eqTM, hu] at ht
    | some d =>
      cases d <;> simp [eqTM, hu] at ht
      cases x <;> cases y <;> simp [eqv] at h <;> subst h
      · obtain ⟨L, _, rfl⟩ := tr_sl hx
        obtain rfl := tr_nils hy
        exact key (by simp [eqGuard_at_slice]) (fun op ho => by rcases ho with rfl | rfl <;> rfl) (fun n hn => by cases n with | zero => omega | succ n => simp [Op.equalIn, run_underlying hu])
      · obtain ⟨L, _, rfl⟩ := tr_sl hy
        obtain rfl := tr_nils hx
        exact key (by simp [eqGuard_at_slice]) (fun op ho => by rcases ho with rfl | rfl <;> rfl) (fun n hn => by cases n with | zero => omega | succ n => simp [Op.equalIn, run_underlying hu])
      · obtain rfl := tr_nils hx
        obtain rfl := tr_nils hy
        exact key (by simp [eqGuard_at_slice]) (fun op ho => by rcases ho with rfl | rfl <;> rfl) (fun n hn => by cases n with | zero => omega | succ n => simp [Op.equalIn, run_underlying hu])
  | m =>
    cases hu : P.underlying t with
    | none => simp [eqTM, hu] at ht
    | some d =>
      cases d <;> simp [eqTM, hu] at ht
      cases x <;> cases y <;> simp [eqv] at h <;> subst h
      · obtain ⟨L, _, rfl⟩ := tr_mp hx
        obtain rfl := tr_nilm hy
        exact key (by simp [eqGuard_at_map]) (fun op ho => by rcases ho with rfl | rfl <;> rfl) (fun n hn => by cases n with | zero => omega | succ n => simp [Op.equalIn, run_underlying hu])
      · obtain ⟨L, _, rfl⟩ := tr_mp hy
        obtain rfl := tr_nilm hx
        exact key (by simp [eqGuard_at_map]) (fun op ho => by rcases ho with rfl | rfl <;> rfl) (fun n hn => by cases n with | zero => omega | succ n => simp [Op.equalIn, run_underlying hu])
      · obtain rfl := tr_nilm hx
        obtain rfl := tr_nilm hy
        exact key (by simp [eqGuard_at_map]) (fun op ho => by rcases ho with rfl | rfl <;> rfl) (fun n hn => by cases n with | zero => omega | succ n => simp [Op.equalIn, run_underlying hu])
  | f =>
    cases hu : P.underlying t with
    | none => simp [eqTM, hu] at ht
    | some d =>
      cases d <;> simp [eqTM, hu] at ht
      cases x <;> cases y <;> simp [eqv] at h <;> subst h
      · obtain ⟨_, _, _, _, rfl⟩ := tr_fn hx
        obtain rfl := tr_nilf hy
        exact key (by simp [eqGuard_at_func]) (fun op ho => by rcases ho with rfl | rfl <;> rfl) (fun n hn => by cases n with | zero => omega | succ n => simp [Op.equalIn, run_underlying hu])
      · obtain ⟨_, _, _, _, rfl⟩ := tr_fn hy
        obtain rfl := tr_nilf hx
        exact key (by simp [eqGuard_at_nilFunc]) (fun op ho => by rcases ho with rfl | rfl <;> rfl) (fun n hn => by cases n with | zero => omega | succ n => simp [Op.equalIn, run_underlying hu])
      · obtain rfl := tr_nilf hx
        obtain rfl := tr_nilf hy
        exact key (by simp [eqGuard_at_nilFunc]) (fun op ho => by rcases ho with rfl | rfl <;> rfl) (fun n hn => by cases n with | zero => omega | succ n => simp [Op.equalIn, run_underlying hu])
  | i =>
    cases hu : P.underlying t with
    | none => simp [eqTM, hu] at ht
    | some d =>
      cases d <;> simp [eqTM, hu] at ht
      cases x <;> cases y <;> simp [eqv] at h <;> subst h
      · obtain ⟨_, _, rfl⟩ := tr_ifc hx
        obtain rfl := tr_nili hy
        exact key (by simp [eqGuard_at_iface]) (fun op ho => by rcases ho with rfl | rfl <;> rfl) (fun n hn => by cases n with | zero => omega | succ n => simp [Op.equalIn, run_underlying hu])
      · obtain ⟨_, _, rfl⟩ := tr_ifc hy
        obtain rfl := tr_nili hx
        exact key (by simp [eqGuard_nil_iface]) (fun op ho => by rcases ho with rfl | rfl <;> rfl) (fun n hn => by cases n with | zero => omega | succ n => simp [Op.equalIn, run_underlying hu])
      · obtain rfl := tr_nili hx
        obtain rfl := tr_nili hy
        refine key ?_ (fun op ho => by rcases ho with rfl | rfl <;> rfl) (fun n hn => by cases n with | zero => omega | succ n => simp [Op.equalIn, run_underlying hu])
        have := hc rfl
        cases X <;> cases Y <;> simp [isC] at this <;> simp [eqGuard_nil_constL, eqGuard_nil_constR]
  | st ks =>
    cases hu : P.underlying t with
    | none => simp [eqTM, hu] at ht
    | some d =>
      cases d <;> simp [eqTM, hu] at ht
      rename_i fs
      obtain ⟨⟨h1, h2⟩, h3⟩ := ht
      cases x <;> cases y <;> simp [eqv] at h
      obtain ⟨⟨hl1, hl2⟩, h⟩ := h
      obtain ⟨vx, gx, rfl⟩ := tr_agg hx
      obtain ⟨vy, gy, rfl⟩ := tr_agg hy
      refine key (run_eqGuard_agg w _ t X Y _ _ h2) (fun op ho => by rcases ho with rfl | rfl <;> rfl) ?_
      have hf : P.fieldsOf t = fs := by simp [Program.fieldsOf, hu]
      intro n hn
      obtain ⟨d, rfl⟩ : ∃ d, n = d + 1 + 1 := ⟨n - 2, by omega⟩
      rw [run_equalIn_struct w (d + 1) t _ _ (by rw [hf]; exact hu) h1, hf]
      exact eqFields_sim d w gx gy fs.toList ks 0 r h3 (by simpa using h)

end Go.Cl
