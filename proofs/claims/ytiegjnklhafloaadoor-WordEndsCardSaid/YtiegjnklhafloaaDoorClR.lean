/-
  Rules of the clean evaluator: what a piece of code needs to come to an end that fits.
-/
import Derived.Test.YtiegjnklhafloaaDoorClM
namespace Go.Cl
open Go
set_option linter.unusedSimpArgs false
set_option linter.unusedVariables false

/-- the two parts of a program -/
structure PP where
  Pg : Prog
  pr : Prims

def PP.call (p : PP) (n : Nat) : CallF := evCall p.Pg p.pr n

theorem PP.le (p : PP) {n n' : Nat} (h : n ≤ n') : CallLe (p.call n) (p.call n') := evCall_le _ _ n n' h

/-- a value that is there, and what holds of it -/
def OV {α : Type} (o : Option α) (K : α → Prop) : Prop := ∃ v, o = some v ∧ K v

@[simp ↓] theorem OV_some {α : Type} {v : α} {K : α → Prop} : OV (some v) K = K v := by simp [OV]
@[simp] theorem OV_none {α : Type} {K : α → Prop} : OV none K = False := by simp [OV]

section
variable (p : PP)

/-- a call -/
def WF (f : Nat) (vs : List CV) (h : Heap) (K : CV → Heap → Prop) : Prop := ∃ n r h', p.call n f vs h = some (r, h') ∧ K r h'
/-- an operation -/
def W1 (op : SOp) (e : Env) (h : Heap) (K : CV → Heap → Prop) : Prop := ∃ n r h', evOp (p.call n) op e h = some (r, h') ∧ K r h'
/-- operations -/
def WO (all l : List SOper) (e : Env) (h : Heap) (K : Env → Heap → Prop) : Prop := ∃ n e' h', evOps (p.call n) all l e h = some (e', h') ∧ K e' h'
/-- code -/
def W (c : SCode) (e : Env) (h : Heap) (Q : Ex → Env → Heap → Prop) : Prop := ∃ n k x e' h', evC (p.call n) k c e h = some (x, e', h') ∧ Q x e' h'

variable {p}

theorem WF.mono {f : Nat} {vs : List CV} {h : Heap} {K K' : CV → Heap → Prop} (w : WF p f vs h K) (k : ∀ r h', K r h' → K' r h') : WF p f vs h K' :=
  let ⟨n, r, h', a, b⟩ := w; ⟨n, r, h', a, k r h' b⟩
theorem W.mono {c : SCode} {e : Env} {h : Heap} {Q Q' : Ex → Env → Heap → Prop} (w : W p c e h Q) (k : ∀ x e' h', Q x e' h' → Q' x e' h') : W p c e h Q' :=
  let ⟨n, m, x, e', h', a, b⟩ := w; ⟨n, m, x, e', h', a, k x e' h' b⟩
theorem WO.mono {all l : List SOper} {e : Env} {h : Heap} {K K' : Env → Heap → Prop} (w : WO p all l e h K) (k : ∀ e' h', K e' h' → K' e' h') : WO p all l e h K' :=
  let ⟨n, e', h', a, b⟩ := w; ⟨n, e', h', a, k e' h' b⟩

@[simp ↓] theorem WO_nil {all : List SOper} {e : Env} {h : Heap} {K : Env → Heap → Prop} : WO p all [] e h K = K e h := by
  apply propext
  constructor
  · rintro ⟨n, e', h', a, b⟩; simp [evOps] at a; obtain ⟨rfl, rfl⟩ := a; exact b
  · intro k; exact ⟨0, e, h, rfl, k⟩

theorem evOper_none {call : CallF} {all : List SOper} {d : Option Nat} {op : SOp} {e : Env} {h : Heap} :
    evOper call all ⟨d, op, none, []⟩ e h = match evOp call op e h with | some (v, h') => some (e.put d v, h') | none => none := by
  simp only [evOper, wanted]
  cases evOp call op e h with
  | none => rfl
  | some q => obtain ⟨v, h'⟩ := q; simp [recheckB]

@[simp ↓] theorem WO_cons {all l : List SOper} {d : Option Nat} {op : SOp} {e : Env} {h : Heap} {K : Env → Heap → Prop} :
    WO p all (⟨d, op, none, []⟩ :: l) e h K = W1 p op e h (fun v h' => WO p all l (e.put d v) h' K) := by
  apply propext
  constructor
  · rintro ⟨n, e', h', a, b⟩
    simp only [evOps, evOper_none] at a
    cases ho : evOp (p.call n) op e h with
    | none => simp [ho] at a
    | some q => obtain ⟨v, h1⟩ := q; simp [ho] at a; exact ⟨n, v, h1, ho, n, e', h', a, b⟩
  · rintro ⟨n, v, h1, ho, m, e', h', a, b⟩
    refine ⟨max n m, e', h', ?_, b⟩
    simp only [evOps, evOper_none]
    rw [evOp_le (p.le (Nat.le_max_left n m)) ho]
    exact evOps_le (p.le (Nat.le_max_right n m)) a

theorem WO_guard {all l : List SOper} {d : Option Nat} {op : SOp} {t : Nat} {want : Bool} {e : Env} {h : Heap} {K : Env → Heap → Prop} :
    WO p all (⟨d, op, some (t, want), []⟩ :: l) e h K = OV (wanted e (some (t, want))) fun b => if b = true then W1 p op e h (fun v h' => WO p all l (e.put d v) h' K) else WO p all l (e.put d .undef) h K := by
  have key : ∀ n, evOper (p.call n) all ⟨d, op, some (t, want), []⟩ e h = match wanted e (some (t, want)) with
      | some true => evOper (p.call n) all ⟨d, op, none, []⟩ e h
      | some false => some (e.put d .undef, h)
      | none => none := by
    intro n
    rw [evOper_none]
    simp only [evOper]
    cases wanted e (some (t, want)) with
    | none => rfl
    | some b =>
      cases b with
      | false => rfl
      | true => cases evOp (p.call n) op e h with
        | none => rfl
        | some q => obtain ⟨v, h'⟩ := q; simp [recheckB]
  cases hw : wanted e (some (t, want)) with
  | none =>
    simp only [OV_none, eq_iff_iff, iff_false]
    rintro ⟨n, e', h', a, b⟩
    simp [evOps, key, hw] at a
  | some b =>
    cases b with
    | true =>
      simp only [OV_some, if_true]
      rw [← WO_cons]
      apply propext
      constructor <;>
      · rintro ⟨n, e', h', a, b⟩
        refine ⟨n, e', h', ?_, b⟩
        simpa only [evOps, key, hw] using a
    | false =>
      simp only [OV_some, Bool.false_eq_true, if_false]
      apply propext
      constructor
      · rintro ⟨n, e', h', a, b⟩
        simp only [evOps, key, hw] at a
        exact ⟨n, e', h', a, b⟩
      · rintro ⟨n, e', h', a, b⟩
        refine ⟨n, e', h', ?_, b⟩
        simp only [evOps, key, hw]
        exact a

/-! ### operations -/

theorem W1_of {op : SOp} {e : Env} {h : Heap} {K : CV → Heap → Prop} {r : Option (CV × Heap)} (hr : ∀ c, evOp c op e h = r) : W1 p op e h K = OV r fun q => K q.1 q.2 := by
  apply propext
  constructor
  · rintro ⟨n, v, h', a, b⟩; rw [hr] at a; exact ⟨_, a, b⟩
  · rintro ⟨⟨v, h'⟩, a, b⟩; exact ⟨0, v, h', by rw [hr]; exact a, b⟩

theorem OV_withH {h : Heap} {o : Option CV} {K : CV → Heap → Prop} : (OV (withH h o) fun q => K q.1 q.2) = OV o fun v => K v h := by
  cases o <;> simp [withH]

theorem OV_match {α β : Type} {o : Option α} {f : α → Option β} {K : β → Prop} : OV (match o with | some v => f v | none => none) K = OV o fun v => OV (f v) K := by
  cases o <;> simp

section ops
variable {e : Env} {h : Heap} {K : CV → Heap → Prop} {x y z : Opd}

@[simp ↓] theorem W1_move : W1 p (.move x) e h K = OV (x.ev e) fun v => K v h := by rw [W1_of fun c => rfl]; exact OV_withH

@[simp ↓] theorem W1_bin {op : BinOp} : W1 p (.bin op x y) e h K = OV (x.ev e) fun a => OV (y.ev e) fun b => OV (Cl.bin op a b) fun v => K v h := by
  rw [W1_of fun c => rfl]
  try simp only [evOp]
  cases x.ev e <;> cases y.ev e <;> simp [OV_withH]

def pickV (c : CV) (a b : Option CV) : Option CV := match c with | .bool t => if t then a else b | _ => none
@[simp] theorem pickV_bool {t : Bool} {a b : Option CV} : pickV (.bool t) a b = if t then a else b := rfl

@[simp ↓] theorem W1_pick : W1 p (.pick x y z) e h K = OV (x.ev e) fun c => OV (pickV c (y.ev e) (z.ev e)) fun v => K v h := by
  rw [W1_of fun c => rfl]
  try simp only [evOp]
  cases hx : x.ev e with
  | none => simp
  | some c => cases c <;> simp [OV_withH, pickV]

@[simp ↓] theorem W1_eq {n : Bool} {t : EqT} : W1 p (.eq n t x y) e h K = OV (x.ev e) fun a => OV (y.ev e) fun b => OV (eqv t a b) fun r => K (.bool (if n then !r else r)) h := by
  rw [W1_of fun c => rfl]
  try simp only [evOp]
  cases x.ev e with
  | none => simp
  | some a => cases y.ev e with
    | none => simp
    | some b => simp; cases eqv t a b <;> simp

def negV : CV → Option CV | .int k n => some (.int k (k.wrap (0 - n))) | _ => none
def notV : CV → Option CV | .bool b => some (.bool (!b)) | _ => none
def convV (k : IntKind) : CV → Option CV | .int _ n => some (.int k (k.wrap n)) | _ => none
@[simp] theorem negV_int {k : IntKind} {n : Int} : negV (.int k n) = some (.int k (k.wrap (0 - n))) := rfl
@[simp] theorem notV_bool {b : Bool} : notV (.bool b) = some (.bool (!b)) := rfl
@[simp] theorem convV_int {k k' : IntKind} {n : Int} : convV k (.int k' n) = some (.int k (k.wrap n)) := rfl

theorem OV_K {o : Option CV} {f : CV → Option CV} {g : CV → Option (CV × Heap)} (hg : ∀ v, g v = (f v).map fun r => (r, h)) :
    (OV (match o with | some v => g v | none => none) fun q => K q.1 q.2) = OV o fun v => OV (f v) fun r => K r h := by
  cases o with
  | none => simp
  | some v => simp only [OV_some, hg]; cases f v <;> simp

@[simp ↓] theorem W1_neg : W1 p (.neg x) e h K = OV (x.ev e) fun a => OV (negV a) fun v => K v h := by
  rw [W1_of fun c => rfl]
  try simp only [evOp]
  cases x.ev e with
  | none => simp
  | some a => cases a <;> simp [negV]

@[simp ↓] theorem W1_not : W1 p (.not x) e h K = OV (x.ev e) fun a => OV (notV a) fun v => K v h := by
  rw [W1_of fun c => rfl]
  try simp only [evOp]
  cases x.ev e with
  | none => simp
  | some a => cases a <;> simp [notV]

@[simp ↓] theorem W1_conv {k : IntKind} : W1 p (.conv k x) e h K = OV (x.ev e) fun a => OV (convV k a) fun v => K v h := by
  rw [W1_of fun c => rfl]
  try simp only [evOp]
  cases x.ev e with
  | none => simp
  | some a => cases a <;> simp [convV]

@[simp ↓] theorem W1_alloc {v : CV} : W1 p (.alloc v) e h K = K (.ptr h.length 0) (h ++ [.arr v.cells .tight]) := by
  rw [W1_of fun c => rfl]; simp

@[simp ↓] theorem W1_box : W1 p (.box x) e h K = OV (x.ev e) fun v => K (.ptr h.length 0) (h ++ [.arr v.cells .tight]) := by
  rw [W1_of fun c => rfl]; cases x.ev e <;> simp

def loadV (h : Heap) (n : Option Nat) : CV → Option CV | .ptr b o => loadAt h b o n | _ => none
@[simp] theorem loadV_ptr {n : Option Nat} {b o : Nat} : loadV h n (.ptr b o) = loadAt h b o n := rfl

@[simp ↓] theorem W1_load {n : Option Nat} : W1 p (.load n x) e h K = OV (x.ev e) fun a => OV (loadV h n a) fun v => K v h := by
  rw [W1_of fun c => rfl]
  try simp only [evOp]
  cases x.ev e with
  | none => simp
  | some a => cases a <;> simp [loadV, OV_withH]

def storeV (h : Heap) (n : Option Nat) (a v : CV) : Option Heap := match a with | .ptr b o => if fits n v = true then storeAt h b o v.cells else none | _ => none
@[simp] theorem storeV_ptr {n : Option Nat} {b o : Nat} {v : CV} : storeV h n (.ptr b o) v = if fits n v = true then storeAt h b o v.cells else none := rfl

@[simp ↓] theorem W1_store {n : Option Nat} : W1 p (.store n x y) e h K = OV (x.ev e) fun a => OV (y.ev e) fun v => OV (storeV h n a v) fun h' => K .undef h' := by
  rw [W1_of fun c => rfl]
  try simp only [evOp]
  cases x.ev e with
  | none => simp
  | some a => cases y.ev e with
    | none => cases a <;> simp
    | some v =>
      cases a <;> simp [storeV]
      rename_i b o
      by_cases hf : fits n v = true
      · simp only [hf, if_true]; cases storeAt h b o v.cells <;> simp
      · simp [hf]

def nilckV : CV → Option CV | .ptr b o => some (.ptr b o) | .fn f c => some (.fn f c) | .ifc t v => some (.ifc t v) | _ => none
@[simp] theorem nilckV_ptr {b o : Nat} : nilckV (.ptr b o) = some (.ptr b o) := rfl
@[simp] theorem nilckV_fn {f : Nat} {c : List CV} : nilckV (.fn f c) = some (.fn f c) := rfl
@[simp ↓] theorem W1_nilck : W1 p (.nilck x) e h K = OV (x.ev e) fun a => OV (nilckV a) fun v => K v h := by
  rw [W1_of fun c => rfl]
  try simp only [evOp]
  cases x.ev e with
  | none => simp
  | some a => cases a <;> simp [nilckV]

def fldV (off : Nat) (n : Option Nat) : CV → Option CV | .agg cs => partOf cs off n | _ => none
@[simp] theorem fldV_agg {off : Nat} {n : Option Nat} {cs : List CV} : fldV off n (.agg cs) = partOf cs off n := rfl
@[simp ↓] theorem W1_fld {off : Nat} {n : Option Nat} : W1 p (.fld off n x) e h K = OV (x.ev e) fun a => OV (fldV off n a) fun v => K v h := by
  rw [W1_of fun c => rfl]
  try simp only [evOp]
  cases x.ev e with
  | none => simp
  | some a => cases a <;> simp [fldV, OV_withH]

def fldAddrV (off : Nat) : CV → Option CV | .ptr b o => some (.ptr b (o + off)) | _ => none
@[simp] theorem fldAddrV_ptr {off b o : Nat} : fldAddrV off (.ptr b o) = some (.ptr b (o + off)) := rfl
@[simp ↓] theorem W1_fldAddr {off : Nat} : W1 p (.fldAddr off x) e h K = OV (x.ev e) fun a => OV (fldAddrV off a) fun v => K v h := by
  rw [W1_of fun c => rfl]
  try simp only [evOp]
  cases x.ev e with
  | none => simp
  | some a => cases a <;> simp [fldAddrV]

def idxAddrV (esz : Nat) : CV → CV → Option CV | .sl b o n _, .int _ i => if 0 ≤ i ∧ i < n then some (.ptr b (o + i.toNat * esz)) else none | _, _ => none
@[simp] theorem idxAddrV_sl {esz b o n c : Nat} {k : IntKind} {i : Int} : idxAddrV esz (.sl b o n c) (.int k i) = if 0 ≤ i ∧ i < n then some (.ptr b (o + i.toNat * esz)) else none := rfl
@[simp ↓] theorem W1_idxAddr {esz : Nat} : W1 p (.idxAddr esz x y) e h K = OV (x.ev e) fun a => OV (y.ev e) fun b => OV (idxAddrV esz a b) fun v => K v h := by
  rw [W1_of fun c => rfl]
  try simp only [evOp]
  cases x.ev e with
  | none => simp
  | some a => cases y.ev e with
    | none => cases a <;> simp
    | some b =>
      cases a <;> (try (simp [idxAddrV]; done)) <;> cases b <;> (try (simp [idxAddrV]; done))
      simp only [idxAddrV, OV_some]
      split <;> simp

def idxArrAddrV (esz len : Nat) : CV → CV → Option CV | .ptr b o, .int _ i => if 0 ≤ i ∧ i < len then some (.ptr b (o + i.toNat * esz)) else none | _, _ => none
@[simp] theorem idxArrAddrV_ptr {esz len b o : Nat} {k : IntKind} {i : Int} : idxArrAddrV esz len (.ptr b o) (.int k i) = if 0 ≤ i ∧ i < len then some (.ptr b (o + i.toNat * esz)) else none := rfl
@[simp ↓] theorem W1_idxArrAddr {esz len : Nat} : W1 p (.idxArrAddr esz len x y) e h K = OV (x.ev e) fun a => OV (y.ev e) fun b => OV (idxArrAddrV esz len a b) fun v => K v h := by
  rw [W1_of fun c => rfl]
  try simp only [evOp]
  cases x.ev e with
  | none => simp
  | some a => cases y.ev e with
    | none => cases a <;> simp
    | some b =>
      cases a <;> (try (simp [idxArrAddrV]; done)) <;> cases b <;> (try (simp [idxArrAddrV]; done))
      simp only [idxArrAddrV, OV_some]
      split <;> simp

def idxStrV : CV → CV → Option CV | .str s, .int _ i => if 0 ≤ i then (match s[i.toNat]? with | some b => some (.int .u8 b.toNat) | none => none) else none | _, _ => none
@[simp] theorem idxStrV_str {s : List UInt8} {k : IntKind} {i : Int} : idxStrV (.str s) (.int k i) = if 0 ≤ i then (match s[i.toNat]? with | some b => some (.int .u8 b.toNat) | none => none) else none := rfl
@[simp ↓] theorem W1_idxStr : W1 p (.idxStr x y) e h K = OV (x.ev e) fun a => OV (y.ev e) fun b => OV (idxStrV a b) fun v => K v h := by
  rw [W1_of fun c => rfl]
  try simp only [evOp]
  cases x.ev e with
  | none => simp
  | some a => cases y.ev e with
    | none => cases a <;> simp
    | some b =>
      cases a <;> (try (simp [idxStrV]; done)) <;> cases b <;> (try (simp [idxStrV]; done))
      rename_i s k i
      simp only [idxStrV, OV_some]
      by_cases hi : 0 ≤ i
      · simp only [hi, if_true]; cases s[i.toNat]? <;> simp
      · simp only [hi, if_false]; simp

def idxArrV (esz len : Nat) (n : Option Nat) : CV → CV → Option CV | .agg cs, .int _ i => if 0 ≤ i ∧ i < len then partOf cs (i.toNat * esz) n else none | _, _ => none
@[simp] theorem idxArrV_agg {esz len : Nat} {n : Option Nat} {cs : List CV} {k : IntKind} {i : Int} : idxArrV esz len n (.agg cs) (.int k i) = if 0 ≤ i ∧ i < len then partOf cs (i.toNat * esz) n else none := rfl
@[simp ↓] theorem W1_idxArr {esz len : Nat} {n : Option Nat} : W1 p (.idxArr esz len n x y) e h K = OV (x.ev e) fun a => OV (y.ev e) fun b => OV (idxArrV esz len n a b) fun v => K v h := by
  rw [W1_of fun c => rfl]
  try simp only [evOp]
  cases x.ev e with
  | none => simp
  | some a => cases y.ev e with
    | none => cases a <;> simp
    | some b =>
      cases a <;> (try (simp [idxArrV]; done)) <;> cases b <;> (try (simp [idxArrV]; done))
      simp only [idxArrV, OV_some]
      split <;> simp [OV_withH]

@[simp ↓] theorem W1_build {zs : List CV} {ps : List (Nat × Nat × Opd)} : W1 p (.build zs ps) e h K = OV (evParts e ps) fun q => OV (fillC zs q) fun cs => K (.agg cs) h := by
  rw [W1_of fun c => rfl]
  try simp only [evOp]
  cases evParts e ps with
  | none => simp
  | some q => simp; cases fillC zs q <;> simp

@[simp ↓] theorem W1_buildSl {len : Nat} {zs : List CV} {ps : List (Nat × Nat × Opd)} : W1 p (.buildSl len zs ps) e h K = OV (evParts e ps) fun q => OV (fillC zs q) fun cs => K (.sl h.length 0 len len) (h ++ [.arr cs .tight]) := by
  rw [W1_of fun c => rfl]
  try simp only [evOp]
  cases evParts e ps with
  | none => simp
  | some q => simp; cases fillC zs q <;> simp

def lenV (h : Heap) : LK → CV → Option CV
  | .str, .str s => some (i64 s.length)
  | .sl, .nils => some (i64 0)
  | .sl, .sl _ _ n _ => some (i64 n)
  | .map, .nilm => some (i64 0)
  | .map, .mp b => match h[b]? with | some (.map es _) => some (i64 es.length) | _ => none
  | _, _ => none
@[simp] theorem lenV_str {s : List UInt8} : lenV h .str (.str s) = some (.int .i64 s.length) := rfl
@[simp] theorem lenV_nils : lenV h .sl .nils = some (.int .i64 0) := rfl
@[simp] theorem lenV_sl {b o n c : Nat} : lenV h .sl (.sl b o n c) = some (.int .i64 n) := rfl
@[simp] theorem lenV_nilm : lenV h .map .nilm = some (.int .i64 0) := rfl
@[simp] theorem lenV_mp {b : Nat} : lenV h .map (.mp b) = match h[b]? with | some (.map es _) => some (.int .i64 es.length) | _ => none := rfl

@[simp ↓] theorem W1_len {k : LK} : W1 p (.len k x) e h K = OV (x.ev e) fun a => OV (lenV h k a) fun v => K v h := by
  rw [W1_of fun c => rfl]
  try simp only [evOp]
  cases x.ev e with
  | none => cases k <;> simp
  | some a =>
    cases k <;> cases a <;> simp [lenV]
    split <;> simp_all

@[simp ↓] theorem W1_mx {xs : List Opd} : W1 p (.mx xs) e h K = OV (evs e xs) fun vs => OV (mxL vs) fun v => K v h := by
  rw [W1_of fun c => rfl]
  try simp only [evOp]
  cases evs e xs <;> simp [OV_withH]

@[simp ↓] theorem W1_mn {xs : List Opd} : W1 p (.mn xs) e h K = OV (evs e xs) fun vs => OV (mnL vs) fun v => K v h := by
  rw [W1_of fun c => rfl]
  try simp only [evOp]
  cases evs e xs <;> simp [OV_withH]

@[simp ↓] theorem W1_append {esz : Nat} : W1 p (.append esz x y) e h K = OV (x.ev e) fun a => OV (y.ev e) fun b => OV (spread h esz b) fun q => OV (appendTo h esz a q.1 q.2) fun r => K r.1 r.2 := by
  rw [W1_of fun c => rfl]
  try simp only [evOp]
  cases x.ev e with
  | none => simp
  | some a => cases y.ev e with
    | none => simp
    | some b =>
      simp
      cases spread h esz b with
      | none => simp
      | some q => obtain ⟨k, ys⟩ := q; simp

@[simp ↓] theorem W1_call {f : Nat} {xs : List Opd} : W1 p (.call f xs) e h K = OV (evs e xs) fun vs => WF p f vs h K := by
  apply propext
  constructor
  · rintro ⟨n, v, h', a, b⟩
    simp only [evOp] at a
    cases hv : evs e xs with
    | none => simp [hv] at a
    | some vs => simp [hv] at a; exact ⟨vs, rfl, n, v, h', a, b⟩
  · rintro ⟨vs, hv, n, v, h', a, b⟩
    exact ⟨n, v, h', by simp only [evOp, hv]; exact a, b⟩

def callvP (p : PP) (f : CV) (vs : List CV) (h : Heap) (K : CV → Heap → Prop) : Prop := match f with | .fn g caps => WF p g (vs ++ caps) h K | _ => False
@[simp ↓] theorem callvP_fn {g : Nat} {caps vs : List CV} : callvP p (.fn g caps) vs h K = WF p g (vs ++ caps) h K := rfl
@[simp ↓] theorem W1_callv {xs : List Opd} : W1 p (.callv x xs) e h K = OV (x.ev e) fun f => OV (evs e xs) fun vs => callvP p f vs h K := by
  apply propext
  constructor
  · rintro ⟨n, v, h', a, b⟩
    simp only [evOp] at a
    cases hx : x.ev e with
    | none => simp [hx] at a
    | some f =>
      cases hv : evs e xs with
      | none => cases f <;> simp [hx, hv] at a
      | some vs =>
        cases f <;> simp [hx, hv] at a
        exact ⟨_, rfl, vs, rfl, n, v, h', a, b⟩
  · rintro ⟨f, hx, vs, hv, k⟩
    cases f <;> simp only [callvP] at k <;> (try exact k.elim)
    obtain ⟨n, v, h', a, b⟩ := k
    exact ⟨n, v, h', by simp only [evOp, hx, hv]; exact a, b⟩

@[simp ↓] theorem W1_mkfn {f : Nat} {xs : List Opd} : W1 p (.mkfn f xs) e h K = OV (evs e xs) fun vs => K (.fn f vs) h := by
  rw [W1_of fun c => rfl]
  try simp only [evOp]
  cases evs e xs <;> simp

@[simp ↓] theorem W1_mkmap : W1 p .mkmap e h K = K (.mp h.length) (h ++ [.map [] 0]) := by
  rw [W1_of fun c => rfl]; simp

def lookupV (h : Heap) (ok : Bool) (bk : BK) (zv : CV) (m k : CV) : Option CV :=
  match m with
  | .nilm => some (if ok then .tup [zv, .bool false] else zv)
  | .mp b => match h[b]? with
    | some (.map es _) => match findKey bk k es 0 with
      | some (some (_, v, _)) => some (if ok then .tup [v, .bool true] else v)
      | some none => some (if ok then .tup [zv, .bool false] else zv)
      | none => none
    | _ => none
  | _ => none

@[simp ↓] theorem W1_lookup {ok : Bool} {bk : BK} {zv : CV} : W1 p (.lookup ok bk zv x y) e h K = OV (x.ev e) fun m => OV (y.ev e) fun k => OV (lookupV h ok bk zv m k) fun v => K v h := by
  rw [W1_of fun c => rfl]
  try simp only [evOp]
  cases x.ev e with
  | none => simp
  | some a => cases y.ev e with
    | none => cases a <;> simp
    | some b =>
      cases a <;> (try (simp [lookupV]; done))
      rename_i bb
      simp only [lookupV, OV_some]
      cases h[bb]? with
      | none => simp
      | some o =>
        cases o <;> (try (simp; done))
        rename_i es clock
        simp only []
        cases findKey bk b es 0 with
        | none => simp
        | some q => cases q with
          | none => simp
          | some q => obtain ⟨i, v, born⟩ := q; simp

def mapupV (h : Heap) (bk : BK) (m k v : CV) : Option Heap :=
  match m with
  | .mp b => match h[b]? with
    | some (.map es clock) => match findKey bk k es 0 with
      | some (some (i, _, born)) => some (h.set b (.map (es.set i (k, v, born)) clock))
      | some none => some (h.set b (.map (es ++ [(k, v, clock)]) (clock + 1)))
      | none => none
    | _ => none
  | _ => none

@[simp ↓] theorem W1_mapup {bk : BK} : W1 p (.mapup bk x y z) e h K = OV (x.ev e) fun m => OV (y.ev e) fun k => OV (z.ev e) fun v => OV (mapupV h bk m k v) fun h' => K .undef h' := by
  rw [W1_of fun c => rfl]
  try simp only [evOp]
  cases x.ev e with
  | none => simp
  | some a => cases y.ev e with
    | none => cases a <;> simp
    | some b =>
      cases z.ev e with
      | none => cases a <;> simp
      | some c =>
      cases a <;> (try (simp [mapupV]; done))
      rename_i bb
      simp only [mapupV, OV_some]
      cases h[bb]? with
      | none => simp
      | some o =>
        cases o <;> (try (simp; done))
        rename_i es clock
        simp only []
        cases findKey bk b es 0 with
        | none => simp
        | some q => cases q with
          | none => simp
          | some q => obtain ⟨i, v, born⟩ := q; simp

def mapentV (h : Heap) (bk : BK) (zv : CV) (m k : CV) : Option (CV × Heap) :=
  match m with
  | .mp b => match h[b]? with
    | some (.map es clock) => match findKey bk k es 0 with
      | some (some (i, v, born)) => some (.tup [v, i64 born], h.set b (.map (es.set i (k, v, born)) clock))
      | some none => some (.tup [zv, i64 clock], h.set b (.map (es ++ [(k, zv, clock)]) (clock + 1)))
      | none => none
    | _ => none
  | _ => none

@[simp ↓] theorem W1_mapent {bk : BK} {zv : CV} : W1 p (.mapent bk zv x y) e h K = OV (x.ev e) fun m => OV (y.ev e) fun k => OV (mapentV h bk zv m k) fun q => K q.1 q.2 := by
  rw [W1_of fun c => rfl]
  try simp only [evOp]
  cases x.ev e with
  | none => simp
  | some a => cases y.ev e with
    | none => cases a <;> simp
    | some b =>
      cases a <;> (try (simp [mapentV]; done))
      rename_i bb
      simp only [mapentV, OV_some]
      cases h[bb]? with
      | none => simp
      | some o =>
        cases o <;> (try (simp; done))
        rename_i es clock
        simp only []
        cases findKey bk b es 0 with
        | none => simp
        | some q => cases q with
          | none => simp
          | some q => obtain ⟨i, v, born⟩ := q; simp

def entstV (h : Heap) (m s v : CV) : Option Heap :=
  match m, s with
  | .mp b, .int _ s => match h[b]? with
    | some (.map es clock) => match es.findIdx? (fun x => (x.2.2 : Int) == s) with
      | some i => some (h.set b (.map (es.modify i fun x => (x.1, v, x.2.2)) clock))
      | none => none
    | _ => none
  | _, _ => none

@[simp ↓] theorem W1_entst : W1 p (.entst x y z) e h K = OV (x.ev e) fun m => OV (y.ev e) fun k => OV (z.ev e) fun v => OV (entstV h m k v) fun h' => K .undef h' := by
  rw [W1_of fun c => rfl]
  try simp only [evOp]
  cases x.ev e with
  | none => simp
  | some a => cases y.ev e with
    | none => cases a <;> simp
    | some b =>
      cases z.ev e with
      | none => cases a <;> (try (simp; done)) <;> cases b <;> simp
      | some c =>
        cases a <;> (try (simp [entstV]; done)) <;> cases b <;> (try (simp [entstV]; done))
        rename_i bb k s
        simp only [entstV, OV_some]
        cases h[bb]? with
        | none => simp
        | some o =>
          cases o <;> (try (simp; done))
          rename_i es clock
          simp only []
          cases es.findIdx? (fun x => (x.2.2 : Int) == s) <;> simp

def delV (h : Heap) (bk : BK) (m k : CV) : Option Heap :=
  match m with
  | .nilm => some h
  | .mp b => match h[b]? with
    | some (.map es clock) => match findKey bk k es 0 with
      | some (some (i, _, _)) => some (h.set b (.map (es.eraseIdx i) clock))
      | some none => some h
      | none => none
    | _ => none
  | _ => none

@[simp ↓] theorem W1_del {bk : BK} : W1 p (.del bk x y) e h K = OV (x.ev e) fun m => OV (y.ev e) fun k => OV (delV h bk m k) fun h' => K .undef h' := by
  rw [W1_of fun c => rfl]
  try simp only [evOp]
  cases x.ev e with
  | none => simp
  | some a => cases y.ev e with
    | none => cases a <;> simp
    | some b =>
      cases a <;> (try (simp [delV]; done))
      rename_i bb
      simp only [delV, OV_some]
      cases h[bb]? with
      | none => simp
      | some o =>
        cases o <;> (try (simp; done))
        rename_i es clock
        simp only []
        cases findKey bk b es 0 with
        | none => simp
        | some q => cases q with
          | none => simp
          | some q => obtain ⟨i, v, born⟩ := q; simp

def extV (i : Nat) : CV → Option CV | .tup vs => vs[i]? | _ => none
@[simp] theorem extV_tup {i : Nat} {vs : List CV} : extV i (.tup vs) = vs[i]? := rfl
@[simp ↓] theorem W1_ext {i : Nat} : W1 p (.ext i x) e h K = OV (x.ev e) fun a => OV (extV i a) fun v => K v h := by
  rw [W1_of fun c => rfl]
  try simp only [evOp]
  cases x.ev e with
  | none => simp
  | some a => cases a <;> simp [extV, OV_withH]

def tasV (t : Nat) : CV → Option CV | .ifc t' v => if t' = t then some v else none | _ => none
@[simp] theorem tasV_ifc {t t' : Nat} {v : CV} : tasV t (.ifc t' v) = if t' = t then some v else none := rfl
@[simp ↓] theorem W1_tas {t : Nat} : W1 p (.tas t x) e h K = OV (x.ev e) fun a => OV (tasV t a) fun v => K v h := by
  rw [W1_of fun c => rfl]
  try simp only [evOp]
  cases x.ev e with
  | none => simp
  | some a =>
    cases a <;> (try (simp [tasV]; done))
    simp only [tasV, OV_some]
    split <;> simp

@[simp ↓] theorem W1_slTail {esz : Nat} : W1 p (.slTail esz x y) e h K = OV (x.ev e) fun s => OV (y.ev e) fun a => OV (slTail h esz s a) fun q => K q.1 q.2 := by
  rw [W1_of fun c => rfl]
  try simp only [evOp]
  cases x.ev e with
  | none => simp
  | some s => cases y.ev e <;> simp

@[simp ↓] theorem W1_mkifc {t : Nat} : W1 p (.mkifc t x) e h K = OV (x.ev e) fun v => K (.ifc t v) h := by
  rw [W1_of fun c => rfl]
  try simp only [evOp]
  cases x.ev e <;> simp

@[simp ↓] theorem W1_slStr {l r : Option Opd} : W1 p (.slStr x l r) e h K = OV (x.ev e) fun s => OV (optEv e l) fun a => OV (optEv e r) fun b => OV (match s with | .str s => slStr s a b | _ => none) fun v => K v h := by
  rw [W1_of fun c => rfl]
  try simp only [evOp]
  cases x.ev e with
  | none => simp
  | some s => cases optEv e l with
    | none => cases s <;> simp
    | some a => cases optEv e r with
      | none => cases s <;> simp
      | some b => cases s <;> simp [OV_withH]

@[simp ↓] theorem W1_slSl {esz : Nat} {l r : Option Opd} : W1 p (.slSl esz x l r) e h K = OV (x.ev e) fun s => OV (optEv e l) fun a => OV (optEv e r) fun b => OV (slSl h esz s a b) fun q => K q.1 q.2 := by
  rw [W1_of fun c => rfl]
  try simp only [evOp]
  cases x.ev e with
  | none => simp
  | some s => cases optEv e l with
    | none => simp
    | some a => cases optEv e r <;> simp

def mkslV (h : Heap) (zs : List CV) : CV → CV → Option (CV × Heap)
  | .int .i64 l, .int .i64 c => if 0 ≤ l ∧ l ≤ c ∧ c ≤ big then some (.sl h.length 0 l.toNat c.toNat, h ++ [.arr (List.replicate c.toNat zs).flatten .tight]) else none
  | _, _ => none
@[simp] theorem mkslV_int {zs : List CV} {l c : Int} : mkslV h zs (.int .i64 l) (.int .i64 c) = if 0 ≤ l ∧ l ≤ c ∧ c ≤ big then some (.sl h.length 0 l.toNat c.toNat, h ++ [.arr (List.replicate c.toNat zs).flatten .tight]) else none := rfl
@[simp ↓] theorem W1_mksl {zs : List CV} : W1 p (.mksl zs x y) e h K = OV (x.ev e) fun a => OV (y.ev e) fun b => OV (mkslV h zs a b) fun q => K q.1 q.2 := by
  rw [W1_of fun c => rfl]
  try simp only [evOp]
  cases x.ev e with
  | none => simp
  | some a => cases y.ev e with
    | none => cases a <;> (try (simp; done))
    | some b =>
      cases a <;> (try (simp [mkslV]; done))
      rename_i k i
      cases k <;> (try (simp [mkslV]; done))
      cases b <;> (try (simp [mkslV]; done))
      rename_i k i
      cases k <;> (try (simp [mkslV]; done))

@[simp ↓] theorem W1_toStr : W1 p (.toStr x) e h K = OV (x.ev e) fun a => OV (match a with | .nils => some (.str []) | .sl b o n _ => (match cellsAt h b o n with | some cs => (match ofBytes cs with | some s => some (.str s) | none => none) | none => none) | _ => none) fun v => K v h := by
  rw [W1_of fun c => rfl]
  try simp only [evOp]
  cases x.ev e with
  | none => simp
  | some a =>
    cases a <;> simp
    split
    · split <;> simp_all
    · simp_all

@[simp ↓] theorem W1_same : W1 p (.same x) e h K = OV (x.ev e) fun a => OV (match a with | .str s => some (.str s) | _ => none) fun v => K v h := by
  rw [W1_of fun c => rfl]
  try simp only [evOp]
  cases x.ev e with
  | none => simp
  | some a => cases a <;> simp

@[simp ↓] theorem W1_toBytes : W1 p (.toBytes x) e h K = OV (x.ev e) fun a => OV (match a with | .str s => if s.length ≤ big then some (CV.sl h.length 0 s.length s.length, h ++ [.arr (s.map fun x => .int .u8 x.toNat) (.loose 1)]) else none | _ => none) fun q => K q.1 q.2 := by
  rw [W1_of fun c => rfl]
  try simp only [evOp]
  cases x.ev e with
  | none => simp
  | some a => cases a <;> simp

end ops

/-! ### code -/

theorem W_mk {c : SCode} {e : Env} {h : Heap} {Q : Ex → Env → Heap → Prop} {n k : Nat} {x : Ex} {e' : Env} {h' : Heap} (a : evC (p.call n) k c e h = some (x, e', h')) (b : Q x e' h') : W p c e h Q := ⟨n, k, x, e', h', a, b⟩

@[simp ↓] theorem W_skip {e : Env} {h : Heap} {Q : Ex → Env → Heap → Prop} : W p .skip e h Q = Q .normal e h := by
  apply propext
  constructor
  · rintro ⟨n, k, x, e', h', a, b⟩
    cases k <;> simp [evC] at a
    obtain ⟨rfl, rfl, rfl⟩ := a; exact b
  · intro q; exact ⟨0, 1, _, _, _, rfl, q⟩

@[simp ↓] theorem W_exit {id : Nat} {e : Env} {h : Heap} {Q : Ex → Env → Heap → Prop} : W p (.exit id) e h Q = Q (.exit id) e h := by
  apply propext
  constructor
  · rintro ⟨n, k, x, e', h', a, b⟩
    cases k <;> simp [evC] at a
    obtain ⟨rfl, rfl, rfl⟩ := a; exact b
  · intro q; exact ⟨0, 1, _, _, _, rfl, q⟩

@[simp ↓] theorem W_ret {e : Env} {h : Heap} {Q : Ex → Env → Heap → Prop} : W p .ret e h Q = Q .ret e h := by
  apply propext
  constructor
  · rintro ⟨n, k, x, e', h', a, b⟩
    cases k <;> simp [evC] at a
    obtain ⟨rfl, rfl, rfl⟩ := a; exact b
  · intro q; exact ⟨0, 1, _, _, _, rfl, q⟩

theorem W_ops {l : List SOper} {D : Option (List (Nat × List Nat))} {keep : List Nat} {e : Env} {h : Heap} {Q : Ex → Env → Heap → Prop} :
    W p (.ops l D keep) e h Q = WO p l l e h fun e' h' => Q .normal (Env.only keep e') h' := by
  apply propext
  constructor
  · rintro ⟨n, k, x, e', h', a, b⟩
    cases k with
    | zero => simp [evC] at a
    | succ k =>
      simp only [evC] at a
      cases ho : evOps (p.call n) l l e h with
      | none => simp [ho] at a
      | some q => obtain ⟨e1, h1⟩ := q; simp [ho] at a; obtain ⟨rfl, rfl, rfl⟩ := a; exact ⟨n, e1, _, ho, b⟩
  · rintro ⟨n, e', h', a, b⟩
    exact ⟨n, 1, .normal, Env.only keep e', h', by simp only [evC, a], b⟩

/-- what comes behind, where a piece ends as it should -/
def thenQ (p : PP) (b : SCode) (Q : Ex → Env → Heap → Prop) : Ex → Env → Heap → Prop
  | .normal, e, h => W p b e h Q
  | x, e, h => Q x e h

@[simp ↓] theorem thenQ_normal {b : SCode} {Q : Ex → Env → Heap → Prop} {e : Env} {h : Heap} : thenQ p b Q .normal e h = W p b e h Q := rfl
@[simp ↓] theorem thenQ_exit {b : SCode} {Q : Ex → Env → Heap → Prop} {e : Env} {h : Heap} {i : Nat} : thenQ p b Q (.exit i) e h = Q (.exit i) e h := rfl
@[simp ↓] theorem thenQ_ret {b : SCode} {Q : Ex → Env → Heap → Prop} {e : Env} {h : Heap} : thenQ p b Q .ret e h = Q .ret e h := rfl

theorem evC_more {n n' k k' : Nat} {c : SCode} {e : Env} {h : Heap} {r : Ex × Env × Heap} (a : evC (p.call n) k c e h = some r) (hn : n ≤ n') (hk : k ≤ k') : evC (p.call n') k' c e h = some r :=
  evC_le (p.le hn) k k' hk a

@[simp ↓] theorem W_seq {a b : SCode} {e : Env} {h : Heap} {Q : Ex → Env → Heap → Prop} : W p (.seq a b) e h Q = W p a e h (thenQ p b Q) := by
  apply propext
  constructor
  · rintro ⟨n, k, x, e', h', ha, hb⟩
    cases k with
    | zero => simp [evC] at ha
    | succ k =>
      simp only [evC] at ha
      cases h1 : evC (p.call n) k a e h with
      | none => simp [h1] at ha
      | some q =>
        obtain ⟨x1, e1, h1'⟩ := q
        cases x1 with
        | normal => simp only [h1] at ha; exact ⟨n, k, _, e1, h1', h1, n, k, x, e', h', ha, hb⟩
        | exit i => simp [h1] at ha; obtain ⟨rfl, rfl, rfl⟩ := ha; exact ⟨n, k, _, _, _, h1, hb⟩
        | ret => simp [h1] at ha; obtain ⟨rfl, rfl, rfl⟩ := ha; exact ⟨n, k, _, _, _, h1, hb⟩
  · rintro ⟨n, k, x, e', h', ha, hb⟩
    cases x with
    | normal =>
      obtain ⟨n2, k2, x2, e2, h2, ha2, hb2⟩ := hb
      refine ⟨max n n2, max k k2 + 1, x2, e2, h2, ?_, hb2⟩
      simp only [evC]
      rw [evC_more ha (Nat.le_max_left ..) (Nat.le_max_left ..)]
      exact evC_more ha2 (Nat.le_max_right ..) (Nat.le_max_right ..)
    | exit i => exact ⟨n, k + 1, _, _, _, by simp only [evC, ha], hb⟩
    | ret => exact ⟨n, k + 1, _, _, _, by simp only [evC, ha], hb⟩

def condP (c : CV) (a b : Prop) : Prop := match c with | .bool true => a | .bool false => b | _ => False
@[simp] theorem condP_bool {t : Bool} {a b : Prop} : condP (.bool t) a b = if t = true then a else b := by cases t <;> simp [condP]

theorem W_cond {c : Opd} {a b : SCode} {e : Env} {h : Heap} {Q : Ex → Env → Heap → Prop} : W p (.cond c a b) e h Q = OV (c.ev e) fun v => condP v (W p a e h Q) (W p b e h Q) := by
  apply propext
  constructor
  · rintro ⟨n, k, x, e', h', ha, hb⟩
    cases k with
    | zero => simp [evC] at ha
    | succ k =>
      simp only [evC] at ha
      cases hc : c.ev e with
      | none => simp [hc] at ha
      | some v =>
        cases v <;> simp [hc] at ha
        rename_i t
        cases t <;> simp at ha <;> exact ⟨_, rfl, n, k, x, e', h', ha, hb⟩
  · rintro ⟨v, hc, hk⟩
    cases v <;> simp only [condP] at hk <;> (try exact hk.elim)
    rename_i t
    cases t <;> simp only at hk <;> obtain ⟨n, k, x, e', h', ha, hb⟩ := hk <;> exact ⟨n, k + 1, x, e', h', by simp only [evC, hc]; exact ha, hb⟩

/-- what comes behind a block -/
def blockQ (id : Nat) (Q : Ex → Env → Heap → Prop) : Ex → Env → Heap → Prop
  | .exit i, e, h => if i = id then Q .normal e h else Q (.exit i) e h
  | x, e, h => Q x e h
@[simp ↓] theorem blockQ_normal {id : Nat} {Q : Ex → Env → Heap → Prop} {e : Env} {h : Heap} : blockQ id Q .normal e h = Q .normal e h := rfl
@[simp ↓] theorem blockQ_exit {id i : Nat} {Q : Ex → Env → Heap → Prop} {e : Env} {h : Heap} : blockQ id Q (.exit i) e h = if i = id then Q .normal e h else Q (.exit i) e h := rfl
@[simp ↓] theorem blockQ_ret {id : Nat} {Q : Ex → Env → Heap → Prop} {e : Env} {h : Heap} : blockQ id Q .ret e h = Q .ret e h := rfl

@[simp ↓] theorem W_block {id : Nat} {b : SCode} {e : Env} {h : Heap} {Q : Ex → Env → Heap → Prop} : W p (.block id b) e h Q = W p b e h (blockQ id Q) := by
  apply propext
  constructor
  · rintro ⟨n, k, x, e', h', ha, hb⟩
    cases k with
    | zero => simp [evC] at ha
    | succ k =>
      simp only [evC] at ha
      cases h1 : evC (p.call n) k b e h with
      | none => simp [h1] at ha
      | some q =>
        obtain ⟨x1, e1, h1'⟩ := q
        cases x1 with
        | normal => simp [h1] at ha; obtain ⟨rfl, rfl, rfl⟩ := ha; exact ⟨n, k, _, _, _, h1, hb⟩
        | exit i =>
          simp only [h1] at ha
          refine ⟨n, k, _, _, _, h1, ?_⟩
          simp only [blockQ_exit]
          split at ha
          · rename_i hi; simp at ha; obtain ⟨rfl, rfl, rfl⟩ := ha; rw [if_pos hi]; exact hb
          · rename_i hi; simp at ha; obtain ⟨rfl, rfl, rfl⟩ := ha; rw [if_neg hi]; exact hb
        | ret => simp [h1] at ha; obtain ⟨rfl, rfl, rfl⟩ := ha; exact ⟨n, k, _, _, _, h1, hb⟩
  · rintro ⟨n, k, x, e', h', ha, hb⟩
    cases x with
    | normal => exact ⟨n, k + 1, _, _, _, by simp only [evC, ha], hb⟩
    | exit i =>
      simp only [blockQ_exit] at hb
      by_cases hi : i = id
      · rw [if_pos hi] at hb; exact ⟨n, k + 1, .normal, e', h', by simp only [evC, ha, if_pos hi], hb⟩
      · rw [if_neg hi] at hb; exact ⟨n, k + 1, .exit i, e', h', by simp only [evC, ha, if_neg hi], hb⟩
    | ret => exact ⟨n, k + 1, _, _, _, by simp only [evC, ha], hb⟩

/-- a loop, by what holds ahead of each round, and a number that falls -/
theorem W_loop {live : List Nat} {b : SCode} {Q : Ex → Env → Heap → Prop} (I : Nat → Env → Heap → Prop)
    (step : ∀ m e h, I m e h → W p b (Env.only live e) h fun x e' h' => match x with | .normal => ∃ m', m' < m ∧ I m' e' h' | x => Q x e' h') :
    ∀ (m : Nat) {e : Env} {h : Heap}, I m e h → W p (.loop live b) e h Q := by
  intro m
  induction m using Nat.strongRecOn with
  | _ m ih =>
    intro e h hI
    obtain ⟨n, k, x, e', h', ha, hb⟩ := step m e h hI
    cases x with
    | normal =>
      obtain ⟨m', hm, hI'⟩ := hb
      obtain ⟨n2, k2, x2, e2, h2, ha2, hb2⟩ := ih m' hm hI'
      refine ⟨max n n2, max k k2 + 1, x2, e2, h2, ?_, hb2⟩
      simp only [evC]
      rw [evC_more ha (Nat.le_max_left ..) (Nat.le_max_left ..)]
      exact evC_more ha2 (Nat.le_max_right ..) (Nat.le_max_right ..)
    | exit i => exact ⟨n, k + 1, .exit i, e', h', by simp only [evC, ha], hb⟩
    | ret => exact ⟨n, k + 1, .ret, e', h', by simp only [evC, ha], hb⟩

/-- a middle: what holds between two pieces -/
theorem W_mid {a b : SCode} {e : Env} {h : Heap} {Q : Ex → Env → Heap → Prop} (M : Env → Heap → Prop) (ha : W p a e h fun x e' h' => match x with | .normal => M e' h' | x => Q x e' h')
    (hb : ∀ e' h', M e' h' → W p b e' h' Q) : W p (.seq a b) e h Q := by
  rw [W_seq]
  refine ha.mono fun x e' h' k => ?_
  cases x with
  | normal => exact hb e' h' k
  | exit i => exact k
  | ret => exact k

/-! ### functions -/

def retQ (R : List RV) (K : CV → Heap → Prop) : Ex → Env → Heap → Prop
  | .exit _, _, _ => False
  | _, e, h => OV (rvs e h R) fun rs => K (result rs) h
@[simp ↓] theorem retQ_normal {R : List RV} {K : CV → Heap → Prop} {e : Env} {h : Heap} : retQ R K .normal e h = OV (rvs e h R) fun rs => K (result rs) h := rfl
@[simp ↓] theorem retQ_ret {R : List RV} {K : CV → Heap → Prop} {e : Env} {h : Heap} : retQ R K .ret e h = OV (rvs e h R) fun rs => K (result rs) h := rfl
@[simp ↓] theorem retQ_exit {R : List RV} {K : CV → Heap → Prop} {e : Env} {h : Heap} {i : Nat} : retQ R K (.exit i) e h = False := rfl

theorem WF_of {f : Nat} {sf : SFunc} (hf : p.Pg f = some sf) (hp : p.pr f = none) {vs : List CV} {h : Heap} {K : CV → Heap → Prop} (w : W p sf.body (args 0 vs) h (retQ sf.results K)) : WF p f vs h K := by
  obtain ⟨n, k, x, e', h', a, b⟩ := w
  have key : ∀ r, (∀ m, n ≤ m → k ≤ m → evBody (p.call m) m sf vs h = some r) → K r.1 r.2 → WF p f vs h K := by
    intro r hr hK
    refine ⟨max n k + 1, r.1, r.2, ?_, hK⟩
    show evCall p.Pg p.pr (max n k + 1) f vs h = _
    simp only [evCall, hp, hf]
    exact hr _ (Nat.le_max_left ..) (Nat.le_max_right ..)
  have hc : ∀ m, n ≤ m → k ≤ m → evC (p.call m) m sf.body (args 0 vs) h = some (x, e', h') := fun m h1 h2 => evC_more a h1 h2
  cases x with
  | exit i => exact b.elim
  | normal =>
    obtain ⟨rs, h1, h2⟩ := b
    exact key (result rs, h') (fun m q1 q2 => by simp only [evBody, hc m q1 q2, h1]) h2
  | ret =>
    obtain ⟨rs, h1, h2⟩ := b
    exact key (result rs, h') (fun m q1 q2 => by simp only [evBody, hc m q1 q2, h1]) h2

end

/-! ### which parts simp looks into -/

/-- an environment reckoned out before it is handed on -/
def FE (e : Env) (K : Env → Prop) : Prop := K e
@[congr] theorem FE_congr {e e' : Env} {K : Env → Prop} (h : e = e') : FE e K = FE e' K := by rw [h]
@[simp] theorem FE_cons {k : Nat} {v : CV} {r : Env} {K : Env → Prop} : FE ((k, v) :: r) K = K ((k, v) :: r) := rfl
@[simp] theorem FE_nil {K : Env → Prop} : FE [] K = K [] := rfl

@[simp] theorem OV_some' {α : Type} {v : α} {K : α → Prop} : OV (some v) K = K v := OV_some

def wantB (e : Env) (t : Nat) (w : Bool) : Option Bool := match e.get t with | some (.bool b) => some (b == w) | some (.tup []) => some false | _ => none
theorem wantB_eq {e : Env} {t : Nat} {w : Bool} : wantB e t w = wanted e (some (t, w)) := rfl

section
variable {p : PP}
@[simp ↓] theorem WO_guard_t {all l : List SOper} {d : Option Nat} {op : SOp} {t : Nat} {want : Bool} {e : Env} {h : Heap} {K : Env → Heap → Prop} (hw : wantB e t want = some true) :
    WO p all (⟨d, op, some (t, want), []⟩ :: l) e h K = W1 p op e h (fun v h' => WO p all l (e.put d v) h' K) := by
  rw [WO_guard, ← wantB_eq, hw]; simp
@[simp ↓] theorem WO_guard_f {all l : List SOper} {d : Option Nat} {op : SOp} {t : Nat} {want : Bool} {e : Env} {h : Heap} {K : Env → Heap → Prop} (hw : wantB e t want = some false) :
    WO p all (⟨d, op, some (t, want), []⟩ :: l) e h K = WO p all l (e.put d .undef) h K := by
  rw [WO_guard, ← wantB_eq, hw]; simp
@[simp ↓] theorem W_cond_t {c : Opd} {a b : SCode} {e : Env} {h : Heap} {Q : Ex → Env → Heap → Prop} (hc : c.ev e = some (.bool true)) : W p (.cond c a b) e h Q = W p a e h Q := by rw [W_cond, hc]; simp
@[simp ↓] theorem W_cond_f {c : Opd} {a b : SCode} {e : Env} {h : Heap} {Q : Ex → Env → Heap → Prop} (hc : c.ev e = some (.bool false)) : W p (.cond c a b) e h Q = W p b e h Q := by rw [W_cond, hc]; simp
@[simp ↓] theorem W_ops_cons {l : List SOper} {D : Option (List (Nat × List Nat))} {keep : List Nat} {k : Nat} {v : CV} {e : Env} {h : Heap} {Q : Ex → Env → Heap → Prop} :
    W p (.ops l D keep) ((k, v) :: e) h Q = WO p l l ((k, v) :: e) h fun e' h' => FE (Env.only keep e') fun e2 => Q .normal e2 h' := W_ops
@[simp ↓] theorem W_ops_nil {l : List SOper} {D : Option (List (Nat × List Nat))} {keep : List Nat} {h : Heap} {Q : Ex → Env → Heap → Prop} :
    W p (.ops l D keep) [] h Q = WO p l l [] h fun e' h' => FE (Env.only keep e') fun e2 => Q .normal e2 h' := W_ops
end

@[congr] theorem OV_congr {α : Type} {o o' : Option α} {K : α → Prop} (h : o = o') : OV o K = OV o' K := by rw [h]
@[congr] theorem WF_congr {p : PP} {f : Nat} {vs vs' : List CV} {h : Heap} {K : CV → Heap → Prop} (e : vs = vs') : WF p f vs h K = WF p f vs' h K := by rw [e]
@[congr] theorem W1_congr {p : PP} {op : SOp} {e e' : Env} {h : Heap} {K : CV → Heap → Prop} (k : e = e') : W1 p op e h K = W1 p op e' h K := by rw [k]
@[congr] theorem WO_congr {p : PP} {all l : List SOper} {e e' : Env} {h : Heap} {K : Env → Heap → Prop} (k : e = e') : WO p all l e h K = WO p all l e' h K := by rw [k]
@[congr] theorem W_congr {p : PP} {c : SCode} {e e' : Env} {h : Heap} {Q : Ex → Env → Heap → Prop} (k : e = e') : W p c e h Q = W p c e' h Q := by rw [k]
@[congr] theorem thenQ_congr {p : PP} {b : SCode} {Q : Ex → Env → Heap → Prop} {x x' : Ex} {e e' : Env} {h : Heap} (j : x = x') (k : e = e') : thenQ p b Q x e h = thenQ p b Q x' e' h := by rw [j, k]
@[congr] theorem blockQ_congr {id : Nat} {Q : Ex → Env → Heap → Prop} {x x' : Ex} {e e' : Env} {h : Heap} (j : x = x') (k : e = e') : blockQ id Q x e h = blockQ id Q x' e' h := by rw [j, k]
@[congr] theorem retQ_congr {R : List RV} {K : CV → Heap → Prop} {x x' : Ex} {e e' : Env} {h : Heap} (j : x = x') (k : e = e') : retQ R K x e h = retQ R K x' e' h := by rw [j, k]
@[congr] theorem condP_congr {c c' : CV} {a b : Prop} (k : c = c') : condP c a b = condP c' a b := by rw [k]
@[congr] theorem callvP_congr {p : PP} {f f' : CV} {vs : List CV} {h : Heap} {K : CV → Heap → Prop} (k : f = f') : callvP p f vs h K = callvP p f' vs h K := by rw [k]

/-! ### reckoning with literals -/

@[simp] theorem Opd.ev_t {n : Nat} {e : Env} : (Opd.t n).ev e = e.get n := rfl
@[simp] theorem Opd.ev_c {v : CV} {e : Env} : (Opd.c v).ev e = some v := rfl
@[simp] theorem Env.get_cons {k i : Nat} {v : CV} {r : Env} : Env.get ((k, v) :: r) i = if i = k then some v else Env.get r i := rfl
@[simp] theorem Env.put_some {e : Env} {d : Nat} {v : CV} : Env.put e (some d) v = (d, v) :: e := rfl
@[simp] theorem Env.put_none {e : Env} {v : CV} : Env.put e none v = e := rfl
@[simp] theorem Env.only_nil {e : Env} : Env.only [] e = [] := rfl
theorem Env.only_cons' {k : Nat} {ks : List Nat} {e : Env} : Env.only (k :: ks) e = match e.get k with | some v => (k, v) :: Env.only ks e | none => Env.only ks e := rfl
@[simp] theorem evs_nil {e : Env} : evs e [] = some [] := rfl
def consO (a : Option CV) (b : Option (List CV)) : Option (List CV) := match a, b with | some v, some vs => some (v :: vs) | _, _ => none
@[simp] theorem consO_some {v : CV} {vs : List CV} : consO (some v) (some vs) = some (v :: vs) := rfl
@[simp] theorem evs_cons {e : Env} {x : Opd} {xs : List Opd} : evs e (x :: xs) = consO (x.ev e) (evs e xs) := by
  simp only [evs, consO]; cases x.ev e <;> cases evs e xs <;> rfl
def onlyC (k : Nat) (o : Option CV) (r : Env) : Env := match o with | some v => (k, v) :: r | none => r
@[simp] theorem onlyC_some {k : Nat} {v : CV} {r : Env} : onlyC k (some v) r = (k, v) :: r := rfl
@[simp] theorem onlyC_none {k : Nat} {r : Env} : onlyC k none r = r := rfl
@[simp] theorem Env.only_cons {k : Nat} {ks : List Nat} {e : Env} : Env.only (k :: ks) e = onlyC k (e.get k) (Env.only ks e) := by
  rw [Env.only_cons']; cases e.get k <;> rfl
def wantV (o : Option CV) (w : Bool) : Option Bool := match o with | some (.bool b) => some (b == w) | some (.tup []) => some false | _ => none
@[simp] theorem wantB_of {e : Env} {t : Nat} {w : Bool} : wantB e t w = wantV (e.get t) w := id rfl
@[simp] theorem wantV_bool {b w : Bool} : wantV (some (.bool b)) w = some (b == w) := id rfl
@[simp] theorem wantV_undef {w : Bool} : wantV (some .undef) w = some false := id rfl
@[simp] theorem wantV_tup {w : Bool} : wantV (some (.tup [])) w = some false := id rfl
@[simp] theorem rvs_nil {e : Env} {h : Heap} : rvs e h [] = some [] := rfl
@[simp] theorem rvs_t {e : Env} {h : Heap} {n : Nat} {r : List RV} : rvs e h (.t n :: r) = consO (e.get n) (rvs e h r) := by
  simp only [rvs, consO]; cases e.get n <;> cases rvs e h r <;> rfl
@[simp] theorem result_one {v : CV} : result [v] = v := rfl
@[simp] theorem args_nil {i : Nat} : args i [] = [] := rfl
@[simp] theorem args_cons {i : Nat} {v : CV} {r : List CV} : args i (v :: r) = (i, v) :: args (i + 1) r := rfl
@[simp] theorem evParts_nil {e : Env} : evParts e [] = some [] := rfl
def consP (o s : Nat) (a : Option CV) (b : Option (List (Nat × Nat × CV))) : Option (List (Nat × Nat × CV)) := match a, b with | some v, some vs => some ((o, s, v) :: vs) | _, _ => none
@[simp] theorem consP_some {o s : Nat} {v : CV} {vs : List (Nat × Nat × CV)} : consP o s (some v) (some vs) = some ((o, s, v) :: vs) := rfl
@[simp] theorem evParts_cons {e : Env} {o s : Nat} {x : Opd} {r : List (Nat × Nat × Opd)} : evParts e ((o, s, x) :: r) = consP o s (x.ev e) (evParts e r) := by
  simp only [evParts, consP]; cases x.ev e <;> cases evParts e r <;> rfl
@[simp] theorem optEv_none {e : Env} : optEv e none = some none := rfl
@[simp] theorem optEv_some {e : Env} {x : Opd} {v : CV} (h : x.ev e = some v) : optEv e (some x) = some (some v) := by simp [optEv, h]
@[simp] theorem bin_int {op : BinOp} {k : IntKind} {a b : Int} : bin op (.int k a) (.int k b) = binInt op k a b := by simp [bin]
@[simp] theorem bin_str {op : BinOp} {a b : List UInt8} : bin op (.str a) (.str b) = binStr op a b := rfl
@[simp] theorem binInt_add {k : IntKind} {a b : Int} : binInt .add k a b = some (.int k (k.wrap (a + b))) := rfl
@[simp] theorem binInt_sub {k : IntKind} {a b : Int} : binInt .sub k a b = some (.int k (k.wrap (a - b))) := rfl
@[simp] theorem binInt_mul {k : IntKind} {a b : Int} : binInt .mul k a b = some (.int k (k.wrap (a * b))) := rfl
@[simp] theorem binInt_quo {k : IntKind} {a b : Int} : binInt .quo k a b = if b = 0 then none else some (.int k (k.wrap (a.tdiv b))) := rfl
@[simp] theorem binInt_rem {k : IntKind} {a b : Int} : binInt .rem k a b = if b = 0 then none else some (.int k (a.tmod b)) := rfl
@[simp] theorem binInt_eql {k : IntKind} {a b : Int} : binInt .eql k a b = some (.bool (decide (a = b))) := by
  simp [binInt]; rfl
@[simp] theorem binInt_neq {k : IntKind} {a b : Int} : binInt .neq k a b = some (.bool (!decide (a = b))) := by
  simp [binInt]; rfl
@[simp] theorem binInt_lss {k : IntKind} {a b : Int} : binInt .lss k a b = some (.bool (decide (a < b))) := rfl
@[simp] theorem binInt_leq {k : IntKind} {a b : Int} : binInt .leq k a b = some (.bool (decide (a ≤ b))) := rfl
@[simp] theorem binInt_gtr {k : IntKind} {a b : Int} : binInt .gtr k a b = some (.bool (decide (b < a))) := rfl
@[simp] theorem binInt_geq {k : IntKind} {a b : Int} : binInt .geq k a b = some (.bool (decide (b ≤ a))) := rfl

end Go.Cl
