/-
  The operations that change nothing in memory: each of the clean evaluator's is the model's.
-/
import Derived.Test.YtiegjnklhafloaaDoorCl2
namespace Go.Cl
open Go
set_option linter.unusedSimpArgs false
set_option linter.unusedVariables false

def bkM (P : Program) (t : TypeId) (k : BK) : Bool :=
  match P.underlying t, k with
  | some (.int _), .i => true
  | some .string, .s => true
  | some .bool, .b => true
  | _, _ => false

/-- a struct's fields, one cell each, of these kinds -/
def fieldsM (P : Program) : Nat → List Field → List BK → Bool
  | _, [], [] => true
  | i, f :: fs, k :: ks => f.name != "_" && f.offset == i && szOf P f.type == some 1 && bkM P f.type k && fieldsM P (i + 1) fs ks
  | _, _, _ => false

def eqTM (P : Program) (t : TypeId) : EqT → Bool
  | .b => match P.underlying t with | some .bool => true | _ => false
  | .p => match P.underlying t with | some (.pointer _) => true | _ => false
  | .s => match P.underlying t with | some (.slice _) => true | _ => false
  | .m => match P.underlying t with | some (.map _ _) => true | _ => false
  | .f => match P.underlying t with | some (.func _ _ _) => true | _ => false
  | .i => match P.underlying t with | some (.interface _) => true | _ => false
  | .st ks => match P.underlying t with
    | some (.struct fs) => !P.stoodInHeld t && !P.eqGuardType P.depth t && fieldsM P 0 fs.toList ks
    | _ => false

def isC : Operand → Bool
  | .const _ => true
  | _ => false

def partsM (G : Gam) (pl : Nat → Option (Nat × Nat)) : List (Nat × Operand) → List (Nat × Nat × Opd) → Bool
  | [], [] => true
  | (i, x) :: xs, (off, size, y) :: ys => pl i == some (off, size) && opdM G x y && partsM G pl xs ys
  | _, _ => false

def fieldPl (P : Program) (fs : Array Field) (i : Nat) : Option (Nat × Nat) :=
  match fs[i]? with
  | some f => match szOf P f.type with
    | some s => some (f.offset, s)
    | none => none
  | none => none

def zeroM (P : Program) (G : Gam) (t : TypeId) (z : CV) : Bool :=
  match P.info? t with
  | some i => match i.zero with
    | some v => vM G z v
    | none => false
  | none => false

def zeroL (P : Program) (G : Gam) (t : TypeId) (z : List CV) : Bool :=
  match P.info? t with
  | some i => match i.zero with
    | some v => vML G z v.cells.toList
    | none => false
  | none => false

def lenM (P : Program) (ts : Array TypeId) (k : LK) : Bool :=
  match ts[0]? with
  | some t => (match P.underlying t, k with | some .string, .str => true | some (.slice _), .sl => true | some (.map _ _), .map => true | _, _ => false)
  | none => false

def appM (P : Program) (ts : Array TypeId) (esz : Nat) : Bool :=
  match ts[0]?, ts[1]? with
  | some t, some u => (match P.underlying t, P.underlying u with
    | some (.slice e), some (.slice _) => esz != 0 && szOf P e == some esz && (match byOf P e with | some b => decide (b ≤ 4096) | none => false) && (match P.info? e with | some i => (match i.zero with | some z => z.cells.size == esz | none => false) | none => false)
    | some (.slice e), some .string => esz == 1 && szOf P e == some esz && (match byOf P e with | some b => decide (b ≤ 4096) | none => false) && (match P.info? e with | some i => (match i.zero with | some z => z.cells.size == esz | none => false) | none => false)
    | _, _ => false)
  | _, _ => false

def delM (P : Program) (ts : Array TypeId) (bk : BK) : Bool :=
  match ts[0]? with
  | some t => (match P.underlying t with | some (.map k _) => bkM P k bk | _ => false)
  | none => false

def builtinM (P : Program) (G : Gam) (args : List Operand) (ts : Array TypeId) : Builtin → SOp → Bool
  | .len, .len k x => opdsM G args [x] && lenM P ts k
  | .max, .mx xs => opdsM G args xs
  | .min, .mn xs => opdsM G args xs
  | .append, .append esz x y => opdsM G args [x, y] && appM P ts esz
  | .delete, .del bk x y => opdsM G args [x, y] && delM P ts bk
  | _, _ => false

def isCallS : SOp → Bool
  | .len .. | .mx _ | .mn _ | .append .. | .del .. | .call .. | .callv .. => true
  | _ => false

def callM (P : Program) (G : Gam) (c : Call) (s : SOp) : Bool :=
  match c.callee with
  | .builtin b => builtinM P G c.args.toList c.argTypes b s
  | .value f => (match s with
    | .call g xs => (match f with | .func fid => G.F g == some fid | _ => false) && opdsM G c.args.toList xs
    | .callv g xs => opdM G f g && opdsM G c.args.toList xs
    | _ => false)
  | .invoke _ _ => false

def opM (P : Program) (G : Gam) : Op → SOp → Bool
  | .move x, .move y => opdM G x y
  | .assign x, .move y => opdM G x y
  | .pick c a b, .pick c' a' b' => opdM G c c' && opdM G a a' && opdM G b b'
  | .binOp op t x y _, .bin op' x' y' => op == op' && opdM G x x' && opdM G y y'
  | .binOp op t x y _, .eq neg et x' y' => op == (if neg then .neq else .eql) && opdM G x x' && opdM G y y' && eqTM P t et && (match et with | .i => isC x || isC y | _ => true)
  | .unOp .neg _ x, .neg x' => opdM G x x'
  | .unOp .not _ x, .not x' => opdM G x x'
  | .convert src dst x, .conv k x' => opdM G x x' && (P.underlying src).isSome && (match P.underlying dst with | some (.int k') => k == k' | _ => false)
  | .convert src dst x, .same x' => opdM G x x' && (P.underlying src).isSome && (match P.underlying dst with | some .string => true | _ => false)
  | .convert src dst x, .toBytes x' => opdM G x x' && (P.underlying src).isSome && (match P.underlying dst with | some (.slice e) => (match P.underlying e with | some (.int .u8) => true | _ => false) | _ => false)
  | .convert src dst x, .toStr x' => opdM G x x' && (match P.underlying dst with | some .string => true | _ => false) && (match P.underlying src with | some (.slice e) => (match P.underlying e with | some (.int .u8) => true | _ => false) | _ => false)
  | .alloc t, .alloc z => zeroM P G t z
  | .box _ x, .box x' => opdM G x x'
  | .load t x, .load n x' => opdM G x x' && ldM P t n
  | .store t x v, .store n x' v' => opdM G x x' && opdM G v v' && (match n with | none => szOf P t == some 1 | some k => szOf P t == some k)
  | .nilCheck x, .nilck x' => opdM G x x'
  | .field t x f, .fld off n x' => opdM G x x' && (match P.underlying t with | some (.struct fs) => (match fs[f]? with | some fd => fd.offset == off && ldM P fd.type n | none => false) | _ => false)
  | .fieldAddr t x f, .fldAddr off x' => opdM G x x' && (match P.underlying t with | some (.struct fs) => (match fs[f]? with | some fd => fd.offset == off && (match szOf P fd.type with | some (_ + 1) => true | _ => false) | none => false) | _ => false)
  | .indexAddr t x i, .idxAddr esz x' i' => opdM G x x' && opdM G i i' && (match P.underlying t with | some (.slice e) => szOf P e == some esz | _ => false)
  | .indexAddr t x i, .idxArrAddr esz len x' i' => opdM G x x' && opdM G i i' && (match P.underlying t with | some (.array n e) => n == len && szOf P e == some esz | _ => false)
  | .index t x i, .idxStr x' i' => opdM G x x' && opdM G i i' && (match P.underlying t with | some .string => true | _ => false)
  | .index t x i, .idxArr esz len n x' i' => opdM G x x' && opdM G i i' && (match P.underlying t with | some (.array k e) => k == len && szOf P e == some esz && ldM P e n | _ => false)
  | .build t ps, .build z ps' => zeroL P G t z && (match P.underlying t with
    | some (.struct fs) => fs.all (fun f => (szOf P f.type).isSome) && partsM G (fieldPl P fs) ps.toList ps'
    | some (.array _ e) => (match szOf P e with | some s => partsM G (fun i => some (i * s, s)) ps.toList ps' | none => false)
    | _ => false)
  | .buildSlice t n ps, .buildSl len z ps' => n == len && (match P.underlying t with
    | some (.slice e) => (match szOf P e with
      | some s => decide (n * s ≤ 2 ^ 24) && (n * s == 0 && z.isEmpty || (match P.info? e with | some i => (match i.zero with | some v => n * s != 0 && vML G z ((List.range (n * s)).map fun i => v.cells[i % v.cells.size]!) | none => false) | none => false)) && partsM G (fun i => some (i * s, s)) ps.toList ps'
      | none => false)
    | _ => false)
  | .slice t x lo hi none, .slStr x' lo' hi' => opdM G x x' && oopdM G lo lo' && oopdM G hi hi' && (match P.underlying t with | some .string => true | _ => false)
  | .slice t x lo hi none, .slSl esz x' lo' hi' => opdM G x x' && oopdM G lo lo' && oopdM G hi hi' && (match P.underlying t with | some (.slice e) => szOf P e == some esz | _ => false)
  | .call c, s => isCallS s && callM P G c s
  | .makeFunc (.func f) first caps, .mkfn g xs => G.F g == some f && first.size == 0 && opdsM G caps.toList xs
  | .makeMap t r, .mkmap => (match r with | none => true | some (.const (.int _ _)) => (match P.underlying t with | some (.map _ _) => true | _ => false) | _ => false)
  | .makeSlice t l c, .mksl z l' c' => opdM G l l' && opdM G c c' && (match P.underlying t with | some (.slice e) => zeroL P G e z && szOf P e == some z.length && z.length != 0 && (match byOf P e with | some b => decide (b ≤ 65536) | none => false) | _ => false)
  | .lookup t x k ok, .lookup ok' bk z x' k' => ok == ok' && opdM G x x' && opdM G k k' && (match P.underlying t with | some (.map kt et) => bkM P kt bk && zeroM P G et z | _ => false)
  | .mapUpdate t x k v, .mapup bk x' k' v' => opdM G x x' && opdM G k k' && opdM G v v' && (match P.underlying t with | some (.map kt _) => bkM P kt bk | _ => false)
  | .insert t x k v, .mapup bk x' k' v' => opdM G x x' && opdM G k k' && opdM G v v' && (match P.underlying t with | some (.map kt _) => bkM P kt bk | _ => false)
  | .mapEntry t x k, .mapent bk z x' k' => opdM G x x' && opdM G k k' && (match P.underlying t with | some (.map kt et) => bkM P kt bk && zeroM P G et z | _ => false)
  | .entryStore _ x s v, .entst x' s' v' => opdM G x x' && opdM G s s' && opdM G v v'
  | .extract x i, .ext j x' => i == j && opdM G x x'
  | .makeInterface t x, .mkifc g x' => G.T g == t && opdM G x x' && (match P.underlying t with | some (.interface _) | none => false | _ => true)
  | .slice t x lo hi none, .slTail esz x' lo' => hi.isNone && opdM G x x' && oopdM G lo (some lo') && (match P.underlying t with | some (.slice e) => szOf P e == some esz | _ => false)
  | .typeAssert x _ t ok, .tas g x' => !ok && G.T g == t && opdM G x x' && (match P.underlying t with | some (.interface _) | none => false | _ => true)
  | _, _ => false

theorem evOp_pure' {call : CallF} {op : SOp} {e : Env} (hc : cls op = 0) : ∃ r, ∀ hq, evOp call op e hq = withH hq r := by
  refine ⟨(evOp call op e []).map (·.1), fun hq => ?_⟩
  have W : ∀ (x : Option CV), withH hq x = withH hq ((withH [] x).map (·.1)) := fun x => by cases x <;> rfl
  cases op <;> simp only [cls] at hc <;> (try (exact absurd hc (by decide))) <;> simp only [evOp]
  all_goals (first | exact W _ | (split <;> first | exact W _ | rfl | skip))
  all_goals (repeat' (first | exact W _ | rfl | split))

/-- what numbers alone decide does not hang on memory -/
theorem evOp_pure {call : CallF} {op : SOp} {e : Env} {h h' : Heap} {v : CV} (hc : cls op = 0) (hev : evOp call op e h = some (v, h')) : h' = h ∧ ∀ hq, evOp call op e hq = some (v, hq) := by
  obtain ⟨r, hr⟩ := evOp_pure' (call := call) (e := e) hc
  rw [hr] at hev
  cases r with
  | none => simp [withH] at hev
  | some x => simp [withH] at hev; obtain ⟨rfl, rfl⟩ := hev; exact ⟨rfl, fun hq => hr hq⟩

end Go.Cl
