/-
  A clean evaluator for the operations of the model's code: values without real addresses, one order, no tape. Nothing of the model's memory is here; that the model does what this evaluator says is proved in the texts behind it.
-/
import GoSem.Core.Sem
namespace Go.Cl

inductive CV where
  | int (k : IntKind) (n : Int)
  | bool (b : Bool)
  | str (s : List UInt8)
  | ptr (b o : Nat)
  | nilp
  | sl (b o n c : Nat)
  | nils
  | mp (b : Nat)
  | nilm
  | ch (b : Nat)
  | nilc
  | fn (f : Nat) (cap : List CV)
  | nilf
  | ifc (t : Nat) (v : CV)
  | nili
  | agg (l : List CV)
  | tup (l : List CV)
  deriving Inhabited

def CV.undef : CV := .tup []

def CV.cells : CV → List CV
  | .agg l => l
  | v => [v]

def CV.scalar : CV → Bool
  | .agg _ => false
  | .tup _ => false
  | _ => true

inductive St where
  | ro
  | tight
  | loose (esz : Nat)
  deriving DecidableEq, Inhabited

/-- what is known of a package-level variable that nobody writes -/
inductive Pin where
  | ints (k : IntKind) (l : List Int)
  | anyInt (k : IntKind)
  | anyIfc
  deriving Inhabited

inductive Obj where
  | arr (cs : List CV) (st : St)
  | map (es : List (CV × CV × Nat)) (clock : Nat)
  | chan (cap : Nat) (buf : List CV)
  | dead
  /-- a package-level variable that nobody writes: its real block, what it holds -/
  | pin (g : Nat) (q : Pin)
  deriving Inhabited

abbrev Heap := List Obj
abbrev Env := List (Nat × CV)

def Env.get : Env → Nat → Option CV
  | [], _ => none
  | (k, v) :: r, i => if i = k then some v else Env.get r i

def Env.put (e : Env) : Option Nat → CV → Env
  | none, _ => e
  | some d, v => (d, v) :: e

def Env.only : List Nat → Env → Env
  | [], _ => []
  | k :: ks, e => match e.get k with
    | some v => (k, v) :: Env.only ks e
    | none => Env.only ks e

inductive Opd where
  | t (n : Nat)
  | c (v : CV)
  deriving Inhabited

def Opd.ev (e : Env) : Opd → Option CV
  | .t n => e.get n
  | .c v => some v

def evs (e : Env) : List Opd → Option (List CV)
  | [] => some []
  | x :: xs => match x.ev e, evs e xs with
    | some v, some vs => some (v :: vs)
    | _, _ => none

/-- Kinds of cells that are compared. -/
inductive BK where
  | i | s | b
  deriving DecidableEq, Inhabited

/-- What '==' of a type is about. -/
inductive EqT where
  | b | p | s | m | f | i
  | st (ks : List BK)
  deriving DecidableEq, Inhabited

/-- whose length -/
inductive LK where
  | str | sl | map
  deriving DecidableEq, Inhabited

inductive SOp where
  | move (x : Opd)
  | pick (c a b : Opd)
  | bin (op : BinOp) (x y : Opd)
  | eq (neg : Bool) (t : EqT) (x y : Opd)
  | neg (x : Opd)
  | not (x : Opd)
  | conv (k : IntKind) (x : Opd)
  | same (x : Opd)
  | toBytes (x : Opd)
  | toStr (x : Opd)
  | alloc (z : CV)
  | box (x : Opd)
  | load (n : Option Nat) (a : Opd)
  | store (n : Option Nat) (a v : Opd)
  | nilck (x : Opd)
  | fld (off : Nat) (n : Option Nat) (x : Opd)
  | fldAddr (off : Nat) (x : Opd)
  | idxAddr (esz : Nat) (x i : Opd)
  | idxArrAddr (esz len : Nat) (x i : Opd)
  | idxStr (x i : Opd)
  | idxArr (esz len : Nat) (n : Option Nat) (x i : Opd)
  | build (z : List CV) (parts : List (Nat × Nat × Opd))
  | buildSl (len : Nat) (z : List CV) (parts : List (Nat × Nat × Opd))
  | slStr (x : Opd) (lo hi : Option Opd)
  | slSl (esz : Nat) (x : Opd) (lo hi : Option Opd)
  | len (k : LK) (x : Opd)
  | mx (xs : List Opd)
  | mn (xs : List Opd)
  | append (esz : Nat) (x y : Opd)
  | call (f : Nat) (args : List Opd)
  | callv (f : Opd) (args : List Opd)
  | mkfn (f : Nat) (caps : List Opd)
  | mkmap
  | mksl (z : List CV) (l c : Opd)
  | lookup (ok : Bool) (bk : BK) (z : CV) (m k : Opd)
  | mapup (bk : BK) (m k v : Opd)
  | mapent (bk : BK) (z : CV) (m k : Opd)
  | entst (m s v : Opd)
  | del (bk : BK) (m k : Opd)
  | ext (i : Nat) (x : Opd)
  | mkifc (t : Nat) (x : Opd)
  | tas (t : Nat) (x : Opd)
  | slTail (esz : Nat) (x lo : Opd)
  deriving Inhabited

structure SOper where
  dst : Option Nat
  op : SOp
  guard : Option (Nat × Bool) := none
  /-- the places of reads told earlier in this region that may also happen behind this operation: they must read the same there -/
  re : List Nat := []
  deriving Inhabited

inductive SCode where
  | skip
  | ops (l : List SOper) (draw : Option (List (Nat × List Nat))) (keep : List Nat)
  | seq (a b : SCode)
  | cond (c : Opd) (x y : SCode)
  | block (id : Nat) (b : SCode)
  | loop (live : List Nat) (b : SCode)
  | exit (id : Nat)
  | ret
  deriving Inhabited

inductive RV where
  | t (n : Nat)
  | cell (n : Option Nat) (t : Nat)
  deriving Inhabited

structure SFunc where
  body : SCode
  results : List RV
  deriving Inhabited

inductive Ex where
  | normal
  | exit (id : Nat)
  | ret
  deriving DecidableEq, Inhabited

abbrev CallF := Nat → List CV → Heap → Option (CV × Heap)

/-! ### operations -/

/-- numbers of slices and strings stay below this -/
def big : Nat := 4294967296

def i64 (n : Int) : CV := .int .i64 n

def bytesLess : List UInt8 → List UInt8 → Bool
  | _, [] => false
  | [], _ :: _ => true
  | a :: x, b :: y => a < b || (a == b && bytesLess x y)

def binInt (op : BinOp) (k : IntKind) (a b : Int) : Option CV :=
  match op with
  | .add => some (.int k (k.wrap (a + b)))
  | .sub => some (.int k (k.wrap (a - b)))
  | .mul => some (.int k (k.wrap (a * b)))
  | .quo => if b = 0 then none else some (.int k (k.wrap (a.tdiv b)))
  | .rem => if b = 0 then none else some (.int k (a.tmod b))
  | .eql => some (.bool (a == b))
  | .neq => some (.bool (a != b))
  | .lss => some (.bool (a < b))
  | .leq => some (.bool (a ≤ b))
  | .gtr => some (.bool (a > b))
  | .geq => some (.bool (a ≥ b))
  | _ => none

def binStr (op : BinOp) (a b : List UInt8) : Option CV :=
  match op with
  | .add => if a.length + b.length ≤ 9223372036854775807 then some (.str (a ++ b)) else none
  | .eql => some (.bool (a == b))
  | .neq => some (.bool (!(a == b)))
  | .lss => some (.bool (bytesLess a b))
  | .leq => some (.bool (bytesLess a b || a == b))
  | .gtr => some (.bool (!(bytesLess a b || a == b)))
  | .geq => some (.bool (!bytesLess a b))
  | _ => none

def bin (op : BinOp) : CV → CV → Option CV
  | .int k a, .int k' b => if k = k' then binInt op k a b else none
  | .str a, .str b => binStr op a b
  | _, _ => none

def eqKind : BK → CV → CV → Option Bool
  | .i, .int k a, .int k' b => if k = k' then some (a == b) else none
  | .b, .bool a, .bool b => some (a == b)
  | .s, .str a, .str b => some (a == b)
  | _, _, _ => none

def eqCells : List BK → List CV → List CV → Option Bool
  | [], [], [] => some true
  | k :: ks, x :: xs, y :: ys => match eqKind k x y with
    | some true => eqCells ks xs ys
    | some false => some false
    | none => none
  | _, _, _ => none

def eqv (t : EqT) (x y : CV) : Option Bool :=
  match t, x, y with
  | .b, .bool a, .bool b => some (a == b)
  | .p, .nilp, .nilp => some true
  | .p, .nilp, .ptr _ _ => some false
  | .p, .ptr _ _, .nilp => some false
  | .s, .nils, .nils => some true
  | .s, .nils, .sl _ _ _ _ => some false
  | .s, .sl _ _ _ _, .nils => some false
  | .m, .nilm, .nilm => some true
  | .m, .nilm, .mp _ => some false
  | .m, .mp _, .nilm => some false
  | .f, .nilf, .nilf => some true
  | .f, .nilf, .fn _ _ => some false
  | .f, .fn _ _, .nilf => some false
  | .i, .nili, .nili => some true
  | .i, .nili, .ifc _ _ => some false
  | .i, .ifc _ _, .nili => some false
  | .st ks, .agg a, .agg b => if a.length = ks.length ∧ b.length = ks.length then eqCells ks a b else none
  | _, _, _ => none

def splice (cs : List CV) (o : Nat) (vs : List CV) : List CV := cs.take o ++ vs ++ cs.drop (o + vs.length)

def loadAt (h : Heap) (b o : Nat) : Option Nat → Option CV
  | none => match h[b]? with
    | some (.arr cs _) => cs[o]?
    | _ => none
  | some n => match h[b]? with
    | some (.arr cs _) => if o + n ≤ cs.length then some (.agg ((cs.drop o).take n)) else none
    | _ => none

def storeAt (h : Heap) (b o : Nat) (vs : List CV) : Option Heap :=
  match h[b]? with
  | some (.arr cs st) => if st ≠ .ro ∧ o + vs.length ≤ cs.length ∧ vs.all CV.scalar = true then some (h.set b (.arr (splice cs o vs) st)) else none
  | _ => none

def partOf (cs : List CV) (off : Nat) : Option Nat → Option CV
  | none => cs[off]?
  | some n => if off + n ≤ cs.length then some (.agg ((cs.drop off).take n)) else none

def fillC (cs : List CV) : List (Nat × Nat × CV) → Option (List CV)
  | [] => some cs
  | (off, size, v) :: r => if v.cells.length = size ∧ off + size ≤ cs.length then fillC (splice cs off v.cells) r else none

def evParts (e : Env) : List (Nat × Nat × Opd) → Option (List (Nat × Nat × CV))
  | [] => some []
  | (o, s, x) :: r => match x.ev e, evParts e r with
    | some v, some vs => some ((o, s, v) :: vs)
    | _, _ => none

def cellsAt (h : Heap) (b o n : Nat) : Option (List CV) :=
  match h[b]? with
  | some (.arr cs _) => if o + n ≤ cs.length then some ((cs.drop o).take n) else none
  | _ => none

/-- a slice's own elements, or a text's bytes: how many, which cells -/
def spread (h : Heap) (esz : Nat) : CV → Option (Nat × List CV)
  | .nils => some (0, [])
  | .sl b o n _ => match cellsAt h b o (n * esz) with
    | some cs => some (n, cs)
    | none => none
  | .str s => if esz = 1 then some (s.length, s.map fun x => .int .u8 x.toNat) else none
  | _ => none

def kill (h : Heap) (b : Nat) : Heap :=
  match h[b]? with
  | some (.arr _ (.loose _)) => h.set b .dead
  | _ => h

def appendTo (h : Heap) (esz : Nat) (x : CV) (k : Nat) (ys : List CV) : Option (CV × Heap) :=
  if k > big ∨ ys.all CV.scalar = false then none else
  match x with
  | .nils => if k = 0 then some (.nils, h) else some (.sl h.length 0 k k, h ++ [.arr ys (.loose esz)])
  | .sl b o n c =>
    if n > big then none else
    if k = 0 ∧ n ≤ c then some (.sl b o n c, h) else
    if n + k ≤ c then
      match storeAt h b (o + n * esz) ys with
      | some h' => some (.sl b o (n + k) c, h')
      | none => none
    else
      match h[b]? with
      | some (.arr cs st) =>
        if st ≠ .ro ∧ (st = .tight ∨ st = .loose esz) ∧ o + n * esz ≤ cs.length ∧ o + c * esz ≤ cs.length then
          some (.sl h.length 0 (n + k) (n + k), kill h b ++ [.arr ((cs.drop o).take (n * esz) ++ ys) (.loose esz)])
        else none
      | _ => none
  | _ => none

def bound (x : Option CV) (dflt top : Nat) : Option Nat :=
  match x with
  | none => some dflt
  | some (.int _ i) => if 0 ≤ i ∧ i ≤ top then some i.toNat else none
  | _ => none

def optEv (e : Env) : Option Opd → Option (Option CV)
  | none => some none
  | some x => match x.ev e with
    | some v => some (some v)
    | none => none

def slStr (s : List UInt8) (lo hi : Option CV) : Option CV :=
  match bound hi s.length s.length with
  | some h => match bound lo 0 h with
    | some l => some (.str ((s.take h).drop l))
    | none => none
  | none => none

def slSl (hp : Heap) (esz : Nat) (x : CV) (lo hi : Option CV) : Option (CV × Heap) :=
  match x with
  | .nils => match bound hi 0 0 with
    | some h => match bound lo 0 h with
      | some _ => some (.nils, hp)
      | none => none
    | none => none
  | .sl b o n c => if c < n then none else match bound hi n c with
    | some h => match bound lo 0 h with
      | some l => if l = c ∧ l ≠ 0 then some (.sl hp.length 0 0 0, hp ++ [.arr [] .ro]) else some (.sl b (o + l * esz) (h - l) (c - l), hp)
      | none => none
    | none => none
  | _ => none

/-- a slice from somewhere on, by whom it was no more used -/
def slTail (h : Heap) (esz : Nat) (x lo : CV) : Option (CV × Heap) :=
  match x, lo with
  | .sl b o n c, .int _ l =>
    if 0 ≤ l ∧ l ≤ n ∧ n ≤ c then
      if l.toNat < c then some (.sl b (o + l.toNat * esz) (n - l.toNat) (c - l.toNat), h)
      else match h[b]? with
        | some (.arr cs st) => if st ≠ .ro ∧ (st = .tight ∨ st = .loose esz) ∧ o + c * esz = cs.length then some (.sl h.length 0 0 0, h.set b .dead ++ [.arr [] (.loose esz)]) else none
        | _ => none
    else none
  | _, _ => none

def findKey (bk : BK) (k : CV) : List (CV × CV × Nat) → Nat → Option (Option (Nat × CV × Nat))
  | [], _ => some none
  | (k', v, born) :: r, i => match eqKind bk k k' with
    | some true => some (some (i, v, born))
    | some false => findKey bk k r (i + 1)
    | none => none

def ofBytes : List CV → Option (List UInt8)
  | [] => some []
  | .int .u8 n :: r => match ofBytes r with
    | some s => some (UInt8.ofNat n.toNat :: s)
    | none => none
  | _ :: _ => none

def mxR (k : IntKind) : Int → List CV → Option CV
  | a, [] => some (.int k a)
  | a, .int k' b :: r => if k = k' then mxR k (if b > a then b else a) r else none
  | _, _ => none

def mxL : List CV → Option CV
  | .int k a :: r => mxR k a r
  | _ => none

def mnR (k : IntKind) : Int → List CV → Option CV
  | a, [] => some (.int k a)
  | a, .int k' b :: r => if k = k' then mnR k (if b < a then b else a) r else none
  | _, _ => none

def mnL : List CV → Option CV
  | .int k a :: r => mnR k a r
  | _ => none

def fits : Option Nat → CV → Bool
  | none, .agg _ => false
  | none, _ => true
  | some k, .agg l => l.length == k
  | some _, _ => false

def withH (h : Heap) : Option CV → Option (CV × Heap)
  | some v => some (v, h)
  | none => none

def evOp (call : CallF) (op : SOp) (e : Env) (h : Heap) : Option (CV × Heap) :=
  match op with
  | .move x => withH h (x.ev e)
  | .pick c a b => match c.ev e with
    | some (.bool t) => withH h (if t then a.ev e else b.ev e)
    | _ => none
  | .bin op x y => match x.ev e, y.ev e with
    | some a, some b => withH h (bin op a b)
    | _, _ => none
  | .eq neg t x y => match x.ev e, y.ev e with
    | some a, some b => match eqv t a b with
      | some r => some (.bool (if neg then !r else r), h)
      | none => none
    | _, _ => none
  | .neg x => match x.ev e with
    | some (.int k n) => some (.int k (k.wrap (0 - n)), h)
    | _ => none
  | .not x => match x.ev e with
    | some (.bool b) => some (.bool (!b), h)
    | _ => none
  | .conv k x => match x.ev e with
    | some (.int _ n) => some (.int k (k.wrap n), h)
    | _ => none
  | .same x => match x.ev e with
    | some (.str s) => some (.str s, h)
    | _ => none
  | .toBytes x => match x.ev e with
    | some (.str s) => if s.length ≤ big then some (.sl h.length 0 s.length s.length, h ++ [.arr (s.map fun x => .int .u8 x.toNat) (.loose 1)]) else none
    | _ => none
  | .toStr x => match x.ev e with
    | some .nils => some (.str [], h)
    | some (.sl b o n _) => match cellsAt h b o n with
      | some cs => match ofBytes cs with
        | some s => some (.str s, h)
        | none => none
      | none => none
    | _ => none
  | .alloc z => some (.ptr h.length 0, h ++ [.arr z.cells .tight])
  | .box x => match x.ev e with
    | some v => some (.ptr h.length 0, h ++ [.arr v.cells .tight])
    | none => none
  | .load n a => match a.ev e with
    | some (.ptr b o) => withH h (loadAt h b o n)
    | _ => none
  | .store n a v => match a.ev e, v.ev e with
    | some (.ptr b o), some v =>
      if fits n v = true then
        match storeAt h b o v.cells with
        | some h' => some (.undef, h')
        | none => none
      else none
    | _, _ => none
  | .nilck x => match x.ev e with
    | some (.ptr b o) => some (.ptr b o, h)
    | some (.fn f c) => some (.fn f c, h)
    | some (.ifc t v) => some (.ifc t v, h)
    | _ => none
  | .fld off n x => match x.ev e with
    | some (.agg cs) => withH h (partOf cs off n)
    | _ => none
  | .fldAddr off x => match x.ev e with
    | some (.ptr b o) => some (.ptr b (o + off), h)
    | _ => none
  | .idxAddr esz x i => match x.ev e, i.ev e with
    | some (.sl b o n _), some (.int _ i) => if 0 ≤ i ∧ i < n then some (.ptr b (o + i.toNat * esz), h) else none
    | _, _ => none
  | .idxArrAddr esz len x i => match x.ev e, i.ev e with
    | some (.ptr b o), some (.int _ i) => if 0 ≤ i ∧ i < len then some (.ptr b (o + i.toNat * esz), h) else none
    | _, _ => none
  | .idxStr x i => match x.ev e, i.ev e with
    | some (.str s), some (.int _ i) => if 0 ≤ i then (match s[i.toNat]? with | some b => some (.int .u8 b.toNat, h) | none => none) else none
    | _, _ => none
  | .idxArr esz len n x i => match x.ev e, i.ev e with
    | some (.agg cs), some (.int _ i) => if 0 ≤ i ∧ i < len then withH h (partOf cs (i.toNat * esz) n) else none
    | _, _ => none
  | .build z parts => match evParts e parts with
    | some ps => match fillC z ps with
      | some cs => some (.agg cs, h)
      | none => none
    | none => none
  | .buildSl len z parts => match evParts e parts with
    | some ps => match fillC z ps with
      | some cs => some (.sl h.length 0 len len, h ++ [.arr cs .tight])
      | none => none
    | none => none
  | .slStr x lo hi => match x.ev e, optEv e lo, optEv e hi with
    | some (.str s), some l, some r => withH h (slStr s l r)
    | _, _, _ => none
  | .slSl esz x lo hi => match x.ev e, optEv e lo, optEv e hi with
    | some v, some l, some r => slSl h esz v l r
    | _, _, _ => none
  | .len k x => match k, x.ev e with
    | .str, some (.str s) => some (i64 s.length, h)
    | .sl, some .nils => some (i64 0, h)
    | .sl, some (.sl _ _ n _) => some (i64 n, h)
    | .map, some .nilm => some (i64 0, h)
    | .map, some (.mp b) => match h[b]? with
      | some (.map es _) => some (i64 es.length, h)
      | _ => none
    | _, _ => none
  | .mx xs => match evs e xs with
    | some vs => withH h (mxL vs)
    | none => none
  | .mn xs => match evs e xs with
    | some vs => withH h (mnL vs)
    | none => none
  | .append esz x y => match x.ev e, y.ev e with
    | some a, some b => match spread h esz b with
      | some (k, ys) => appendTo h esz a k ys
      | none => none
    | _, _ => none
  | .call f args => match evs e args with
    | some vs => call f vs h
    | none => none
  | .callv f args => match f.ev e, evs e args with
    | some (.fn f caps), some vs => call f (vs ++ caps) h
    | _, _ => none
  | .mkfn f caps => match evs e caps with
    | some vs => some (.fn f vs, h)
    | none => none
  | .mkmap => some (.mp h.length, h ++ [.map [] 0])
  | .mksl z l c => match l.ev e, c.ev e with
    | some (.int .i64 l), some (.int .i64 c) =>
      if 0 ≤ l ∧ l ≤ c ∧ c ≤ big then
        some (.sl h.length 0 l.toNat c.toNat, h ++ [.arr (List.replicate c.toNat z).flatten .tight])
      else none
    | _, _ => none
  | .lookup ok bk z m k => match m.ev e, k.ev e with
    | some .nilm, some _ => some (if ok then .tup [z, .bool false] else z, h)
    | some (.mp b), some k => match h[b]? with
      | some (.map es _) => match findKey bk k es 0 with
        | some (some (_, v, _)) => some (if ok then .tup [v, .bool true] else v, h)
        | some none => some (if ok then .tup [z, .bool false] else z, h)
        | none => none
      | _ => none
    | _, _ => none
  | .mapup bk m k v => match m.ev e, k.ev e, v.ev e with
    | some (.mp b), some k, some v => match h[b]? with
      | some (.map es clock) => match findKey bk k es 0 with
        | some (some (i, _, born)) => some (.undef, h.set b (.map (es.set i (k, v, born)) clock))
        | some none => some (.undef, h.set b (.map (es ++ [(k, v, clock)]) (clock + 1)))
        | none => none
      | _ => none
    | _, _, _ => none
  | .mapent bk z m k => match m.ev e, k.ev e with
    | some (.mp b), some k => match h[b]? with
      | some (.map es clock) => match findKey bk k es 0 with
        | some (some (i, v, born)) => some (.tup [v, i64 born], h.set b (.map (es.set i (k, v, born)) clock))
        | some none => some (.tup [z, i64 clock], h.set b (.map (es ++ [(k, z, clock)]) (clock + 1)))
        | none => none
      | _ => none
    | _, _ => none
  | .entst m s v => match m.ev e, s.ev e, v.ev e with
    | some (.mp b), some (.int _ s), some v => match h[b]? with
      | some (.map es clock) => match es.findIdx? (fun x => (x.2.2 : Int) == s) with
        | some i => some (.undef, h.set b (.map (es.modify i fun x => (x.1, v, x.2.2)) clock))
        | none => none
      | _ => none
    | _, _, _ => none
  | .del bk m k => match m.ev e, k.ev e with
    | some .nilm, some _ => some (.undef, h)
    | some (.mp b), some k => match h[b]? with
      | some (.map es clock) => match findKey bk k es 0 with
        | some (some (i, _, _)) => some (.undef, h.set b (.map (es.eraseIdx i) clock))
        | some none => some (.undef, h)
        | none => none
      | _ => none
    | _, _ => none
  | .ext i x => match x.ev e with
    | some (.tup vs) => withH h vs[i]?
    | _ => none
  | .mkifc t x => match x.ev e with
    | some v => some (.ifc t v, h)
    | none => none
  | .tas t x => match x.ev e with
    | some (.ifc t' v) => if t' = t then some (v, h) else none
    | _ => none
  | .slTail esz x lo => match x.ev e, lo.ev e with
    | some v, some l => slTail h esz v l
    | _, _ => none

/-! ### code -/

/-- is an operation run: its guard -/
def wanted (e : Env) : Option (Nat × Bool) → Option Bool
  | none => some true
  | some (t, want) => match e.get t with
    | some (.bool b) => some (b == want)
    | some (.tup []) => some false
    | _ => none

/-- reads told earlier read the same here -/
def Recheck (call : CallF) (all : List SOper) (e : Env) (h : Heap) : List Nat → Prop
  | [] => True
  | p :: r => (match all[p]? with
    | some s => match s.dst with
      | some d => wanted e s.guard = some false ∨ (wanted e s.guard = some true ∧ ∃ v, e.get d = some v ∧ evOp call s.op e h = some (v, h))
      | none => False
    | none => False) ∧ Recheck call all e h r

/-- 0: numbers alone · 1: reads memory · 2: makes an object · 3: writes -/
def cls : SOp → Nat
  | .move _ | .pick .. | .bin .. | .eq .. | .neg _ | .not _ | .conv .. | .same _ | .nilck _ | .fld .. | .fldAddr .. | .idxAddr .. | .idxArrAddr .. | .idxStr .. | .idxArr .. | .build .. | .slStr .. | .mx _ | .mn _ | .mkfn .. | .ext .. | .mkifc .. | .tas .. => 0
  | .load .. | .lookup .. | .len .. | .toStr _ => 1
  | .alloc _ | .box _ | .buildSl .. | .mkmap | .mksl .. | .slSl .. | .toBytes _ => 2
  | _ => 3

mutual
def CV.eqb : CV → CV → Bool
  | .int k n, .int k' n' => k == k' && n == n'
  | .bool a, .bool b => a == b
  | .str a, .str b => a == b
  | .ptr b o, .ptr b' o' => b == b' && o == o'
  | .nilp, .nilp => true
  | .sl b o n c, .sl b' o' n' c' => b == b' && o == o' && n == n' && c == c'
  | .nils, .nils => true
  | .mp b, .mp b' => b == b'
  | .nilm, .nilm => true
  | .ch b, .ch b' => b == b'
  | .nilc, .nilc => true
  | .fn f l, .fn f' l' => f == f' && CV.eqbL l l'
  | .nilf, .nilf => true
  | .ifc t v, .ifc t' v' => t == t' && CV.eqb v v'
  | .nili, .nili => true
  | .agg l, .agg l' => CV.eqbL l l'
  | .tup l, .tup l' => CV.eqbL l l'
  | _, _ => false
def CV.eqbL : List CV → List CV → Bool
  | [], [] => true
  | a :: x, b :: y => CV.eqb a b && CV.eqbL x y
  | _, _ => false
end

mutual
theorem CV.eqb_eq : ∀ (a b : CV), CV.eqb a b = true → a = b
  | .int k n, b, h => by cases b <;> simp [CV.eqb] at h; obtain ⟨rfl, rfl⟩ := h; rfl
  | .bool a, b, h => by cases b <;> simp [CV.eqb] at h; subst h; rfl
  | .str a, b, h => by cases b <;> simp [CV.eqb] at h; subst h; rfl
  | .ptr a o, b, h => by cases b <;> simp [CV.eqb] at h; obtain ⟨rfl, rfl⟩ := h; rfl
  | .nilp, b, h => by cases b <;> simp [CV.eqb] at h; rfl
  | .sl a o n c, b, h => by cases b <;> simp [CV.eqb] at h; obtain ⟨⟨⟨rfl, rfl⟩, rfl⟩, rfl⟩ := h; rfl
  | .nils, b, h => by cases b <;> simp [CV.eqb] at h; rfl
  | .mp a, b, h => by cases b <;> simp [CV.eqb] at h; subst h; rfl
  | .nilm, b, h => by cases b <;> simp [CV.eqb] at h; rfl
  | .ch a, b, h => by cases b <;> simp [CV.eqb] at h; subst h; rfl
  | .nilc, b, h => by cases b <;> simp [CV.eqb] at h; rfl
  | .fn f l, b, h => by cases b <;> simp [CV.eqb] at h; obtain ⟨rfl, h2⟩ := h; rw [CV.eqbL_eq _ _ h2]
  | .nilf, b, h => by cases b <;> simp [CV.eqb] at h; rfl
  | .ifc t v, b, h => by cases b <;> simp [CV.eqb] at h; obtain ⟨rfl, h2⟩ := h; rw [CV.eqb_eq _ _ h2]
  | .nili, b, h => by cases b <;> simp [CV.eqb] at h; rfl
  | .agg l, b, h => by cases b <;> simp [CV.eqb] at h; rw [CV.eqbL_eq _ _ h]
  | .tup l, b, h => by cases b <;> simp [CV.eqb] at h; rw [CV.eqbL_eq _ _ h]
theorem CV.eqbL_eq : ∀ (a b : List CV), CV.eqbL a b = true → a = b
  | [], b, h => by cases b <;> simp [CV.eqbL] at h; rfl
  | x :: xs, b, h => by
    cases b with
    | nil => simp [CV.eqbL] at h
    | cons y ys => simp [CV.eqbL] at h; rw [CV.eqb_eq _ _ h.1, CV.eqbL_eq _ _ h.2]
end

mutual
theorem CV.eqb_refl : ∀ (a : CV), CV.eqb a a = true
  | .int k n | .bool _ | .str _ | .ptr _ _ | .nilp | .sl _ _ _ _ | .nils | .mp _ | .nilm | .ch _ | .nilc | .nilf | .nili => by simp [CV.eqb]
  | .fn f l => by simp [CV.eqb, CV.eqbL_refl l]
  | .ifc t v => by simp [CV.eqb, CV.eqb_refl v]
  | .agg l => by simp [CV.eqb, CV.eqbL_refl l]
  | .tup l => by simp [CV.eqb, CV.eqbL_refl l]
theorem CV.eqbL_refl : ∀ (a : List CV), CV.eqbL a a = true
  | [] => rfl
  | x :: xs => by simp [CV.eqbL, CV.eqb_refl x, CV.eqbL_refl xs]
end

instance : DecidableEq CV := fun a b => if h : CV.eqb a b = true then isTrue (CV.eqb_eq a b h) else isFalse fun e => h (e ▸ CV.eqb_refl a)

def recheckB (call : CallF) (all : List SOper) (e : Env) (h : Heap) : List Nat → Bool
  | [] => true
  | p :: r => (match all[p]? with
    | some s => match s.dst with
      | some d => match wanted e s.guard with
        | some false => true
        | some true => cls s.op == 1 && (match e.get d, evOp call s.op e h with | some v, some (v', _) => CV.eqb v v' | _, _ => false)
        | none => false
      | none => false
    | none => false) && recheckB call all e h r

theorem evOp_one {call : CallF} {op : SOp} {e : Env} {h h' : Heap} {v : CV} (hc : cls op = 1) (hev : evOp call op e h = some (v, h')) : h' = h := by
  have W : ∀ (x : Option CV), withH h x = some (v, h') → h' = h := fun x hx => by cases x <;> simp [withH] at hx; exact hx.2.symm
  cases op <;> simp only [cls] at hc <;> (try (exact absurd hc (by decide))) <;> simp only [evOp] at hev
  all_goals (repeat' (first | exact W _ hev | (simp at hev; done) | (simp at hev; exact hev.2.symm) | split at hev))

theorem recheckB_spec {call : CallF} {all : List SOper} {e : Env} {h : Heap} : ∀ {re : List Nat}, recheckB call all e h re = true → Recheck call all e h re
  | [], _ => trivial
  | p :: r, hR => by
    simp only [recheckB, Bool.and_eq_true] at hR
    refine ⟨?_, recheckB_spec hR.2⟩
    have := hR.1
    cases ha : all[p]? with
    | none => simp [ha] at this
    | some s =>
      simp only [ha] at this
      cases hd : s.dst with
      | none => simp [hd] at this
      | some d =>
        simp only [hd] at this ⊢
        cases hw : wanted e s.guard with
        | none => simp [hw] at this
        | some b =>
          cases b with
          | false => exact .inl rfl
          | true =>
            simp only [hw, Bool.and_eq_true, beq_iff_eq] at this
            obtain ⟨h1, h2⟩ := this
            right
            refine ⟨rfl, ?_⟩
            cases hg : e.get d with
            | none => simp [hg] at h2
            | some v =>
              cases ho : evOp call s.op e h with
              | none => simp [hg, ho] at h2
              | some q =>
                obtain ⟨v', h'⟩ := q
                simp only [hg, ho] at h2
                have := CV.eqb_eq _ _ h2
                subst this
                exact ⟨v, rfl, by rw [evOp_one h1 ho]⟩

def evOper (call : CallF) (all : List SOper) (o : SOper) (e : Env) (h : Heap) : Option (Env × Heap) :=
  match wanted e o.guard with
  | some true => match evOp call o.op e h with
    | some (v, h') => if recheckB call all (e.put o.dst v) h' o.re = true then some (e.put o.dst v, h') else none
    | none => none
  | some false => some (e.put o.dst .undef, h)
  | none => none

def evOps (call : CallF) (all : List SOper) : List SOper → Env → Heap → Option (Env × Heap)
  | [], e, h => some (e, h)
  | o :: r, e, h => match evOper call all o e h with
    | some (e', h') => evOps call all r e' h'
    | none => none

/-- code, with a bound on rounds and depth -/
def evC (call : CallF) : Nat → SCode → Env → Heap → Option (Ex × Env × Heap)
  | 0, _, _, _ => none
  | n + 1, c, e, h => match c with
    | .skip => some (.normal, e, h)
    | .ops l _ keep => match evOps call l l e h with
      | some (e', h') => some (.normal, Env.only keep e', h')
      | none => none
    | .seq a b => match evC call n a e h with
      | some (.normal, e', h') => evC call n b e' h'
      | r => r
    | .cond x a b => match x.ev e with
      | some (.bool true) => evC call n a e h
      | some (.bool false) => evC call n b e h
      | _ => none
    | .block id b => match evC call n b e h with
      | some (.exit i, e', h') => if i = id then some (.normal, e', h') else some (.exit i, e', h')
      | r => r
    | .loop live b => match evC call n b (Env.only live e) h with
      | some (.normal, e', h') => evC call n (.loop live b) e' h'
      | r => r
    | .exit id => some (.exit id, e, h)
    | .ret => some (.ret, e, h)

def rvs (e : Env) (h : Heap) : List RV → Option (List CV)
  | [] => some []
  | .t n :: r => match e.get n, rvs e h r with
    | some v, some vs => some (v :: vs)
    | _, _ => none
  | .cell k t :: r => match e.get t with
    | some (.ptr b o) => match loadAt h b o k, rvs e h r with
      | some v, some vs => some (v :: vs)
      | _, _ => none
    | _ => none

def result : List CV → CV
  | [v] => v
  | vs => .tup vs

def args (i : Nat) : List CV → Env
  | [] => []
  | v :: r => (i, v) :: args (i + 1) r

def evBody (call : CallF) (n : Nat) (sf : SFunc) (vs : List CV) (h : Heap) : Option (CV × Heap) :=
  match evC call n sf.body (args 0 vs) h with
  | some (.exit _, _, _) => none
  | some (_, e, h') => match rvs e h' sf.results with
    | some rs => some (result rs, h')
    | none => none
  | none => none

abbrev Prog := Nat → Option SFunc
abbrev Prims := Nat → Option (List CV → Heap → Option (CV × Heap))

def evCall (Pg : Prog) (pr : Prims) : Nat → CallF
  | 0 => fun _ _ _ => none
  | n + 1 => fun f vs h => match pr f with
    | some g => g vs h
    | none => match Pg f with
      | some sf => evBody (evCall Pg pr n) n sf vs h
      | none => none

end Go.Cl
