/-
  Texts laid together: Cl0 Cl1 Cl2 Cl3 Cl4 Cl5 Cl6 Cl7 Cl8.
-/
import GoSem.Core.Sem
import Derived.Orders
import Derived.Laws.Entries
import Derived.Laws.StructEq
import Derived.Laws.Strings
import Derived.Laws.Tables
import Derived.Laws.BytesString
import Derived.Laws.Slices
import Derived.Laws.BitsLemmas
namespace Go.Cl
inductive CV where
 | int (k : IntKind) (n : Int)
 | bool (b : Bool)
 | str (s : List UInt8)
 | ptr (b o : Nat)
 | nilp
 | sl (b o n c : Nat)
 | nils
 | mp (b : Nat)
 | nilm
 | ch (b : Nat)
 | nilc
 | fn (f : Nat) (cap : List CV)
 | nilf
 | ifc (t : Nat) (v : CV)
 | nili
 | agg (l : List CV)
 | tup (l : List CV)
 deriving Inhabited
def CV.undef : CV := .tup []
def CV.cells : CV → List CV
 | .agg l => l
 | v => [v]
def CV.scalar : CV → Bool
 | .agg _ => false
 | .tup _ => false
 | _ => true
inductive St where
 | ro
 | tight
 | loose (esz : Nat)
 deriving DecidableEq, Inhabited
inductive Pin where
 | ints (k : IntKind) (l : List Int)
 | anyInt (k : IntKind)
 | anyIfc
 deriving Inhabited
inductive Obj where
 | arr (cs : List CV) (st : St)
 | map (es : List (CV × CV × Nat)) (clock : Nat)
 | chan (cap : Nat) (buf : List CV)
 | dead
 | pin (g : Nat) (q : Pin)
 | bld (T : Nat) (q : Option (Nat × Nat))
 | buf (U : Nat) (bs : List UInt8)
 deriving Inhabited
abbrev Heap := List Obj
abbrev Env := List (Nat × CV)
def Env.get : Env → Nat → Option CV
 | [], _ => none
 | (k, v) :: r, i => if i = k then some v else Env.get r i
def Env.put (e : Env) : Option Nat → CV → Env
 | none, _ => e
 | some d, v => (d, v) :: e
def Env.only : List Nat → Env → Env
 | [], _ => []
 | k :: ks, e => match e.get k with
   | some v => (k, v) :: Env.only ks e
   | none => Env.only ks e
inductive Opd where
 | t (n : Nat)
 | c (v : CV)
 deriving Inhabited
def Opd.ev (e : Env) : Opd → Option CV
 | .t n => e.get n
 | .c v => some v
def evs (e : Env) : List Opd → Option (List CV)
 | [] => some []
 | x :: xs => match x.ev e, evs e xs with
   | some v, some vs => some (v :: vs)
   | _, _ => none
inductive BK where
 | i | s | b
 deriving DecidableEq, Inhabited
inductive EqT where
 | b | p | s | m | f | i
 | st (ks : List BK)
 deriving DecidableEq, Inhabited
inductive LK where
 | str | sl | map | ch
 deriving DecidableEq, Inhabited
inductive SOp where
 | move (x : Opd)
 | pick (c a b : Opd)
 | bin (op : BinOp) (x y : Opd)
 | eq (neg : Bool) (t : EqT) (x y : Opd)
 | neg (x : Opd)
 | not (x : Opd)
 | conv (k : IntKind) (x : Opd)
 | same (x : Opd)
 | toBytes (x : Opd)
 | toStr (x : Opd)
 | alloc (z : CV)
 | box (x : Opd)
 | load (n : Option Nat) (a : Opd)
 | store (n : Option Nat) (a v : Opd)
 | nilck (x : Opd)
 | fld (off : Nat) (n : Option Nat) (x : Opd)
 | fldAddr (off : Nat) (x : Opd)
 | idxAddr (esz : Nat) (x i : Opd)
 | idxArrAddr (esz len : Nat) (x i : Opd)
 | idxStr (x i : Opd)
 | idxArr (esz len : Nat) (n : Option Nat) (x i : Opd)
 | build (z : List CV) (parts : List (Nat × Nat × Opd))
 | buildSl (len : Nat) (z : List CV) (parts : List (Nat × Nat × Opd))
 | slStr (x : Opd) (lo hi : Option Opd)
 | slSl (esz : Nat) (x : Opd) (lo hi : Option Opd)
 | len (k : LK) (x : Opd)
 | mx (xs : List Opd)
 | mn (xs : List Opd)
 | append (esz : Nat) (x y : Opd)
 | call (f : Nat) (args : List Opd)
 | callv (f : Opd) (args : List Opd)
 | mkfn (f : Nat) (caps : List Opd)
 | mkmap
 | mksl (z : List CV) (l c : Opd)
 | lookup (ok : Bool) (bk : BK) (z : CV) (m k : Opd)
 | mapup (bk : BK) (m k v : Opd)
 | mapent (bk : BK) (z : CV) (m k : Opd)
 | entst (m s v : Opd)
 | del (bk : BK) (m k : Opd)
 | ext (i : Nat) (x : Opd)
 | mkifc (t : Nat) (x : Opd)
 | tas (t : Nat) (x : Opd)
 | slTail (esz : Nat) (x lo : Opd)
 | allocB (T : Nat)
 | capn (x : Opd)
 | appZ (z : List CV) (x n : Opd)
 | mkch (x : Opd)
 | capc (x : Opd)
 | clr (z : List CV) (x : Opd)
 | cpy (esz : Nat) (x y : Opd)
 | slMax (esz : Nat) (x : Opd) (lo : Option Opd) (hi mx : Opd)
 | stuck
 deriving Inhabited
structure SOper where
 dst : Option Nat
 op : SOp
 guard : Option (Nat × Bool) := none
 re : List Nat := []
 deriving Inhabited
inductive SCode where
 | skip
 | ops (l : List SOper) (draw : Option (List (Nat × List Nat))) (keep : List Nat)
 | seq (a b : SCode)
 | cond (c : Opd) (x y : SCode)
 | block (id : Nat) (b : SCode)
 | loop (live : List Nat) (b : SCode)
 | exit (id : Nat)
 | ret
 deriving Inhabited
inductive RV where
 | t (n : Nat)
 | cell (n : Option Nat) (t : Nat)
 deriving Inhabited
structure SFunc where
 body : SCode
 results : List RV
 deriving Inhabited
inductive Ex where
 | normal
 | exit (id : Nat)
 | ret
 deriving DecidableEq, Inhabited
abbrev CallF := Nat → List CV → Heap → Option (CV × Heap)
def big : Nat := 4294967296
def i64 (n : Int) : CV := .int .i64 n
def bytesLess : List UInt8 → List UInt8 → Bool
 | _, [] => false
 | [], _ :: _ => true
 | a :: x, b :: y => a < b || (a == b && bytesLess x y)
def bitsV (k : IntKind) (r : BitVec k.bits) : CV := .int k (k.wrap r.toNat)
def shV (op : BinOp) (k : IntKind) (a b : Int) : Option CV :=
 match op with
 | .shl => if b < 0 then none else some (.int k (k.wrap (a * 2 ^ (min b.toNat k.bits))))
 | .shr => if b < 0 then none else some (.int k (a.fdiv (2 ^ (min b.toNat k.bits))))
 | _ => none
def binInt (op : BinOp) (k : IntKind) (a b : Int) : Option CV :=
 match op with
 | .add => some (.int k (k.wrap (a + b)))
 | .sub => some (.int k (k.wrap (a - b)))
 | .mul => some (.int k (k.wrap (a * b)))
 | .quo => if b = 0 then none else some (.int k (k.wrap (a.tdiv b)))
 | .rem => if b = 0 then none else some (.int k (a.tmod b))
 | .eql => some (.bool (a == b))
 | .neq => some (.bool (a != b))
 | .lss => some (.bool (a < b))
 | .leq => some (.bool (a ≤ b))
 | .gtr => some (.bool (a > b))
 | .geq => some (.bool (a ≥ b))
 | .and => some (bitsV k (BitVec.ofInt k.bits a &&& BitVec.ofInt k.bits b))
 | .or => some (bitsV k (BitVec.ofInt k.bits a ||| BitVec.ofInt k.bits b))
 | .xor => some (bitsV k (BitVec.ofInt k.bits a ^^^ BitVec.ofInt k.bits b))
 | .andNot => some (bitsV k (BitVec.ofInt k.bits a &&& ~~~BitVec.ofInt k.bits b))
 | .shl => shV .shl k a b
 | .shr => shV .shr k a b
def binStr (op : BinOp) (a b : List UInt8) : Option CV :=
 match op with
 | .add => if a.length + b.length ≤ 9223372036854775807 then some (.str (a ++ b)) else none
 | .eql => some (.bool (a == b))
 | .neq => some (.bool (!(a == b)))
 | .lss => some (.bool (bytesLess a b))
 | .leq => some (.bool (bytesLess a b || a == b))
 | .gtr => some (.bool (!(bytesLess a b || a == b)))
 | .geq => some (.bool (!bytesLess a b))
 | _ => none
def bin (op : BinOp) : CV → CV → Option CV
 | .int k a, .int k' b => if k = k' then binInt op k a b else shV op k a b
 | .str a, .str b => binStr op a b
 | _, _ => none
def eqKind : BK → CV → CV → Option Bool
 | .i, .int k a, .int k' b => if k = k' then some (a == b) else none
 | .b, .bool a, .bool b => some (a == b)
 | .s, .str a, .str b => some (a == b)
 | _, _, _ => none
def eqCells : List BK → List CV → List CV → Option Bool
 | [], [], [] => some true
 | k :: ks, x :: xs, y :: ys => match eqKind k x y with
   | some true => eqCells ks xs ys
   | some false => some false
   | none => none
 | _, _, _ => none
def eqv (t : EqT) (x y : CV) : Option Bool :=
 match t, x, y with
 | .b, .bool a, .bool b => some (a == b)
 | .p, .nilp, .nilp => some true
 | .p, .nilp, .ptr _ _ => some false
 | .p, .ptr _ _, .nilp => some false
 | .s, .nils, .nils => some true
 | .s, .nils, .sl _ _ _ _ => some false
 | .s, .sl _ _ _ _, .nils => some false
 | .m, .nilm, .nilm => some true
 | .m, .nilm, .mp _ => some false
 | .m, .mp _, .nilm => some false
 | .f, .nilf, .nilf => some true
 | .f, .nilf, .fn _ _ => some false
 | .f, .fn _ _, .nilf => some false
 | .i, .nili, .nili => some true
 | .i, .nili, .ifc _ _ => some false
 | .i, .ifc _ _, .nili => some false
 | .st ks, .agg a, .agg b => if a.length = ks.length ∧ b.length = ks.length then eqCells ks a b else none
 | _, _, _ => none
def splice (cs : List CV) (o : Nat) (vs : List CV) : List CV := cs.take o ++ vs ++ cs.drop (o + vs.length)
def loadAt (h : Heap) (b o : Nat) : Option Nat → Option CV
 | none => match h[b]? with
   | some (.arr cs _) => cs[o]?
   | _ => none
 | some n => match h[b]? with
   | some (.arr cs _) => if o + n ≤ cs.length then some (.agg ((cs.drop o).take n)) else none
   | _ => none
def storeAt (h : Heap) (b o : Nat) (vs : List CV) : Option Heap :=
 match h[b]? with
 | some (.arr cs st) => if st ≠ .ro ∧ o + vs.length ≤ cs.length ∧ vs.all CV.scalar = true then some (h.set b (.arr (splice cs o vs) st)) else none
 | _ => none
def partOf (cs : List CV) (off : Nat) : Option Nat → Option CV
 | none => cs[off]?
 | some n => if off + n ≤ cs.length then some (.agg ((cs.drop off).take n)) else none
def fillC (cs : List CV) : List (Nat × Nat × CV) → Option (List CV)
 | [] => some cs
 | (off, size, v) :: r => if v.cells.length = size ∧ off + size ≤ cs.length then fillC (splice cs off v.cells) r else none
def evParts (e : Env) : List (Nat × Nat × Opd) → Option (List (Nat × Nat × CV))
 | [] => some []
 | (o, s, x) :: r => match x.ev e, evParts e r with
   | some v, some vs => some ((o, s, v) :: vs)
   | _, _ => none
def cellsAt (h : Heap) (b o n : Nat) : Option (List CV) :=
 match h[b]? with
 | some (.arr cs _) => if o + n ≤ cs.length then some ((cs.drop o).take n) else none
 | _ => none
def spread (h : Heap) (esz : Nat) : CV → Option (Nat × List CV)
 | .nils => some (0, [])
 | .sl b o n _ => match cellsAt h b o (n * esz) with
   | some cs => some (n, cs)
   | none => none
 | .str s => if esz = 1 then some (s.length, s.map fun x => .int .u8 x.toNat) else none
 | _ => none
def kill (h : Heap) (b : Nat) : Heap :=
 match h[b]? with
 | some (.arr _ (.loose _)) => h.set b .dead
 | _ => h
def appendTo (h : Heap) (esz : Nat) (x : CV) (k : Nat) (ys : List CV) : Option (CV × Heap) :=
 if k > big ∨ ys.all CV.scalar = false then none else
 match x with
 | .nils => if k = 0 then some (.nils, h) else some (.sl h.length 0 k k, h ++ [.arr ys (.loose esz)])
 | .sl b o n c =>
   if n > big then none else
   if k = 0 ∧ n ≤ c then some (.sl b o n c, h) else
   if n + k ≤ c then
    match storeAt h b (o + n * esz) ys with
    | some h' => some (.sl b o (n + k) c, h')
    | none => none
   else
    match h[b]? with
    | some (.arr cs st) =>
      if st ≠ .ro ∧ (st = .tight ∨ st = .loose esz) ∧ o + n * esz ≤ cs.length ∧ o + c * esz ≤ cs.length then
       some (.sl h.length 0 (n + k) (n + k), kill h b ++ [.arr ((cs.drop o).take (n * esz) ++ ys) (.loose esz)])
      else none
    | _ => none
 | _ => none
def copyTo (h : Heap) (q : Nat) : CV → CV → Option (CV × Heap)
 | .nils, .nils => some (.int .i64 0, h)
 | .nils, .sl _ _ _ _ => some (.int .i64 0, h)
 | .sl _ _ _ _, .nils => some (.int .i64 0, h)
 | .sl b o n _, .sl b2 o2 n2 _ => if min n2 n = 0 then some (.int .i64 0, h) else
   match cellsAt h b2 o2 (min n2 n * q) with
   | some cs => match storeAt h b o cs with
     | some h' => some (.int .i64 (min n2 n : Nat), h')
     | none => none
   | none => none
 | _, _ => none
def bound (x : Option CV) (dflt top : Nat) : Option Nat :=
 match x with
 | none => some dflt
 | some (.int _ i) => if 0 ≤ i ∧ i ≤ top then some i.toNat else none
 | _ => none
def optEv (e : Env) : Option Opd → Option (Option CV)
 | none => some none
 | some x => match x.ev e with
   | some v => some (some v)
   | none => none
def slStr (s : List UInt8) (lo hi : Option CV) : Option CV :=
 match bound hi s.length s.length with
 | some h => match bound lo 0 h with
   | some l => some (.str ((s.take h).drop l))
   | none => none
 | none => none
def slSl (hp : Heap) (esz : Nat) (x : CV) (lo hi : Option CV) : Option (CV × Heap) :=
 match x with
 | .nils => match bound hi 0 0 with
   | some h => match bound lo 0 h with
     | some _ => some (.nils, hp)
     | none => none
   | none => none
 | .sl b o n c => if c < n then none else match bound hi n c with
   | some h => match bound lo 0 h with
     | some l => if l = c ∧ l ≠ 0 then some (.sl hp.length 0 0 0, hp ++ [.arr [] .ro]) else some (.sl b (o + l * esz) (h - l) (c - l), hp)
     | none => none
   | none => none
 | _ => none
def slMax (hp : Heap) (x : CV) (lo : Option CV) (hi mx : CV) : Option (CV × Heap) :=
 match x with
 | .sl _ _ _ c => match bound (some mx) 0 c with
   | some M => match bound (some hi) 0 M with
     | some H => match bound lo 0 H with
       | some l => some (.sl hp.length 0 (H - l) 0, hp ++ [.arr [] .ro])
       | none => none
     | none => none
   | none => none
 | _ => none
def slTail (h : Heap) (esz : Nat) (x lo : CV) : Option (CV × Heap) :=
 match x, lo with
 | .sl b o n c, .int _ l =>
   if 0 ≤ l ∧ l ≤ n ∧ n ≤ c then
    if l.toNat < c then some (.sl b (o + l.toNat * esz) (n - l.toNat) (c - l.toNat), h)
    else match h[b]? with
     | some (.arr cs st) => if st ≠ .ro ∧ (st = .tight ∨ st = .loose esz) ∧ o + c * esz = cs.length then some (.sl h.length 0 0 0, h.set b .dead ++ [.arr [] (.loose esz)]) else none
     | _ => none
   else none
 | _, _ => none
def findKey (bk : BK) (k : CV) : List (CV × CV × Nat) → Nat → Option (Option (Nat × CV × Nat))
 | [], _ => some none
 | (k', v, born) :: r, i => match eqKind bk k k' with
   | some true => some (some (i, v, born))
   | some false => findKey bk k r (i + 1)
   | none => none
def ofBytes : List CV → Option (List UInt8)
 | [] => some []
 | .int .u8 n :: r => match ofBytes r with
   | some s => some (UInt8.ofNat n.toNat :: s)
   | none => none
 | _ :: _ => none
def mxR (k : IntKind) : Int → List CV → Option CV
 | a, [] => some (.int k a)
 | a, .int k' b :: r => if k = k' then mxR k (if b > a then b else a) r else none
 | _, _ => none
def mxL : List CV → Option CV
 | .int k a :: r => mxR k a r
 | _ => none
def mnR (k : IntKind) : Int → List CV → Option CV
 | a, [] => some (.int k a)
 | a, .int k' b :: r => if k = k' then mnR k (if b < a then b else a) r else none
 | _, _ => none
def mnL : List CV → Option CV
 | .int k a :: r => mnR k a r
 | _ => none
def fits : Option Nat → CV → Bool
 | none, .agg _ => false
 | none, _ => true
 | some k, .agg l => l.length == k
 | some _, _ => false
def withH (h : Heap) : Option CV → Option (CV × Heap)
 | some v => some (v, h)
 | none => none
def evOp (call : CallF) (op : SOp) (e : Env) (h : Heap) : Option (CV × Heap) :=
 match op with
 | .move x => withH h (x.ev e)
 | .pick c a b => match c.ev e with
   | some (.bool t) => withH h (if t then a.ev e else b.ev e)
   | _ => none
 | .bin op x y => match x.ev e, y.ev e with
   | some a, some b => withH h (bin op a b)
   | _, _ => none
 | .eq neg t x y => match x.ev e, y.ev e with
   | some a, some b => match eqv t a b with
     | some r => some (.bool (if neg then !r else r), h)
     | none => none
   | _, _ => none
 | .neg x => match x.ev e with
   | some (.int k n) => some (.int k (k.wrap (0 - n)), h)
   | _ => none
 | .not x => match x.ev e with
   | some (.bool b) => some (.bool (!b), h)
   | _ => none
 | .conv k x => match x.ev e with
   | some (.int _ n) => some (.int k (k.wrap n), h)
   | _ => none
 | .same x => match x.ev e with
   | some (.str s) => some (.str s, h)
   | _ => none
 | .toBytes x => match x.ev e with
   | some (.str s) => if s.length ≤ big then some (.sl h.length 0 s.length s.length, h ++ [.arr (s.map fun x => .int .u8 x.toNat) (.loose 1)]) else none
   | _ => none
 | .toStr x => match x.ev e with
   | some .nils => some (.str [], h)
   | some (.sl b o n _) => match cellsAt h b o n with
     | some cs => match ofBytes cs with
       | some s => some (.str s, h)
       | none => none
     | none => none
   | _ => none
 | .alloc z => some (.ptr h.length 0, h ++ [.arr z.cells .tight])
 | .box x => match x.ev e with
   | some v => some (.ptr h.length 0, h ++ [.arr v.cells .tight])
   | none => none
 | .load n a => match a.ev e with
   | some (.ptr b o) => withH h (loadAt h b o n)
   | _ => none
 | .store n a v => match a.ev e, v.ev e with
   | some (.ptr b o), some v =>
     if fits n v = true then
      match storeAt h b o v.cells with
      | some h' => some (.undef, h')
      | none => none
     else none
   | _, _ => none
 | .nilck x => match x.ev e with
   | some (.ptr b o) => some (.ptr b o, h)
   | some (.fn f c) => some (.fn f c, h)
   | some (.ifc t v) => some (.ifc t v, h)
   | _ => none
 | .fld off n x => match x.ev e with
   | some (.agg cs) => withH h (partOf cs off n)
   | _ => none
 | .fldAddr off x => match x.ev e with
   | some (.ptr b o) => some (.ptr b (o + off), h)
   | _ => none
 | .idxAddr esz x i => match x.ev e, i.ev e with
   | some (.sl b o n _), some (.int _ i) => if 0 ≤ i ∧ i < n then some (.ptr b (o + i.toNat * esz), h) else none
   | _, _ => none
 | .idxArrAddr esz len x i => match x.ev e, i.ev e with
   | some (.ptr b o), some (.int _ i) => if 0 ≤ i ∧ i < len then some (.ptr b (o + i.toNat * esz), h) else none
   | _, _ => none
 | .idxStr x i => match x.ev e, i.ev e with
   | some (.str s), some (.int _ i) => if 0 ≤ i then (match s[i.toNat]? with | some b => some (.int .u8 b.toNat, h) | none => none) else none
   | _, _ => none
 | .idxArr esz len n x i => match x.ev e, i.ev e with
   | some (.agg cs), some (.int _ i) => if 0 ≤ i ∧ i < len then withH h (partOf cs (i.toNat * esz) n) else none
   | _, _ => none
 | .build z parts => match evParts e parts with
   | some ps => match fillC z ps with
     | some cs => some (.agg cs, h)
     | none => none
   | none => none
 | .buildSl len z parts => match evParts e parts with
   | some ps => match fillC z ps with
     | some cs => some (.sl h.length 0 len len, h ++ [.arr cs .tight])
     | none => none
   | none => none
 | .slStr x lo hi => match x.ev e, optEv e lo, optEv e hi with
   | some (.str s), some l, some r => withH h (slStr s l r)
   | _, _, _ => none
 | .slSl esz x lo hi => match x.ev e, optEv e lo, optEv e hi with
   | some v, some l, some r => slSl h esz v l r
   | _, _, _ => none
 | .len k x => match k, x.ev e with
   | .str, some (.str s) => some (i64 s.length, h)
   | .sl, some .nils => some (i64 0, h)
   | .sl, some (.sl _ _ n _) => some (i64 n, h)
   | .map, some .nilm => some (i64 0, h)
   | .map, some (.mp b) => match h[b]? with
     | some (.map es _) => some (i64 es.length, h)
     | _ => none
   | .ch, some (.ch b) => match h[b]? with
     | some (.chan _ buf) => some (i64 buf.length, h)
     | _ => none
   | _, _ => none
 | .mx xs => match evs e xs with
   | some vs => withH h (mxL vs)
   | none => none
 | .mn xs => match evs e xs with
   | some vs => withH h (mnL vs)
   | none => none
 | .append esz x y => match x.ev e, y.ev e with
   | some a, some b => match spread h esz b with
     | some (k, ys) => appendTo h esz a k ys
     | none => none
   | _, _ => none
 | .call f args => match evs e args with
   | some vs => call f vs h
   | none => none
 | .callv f args => match f.ev e, evs e args with
   | some (.fn f caps), some vs => call f (vs ++ caps) h
   | _, _ => none
 | .mkfn f caps => match evs e caps with
   | some vs => some (.fn f vs, h)
   | none => none
 | .mkmap => some (.mp h.length, h ++ [.map [] 0])
 | .mksl z l c => match l.ev e, c.ev e with
   | some (.int .i64 l), some (.int .i64 c) =>
     if 0 ≤ l ∧ l ≤ c ∧ c ≤ big then
      some (.sl h.length 0 l.toNat c.toNat, h ++ [.arr (List.replicate c.toNat z).flatten .tight])
     else none
   | _, _ => none
 | .lookup ok bk z m k => match m.ev e, k.ev e with
   | some .nilm, some _ => some (if ok then .tup [z, .bool false] else z, h)
   | some (.mp b), some k => match h[b]? with
     | some (.map es _) => match findKey bk k es 0 with
       | some (some (_, v, _)) => some (if ok then .tup [v, .bool true] else v, h)
       | some none => some (if ok then .tup [z, .bool false] else z, h)
       | none => none
     | _ => none
   | _, _ => none
 | .mapup bk m k v => match m.ev e, k.ev e, v.ev e with
   | some (.mp b), some k, some v => match h[b]? with
     | some (.map es clock) => match findKey bk k es 0 with
       | some (some (i, _, born)) => some (.undef, h.set b (.map (es.set i (k, v, born)) clock))
       | some none => some (.undef, h.set b (.map (es ++ [(k, v, clock)]) (clock + 1)))
       | none => none
     | _ => none
   | _, _, _ => none
 | .mapent bk z m k => match m.ev e, k.ev e with
   | some (.mp b), some k => match h[b]? with
     | some (.map es clock) => match findKey bk k es 0 with
       | some (some (i, v, born)) => some (.tup [v, i64 born], h.set b (.map (es.set i (k, v, born)) clock))
       | some none => some (.tup [z, i64 clock], h.set b (.map (es ++ [(k, z, clock)]) (clock + 1)))
       | none => none
     | _ => none
   | _, _ => none
 | .entst m s v => match m.ev e, s.ev e, v.ev e with
   | some (.mp b), some (.int _ s), some v => match h[b]? with
     | some (.map es clock) => match es.findIdx? (fun x => (x.2.2 : Int) == s) with
       | some i => some (.undef, h.set b (.map (es.modify i fun x => (x.1, v, x.2.2)) clock))
       | none => none
     | _ => none
   | _, _, _ => none
 | .del bk m k => match m.ev e, k.ev e with
   | some .nilm, some _ => some (.undef, h)
   | some (.mp b), some k => match h[b]? with
     | some (.map es clock) => match findKey bk k es 0 with
       | some (some (i, _, _)) => some (.undef, h.set b (.map (es.eraseIdx i) clock))
       | some none => some (.undef, h)
       | none => none
     | _ => none
   | _, _ => none
 | .ext i x => match x.ev e with
   | some (.tup vs) => withH h vs[i]?
   | _ => none
 | .mkifc t x => match x.ev e with
   | some v => some (.ifc t v, h)
   | none => none
 | .tas t x => match x.ev e with
   | some (.ifc t' v) => if t' = t then some (v, h) else none
   | _ => none
 | .slTail esz x lo => match x.ev e, lo.ev e with
   | some v, some l => slTail h esz v l
   | _, _ => none
 | .allocB T => some (.ptr h.length 0, h ++ [.bld T none])
 | .capn x => match x.ev e with
   | some .nils => some (.int .i64 0, h)
   | _ => none
 | .appZ z x n => match x.ev e, n.ev e with
   | some .nils, some (.int .i64 k) => if 0 ≤ k ∧ k ≤ big then (if k = 0 then some (.nils, h) else some (.sl h.length 0 k.toNat k.toNat, h ++ [.arr (List.replicate k.toNat z).flatten (.loose z.length)])) else none
   | _, _ => none
 | .mkch x => match x.ev e with
   | some (.int _ n) => if 0 ≤ n ∧ n ≤ big then some (.ch h.length, h ++ [.chan n.toNat []]) else none
   | _ => none
 | .capc x => match x.ev e with
   | some (.ch b) => match h[b]? with
     | some (.chan c _) => some (i64 c, h)
     | _ => none
   | _ => none
 | .clr z x => match x.ev e with
   | some .nils => some (.undef, h)
   | some (.sl b o n _) => if n = 0 then some (.undef, h) else
     match storeAt h b o (List.replicate n z).flatten with
     | some h' => some (.undef, h')
     | none => none
   | _ => none
 | .cpy q x y => match x.ev e, y.ev e with
   | some a, some b => copyTo h q a b
   | _, _ => none
 | .slMax _ x lo hi mx => match x.ev e, optEv e lo, hi.ev e, mx.ev e with
   | some v, some l, some r, some q => slMax h v l r q
   | _, _, _, _ => none
 | .stuck => none
def wanted (e : Env) : Option (Nat × Bool) → Option Bool
 | none => some true
 | some (t, want) => match e.get t with
   | some (.bool b) => some (b == want)
   | some (.tup []) => some false
   | _ => none
def Recheck (call : CallF) (all : List SOper) (e : Env) (h : Heap) : List Nat → Prop
 | [] => True
 | p :: r => (match all[p]? with
   | some s => match s.dst with
     | some d => wanted e s.guard = some false ∨ (wanted e s.guard = some true ∧ ∃ v, e.get d = some v ∧ evOp call s.op e h = some (v, h))
     | none => False
   | none => False) ∧ Recheck call all e h r
def cls : SOp → Nat
 | .move _ | .pick .. | .bin .. | .eq .. | .neg _ | .not _ | .conv .. | .same _ | .nilck _ | .fld .. | .fldAddr .. | .idxAddr .. | .idxArrAddr .. | .idxStr .. | .idxArr .. | .build .. | .slStr .. | .mx _ | .mn _ | .mkfn .. | .ext .. | .mkifc .. | .tas .. | .capn _ | .stuck => 0
 | .load .. | .lookup .. | .len .. | .toStr _ | .capc _ => 1
 | .alloc _ | .box _ | .buildSl .. | .mkmap | .mksl .. | .slSl .. | .toBytes _ | .allocB _ | .mkch _ | .slMax .. => 2
 | _ => 3
mutual
def CV.eqb : CV → CV → Bool
 | .int k n, .int k' n' => k == k' && n == n'
 | .bool a, .bool b => a == b
 | .str a, .str b => a == b
 | .ptr b o, .ptr b' o' => b == b' && o == o'
 | .nilp, .nilp => true
 | .sl b o n c, .sl b' o' n' c' => b == b' && o == o' && n == n' && c == c'
 | .nils, .nils => true
 | .mp b, .mp b' => b == b'
 | .nilm, .nilm => true
 | .ch b, .ch b' => b == b'
 | .nilc, .nilc => true
 | .fn f l, .fn f' l' => f == f' && CV.eqbL l l'
 | .nilf, .nilf => true
 | .ifc t v, .ifc t' v' => t == t' && CV.eqb v v'
 | .nili, .nili => true
 | .agg l, .agg l' => CV.eqbL l l'
 | .tup l, .tup l' => CV.eqbL l l'
 | _, _ => false
def CV.eqbL : List CV → List CV → Bool
 | [], [] => true
 | a :: x, b :: y => CV.eqb a b && CV.eqbL x y
 | _, _ => false
end
mutual
theorem CV.eqb_eq : ∀ (a b : CV), CV.eqb a b = true → a = b
 | .int k n, b, h => by cases b <;> simp [CV.eqb] at h; obtain ⟨rfl, rfl⟩ := h; rfl
 | .bool a, b, h => by cases b <;> simp [CV.eqb] at h; subst h; rfl
 | .str a, b, h => by cases b <;> simp [CV.eqb] at h; subst h; rfl
 | .ptr a o, b, h => by cases b <;> simp [CV.eqb] at h; obtain ⟨rfl, rfl⟩ := h; rfl
 | .nilp, b, h => by cases b <;> simp [CV.eqb] at h; rfl
 | .sl a o n c, b, h => by cases b <;> simp [CV.eqb] at h; obtain ⟨⟨⟨rfl, rfl⟩, rfl⟩, rfl⟩ := h; rfl
 | .nils, b, h => by cases b <;> simp [CV.eqb] at h; rfl
 | .mp a, b, h => by cases b <;> simp [CV.eqb] at h; subst h; rfl
 | .nilm, b, h => by cases b <;> simp [CV.eqb] at h; rfl
 | .ch a, b, h => by cases b <;> simp [CV.eqb] at h; subst h; rfl
 | .nilc, b, h => by cases b <;> simp [CV.eqb] at h; rfl
 | .fn f l, b, h => by cases b <;> simp [CV.eqb] at h; obtain ⟨rfl, h2⟩ := h; rw [CV.eqbL_eq _ _ h2]
 | .nilf, b, h => by cases b <;> simp [CV.eqb] at h; rfl
 | .ifc t v, b, h => by cases b <;> simp [CV.eqb] at h; obtain ⟨rfl, h2⟩ := h; rw [CV.eqb_eq _ _ h2]
 | .nili, b, h => by cases b <;> simp [CV.eqb] at h; rfl
 | .agg l, b, h => by cases b <;> simp [CV.eqb] at h; rw [CV.eqbL_eq _ _ h]
 | .tup l, b, h => by cases b <;> simp [CV.eqb] at h; rw [CV.eqbL_eq _ _ h]
theorem CV.eqbL_eq : ∀ (a b : List CV), CV.eqbL a b = true → a = b
 | [], b, h => by cases b <;> simp [CV.eqbL] at h; rfl
 | x :: xs, b, h => by
   cases b with
   | nil => simp [CV.eqbL] at h
   | cons y ys => simp [CV.eqbL] at h; rw [CV.eqb_eq _ _ h.1, CV.eqbL_eq _ _ h.2]
end
mutual
theorem CV.eqb_refl : ∀ (a : CV), CV.eqb a a = true
 | .int k n | .bool _ | .str _ | .ptr _ _ | .nilp | .sl _ _ _ _ | .nils | .mp _ | .nilm | .ch _ | .nilc | .nilf | .nili => by simp [CV.eqb]
 | .fn f l => by simp [CV.eqb, CV.eqbL_refl l]
 | .ifc t v => by simp [CV.eqb, CV.eqb_refl v]
 | .agg l => by simp [CV.eqb, CV.eqbL_refl l]
 | .tup l => by simp [CV.eqb, CV.eqbL_refl l]
theorem CV.eqbL_refl : ∀ (a : List CV), CV.eqbL a a = true
 | [] => rfl
 | x :: xs => by simp [CV.eqbL, CV.eqb_refl x, CV.eqbL_refl xs]
end
instance : DecidableEq CV := fun a b => if h : CV.eqb a b = true then isTrue (CV.eqb_eq a b h) else isFalse fun e => h (e ▸ CV.eqb_refl a)
def recheckB (call : CallF) (all : List SOper) (e : Env) (h : Heap) : List Nat → Bool
 | [] => true
 | p :: r => (match all[p]? with
   | some s => match s.dst with
     | some d => match wanted e s.guard with
       | some false => true
       | some true => cls s.op == 1 && (match e.get d, evOp call s.op e h with | some v, some (v', _) => CV.eqb v v' | _, _ => false)
       | none => false
     | none => false
   | none => false) && recheckB call all e h r
theorem evOp_one {call : CallF} {op : SOp} {e : Env} {h h' : Heap} {v : CV} (hc : cls op = 1) (hev : evOp call op e h = some (v, h')) : h' = h := by
 have W : ∀ (x : Option CV), withH h x = some (v, h') → h' = h := fun x hx => by cases x <;> simp [withH] at hx; exact hx.2.symm
 cases op <;> simp only [cls] at hc <;> (try (exact absurd hc (by decide))) <;> simp only [evOp] at hev
 all_goals (repeat' (first | exact W _ hev | (simp at hev; done) | (simp at hev; exact hev.2.symm) | split at hev))
theorem recheckB_spec {call : CallF} {all : List SOper} {e : Env} {h : Heap} : ∀ {re : List Nat}, recheckB call all e h re = true → Recheck call all e h re
 | [], _ => trivial
 | p :: r, hR => by
   simp only [recheckB, Bool.and_eq_true] at hR
   refine ⟨?_, recheckB_spec hR.2⟩
   have := hR.1
   cases ha : all[p]? with
   | none => simp [ha] at this
   | some s =>
     simp only [ha] at this
     cases hd : s.dst with
     | none => simp [hd] at this
     | some d =>
       simp only [hd] at this ⊢
       cases hw : wanted e s.guard with
       | none => simp [hw] at this
       | some b =>
         cases b with
         | false => exact .inl rfl
         | true =>
           simp only [hw, Bool.and_eq_true, beq_iff_eq] at this
           obtain ⟨h1, h2⟩ := this
           right
           refine ⟨rfl, ?_⟩
           cases hg : e.get d with
           | none => simp [hg] at h2
           | some v =>
             cases ho : evOp call s.op e h with
             | none => simp [hg, ho] at h2
             | some q =>
               obtain ⟨v', h'⟩ := q
               simp only [hg, ho] at h2
               have := CV.eqb_eq _ _ h2
               subst this
               exact ⟨v, rfl, by rw [evOp_one h1 ho]⟩
def evOper (call : CallF) (all : List SOper) (o : SOper) (e : Env) (h : Heap) : Option (Env × Heap) :=
 match wanted e o.guard with
 | some true => match evOp call o.op e h with
   | some (v, h') => if recheckB call all (e.put o.dst v) h' o.re = true then some (e.put o.dst v, h') else none
   | none => none
 | some false => some (e.put o.dst .undef, h)
 | none => none
def evOps (call : CallF) (all : List SOper) : List SOper → Env → Heap → Option (Env × Heap)
 | [], e, h => some (e, h)
 | o :: r, e, h => match evOper call all o e h with
   | some (e', h') => evOps call all r e' h'
   | none => none
def evC (call : CallF) : Nat → SCode → Env → Heap → Option (Ex × Env × Heap)
 | 0, _, _, _ => none
 | n + 1, c, e, h => match c with
   | .skip => some (.normal, e, h)
   | .ops l _ keep => match evOps call l l e h with
     | some (e', h') => some (.normal, Env.only keep e', h')
     | none => none
   | .seq a b => match evC call n a e h with
     | some (.normal, e', h') => evC call n b e' h'
     | r => r
   | .cond x a b => match x.ev e with
     | some (.bool true) => evC call n a e h
     | some (.bool false) => evC call n b e h
     | _ => none
   | .block id b => match evC call n b e h with
     | some (.exit i, e', h') => if i = id then some (.normal, e', h') else some (.exit i, e', h')
     | r => r
   | .loop live b => match evC call n b (Env.only live e) h with
     | some (.normal, e', h') => evC call n (.loop live b) e' h'
     | r => r
   | .exit id => some (.exit id, e, h)
   | .ret => some (.ret, e, h)
def rvs (e : Env) (h : Heap) : List RV → Option (List CV)
 | [] => some []
 | .t n :: r => match e.get n, rvs e h r with
   | some v, some vs => some (v :: vs)
   | _, _ => none
 | .cell k t :: r => match e.get t with
   | some (.ptr b o) => match loadAt h b o k, rvs e h r with
     | some v, some vs => some (v :: vs)
     | _, _ => none
   | _ => none
def result : List CV → CV
 | [v] => v
 | vs => .tup vs
def args (i : Nat) : List CV → Env
 | [] => []
 | v :: r => (i, v) :: args (i + 1) r
def evBody (call : CallF) (n : Nat) (sf : SFunc) (vs : List CV) (h : Heap) : Option (CV × Heap) :=
 match evC call n sf.body (args 0 vs) h with
 | some (.exit _, _, _) => none
 | some (_, e, h') => match rvs e h' sf.results with
   | some rs => some (result rs, h')
   | none => none
 | none => none
abbrev Prog := Nat → Option SFunc
abbrev Prims := Nat → Option (List CV → Heap → Option (CV × Heap))
def evCall (Pg : Prog) (pr : Prims) : Nat → CallF
 | 0 => fun _ _ _ => none
 | n + 1 => fun f vs h => match pr f with
   | some g => g vs h
   | none => match Pg f with
     | some sf => evBody (evCall Pg pr n) n sf vs h
     | none => none
open Go
structure Loc where
 blk : Nat
 off : Nat
 slack : Nat
 spot : Option Nat
def Loc.ad (L : Loc) (o : Nat) : Addr := Addr.add ⟨L.blk, L.off, L.spot⟩ o
theorem Loc.ad_add (L : Loc) (o k : Nat) : (L.ad o).add k = L.ad (o + k) := by
 unfold Loc.ad Addr.add
 by_cases h : o = 0 <;> by_cases h2 : k = 0 <;> simp [h, h2]
 omega
theorem Loc.ad_none {L : Loc} (h : L.spot = none) (o : Nat) : L.ad o = ⟨L.blk, L.off + o, none⟩ := by
 unfold Loc.ad; rw [h, Addr.add_lit]
@[simp] theorem Loc.ad_new (b s : Nat) : Loc.ad ⟨b, 0, s, none⟩ 0 = ⟨b, 0, none⟩ := by simp [Loc.ad, Addr.add]
structure Gam where
 F : Nat → Option FuncId
 T : Nat → TypeId
 K : Heap := []
abbrev Mp := Nat → Option Loc
mutual
def tr (G : Gam) (m : Mp) : CV → Option Value
 | .int k n => some (.int k n)
 | .bool b => some (.bool b)
 | .str s => some (.string ⟨s.toArray⟩)
 | .ptr b o => (m b).map fun L => .pointer (some (L.ad o))
 | .nilp => some (.pointer none)
 | .sl b o n c => (m b).map fun L => .slice (some (L.ad o)) n (c + L.slack)
 | .nils => some (.slice none 0 0)
 | .mp b => (m b).map fun L => .map (some L.blk)
 | .nilm => some (.map none)
 | .ch b => (m b).map fun L => .chan (some L.blk)
 | .nilc => some (.chan none)
 | .fn f caps => match G.F f, trL G m caps with
   | some fid, some vs => some (.func (.func fid) #[] vs.toArray)
   | _, _ => none
 | .nilf => some .nilFunc
 | .ifc t v => match tr G m v with
   | some rv => some (.iface (G.T t) rv)
   | none => none
 | .nili => some .nilIface
 | .agg l => match trL G m l with
   | some vs => some (.agg vs.toArray)
   | none => none
 | .tup l => match trL G m l with
   | some vs => some (.tuple vs.toArray)
   | none => none
def trL (G : Gam) (m : Mp) : List CV → Option (List Value)
 | [] => some []
 | v :: r => match tr G m v, trL G m r with
   | some x, some xs => some (x :: xs)
   | _, _ => none
end
def Mp.le (m m' : Mp) : Prop := ∀ b L, m b = some L → m' b = some L
theorem Mp.le_refl (m : Mp) : m.le m := fun _ _ h => h
theorem Mp.le_trans {a b c : Mp} (h : a.le b) (k : b.le c) : a.le c := fun x L e => k x L (h x L e)
mutual
theorem tr_mono (G : Gam) {m m' : Mp} (hm : m.le m') : ∀ (v : CV) (rv : Value), tr G m v = some rv → tr G m' v = some rv
 | .int _ _, _, h | .bool _, _, h | .str _, _, h | .nilp, _, h | .nils, _, h | .nilm, _, h | .nilc, _, h | .nilf, _, h | .nili, _, h => by simpa [tr] using h
 | .ptr b o, rv, h => by
   cases hb : m b with
   | none => simp [tr, hb] at h
   | some L => simpa [tr, hb, hm b L hb] using h
 | .sl b o n c, rv, h => by
   cases hb : m b with
   | none => simp [tr, hb] at h
   | some L => simpa [tr, hb, hm b L hb] using h
 | .mp b, rv, h => by
   cases hb : m b with
   | none => simp [tr, hb] at h
   | some L => simpa [tr, hb, hm b L hb] using h
 | .ch b, rv, h => by
   cases hb : m b with
   | none => simp [tr, hb] at h
   | some L => simpa [tr, hb, hm b L hb] using h
 | .fn f caps, rv, h => by
   simp only [tr] at h ⊢
   cases hf : G.F f with
   | none => simp [hf] at h
   | some fid =>
     cases hl : trL G m caps with
     | none => simp [hf, hl] at h
     | some vs => rw [trL_mono G hm caps vs hl]; simpa [hf, hl] using h
 | .ifc t v, rv, h => by
   simp only [tr] at h ⊢
   cases hv : tr G m v with
   | none => simp [hv] at h
   | some x => rw [tr_mono G hm v x hv]; simpa [hv] using h
 | .agg l, rv, h => by
   simp only [tr] at h ⊢
   cases hl : trL G m l with
   | none => simp [hl] at h
   | some vs => rw [trL_mono G hm l vs hl]; simpa [hl] using h
 | .tup l, rv, h => by
   simp only [tr] at h ⊢
   cases hl : trL G m l with
   | none => simp [hl] at h
   | some vs => rw [trL_mono G hm l vs hl]; simpa [hl] using h
theorem trL_mono (G : Gam) {m m' : Mp} (hm : m.le m') : ∀ (l : List CV) (vs : List Value), trL G m l = some vs → trL G m' l = some vs
 | [], vs, h => by simpa [trL] using h
 | v :: r, vs, h => by
   simp only [trL] at h ⊢
   cases hv : tr G m v with
   | none => simp [hv] at h
   | some x =>
     cases hl : trL G m r with
     | none => simp [hv, hl] at h
     | some xs => rw [tr_mono G hm v x hv, trL_mono G hm r xs hl]; simpa [hv, hl] using h
end
section lists
variable {G : Gam} {m : Mp}
theorem trL_cons {v : CV} {r : List CV} {vs : List Value} (h : trL G m (v :: r) = some vs) : ∃ x xs, tr G m v = some x ∧ trL G m r = some xs ∧ vs = x :: xs := by
 simp only [trL] at h
 cases hv : tr G m v with
 | none => simp [hv] at h
 | some x =>
   cases hl : trL G m r with
   | none => simp [hv, hl] at h
   | some xs => simp [hv, hl] at h; exact ⟨x, xs, rfl, rfl, h.symm⟩
theorem trL_cons_mk {v : CV} {r : List CV} {x : Value} {xs : List Value} (h : tr G m v = some x) (k : trL G m r = some xs) : trL G m (v :: r) = some (x :: xs) := by
 simp [trL, h, k]
theorem trL_length {l : List CV} : ∀ {vs : List Value}, trL G m l = some vs → vs.length = l.length := by
 induction l with
 | nil => intro vs h; simp [trL] at h; subst h; rfl
 | cons v r ih => intro vs h; obtain ⟨x, xs, _, hl, rfl⟩ := trL_cons h; simp [ih hl]
theorem trL_get {l : List CV} : ∀ {vs : List Value}, trL G m l = some vs → ∀ (i : Nat) v, l[i]? = some v → ∃ rv, tr G m v = some rv ∧ vs[i]? = some rv := by
 induction l with
 | nil => intro vs h i v hv; simp at hv
 | cons u r ih =>
   intro vs h i v hv
   obtain ⟨x, xs, hx, hl, rfl⟩ := trL_cons h
   cases i with
   | zero => simp at hv; subst hv; exact ⟨x, hx, by simp⟩
   | succ i => simpa using ih hl i v (by simpa using hv)
theorem trL_mk {l : List CV} : ∀ {vs : List Value}, vs.length = l.length → (∀ (i : Nat) v, l[i]? = some v → ∃ rv, tr G m v = some rv ∧ vs[i]? = some rv) → trL G m l = some vs := by
 induction l with
 | nil => intro vs h _; cases vs with | nil => rfl | cons _ _ => simp at h
 | cons u r ih =>
   intro vs h k
   cases vs with
   | nil => simp at h
   | cons x xs =>
     obtain ⟨rv, h0, h1⟩ := k 0 u (by simp)
     simp at h1; subst h1
     exact trL_cons_mk h0 (ih (by simpa using h) fun i v hv => by simpa using k (i + 1) v (by simpa using hv))
theorem trL_append {a b : List CV} {x y : List Value} (h : trL G m a = some x) (k : trL G m b = some y) : trL G m (a ++ b) = some (x ++ y) := by
 induction a generalizing x with
 | nil => simp [trL] at h; subst h; simpa using k
 | cons v r ih => obtain ⟨u, us, hv, hl, rfl⟩ := trL_cons h; exact trL_cons_mk hv (ih hl)
end lists
theorem tr_scalar {G : Gam} {m : Mp} {v : CV} {rv : Value} (h : tr G m v = some rv) (hs : v.scalar = true) : rv.oneCell' = true := by
 cases v with
 | agg l => simp [CV.scalar] at hs
 | tup l => simp [CV.scalar] at hs
 | ptr b o | sl b o _ _ | mp b | ch b => cases hb : m b <;> simp [tr, hb] at h; subst h; rfl
 | fn f caps => cases hf : G.F f <;> cases hl : trL G m caps <;> simp [tr, hf, hl] at h; subst h; rfl
 | ifc t v => cases hv : tr G m v <;> simp [tr, hv] at h; subst h; rfl
 | _ => simp [tr] at h; subst h; rfl
theorem cells_one {G : Gam} {m : Mp} {v : CV} {rv : Value} (h : tr G m v = some rv) : ∃ vs, trL G m v.cells = some vs ∧ rv.cells = vs.toArray := by
 cases v with
 | agg l =>
   cases hl : trL G m l with
   | none => simp [tr, hl] at h
   | some vs => simp [tr, hl] at h; subst h; exact ⟨vs, hl, rfl⟩
 | tup l => cases hl : trL G m l <;> simp [tr, hl] at h; subst h; exact ⟨[.tuple _], by simp [CV.cells, trL, tr, hl], rfl⟩
 | ptr b o | sl b o _ _ | mp b | ch b => cases hb : m b <;> simp [tr, hb] at h; subst h; exact ⟨[_], by simp [CV.cells, trL, tr, hb], rfl⟩
 | fn f caps => cases hf : G.F f <;> cases hl : trL G m caps <;> simp [tr, hf, hl] at h; subst h; exact ⟨[_], by simp [CV.cells, trL, tr, hf, hl], rfl⟩
 | ifc t v => cases hv : tr G m v <;> simp [tr, hv] at h; subst h; exact ⟨[_], by simp [CV.cells, trL, tr, hv], rfl⟩
 | _ => simp [tr] at h; subst h; exact ⟨[_], by simp [CV.cells, trL, tr], rfl⟩
def slackCells (L : Loc) : St → Nat
 | .loose esz => L.slack * esz
 | _ => 0
def Entry.rel (G : Gam) (m : Mp) (x : CV × CV × Nat) (y : MapEntry) : Prop := tr G m x.1 = some y.key ∧ tr G m x.2.1 = some y.val ∧ x.2.2 = y.born
def Pin.is : Pin → Array Value → Prop
 | .ints k l, C => C = (l.map (Value.int k)).toArray
 | .anyInt k, C => ∃ n, C[0]? = some (.int k n)
 | .anyIfc, C => ∃ t v, C = #[.iface t v]
def ObjR (G : Gam) (m : Mp) (L : Loc) (w : World) : Obj → Prop
 | .arr cs st => (cs = [] ∧ st = .ro) ∨ ∃ C e fr, L.spot = none ∧ w.heap[L.blk]? = some (.cells C e fr) ∧ (∀ (i : Nat) v, cs[i]? = some v → ∃ rv, tr G m v = some rv ∧ C[L.off + i]? = some rv) ∧
   (st ≠ .ro → (st = .tight → L.slack = 0) ∧ L.off + cs.length + slackCells L st ≤ C.size ∧ ∀ j, j < cs.length + slackCells L st → ¬ (fr.1 ≤ L.off + j ∧ L.off + j < fr.2))
 | .map es clock => ∃ ES : Array MapEntry, w.heap[L.blk]? = some (.map ES clock) ∧ ES.size = es.length ∧ ∀ (i : Nat) x, es[i]? = some x → ∃ y, ES[i]? = some y ∧ Entry.rel G m x y
 | .chan cap buf => ∃ (BUF : Array Value) (s r : Nat), w.heap[L.blk]? = some (.chan cap BUF false s r false) ∧ trL G m buf = some BUF.toList
 | .dead => True
 | .pin g q => L.blk = g ∧ ∃ C e fr, w.heap[L.blk]? = some (.cells C e fr) ∧ q.is C
 | .bld T q => L.off = 0 ∧ L.spot = none ∧ ∃ p v, w.heap[L.blk]? = some (.cells #[p, v] (G.T T) (0, 0)) ∧ (p = .pointer none ∨ p = .pointer (some ⟨L.blk, 0, none⟩)) ∧
   (match q with | none => v = .slice none 0 0 | some (k, n) => ∃ L', m k = some L' ∧ v = .slice (some ⟨L'.blk, 0, none⟩) n L'.slack)
 | .buf U bs => L.off = 0 ∧ L.spot = none ∧ ∃ cur fz, w.heap[L.blk]? = some (.cells cur (G.T U) fz) ∧ fz.2 ≤ bs.length ∧ bs.length ≤ L.slack ∧ L.slack ≤ 9223372036854775807 ∧ cur.size = L.slack ∧ cur.toList.take bs.length = bs.map (fun b => Value.int .u8 b.toNat)
def ownedO : Obj → Bool
 | .arr _ st => st ≠ .ro
 | .map _ _ => true
 | .chan _ _ => true
 | .dead => false
 | .pin _ _ => false
 | .bld _ _ => true
 | .buf _ _ => true
def liveO : Obj → Bool
 | .arr cs st => st ≠ .ro || !cs.isEmpty
 | .map _ _ => true
 | .chan _ _ => true
 | .dead => false
 | .pin _ _ => true
 | .bld _ _ => true
 | .buf _ _ => true
def owned (h : Heap) (b : Nat) : Prop := ∃ o, h[b]? = some o ∧ ownedO o = true
def live (h : Heap) (b : Nat) : Prop := ∃ o, h[b]? = some o ∧ liveO o = true
theorem live_of_ownedO {o : Obj} (h : ownedO o = true) : liveO o = true := by cases o <;> simp_all [ownedO, liveO]
theorem owned.live {h : Heap} {b : Nat} (k : owned h b) : live h b := let ⟨o, a, c⟩ := k; ⟨o, a, live_of_ownedO c⟩
structure Sim (G : Gam) (m : Mp) (h : Heap) (w : World) : Prop where
 dom : ∀ b L, m b = some L → b < h.length
 obj : ∀ b L o, m b = some L → h[b]? = some o → ObjR G m L w o
 apart : ∀ b b' L L', b ≠ b' → m b = some L → m b' = some L' → owned h b → live h b' → L.blk ≠ L'.blk
 base : ∀ k o, G.K[k]? = some o → h[k]? = some o ∧ (∃ g q, o = .pin g q) ∧ ∃ L, m k = some L
structure Evo (m : Mp) (h : Heap) (w : World) (m' : Mp) (h' : Heap) (w' : World) : Prop where
 mono : m.le m'
 len : h.length ≤ h'.length
 un : ∀ b, b < h.length → m b = none → m' b = none ∧ h'[b]? = h[b]?
 os : w'.os = w.os
 out : w'.output = w.output
 size : w.heap.size ≤ w'.heap.size
 frame : ∀ r, r < w.heap.size → (∀ b L, m b = some L → owned h b → L.blk ≠ r) → w'.heap[r]? = w.heap[r]?
 own : ∀ b L, m' b = some L → owned h' b → w.heap.size ≤ L.blk ∨ ∃ b0 L0, m b0 = some L0 ∧ owned h b0 ∧ L0.blk = L.blk
theorem Evo.refl (m : Mp) (h : Heap) (w : World) : Evo m h w m h w :=
 ⟨Mp.le_refl m, Nat.le_refl _, fun _ _ e => ⟨e, rfl⟩, rfl, rfl, Nat.le_refl _, fun _ _ _ => rfl, fun b L e o => .inr ⟨b, L, e, o, rfl⟩⟩
theorem Evo.trans {m m1 m2 : Mp} {h h1 h2 : Heap} {w w1 w2 : World} (a : Evo m h w m1 h1 w1) (c : Evo m1 h1 w1 m2 h2 w2) : Evo m h w m2 h2 w2 where
 mono := Mp.le_trans a.mono c.mono
 len := Nat.le_trans a.len c.len
 un b hb e := by
  obtain ⟨e1, g1⟩ := a.un b hb e
  obtain ⟨e2, g2⟩ := c.un b (Nat.lt_of_lt_of_le hb a.len) e1
  exact ⟨e2, g2.trans g1⟩
 os := c.os.trans a.os
 out := c.out.trans a.out
 size := Nat.le_trans a.size c.size
 frame r hr hn := by
  rw [c.frame r (Nat.lt_of_lt_of_le hr a.size) ?_, a.frame r hr hn]
  intro b L e o he
  rcases a.own b L e o with g | ⟨b0, L0, e0, o0, he0⟩
  ·omega
  ·exact hn b0 L0 e0 o0 (he0.trans he)
 own b L e o := by
  rcases c.own b L e o with g | ⟨b0, L0, e0, o0, he0⟩
  ·exact .inl (Nat.le_trans a.size g)
  ·rcases a.own b0 L0 e0 o0 with g | ⟨b1, L1, e1, o1, he1⟩
   ·exact .inl (he0 ▸ g)
   ·exact .inr ⟨b1, L1, e1, o1, he1.trans he0⟩
theorem ObjR.mono {G : Gam} {m m' : Mp} {L : Loc} {w w' : World} {o : Obj} (hm : m.le m') (hw : liveO o = true → w'.heap[L.blk]? = w.heap[L.blk]?) (h : ObjR G m L w o) : ObjR G m' L w' o := by
 cases o with
 | arr cs st =>
   rcases h with h | ⟨C, e, fr, hsp, h1, h2, h3⟩
   ·exact .inl h
   ·by_cases hl : liveO (.arr cs st) = true
    ·exact .inr ⟨C, e, fr, hsp, (hw hl).trans h1, fun i v hv => let ⟨rv, a, b⟩ := h2 i v hv; ⟨rv, tr_mono G hm v rv a, b⟩, h3⟩
    ·simp [liveO] at hl; exact .inl ⟨hl.2, hl.1⟩
 | map es clock =>
   obtain ⟨ES, h1, h2, h3⟩ := h
   exact ⟨ES, (hw rfl).trans h1, h2, fun i x hx => let ⟨y, a, b⟩ := h3 i x hx; ⟨y, a, tr_mono G hm _ _ b.1, tr_mono G hm _ _ b.2.1, b.2.2⟩⟩
 | chan cap buf =>
   obtain ⟨B, s, r, h1, h2⟩ := h
   exact ⟨B, s, r, (hw rfl).trans h1, trL_mono G hm _ _ h2⟩
 | dead => exact trivial
 | pin g q =>
   obtain ⟨hg, C, e, fr, h1, h2⟩ := h
   exact ⟨hg, C, e, fr, (hw rfl).trans h1, h2⟩
 | bld T q =>
   obtain ⟨h0, h1, p, v, h2, h3, h4⟩ := h
   refine ⟨h0, h1, p, v, (hw rfl).trans h2, h3, ?_⟩
   cases q with
   | none => exact h4
   | some x => exact let ⟨L', a, b⟩ := h4; ⟨L', hm _ _ a, b⟩
 | buf U bs =>
   obtain ⟨h0, h1, cur, fz, h2, h3⟩ := h
   exact ⟨h0, h1, cur, fz, (hw rfl).trans h2, h3⟩
theorem ObjR.blk_lt {G : Gam} {m : Mp} {L : Loc} {w : World} {o : Obj} (h : ObjR G m L w o) (hl : liveO o = true) : L.blk < w.heap.size := by
 have key : ∀ x, w.heap[L.blk]? = some x → L.blk < w.heap.size := fun x hx => by
  rcases Nat.lt_or_ge L.blk w.heap.size with h | h
  ·exact h
  ·simp [Array.getElem?_eq_none h] at hx
 cases o with
 | arr cs st =>
   rcases h with ⟨rfl, rfl⟩ | ⟨C, e, fr, _, h1, _⟩
   ·simp [liveO] at hl
   ·exact key _ h1
 | map es clock => obtain ⟨ES, h1, _⟩ := h; exact key _ h1
 | chan cap buf => obtain ⟨B, s, r, h1, _⟩ := h; exact key _ h1
 | dead => simp [liveO] at hl
 | pin g q => obtain ⟨_, C, e, fr, h1, _⟩ := h; exact key _ h1
 | bld T q => obtain ⟨_, _, p, v, h1, _⟩ := h; exact key _ h1
 | buf U bs => obtain ⟨_, _, cur, fz, h1, _⟩ := h; exact key _ h1
def Mp.upd (m : Mp) (k : Nat) (L : Loc) : Mp := fun b => if b = k then some L else m b
theorem Mp.upd_le {m : Mp} {k : Nat} {L : Loc} (h : m k = none) : m.le (m.upd k L) := by
 intro b L' hb
 by_cases e : b = k
 ·subst e; rw [h] at hb; cases hb
 ·simp [Mp.upd, e, hb]
theorem Mp.upd_same (m : Mp) (k : Nat) (L : Loc) : m.upd k L k = some L := by simp [Mp.upd]
theorem Sim.more {G : Gam} {m : Mp} {h : Heap} {w : World} (s : Sim G m h w) (g : Heap) : Sim G m (h ++ g) w := by
 have hget : ∀ b L, m b = some L → (h ++ g)[b]? = h[b]? := fun b L e => List.getElem?_append_left (s.dom b L e)
 refine ⟨fun b L e => by have := s.dom b L e; simp; omega, fun b L o e ho => s.obj b L o e ((hget b L e) ▸ ho), ?_, fun k o hk => let ⟨a1, a2, L, a3⟩ := s.base k o hk; ⟨(hget k L a3).trans a1, a2, L, a3⟩⟩
 rintro b b' L L' hne e e' ⟨o, ho, hO⟩ ⟨o', ho', hL⟩
 rw [hget b L e] at ho; rw [hget b' L' e'] at ho'
 exact s.apart b b' L L' hne e e' ⟨o, ho, hO⟩ ⟨o', ho', hL⟩
theorem Sim.world {G : Gam} {m : Mp} {h : Heap} {w w' : World} (s : Sim G m h w) (hw : ∀ b L, m b = some L → live h b → w'.heap[L.blk]? = w.heap[L.blk]?) : Sim G m h w' :=
 ⟨s.dom, fun b L o e ho => (s.obj b L o e ho).mono (Mp.le_refl m) fun hl => hw b L e ⟨o, ho, hl⟩, s.apart, s.base⟩
theorem Sim.blk_lt {G : Gam} {m : Mp} {h : Heap} {w : World} (s : Sim G m h w) {b : Nat} {L : Loc} (e : m b = some L) (l : live h b) : L.blk < w.heap.size :=
 let ⟨_, ho, hl⟩ := l; (s.obj b L _ e ho).blk_lt hl
theorem Sim.new {G : Gam} {m : Mp} {h : Heap} {w w' : World} (s : Sim G m h w) {k : Nat} {L : Loc} {o : Obj} (hk : m k = none) (ho : h[k]? = some o)
  (hw : ∀ b L, m b = some L → live h b → w'.heap[L.blk]? = w.heap[L.blk]?)
  (hl : liveO o = true → ∀ b L', m b = some L' → live h b → L'.blk ≠ L.blk)
  (hr : ObjR G (m.upd k L) L w' o) : Sim G (m.upd k L) h w' := by
 have hkl : k < h.length := by
  rcases Nat.lt_or_ge k h.length with g | g
  ·exact g
  ·simp [List.getElem?_eq_none g] at ho
 refine ⟨?_, ?_, ?_, fun j x hj => let ⟨a1, a2, L', a3⟩ := s.base j x hj; ⟨a1, a2, L', Mp.upd_le hk _ _ a3⟩⟩
 ·intro b L' e
  by_cases hb : b = k
  ·omega
  ·simp [Mp.upd, hb] at e; exact s.dom b L' e
 ·intro b L' o' e ho'
  by_cases hb : b = k
  ·subst hb
   simp [Mp.upd] at e; subst e
   rw [ho] at ho'; cases ho'
   exact hr
  ·simp [Mp.upd, hb] at e
   exact (s.obj b L' o' e ho').mono (Mp.upd_le hk) fun hl => hw b L' e ⟨o', ho', hl⟩
 ·intro b b' L1 L2 hne e e' hO hL
  by_cases hb : b = k
  ·subst hb
   simp [Mp.upd] at e; subst e
   have hb' : b' ≠ b := fun x => hne x.symm
   simp [Mp.upd, hb'] at e'
   obtain ⟨o1, g1, g2⟩ := hO
   rw [ho] at g1; cases g1
   exact fun x => hl (live_of_ownedO g2) b' L2 e' hL x.symm
  ·simp [Mp.upd, hb] at e
   by_cases hb' : b' = k
   ·subst hb'
    simp [Mp.upd] at e'; subst e'
    obtain ⟨o1, g1, g2⟩ := hL
    rw [ho] at g1; cases g1
    exact hl g2 b L1 e hO.live
   ·simp [Mp.upd, hb'] at e'
    exact s.apart b b' L1 L2 hne e e' hO hL
theorem Sim.turn {G : Gam} {m : Mp} {h : Heap} {w w' : World} (s : Sim G m h w) {b : Nat} {L : Loc} {o o' : Obj} (e : m b = some L) (ho : h[b]? = some o)
  (hO : ownedO o = true) (hw : ∀ b' L', b' ≠ b → m b' = some L' → live h b' → w'.heap[L'.blk]? = w.heap[L'.blk]?)
  (hr : ObjR G m L w' o') : Sim G m (h.set b o') w' := by
 have hbl : b < h.length := s.dom b L e
 have hget : ∀ x, x ≠ b → (h.set b o')[x]? = h[x]? := fun x hx => by rw [List.getElem?_set_ne (Ne.symm hx)]
 have hgb : (h.set b o')[b]? = some o' := by rw [List.getElem?_set_self hbl]
 refine ⟨fun x L' ex => by simpa using s.dom x L' ex, ?_, ?_, ?_⟩
 rotate_left 2
 ·intro k x hk
  obtain ⟨a1, a2, a3⟩ := s.base k x hk
  have hkb : k ≠ b := fun hx => by subst hx; rw [ho] at a1; cases a1; obtain ⟨g, q, rfl⟩ := a2; cases hO
  exact ⟨(hget k hkb).trans a1, a2, a3⟩
 ·intro x L' ox ex hx
  by_cases hxb : x = b
  ·subst hxb; rw [e] at ex; cases ex; rw [hgb] at hx; cases hx; exact hr
  ·rw [hget x hxb] at hx
   exact (s.obj x L' ox ex hx).mono (Mp.le_refl m) fun hl => hw x L' hxb ex ⟨ox, hx, hl⟩
 ·have back : ∀ x, owned (h.set b o') x → owned h x := by
   rintro x ⟨ox, hx, hxo⟩
   by_cases hxb : x = b
   ·subst hxb; exact ⟨o, ho, hO⟩
   ·rw [hget x hxb] at hx; exact ⟨ox, hx, hxo⟩
  have backl : ∀ x, live (h.set b o') x → live h x := by
   rintro x ⟨ox, hx, hxo⟩
   by_cases hxb : x = b
   ·subst hxb; exact ⟨o, ho, live_of_ownedO hO⟩
   ·rw [hget x hxb] at hx; exact ⟨ox, hx, hxo⟩
  intro x x' L1 L2 hne e1 e2 h1 h2
  exact s.apart x x' L1 L2 hne e1 e2 (back x h1) (backl x' h2)
structure ER (G : Gam) (m : Mp) (N : Nat) (e : Env) (a : Act) : Prop where
 size : N ≤ a.tmps.size
 get : ∀ i v, Env.get e i = some v → ∃ rv, tr G m v = some rv ∧ a.tmps[i]? = some rv
theorem ER.mono {G : Gam} {m m' : Mp} {N : Nat} {e : Env} {a : Act} (h : ER G m N e a) (hm : m.le m') : ER G m' N e a :=
 ⟨h.size, fun i v hv => let ⟨rv, x, y⟩ := h.get i v hv; ⟨rv, tr_mono G hm v rv x, y⟩⟩
theorem ER.put {G : Gam} {m : Mp} {N : Nat} {e : Env} {a : Act} (h : ER G m N e a) {d : Option Nat} {v : CV} {rv : Value} (hv : tr G m v = some rv) (hd : ∀ k, d = some k → k < N) :
  ER G m N (Env.put e d v) (a.put d rv) := by
 cases d with
 | none => exact h
 | some d =>
   have hdN := hd d rfl
   have hs := h.size
   refine ⟨by simpa [Act.put] using h.size, fun i u hu => ?_⟩
   by_cases hi : i = d
   ·subst hi
    simp [Env.put, Env.get] at hu; subst hu
    exact ⟨rv, hv, by show (a.tmps.setIfInBounds i rv)[i]? = _; exact Array.getElem?_setIfInBounds_self_of_lt (Nat.lt_of_lt_of_le hdN hs)⟩
   ·simp [Env.put, Env.get, hi] at hu
    obtain ⟨ru, x, y⟩ := h.get i u hu
    exact ⟨ru, x, by simp [Act.put, Array.getElem?_setIfInBounds_ne (Ne.symm hi), y]⟩
theorem Env.get_only (ks : List Nat) (e : Env) (i : Nat) (v : CV) (h : Env.get (Env.only ks e) i = some v) : Env.get e i = some v := by
 induction ks with
 | nil => simp [Env.only, Env.get] at h
 | cons k ks ih =>
   simp only [Env.only] at h
   cases hk : Env.get e k with
   | none => rw [hk] at h; exact ih h
   | some u =>
     rw [hk] at h
     simp only [Env.get] at h
     by_cases hi : i = k
     ·subst hi; rw [if_pos rfl] at h; exact hk.trans h
     ·rw [if_neg hi] at h; exact ih h
theorem ER.only {G : Gam} {m : Mp} {N : Nat} {e : Env} {a : Act} (h : ER G m N e a) (ks : List Nat) : ER G m N (Env.only ks e) a :=
 ⟨h.size, fun i v hv => h.get i v (Env.get_only ks e i v hv)⟩
set_option linter.unusedSimpArgs false
set_option linter.unusedVariables false
mutual
def vM (G : Gam) : CV → Value → Bool
 | .int k n, .int k' n' => k == k' && n == n'
 | .bool a, .bool b => a == b
 | .str s, .string t => t.data.toList == s
 | .nilp, .pointer none => true
 | .nils, .slice none 0 0 => true
 | .nilm, .map none => true
 | .nilc, .chan none => true
 | .nilf, .nilFunc => true
 | .nili, .nilIface => true
 | .fn f [], .func (.func g) x y => G.F f == some g && x.size == 0 && y.size == 0
 | .agg l, .agg vs => vML G l vs.toList
 | .tup l, .tuple vs => vML G l vs.toList
 | _, _ => false
def vML (G : Gam) : List CV → List Value → Bool
 | [], [] => true
 | c :: cs, v :: vs => vM G c v && vML G cs vs
 | _, _ => false
end
mutual
theorem vM_tr {G : Gam} {m : Mp} : ∀ (c : CV) (v : Value), vM G c v = true → tr G m c = some v
 | .int k n, v, h => by cases v <;> simp [vM] at h; obtain ⟨rfl, rfl⟩ := h; rfl
 | .bool b, v, h => by cases v <;> simp [vM] at h; subst h; rfl
 | .str s, v, h => by cases v <;> simp [vM] at h; subst h; simp [tr]
 | .ptr _ _, v, h => by cases v <;> simp [vM] at h
 | .nilp, v, h => by
   cases v with
   | pointer a => cases a with
     | none => rfl
     | some _ => simp [vM] at h
   | _ => simp [vM] at h
 | .sl _ _ _ _, v, h => by cases v <;> simp [vM] at h
 | .nils, v, h => by
   cases v with
   | slice a n c =>
     cases a with
     | some _ => simp [vM] at h
     | none => cases n with
       | succ _ => simp [vM] at h
       | zero => cases c with
         | succ _ => simp [vM] at h
         | zero => rfl
   | _ => simp [vM] at h
 | .mp _, v, h => by cases v <;> simp [vM] at h
 | .nilm, v, h => by
   cases v with
   | map a => cases a with
     | none => rfl
     | some _ => simp [vM] at h
   | _ => simp [vM] at h
 | .ch _, v, h => by cases v <;> simp [vM] at h
 | .nilc, v, h => by
   cases v with
   | chan a => cases a with
     | none => rfl
     | some _ => simp [vM] at h
   | _ => simp [vM] at h
 | .fn f [], v, h => by
   cases v with
   | func fn x y => cases fn with
     | func g =>
       simp [vM] at h
       obtain ⟨⟨h1, h2⟩, h3⟩ := h
       simp [tr, trL, h1, h2, h3]
     | _ => simp [vM] at h
   | _ => simp [vM] at h
 | .fn f (_ :: _), v, h => by cases v <;> simp [vM] at h
 | .nilf, v, h => by cases v <;> simp [vM] at h; rfl
 | .ifc _ _, v, h => by cases v <;> simp [vM] at h
 | .nili, v, h => by cases v <;> simp [vM] at h; rfl
 | .agg l, v, h => by
   cases v <;> simp [vM] at h
   simp [tr, vML_tr l _ h]
 | .tup l, v, h => by
   cases v <;> simp [vM] at h
   simp [tr, vML_tr l _ h]
theorem vML_tr {G : Gam} {m : Mp} : ∀ (l : List CV) (vs : List Value), vML G l vs = true → trL G m l = some vs
 | [], vs, h => by cases vs <;> simp [vML] at h; rfl
 | c :: cs, vs, h => by
   cases vs <;> simp [vML] at h
   exact trL_cons_mk (vM_tr c _ h.1) (vML_tr cs _ h.2)
end
def opdM (G : Gam) : Operand → Opd → Bool
 | .tmp t, .t n => t == n
 | .const v, .c c => vM G c v
 | .func f, .c (.fn g []) => G.F g == some f
 | _, _ => false
def opdsM (G : Gam) : List Operand → List Opd → Bool
 | [], [] => true
 | x :: xs, y :: ys => opdM G x y && opdsM G xs ys
 | _, _ => false
def oopdM (G : Gam) : Option Operand → Option Opd → Bool
 | none, none => true
 | some x, some y => opdM G x y
 | _, _ => false
theorem opd_sim {G : Gam} {m : Mp} {N : Nat} {e : Env} {a : Act} (he : ER G m N e a) {x : Operand} {y : Opd} (hM : opdM G x y = true) {v : CV} (hv : y.ev e = some v) : tr G m v = some (a.eval x) := by
 cases y with
 | t n =>
   cases x <;> simp [opdM] at hM
   subst hM
   obtain ⟨rv, h1, h2⟩ := he.get _ v hv
   simp [Act.eval, Array.getD, h1]
   have hlt := (Array.getElem?_eq_some_iff.1 h2).1
   have := (Array.getElem?_eq_some_iff.1 h2).2
   simp [hlt, this]
 | c c =>
   simp [Opd.ev] at hv; subst hv
   cases x with
   | const u => exact vM_tr c u hM
   | func f =>
     cases c <;> simp [opdM] at hM
     rename_i g l
     cases l <;> simp [opdM] at hM
     simp [tr, trL, hM, Act.eval]
   | _ => simp [opdM] at hM
theorem opds_sim {G : Gam} {m : Mp} {N : Nat} {e : Env} {a : Act} (he : ER G m N e a) : ∀ {xs : List Operand} {ys : List Opd}, opdsM G xs ys = true → ∀ {vs : List CV}, evs e ys = some vs → trL G m vs = some (xs.map a.eval)
 | [], [], _, vs, h => by simp [evs] at h; subst h; rfl
 | [], _ :: _, h, _, _ => by simp [opdsM] at h
 | _ :: _, [], h, _, _ => by simp [opdsM] at h
 | x :: xs, y :: ys, hM, vs, h => by
   simp only [opdsM, Bool.and_eq_true] at hM
   simp only [evs] at h
   cases hy : y.ev e with
   | none => simp [hy] at h
   | some v =>
     cases hl : evs e ys with
     | none => simp [hy, hl] at h
     | some us =>
       simp [hy, hl] at h; subst h
       exact trL_cons_mk (opd_sim he hM.1 hy) (opds_sim he hM.2 hl)
def szOf (P : Program) (t : TypeId) : Option Nat := (P.info? t).map (·.size)
def byOf (P : Program) (t : TypeId) : Option Nat := (P.info? t).map (·.bytes)
def ldM (P : Program) (t : TypeId) : Option Nat → Bool
 | none => (match P.underlying t with | some (.struct _) | some (.array _ _) | none => false | _ => true) && szOf P t == some 1
 | some n => (match P.underlying t with | some (.struct _) | some (.array _ _) => true | _ => false) && szOf P t == some n
theorem run_sizeOf {P : Program} {t : TypeId} {n : Nat} (h : szOf P t = some n) (w : World) : (sizeOf t).run P w = .ok n w := by
 cases hi : P.info? t with
 | none => simp [szOf, hi] at h
 | some i => simp [szOf, hi] at h; simp [sizeOf, typeInfo, hi, h]
theorem run_bytesOf {P : Program} {t : TypeId} {n : Nat} (h : byOf P t = some n) (w : World) : ∃ i, (typeInfo t).run P w = .ok i w ∧ i.bytes = n := by
 cases hi : P.info? t with
 | none => simp [byOf, hi] at h
 | some i => simp [byOf, hi] at h; exact ⟨i, by simp [typeInfo, hi], h⟩
theorem run_isAgg_false {P : Program} {t : TypeId} (h : ldM P t none = true) (w : World) : (isAgg t).run P w = .ok false w ∧ szOf P t = some 1 := by
 simp [ldM] at h
 obtain ⟨h1, h2⟩ := h
 refine ⟨?_, h2⟩
 cases hu : P.underlying t with
 | none => simp [hu] at h1
 | some d => cases d <;> simp [hu] at h1 <;> simp [isAgg, underlying, hu]
theorem run_isAgg_true {P : Program} {t : TypeId} {n : Nat} (h : ldM P t (some n) = true) (w : World) : (isAgg t).run P w = .ok true w ∧ szOf P t = some n := by
 simp [ldM] at h
 obtain ⟨h1, h2⟩ := h
 refine ⟨?_, h2⟩
 cases hu : P.underlying t with
 | none => simp [hu] at h1
 | some d => cases d <;> simp [hu] at h1 <;> simp [isAgg, underlying, hu]
theorem loadCellsFrom_run {P : Program} {w : World} {b : Nat} {C : Array Value} {e : TypeId} {fr : Nat × Nat} (hb : w.heap[b]? = some (.cells C e fr)) (off : Nat) :
  ∀ (n i : Nat) (acc : Array Value) (vs : List Value), vs.length = n → (∀ j v, vs[j]? = some v → C[off + i + j]? = some v) →
   (loadCellsFrom ⟨b, off, none⟩ i n acc).run P w = .ok (acc ++ vs.toArray) w
 | 0, i, acc, vs, hl, _ => by
   cases vs with
   | nil => simp [loadCellsFrom]
   | cons _ _ => simp at hl
 | n + 1, i, acc, vs, hl, hv => by
   cases vs with
   | nil => simp at hl
   | cons v vs =>
     have h0 := hv 0 v (by simp)
     have hc : w.cell? (Addr.add ⟨b, off, none⟩ i) = some v := by
      rw [Addr.add_lit]; simpa [World.cell?, hb] using h0
     simp only [loadCellsFrom, Sem.run_bind, run_load, hc, Result.andThen_ok]
     rw [loadCellsFrom_run hb off n (i + 1) (acc.push v) vs (by simpa using hl) (fun j u hu => by
      have := hv (j + 1) u (by simpa using hu)
      rw [show off + (i + 1) + j = off + i + (j + 1) by omega]; exact this)]
     congr 1
     simp
theorem loadCells_run {P : Program} {w : World} {b off : Nat} {C : Array Value} {e : TypeId} {fr : Nat × Nat} (hb : w.heap[b]? = some (.cells C e fr)) {vs : List Value}
  (hv : ∀ (j : Nat) v, vs[j]? = some v → C[off + j]? = some v) : (loadCells ⟨b, off, none⟩ vs.length).run P w = .ok vs.toArray w := by
 have := loadCellsFrom_run (P := P) hb off vs.length 0 #[] vs rfl (fun j v h => by simpa using hv j v h)
 simpa [loadCells] using this
theorem cells_sim {G : Gam} {m : Mp} {h : Heap} {w : World} (s : Sim G m h w) {b : Nat} {L : Loc} (e : m b = some L) {cs : List CV} {st : St} (ho : h[b]? = some (.arr cs st)) {o n : Nat} (hn : o + n ≤ cs.length) :
  n = 0 ∨ ∃ C t fr vs, L.spot = none ∧ w.heap[L.blk]? = some (.cells C t fr) ∧ trL G m ((cs.drop o).take n) = some vs ∧ vs.length = n ∧ ∀ (j : Nat) v, vs[j]? = some v → C[L.off + o + j]? = some v := by
 rcases s.obj b L _ e ho with ⟨rfl, _⟩ | ⟨C, t, fr, hsp, h1, h2, _⟩
 ·left; simp at hn; omega
 ·right
  have key : ∀ (n o : Nat), o + n ≤ cs.length → ∃ vs, trL G m ((cs.drop o).take n) = some vs ∧ vs.length = n ∧ ∀ (j : Nat) v, vs[j]? = some v → C[L.off + o + j]? = some v := by
   intro n
   induction n with
   | zero => intro o _; exact ⟨[], by simp [trL], rfl, by simp⟩
   | succ n ih =>
     intro o ho
     obtain ⟨vs, g1, g2, g3⟩ := ih (o + 1) (by omega)
     have hlt : o < cs.length := by omega
     obtain ⟨rv, k1, k2⟩ := h2 o cs[o] (by simp [hlt])
     refine ⟨rv :: vs, ?_, by simp [g2], ?_⟩
     ·rw [List.drop_eq_getElem_cons hlt, List.take_succ_cons]
      exact trL_cons_mk k1 g1
     ·intro j v hj
      cases j with
      | zero => simp at hj; subst hj; exact k2
      | succ j => have := g3 j v (by simpa using hj); rw [show L.off + o + (j + 1) = L.off + (o + 1) + j by omega]; exact this
  obtain ⟨vs, g1, g2, g3⟩ := key n o hn
  exact ⟨C, t, fr, vs, hsp, h1, g1, g2, g3⟩
theorem loadAt_sim {P : Program} {G : Gam} {m : Mp} {h : Heap} {w : World} (s : Sim G m h w) {b o : Nat} {L : Loc} (e : m b = some L) {n : Option Nat} {t : TypeId} (ht : ldM P t n = true) {v : CV} (hv : loadAt h b o n = some v) :
  ∃ rv, (loadVar t (L.ad o)).run P w = .ok rv w ∧ tr G m v = some rv := by
 cases n with
 | none =>
   simp only [loadAt] at hv
   cases ho : h[b]? with
   | none => simp [ho] at hv
   | some x =>
     cases x <;> simp [ho] at hv
     rename_i cs st
     rcases s.obj b L _ e ho with ⟨rfl, _⟩ | ⟨C, t', fr, hsp, h1, h2, _⟩
     ·simp at hv
     ·obtain ⟨rv, k1, k2⟩ := h2 o v hv
      refine ⟨rv, ?_, k1⟩
      have hc : w.cell? (L.ad o) = some rv := by rw [Loc.ad_none hsp]; simpa [World.cell?, h1] using k2
      simp [loadVar, (run_isAgg_false ht w).1, hc]
 | some n =>
   simp only [loadAt] at hv
   cases ho : h[b]? with
   | none => simp [ho] at hv
   | some x =>
     cases x <;> simp [ho] at hv
     rename_i cs st
     obtain ⟨hle, rfl⟩ := hv
     obtain ⟨ha, hsz⟩ := run_isAgg_true ht w
     rcases cells_sim s e ho hle with rfl | ⟨C, t', fr, vs, hsp, h1, h2, h3, h4⟩
     ·refine ⟨.agg #[], ?_, by simp [tr, trL]⟩
      simp [loadVar, ha, run_sizeOf hsz, loadCells, loadCellsFrom]
     ·refine ⟨.agg vs.toArray, ?_, by simp [tr, h2]⟩
      have := loadCells_run (P := P) (off := L.off + o) h1 h4
      rw [h3, ← Loc.ad_none hsp] at this
      simp [loadVar, ha, run_sizeOf hsz, this]
def bkM (P : Program) (t : TypeId) (k : BK) : Bool :=
 match P.underlying t, k with
 | some (.int _), .i => true
 | some .string, .s => true
 | some .bool, .b => true
 | _, _ => false
def fieldsM (P : Program) : Nat → List Field → List BK → Bool
 | _, [], [] => true
 | i, f :: fs, k :: ks => f.name != "_" && f.offset == i && szOf P f.type == some 1 && bkM P f.type k && fieldsM P (i + 1) fs ks
 | _, _, _ => false
def eqTM (P : Program) (t : TypeId) : EqT → Bool
 | .b => match P.underlying t with | some .bool => true | _ => false
 | .p => match P.underlying t with | some (.pointer _) => true | _ => false
 | .s => match P.underlying t with | some (.slice _) => true | _ => false
 | .m => match P.underlying t with | some (.map _ _) => true | _ => false
 | .f => match P.underlying t with | some (.func _ _ _) => true | _ => false
 | .i => match P.underlying t with | some (.interface _) => true | _ => false
 | .st ks => match P.underlying t with
   | some (.struct fs) => !P.stoodInHeld t && !P.eqGuardType P.depth t && fieldsM P 0 fs.toList ks
   | _ => false
def isC : Operand → Bool
 | .const _ => true
 | _ => false
def partsM (G : Gam) (pl : Nat → Option (Nat × Nat)) : List (Nat × Operand) → List (Nat × Nat × Opd) → Bool
 | [], [] => true
 | (i, x) :: xs, (off, size, y) :: ys => pl i == some (off, size) && opdM G x y && partsM G pl xs ys
 | _, _ => false
def fieldPl (P : Program) (fs : Array Field) (i : Nat) : Option (Nat × Nat) :=
 match fs[i]? with
 | some f => match szOf P f.type with
   | some s => some (f.offset, s)
   | none => none
 | none => none
def zeroM (P : Program) (G : Gam) (t : TypeId) (z : CV) : Bool :=
 match P.info? t with
 | some i => match i.zero with
   | some v => vM G z v
   | none => false
 | none => false
def zeroL (P : Program) (G : Gam) (t : TypeId) (z : List CV) : Bool :=
 match P.info? t with
 | some i => match i.zero with
   | some v => vML G z v.cells.toList
   | none => false
 | none => false
def lenM (P : Program) (ts : Array TypeId) (k : LK) : Bool :=
 match ts[0]? with
 | some t => (match P.underlying t, k with | some .string, .str => true | some (.slice _), .sl => true | some (.map _ _), .map => true | some (.chan _ _), .ch => true | _, _ => false)
 | none => false
def appM (P : Program) (ts : Array TypeId) (esz : Nat) : Bool :=
 match ts[0]?, ts[1]? with
 | some t, some u => (match P.underlying t, P.underlying u with
   | some (.slice e), some (.slice _) => esz != 0 && szOf P e == some esz && (match byOf P e with | some b => decide (b ≤ 4096) | none => false) && (match P.info? e with | some i => (match i.zero with | some z => z.cells.size == esz | none => false) | none => false)
   | some (.slice e), some .string => esz == 1 && szOf P e == some esz && (match byOf P e with | some b => decide (b ≤ 4096) | none => false) && (match P.info? e with | some i => (match i.zero with | some z => z.cells.size == esz | none => false) | none => false)
   | _, _ => false)
 | _, _ => false
def delM (P : Program) (ts : Array TypeId) (bk : BK) : Bool :=
 match ts[0]? with
 | some t => (match P.underlying t with | some (.map k _) => bkM P k bk | _ => false)
 | none => false
def builtinM (P : Program) (G : Gam) (args : List Operand) (ts : Array TypeId) : Builtin → SOp → Bool
 | .len, .len k x => opdsM G args [x] && lenM P ts k
 | .max, .mx xs => opdsM G args xs
 | .min, .mn xs => opdsM G args xs
 | .append, .append esz x y => opdsM G args [x, y] && appM P ts esz
 | .append, .appZ z x n => opdsM G args [x, n] && (match ts[0]?, ts[1]? with
   | some t, some u => (match P.underlying t, P.underlying u with
     | some (.slice e), some (.int _) => zeroL P G e z && szOf P e == some z.length && z.length != 0 && (match byOf P e with | some b => decide (b ≤ 4096) | none => false)
     | _, _ => false)
   | _, _ => false)
 | .delete, .del bk x y => opdsM G args [x, y] && delM P ts bk
 | .cap, .capn x => opdsM G args [x] && (match ts[0]? with | some t => (match P.underlying t with | some (.slice _) => true | _ => false) | none => false)
 | .clear, .clr z x => opdsM G args [x] && (match ts[0]? with | some t => (match P.underlying t with | some (.slice e) => zeroL P G e z | _ => false) | none => false)
 | .copy, .cpy esz x y => opdsM G args [x, y] && (match ts[0]?, ts[1]? with
   | some t, some u => (match P.underlying t, P.underlying u with
     | some (.slice e), some (.slice _) => szOf P e == some esz
     | _, _ => false)
   | _, _ => false)
 | .cap, .capc x => opdsM G args [x] && (match ts[0]? with | some t => (match P.underlying t with | some (.chan _ _) => true | _ => false) | none => false)
 | _, _ => false
def isCallS : SOp → Bool
 | .len .. | .mx _ | .mn _ | .append .. | .del .. | .call .. | .callv .. | .capn _ | .capc _ | .clr .. | .appZ .. | .cpy .. => true
 | _ => false
def callM (P : Program) (G : Gam) (c : Call) (s : SOp) : Bool :=
 match c.callee with
 | .builtin b => builtinM P G c.args.toList c.argTypes b s
 | .value f => (match s with
   | .call g xs => (match f with | .func fid => G.F g == some fid | _ => false) && opdsM G c.args.toList xs
   | .callv g xs => opdM G f g && opdsM G c.args.toList xs
   | _ => false)
 | .invoke _ _ => false
def opM (P : Program) (G : Gam) : Op → SOp → Bool
 | .move x, .move y => opdM G x y
 | .assign x, .move y => opdM G x y
 | .pick c a b, .pick c' a' b' => opdM G c c' && opdM G a a' && opdM G b b'
 | .binOp op t x y _, .bin op' x' y' => op == op' && opdM G x x' && opdM G y y'
 | .binOp op t x y _, .eq neg et x' y' => op == (if neg then .neq else .eql) && opdM G x x' && opdM G y y' && eqTM P t et && (match et with | .i => isC x || isC y | _ => true)
 | .unOp .neg _ x, .neg x' => opdM G x x'
 | .unOp .not _ x, .not x' => opdM G x x'
 | .convert src dst x, .conv k x' => opdM G x x' && (P.underlying src).isSome && (match P.underlying dst with | some (.int k') => k == k' | _ => false)
 | .convert src dst x, .same x' => opdM G x x' && (P.underlying src).isSome && (match P.underlying dst with | some .string => true | _ => false)
 | .convert src dst x, .toBytes x' => opdM G x x' && (P.underlying src).isSome && (match P.underlying dst with | some (.slice e) => (match P.underlying e with | some (.int .u8) => true | _ => false) | _ => false)
 | .convert src dst x, .toStr x' => opdM G x x' && (match P.underlying dst with | some .string => true | _ => false) && (match P.underlying src with | some (.slice e) => (match P.underlying e with | some (.int .u8) => true | _ => false) | _ => false)
 | .alloc t, .alloc z => zeroM P G t z
 | .alloc t, .allocB T => G.T T == t && zeroM P G t (.agg [.nilp, .nils])
 | _, .stuck => true
 | .box _ x, .box x' => opdM G x x'
 | .load t x, .load n x' => opdM G x x' && ldM P t n
 | .store t x v, .store n x' v' => opdM G x x' && opdM G v v' && (match n with | none => szOf P t == some 1 | some k => szOf P t == some k)
 | .nilCheck x, .nilck x' => opdM G x x'
 | .field t x f, .fld off n x' => opdM G x x' && (match P.underlying t with | some (.struct fs) => (match fs[f]? with | some fd => fd.offset == off && ldM P fd.type n | none => false) | _ => false)
 | .fieldAddr t x f, .fldAddr off x' => opdM G x x' && (match P.underlying t with | some (.struct fs) => (match fs[f]? with | some fd => fd.offset == off && (match szOf P fd.type with | some (_ + 1) => true | _ => false) | none => false) | _ => false)
 | .indexAddr t x i, .idxAddr esz x' i' => opdM G x x' && opdM G i i' && (match P.underlying t with | some (.slice e) => szOf P e == some esz | _ => false)
 | .indexAddr t x i, .idxArrAddr esz len x' i' => opdM G x x' && opdM G i i' && (match P.underlying t with | some (.array n e) => n == len && szOf P e == some esz | _ => false)
 | .index t x i, .idxStr x' i' => opdM G x x' && opdM G i i' && (match P.underlying t with | some .string => true | _ => false)
 | .index t x i, .idxArr esz len n x' i' => opdM G x x' && opdM G i i' && (match P.underlying t with | some (.array k e) => k == len && szOf P e == some esz && ldM P e n | _ => false)
 | .build t ps, .build z ps' => zeroL P G t z && (match P.underlying t with
   | some (.struct fs) => fs.all (fun f => (szOf P f.type).isSome) && partsM G (fieldPl P fs) ps.toList ps'
   | some (.array _ e) => (match szOf P e with | some s => partsM G (fun i => some (i * s, s)) ps.toList ps' | none => false)
   | _ => false)
 | .buildSlice t n ps, .buildSl len z ps' => n == len && (match P.underlying t with
   | some (.slice e) => (match szOf P e with
     | some s => decide (n * s ≤ 2 ^ 24) && (n * s == 0 && z.isEmpty || (match P.info? e with | some i => (match i.zero with | some v => n * s != 0 && vML G z ((List.range (n * s)).map fun i => v.cells[i % v.cells.size]!) | none => false) | none => false)) && partsM G (fun i => some (i * s, s)) ps.toList ps'
     | none => false)
   | _ => false)
 | .slice t x lo hi none, .slStr x' lo' hi' => opdM G x x' && oopdM G lo lo' && oopdM G hi hi' && (match P.underlying t with | some .string => true | _ => false)
 | .slice t x lo hi none, .slSl esz x' lo' hi' => opdM G x x' && oopdM G lo lo' && oopdM G hi hi' && (match P.underlying t with | some (.slice e) => szOf P e == some esz | _ => false)
 | .slice t x lo (some hi) (some mx), .slMax esz x' lo' hi' mx' => opdM G x x' && oopdM G lo lo' && opdM G hi hi' && opdM G mx mx' && (match P.underlying t with | some (.slice e) => szOf P e == some esz | _ => false)
 | .call c, s => isCallS s && callM P G c s
 | .makeFunc (.func f) first caps, .mkfn g xs => G.F g == some f && first.size == 0 && opdsM G caps.toList xs
 | .makeMap t r, .mkmap => (match r with | none => true | some (.const (.int _ _)) => (match P.underlying t with | some (.map _ _) => true | _ => false) | _ => false)
 | .makeChan t n, .mkch n' => opdM G n n' && (match P.underlying t with | some (.chan _ e) => (match byOf P e with | some b => decide (b ≤ 16) | none => false) | _ => false)
 | .makeSlice t l c, .mksl z l' c' => opdM G l l' && opdM G c c' && (match P.underlying t with | some (.slice e) => zeroL P G e z && szOf P e == some z.length && z.length != 0 && (match byOf P e with | some b => decide (b ≤ 65536) | none => false) | _ => false)
 | .lookup t x k ok, .lookup ok' bk z x' k' => ok == ok' && opdM G x x' && opdM G k k' && (match P.underlying t with | some (.map kt et) => bkM P kt bk && zeroM P G et z | _ => false)
 | .mapUpdate t x k v, .mapup bk x' k' v' => opdM G x x' && opdM G k k' && opdM G v v' && (match P.underlying t with | some (.map kt _) => bkM P kt bk | _ => false)
 | .insert t x k v, .mapup bk x' k' v' => opdM G x x' && opdM G k k' && opdM G v v' && (match P.underlying t with | some (.map kt _) => bkM P kt bk | _ => false)
 | .mapEntry t x k, .mapent bk z x' k' => opdM G x x' && opdM G k k' && (match P.underlying t with | some (.map kt et) => bkM P kt bk && zeroM P G et z | _ => false)
 | .entryStore _ x s v, .entst x' s' v' => opdM G x x' && opdM G s s' && opdM G v v'
 | .extract x i, .ext j x' => i == j && opdM G x x'
 | .makeInterface t x, .mkifc g x' => G.T g == t && opdM G x x' && (match P.underlying t with | some (.interface _) | none => false | _ => true)
 | .slice t x lo hi none, .slTail esz x' lo' => hi.isNone && opdM G x x' && oopdM G lo (some lo') && (match P.underlying t with | some (.slice e) => szOf P e == some esz | _ => false)
 | .typeAssert x _ t ok, .tas g x' => !ok && G.T g == t && opdM G x x' && (match P.underlying t with | some (.interface _) | none => false | _ => true)
 | _, _ => false
theorem evOp_pure' {call : CallF} {op : SOp} {e : Env} (hc : cls op = 0) : ∃ r, ∀ hq, evOp call op e hq = withH hq r := by
 refine ⟨(evOp call op e []).map (·.1), fun hq => ?_⟩
 have W : ∀ (x : Option CV), withH hq x = withH hq ((withH [] x).map (·.1)) := fun x => by cases x <;> rfl
 cases op <;> simp only [cls] at hc <;> (try (exact absurd hc (by decide))) <;> simp only [evOp]
 all_goals (first | exact W _ | exact W none | (split <;> first | exact W _ | rfl | skip))
 all_goals (repeat' (first | exact W _ | rfl | split))
theorem evOp_pure {call : CallF} {op : SOp} {e : Env} {h h' : Heap} {v : CV} (hc : cls op = 0) (hev : evOp call op e h = some (v, h')) : h' = h ∧ ∀ hq, evOp call op e hq = some (v, hq) := by
 obtain ⟨r, hr⟩ := evOp_pure' (call := call) (e := e) hc
 rw [hr] at hev
 cases r with
 | none => simp [withH] at hev
 | some x => simp [withH] at hev; obtain ⟨rfl, rfl⟩ := hev; exact ⟨rfl, fun hq => hr hq⟩
section inv
variable {G : Gam} {m : Mp} {rv : Value}
theorem tr_int {k : IntKind} {n : Int} (h : tr G m (.int k n) = some rv) : rv = .int k n := by simpa [tr, eq_comm] using h
theorem tr_bool {b : Bool} (h : tr G m (.bool b) = some rv) : rv = .bool b := by simpa [tr, eq_comm] using h
theorem tr_str {s : List UInt8} (h : tr G m (.str s) = some rv) : rv = .string ⟨s.toArray⟩ := by simpa [tr, eq_comm] using h
theorem tr_ptr {b o : Nat} (h : tr G m (.ptr b o) = some rv) : ∃ L, m b = some L ∧ rv = .pointer (some (L.ad o)) := by
 cases hb : m b <;> simp [tr, hb] at h; exact ⟨_, rfl, h.symm⟩
theorem tr_sl {b o n c : Nat} (h : tr G m (.sl b o n c) = some rv) : ∃ L, m b = some L ∧ rv = .slice (some (L.ad o)) n (c + L.slack) := by
 cases hb : m b <;> simp [tr, hb] at h; exact ⟨_, rfl, h.symm⟩
theorem tr_mp {b : Nat} (h : tr G m (.mp b) = some rv) : ∃ L, m b = some L ∧ rv = .map (some L.blk) := by
 cases hb : m b <;> simp [tr, hb] at h; exact ⟨_, rfl, h.symm⟩
theorem tr_ch {b : Nat} (h : tr G m (.ch b) = some rv) : ∃ L, m b = some L ∧ rv = .chan (some L.blk) := by
 cases hb : m b <;> simp [tr, hb] at h; exact ⟨_, rfl, h.symm⟩
theorem tr_nils (h : tr G m .nils = some rv) : rv = .slice none 0 0 := by simpa [tr, eq_comm] using h
theorem tr_nilm (h : tr G m .nilm = some rv) : rv = .map none := by simpa [tr, eq_comm] using h
theorem tr_nilp (h : tr G m .nilp = some rv) : rv = .pointer none := by simpa [tr, eq_comm] using h
theorem tr_nilf (h : tr G m .nilf = some rv) : rv = .nilFunc := by simpa [tr, eq_comm] using h
theorem tr_nili (h : tr G m .nili = some rv) : rv = .nilIface := by simpa [tr, eq_comm] using h
theorem tr_agg {l : List CV} (h : tr G m (.agg l) = some rv) : ∃ vs, trL G m l = some vs ∧ rv = .agg vs.toArray := by
 cases hl : trL G m l <;> simp [tr, hl] at h; exact ⟨_, rfl, h.symm⟩
theorem tr_tup {l : List CV} (h : tr G m (.tup l) = some rv) : ∃ vs, trL G m l = some vs ∧ rv = .tuple vs.toArray := by
 cases hl : trL G m l <;> simp [tr, hl] at h; exact ⟨_, rfl, h.symm⟩
theorem tr_fn {f : Nat} {caps : List CV} (h : tr G m (.fn f caps) = some rv) : ∃ fid vs, G.F f = some fid ∧ trL G m caps = some vs ∧ rv = .func (.func fid) #[] vs.toArray := by
 cases hf : G.F f <;> cases hl : trL G m caps <;> simp [tr, hf, hl] at h; exact ⟨_, _, rfl, rfl, h.symm⟩
theorem tr_ifc {t : Nat} {v : CV} (h : tr G m (.ifc t v) = some rv) : ∃ x, tr G m v = some x ∧ rv = .iface (G.T t) x := by
 cases hv : tr G m v <;> simp [tr, hv] at h; exact ⟨_, rfl, h.symm⟩
end inv
theorem bytes_toList (s : List UInt8) : (⟨s.toArray⟩ : ByteArray).toList = s := by rw [ByteArray.toList_eq]
theorem bytes_size (s : List UInt8) : (⟨s.toArray⟩ : ByteArray).size = s.length := rfl
theorem less_eq : ∀ a b : List UInt8, Op.bytesLess a b = bytesLess a b
 | _, [] => by simp [Op.bytesLess, bytesLess]
 | [], _ :: _ => by simp [Op.bytesLess, bytesLess]
 | a :: x, b :: y => by simp [Op.bytesLess, bytesLess, less_eq x y]
theorem bin_sim {P : Program} {G : Gam} {m : Mp} {op : BinOp} {x y : CV} {v : CV} (h : bin op x y = some v) {rx ry : Value} (hx : tr G m x = some rx) (hy : tr G m y = some ry) (t : TypeId) (X Y : Operand) (w : World) :
  ∃ rv, (do eqGuard op t X Y rx ry; binOp op t rx ry : Sem Value).run P w = .ok rv w ∧ tr G m v = some rv := by
 cases x with
 | int k a =>
   cases y with
   | int k' b =>
     rw [tr_int hx, tr_int hy]
     simp only [Sem.run_bind, eqGuard_at_int, Sem.run_pure, Result.andThen_ok]
     simp only [bin] at h
     split at h
     ·rename_i hk
      subst hk
      cases op <;> simp [binInt, shV] at h <;> (first | subst h | (obtain ⟨h0, h⟩ := h; subst h)) <;> (try (have h1 := Int.not_lt.2 h0)) <;> simp [binOp, Op.intArith, Op.intDiv, Op.intCmp, Op.intBits, Op.shift, bitsV, tr, *]
     ·cases op <;> simp [shV] at h <;> (obtain ⟨h0, h⟩ := h; subst h) <;> (have h1 := Int.not_lt.2 h0) <;> simp [binOp, Op.shift, tr, *]
   | _ => simp [bin] at h
 | str a =>
   cases y with
   | str b =>
     simp [bin] at h
     rw [tr_str hx, tr_str hy]
     simp only [Sem.run_bind, eqGuard_at_string, Sem.run_pure, Result.andThen_ok]
     by_cases ha : op = .add
     ·subst ha
      simp [binStr] at h
      obtain ⟨h0, rfl⟩ := h
      refine ⟨.string (⟨a.toArray⟩ ++ ⟨b.toArray⟩), ?_, ?_⟩
      ·simp only [binOp, Op.stringOp, bytes_size, IntKind.max_i64]
       rw [Sem.run_ite, if_neg (by omega)]; rfl
      ·simp only [tr]
       congr 2
     ·cases op <;> simp [binStr] at h <;> (first | subst h | exact absurd rfl ha) <;> simp [binOp, Op.stringOp, bytes_toList, bytes_size, less_eq, tr]
   | _ => simp [bin] at h
 | _ => cases y <;> simp [bin] at h
theorem eqKind_sim {P : Program} {G : Gam} {m : Mp} {k : BK} {x y : CV} {r : Bool} (h : eqKind k x y = some r) {rx ry : Value} (hx : tr G m x = some rx) (hy : tr G m y = some ry) {t : TypeId}
  (ht : bkM P t k = true) (d : Nat) (w : World) :
  (Op.equalIn (d + 1) t rx ry).run P w = .ok r w ∧ ldM P t none = (szOf P t == some 1) := by
 cases k with
 | i =>
   cases x <;> cases y <;> simp [eqKind] at h
   obtain ⟨rfl, rfl⟩ := h
   cases hu : P.underlying t with
   | none => simp [bkM, hu] at ht
   | some dd =>
     cases dd <;> simp [bkM, hu] at ht
     rw [tr_int hx, tr_int hy]
     exact ⟨by simp [run_equalIn_int w d t _ _ _ _ hu], by simp [ldM, hu]⟩
 | s =>
   cases x <;> cases y <;> simp [eqKind] at h
   subst h
   cases hu : P.underlying t with
   | none => simp [bkM, hu] at ht
   | some dd =>
     cases dd <;> simp [bkM, hu] at ht
     rw [tr_str hx, tr_str hy]
     exact ⟨by simp [run_equalIn_string w d t _ _ hu, bytes_toList], by simp [ldM, hu]⟩
 | b =>
   cases x <;> cases y <;> simp [eqKind] at h
   subst h
   cases hu : P.underlying t with
   | none => simp [bkM, hu] at ht
   | some dd =>
     cases dd <;> simp [bkM, hu] at ht
     rw [tr_bool hx, tr_bool hy]
     exact ⟨by simp [run_equalIn_bool' w d t _ _ hu], by simp [ldM, hu]⟩
theorem part_one {P : Program} {t : TypeId} (ht : ldM P t none = true) {vs : List Value} {i : Nat} {v : Value} (hv : vs[i]? = some v) (w : World) : (part t vs.toArray i).run P w = .ok v w := by
 simp [part, (run_isAgg_false ht w).1, hv]
theorem part_more {P : Program} {t : TypeId} {n : Nat} (ht : ldM P t (some n) = true) {vs : List Value} {i : Nat} (w : World) : (part t vs.toArray i).run P w = .ok (.agg ((vs.drop i).take n).toArray) w := by
 obtain ⟨h1, h2⟩ := run_isAgg_true ht w
 simp [part, h1, run_sizeOf h2, List.extract_eq_take_drop]
theorem partOf_sim {P : Program} {G : Gam} {m : Mp} {t : TypeId} {n : Option Nat} (ht : ldM P t n = true) {cs : List CV} {vs : List Value} (hl : trL G m cs = some vs) {off : Nat} {v : CV} (hv : partOf cs off n = some v) (w : World) :
  ∃ rv, (part t vs.toArray off).run P w = .ok rv w ∧ tr G m v = some rv := by
 cases n with
 | none =>
   obtain ⟨rv, h1, h2⟩ := trL_get hl off v hv
   exact ⟨rv, part_one ht h2 w, h1⟩
 | some n =>
   simp [partOf] at hv
   obtain ⟨hle, rfl⟩ := hv
   refine ⟨_, part_more ht w, ?_⟩
   have hlen := trL_length hl
   have : trL G m ((cs.drop off).take n) = some ((vs.drop off).take n) := by
    refine trL_mk (by simp [hlen]) fun i u hu => ?_
    rw [List.getElem?_take] at hu ⊢
    split at hu
    ·rename_i hi
     rw [List.getElem?_drop] at hu
     obtain ⟨ru, g1, g2⟩ := trL_get hl _ u hu
     exact ⟨ru, g1, by rw [if_pos hi, List.getElem?_drop]; exact g2⟩
    ·simp at hu
   simp [tr, this]
theorem eqFields_sim {P : Program} {G : Gam} {m : Mp} {xs ys : List CV} {rxs rys : List Value} (d : Nat) (w : World) (hx : trL G m xs = some rxs) (hy : trL G m ys = some rys) :
  ∀ (fs : List Field) (ks : List BK) (i : Nat) (r : Bool), fieldsM P i fs ks = true → eqCells ks (xs.drop i) (ys.drop i) = some r → (Op.eqFields (d + 1) rxs.toArray rys.toArray fs).run P w = .ok r w
 | [], [], i, r, _, h => by
   cases hX : xs.drop i <;> cases hY : ys.drop i <;> simp [hX, hY, eqCells] at h
   subst h; simp [Op.eqFields]
 | [], _ :: _, _, _, hf, _ => by simp [fieldsM] at hf
 | _ :: _, [], _, _, hf, _ => by simp [fieldsM] at hf
 | f :: fs, k :: ks, i, r, hf, h => by
   simp only [fieldsM, Bool.and_eq_true] at hf
   obtain ⟨⟨⟨⟨h1, h2⟩, h3⟩, h4⟩, h5⟩ := hf
   have h2 : f.offset = i := by simpa using h2
   cases hX : xs.drop i with
   | nil => simp [hX, eqCells] at h
   | cons x xr =>
     cases hY : ys.drop i with
     | nil => simp [hX, hY, eqCells] at h
     | cons y yr =>
       rw [hX, hY] at h
       simp only [eqCells] at h
       have gx : xs[i]? = some x := by have := congrArg (·[0]?) hX; simpa using this
       have gy : ys[i]? = some y := by have := congrArg (·[0]?) hY; simpa using this
       have ex : xs.drop (i + 1) = xr := by rw [← List.drop_drop, hX]; rfl
       have ey : ys.drop (i + 1) = yr := by rw [← List.drop_drop, hY]; rfl
       obtain ⟨rx, a1, a2⟩ := trL_get hx i x gx
       obtain ⟨ry, b1, b2⟩ := trL_get hy i y gy
       cases hq : eqKind k x y with
       | none => simp [hq] at h
       | some q =>
         obtain ⟨e1, e2⟩ := eqKind_sim (P := P) hq a1 b1 h4 d w
         have hld : ldM P f.type none = true := by rw [e2]; exact h3
         simp only [Op.eqFields]
         rw [if_pos (by simpa using h1)]
         simp only [Sem.run_bind, h2, part_one hld a2, part_one hld b2, Result.andThen_ok, e1]
         cases q with
         | false => simp [hq] at h; subst h; simp
         | true =>
           simp [hq] at h
           simp
           exact eqFields_sim d w hx hy fs ks (i + 1) r h5 (by rw [ex, ey]; exact h)
theorem eqv_sim {P : Program} {G : Gam} {m : Mp} {et : EqT} {t : TypeId} (ht : eqTM P t et = true) {x y : CV} {r : Bool} (h : eqv et x y = some r) {rx ry : Value} (hx : tr G m x = some rx) (hy : tr G m y = some ry)
  {X Y : Operand} (hc : et = .i → (isC X || isC Y) = true) (neg : Bool) (w : World) :
  (do eqGuard (if neg then .neq else .eql) t X Y rx ry; binOp (if neg then .neq else .eql) t rx ry : Sem Value).run P w = .ok (.bool (if neg then !r else r)) w := by
 have key : ∀ (hg : (eqGuard (if neg then .neq else .eql) t X Y rx ry).run P w = .ok () w)
   (hb : ∀ op, op = .eql ∨ op = .neq → binOp op t rx ry = (do let b ← Op.equal t rx ry; pure (.bool (if op = .neq then !b else b)) : Sem Value))
   (he : ∀ n, 2 ≤ n → (Op.equalIn n t rx ry).run P w = .ok r w),
   (do eqGuard (if neg then .neq else .eql) t X Y rx ry; binOp (if neg then .neq else .eql) t rx ry : Sem Value).run P w = .ok (.bool (if neg then !r else r)) w := by
  intro hg hb he
  rw [Sem.run_bind, hg, Result.andThen_ok, hb _ (by cases neg <;> simp), Sem.run_bind]
  have : (Op.equal t rx ry).run P w = .ok r w := he 10000 (by decide)
  rw [this]
  cases neg <;> rfl
 cases et with
 | b =>
   cases hu : P.underlying t with
   | none => simp [eqTM, hu] at ht
   | some d =>
     cases d <;> simp [eqTM, hu] at ht
     cases x <;> cases y <;> simp [eqv] at h
     subst h
     rw [tr_bool hx, tr_bool hy] at *
     exact key (by simp [eqGuard_at_bool]) (fun op ho => by rcases ho with rfl | rfl <;> rfl) (fun n hn => by cases n with | zero => omega | succ n => simp [run_equalIn_bool' w n t _ _ hu])
 | p =>
   cases hu : P.underlying t with
   | none => simp [eqTM, hu] at ht
   | some d =>
     cases d <;> simp [eqTM, hu] at ht
     cases x <;> cases y <;> simp [eqv] at h <;> subst h
     ·obtain ⟨L, _, rfl⟩ := tr_ptr hx
      obtain rfl := tr_nilp hy
      exact key (by simp [eqGuard_at_pointer]) (fun op ho => by rcases ho with rfl | rfl <;> rfl) (fun n hn => by cases n with | zero => omega | succ n => simp [Op.equalIn, run_underlying hu])
     ·obtain ⟨L, _, rfl⟩ := tr_ptr hy
      obtain rfl := tr_nilp hx
      exact key (by simp [eqGuard_at_pointer]) (fun op ho => by rcases ho with rfl | rfl <;> rfl) (fun n hn => by cases n with | zero => omega | succ n => simp [Op.equalIn, run_underlying hu])
     ·obtain rfl := tr_nilp hx
      obtain rfl := tr_nilp hy
      exact key (by simp [eqGuard_at_pointer]) (fun op ho => by rcases ho with rfl | rfl <;> rfl) (fun n hn => by cases n with | zero => omega | succ n => simp [Op.equalIn, run_underlying hu])
 | s =>
   cases hu : P.underlying t with
   | none => simp [eqTM, hu] at ht
   | some d =>
     cases d <;> simp [eqTM, hu] at ht
     cases x <;> cases y <;> simp [eqv] at h <;> subst h
     ·obtain ⟨L, _, rfl⟩ := tr_sl hx
      obtain rfl := tr_nils hy
      exact key (by simp [eqGuard_at_slice]) (fun op ho => by rcases ho with rfl | rfl <;> rfl) (fun n hn => by cases n with | zero => omega | succ n => simp [Op.equalIn, run_underlying hu])
     ·obtain ⟨L, _, rfl⟩ := tr_sl hy
      obtain rfl := tr_nils hx
      exact key (by simp [eqGuard_at_slice]) (fun op ho => by rcases ho with rfl | rfl <;> rfl) (fun n hn => by cases n with | zero => omega | succ n => simp [Op.equalIn, run_underlying hu])
     ·obtain rfl := tr_nils hx
      obtain rfl := tr_nils hy
      exact key (by simp [eqGuard_at_slice]) (fun op ho => by rcases ho with rfl | rfl <;> rfl) (fun n hn => by cases n with | zero => omega | succ n => simp [Op.equalIn, run_underlying hu])
 | m =>
   cases hu : P.underlying t with
   | none => simp [eqTM, hu] at ht
   | some d =>
     cases d <;> simp [eqTM, hu] at ht
     cases x <;> cases y <;> simp [eqv] at h <;> subst h
     ·obtain ⟨L, _, rfl⟩ := tr_mp hx
      obtain rfl := tr_nilm hy
      exact key (by simp [eqGuard_at_map]) (fun op ho => by rcases ho with rfl | rfl <;> rfl) (fun n hn => by cases n with | zero => omega | succ n => simp [Op.equalIn, run_underlying hu])
     ·obtain ⟨L, _, rfl⟩ := tr_mp hy
      obtain rfl := tr_nilm hx
      exact key (by simp [eqGuard_at_map]) (fun op ho => by rcases ho with rfl | rfl <;> rfl) (fun n hn => by cases n with | zero => omega | succ n => simp [Op.equalIn, run_underlying hu])
     ·obtain rfl := tr_nilm hx
      obtain rfl := tr_nilm hy
      exact key (by simp [eqGuard_at_map]) (fun op ho => by rcases ho with rfl | rfl <;> rfl) (fun n hn => by cases n with | zero => omega | succ n => simp [Op.equalIn, run_underlying hu])
 | f =>
   cases hu : P.underlying t with
   | none => simp [eqTM, hu] at ht
   | some d =>
     cases d <;> simp [eqTM, hu] at ht
     cases x <;> cases y <;> simp [eqv] at h <;> subst h
     ·obtain ⟨_, _, _, _, rfl⟩ := tr_fn hx
      obtain rfl := tr_nilf hy
      exact key (by simp [eqGuard_at_func]) (fun op ho => by rcases ho with rfl | rfl <;> rfl) (fun n hn => by cases n with | zero => omega | succ n => simp [Op.equalIn, run_underlying hu])
     ·obtain ⟨_, _, _, _, rfl⟩ := tr_fn hy
      obtain rfl := tr_nilf hx
      exact key (by simp [eqGuard_at_nilFunc]) (fun op ho => by rcases ho with rfl | rfl <;> rfl) (fun n hn => by cases n with | zero => omega | succ n => simp [Op.equalIn, run_underlying hu])
     ·obtain rfl := tr_nilf hx
      obtain rfl := tr_nilf hy
      exact key (by simp [eqGuard_at_nilFunc]) (fun op ho => by rcases ho with rfl | rfl <;> rfl) (fun n hn => by cases n with | zero => omega | succ n => simp [Op.equalIn, run_underlying hu])
 | i =>
   cases hu : P.underlying t with
   | none => simp [eqTM, hu] at ht
   | some d =>
     cases d <;> simp [eqTM, hu] at ht
     cases x <;> cases y <;> simp [eqv] at h <;> subst h
     ·obtain ⟨_, _, rfl⟩ := tr_ifc hx
      obtain rfl := tr_nili hy
      exact key (by simp [eqGuard_at_iface]) (fun op ho => by rcases ho with rfl | rfl <;> rfl) (fun n hn => by cases n with | zero => omega | succ n => simp [Op.equalIn, run_underlying hu])
     ·obtain ⟨_, _, rfl⟩ := tr_ifc hy
      obtain rfl := tr_nili hx
      exact key (by simp [eqGuard_nil_iface]) (fun op ho => by rcases ho with rfl | rfl <;> rfl) (fun n hn => by cases n with | zero => omega | succ n => simp [Op.equalIn, run_underlying hu])
     ·obtain rfl := tr_nili hx
      obtain rfl := tr_nili hy
      refine key ?_ (fun op ho => by rcases ho with rfl | rfl <;> rfl) (fun n hn => by cases n with | zero => omega | succ n => simp [Op.equalIn, run_underlying hu])
      have := hc rfl
      cases X <;> cases Y <;> simp [isC] at this <;> simp [eqGuard_nil_constL, eqGuard_nil_constR]
 | st ks =>
   cases hu : P.underlying t with
   | none => simp [eqTM, hu] at ht
   | some d =>
     cases d <;> simp [eqTM, hu] at ht
     rename_i fs
     obtain ⟨⟨h1, h2⟩, h3⟩ := ht
     cases x <;> cases y <;> simp [eqv] at h
     obtain ⟨⟨hl1, hl2⟩, h⟩ := h
     obtain ⟨vx, gx, rfl⟩ := tr_agg hx
     obtain ⟨vy, gy, rfl⟩ := tr_agg hy
     refine key (run_eqGuard_agg w _ t X Y _ _ h2) (fun op ho => by rcases ho with rfl | rfl <;> rfl) ?_
     have hf : P.fieldsOf t = fs := by simp [Program.fieldsOf, hu]
     intro n hn
     obtain ⟨d, rfl⟩ : ∃ d, n = d + 1 + 1 := ⟨n - 2, by omega⟩
     rw [run_equalIn_struct w (d + 1) t _ _ (by rw [hf]; exact hu) h1, hf]
     exact eqFields_sim d w gx gy fs.toList ks 0 r h3 (by simpa using h)
theorem withH_some {h h' : Heap} {x : Option CV} {v : CV} (k : withH h x = some (v, h')) : x = some v ∧ h' = h := by
 cases x with
 | none => simp [withH] at k
 | some y => simp [withH] at k; exact ⟨by rw [k.1], k.2.symm⟩
theorem bytes_get (s : List UInt8) (i : Nat) : (⟨s.toArray⟩ : ByteArray)[i]? = s[i]? := by
 by_cases h : i < s.length
 ·rw [getElem?_pos (⟨s.toArray⟩ : ByteArray) i h, getElem?_pos s i h]; rfl
 ·rw [getElem?_neg (⟨s.toArray⟩ : ByteArray) i h, getElem?_neg s i h]
theorem bytes_extract (s : List UInt8) (l h : Nat) : (⟨s.toArray⟩ : ByteArray).extract l h = ⟨((s.take h).drop l).toArray⟩ := by
 apply ByteArray.ext
 rw [ByteArray.data_extract]
 simp [List.extract_eq_take_drop, List.drop_take]
theorem mxR_sim {P : Program} {G : Gam} {m : Mp} (w : World) {k : IntKind} : ∀ (vs : List CV) (a : Int) (v : CV) (rs : List Value), mxR k a vs = some v → trL G m vs = some rs → ∃ rv, (rs.foldlM Builtin.max2 (.int k a) : Sem Value).run P w = .ok rv w ∧ tr G m v = some rv
 | [], a, v, rs, h, hl => by
   simp [trL] at hl; subst hl
   simp [mxR] at h; subst h
   exact ⟨_, rfl, rfl⟩
 | x :: r, a, v, rs, h, hl => by
   obtain ⟨y, ys, hy, hr, rfl⟩ := trL_cons hl
   cases x <;> simp [mxR] at h
   obtain ⟨rfl, h⟩ := h
   obtain rfl := tr_int hy
   simp only [List.foldlM_cons, Sem.run_bind, Builtin.max2, Sem.run_pure, Result.andThen_ok]
   exact mxR_sim w r _ v ys h hr
theorem mnR_sim {P : Program} {G : Gam} {m : Mp} (w : World) {k : IntKind} : ∀ (vs : List CV) (a : Int) (v : CV) (rs : List Value), mnR k a vs = some v → trL G m vs = some rs → ∃ rv, (rs.foldlM Builtin.min2 (.int k a) : Sem Value).run P w = .ok rv w ∧ tr G m v = some rv
 | [], a, v, rs, h, hl => by
   simp [trL] at hl; subst hl
   simp [mnR] at h; subst h
   exact ⟨_, rfl, rfl⟩
 | x :: r, a, v, rs, h, hl => by
   obtain ⟨y, ys, hy, hr, rfl⟩ := trL_cons hl
   cases x <;> simp [mnR] at h
   obtain ⟨rfl, h⟩ := h
   obtain rfl := tr_int hy
   simp only [List.foldlM_cons, Sem.run_bind, Builtin.min2, Sem.run_pure, Result.andThen_ok]
   exact mnR_sim w r _ v ys h hr
theorem bound_sim {G : Gam} {m : Mp} {N : Nat} {e : Env} {a : Act} (he : ER G m N e a) {X : Option Operand} {Y : Option Opd} (hM : oopdM G X Y = true) {o : Option CV} (ho : optEv e Y = some o) {d top i : Nat} (hb : bound o d top = some i) :
  (X = none ∧ i = d) ∨ ∃ x k n, X = some x ∧ a.eval x = .int k n ∧ 0 ≤ n ∧ n ≤ top ∧ i = n.toNat := by
 cases Y with
 | none =>
   cases X <;> simp [oopdM] at hM
   simp [optEv] at ho; subst ho
   simp [bound] at hb; exact .inl ⟨rfl, hb.symm⟩
 | some y =>
   cases X <;> simp [oopdM] at hM
   rename_i x
   simp only [optEv] at ho
   cases hy : y.ev e with
   | none => simp [hy] at ho
   | some v =>
     simp [hy] at ho; subst ho
     cases v <;> simp [bound] at hb
     rename_i k n
     obtain ⟨⟨h1, h2⟩, rfl⟩ := hb
     have := tr_int (opd_sim he hM hy)
     exact .inr ⟨x, k, n, rfl, this, h1, h2, rfl⟩
theorem ofBytes_sim {G : Gam} {m : Mp} : ∀ (cs : List CV) (s : List UInt8) (vs : List Value), ofBytes cs = some s → trL G m cs = some vs → ∃ ns : List Int, vs = ns.map (Value.int .u8) ∧ s = ns.map (fun n => UInt8.ofNat n.toNat)
 | [], s, vs, h, hl => by
   simp [ofBytes] at h; subst h
   simp [trL] at hl; subst hl
   exact ⟨[], rfl, rfl⟩
 | x :: r, s, vs, h, hl => by
   obtain ⟨y, ys, hy, hr, rfl⟩ := trL_cons hl
   cases x with
   | int k n =>
     cases k <;> simp [ofBytes] at h
     cases hq : ofBytes r with
     | none => simp [hq] at h
     | some q =>
       simp [hq] at h; subst h
       obtain ⟨ns, rfl, rfl⟩ := ofBytes_sim r q ys hq hr
       obtain rfl := tr_int hy
       exact ⟨n :: ns, rfl, rfl⟩
   | _ => simp [ofBytes] at h
theorem foldl_push (ns : List Int) : ∀ (b : ByteArray), ns.foldl (fun r n => r.push (UInt8.ofNat n.toNat)) b = ⟨(b.data.toList ++ ns.map (fun n => UInt8.ofNat n.toNat)).toArray⟩ := by
 induction ns with
 | nil => intro b; apply ByteArray.ext; simp
 | cons n ns ih => intro b; rw [List.foldl_cons, ih]; apply ByteArray.ext; simp
theorem set_splice : ∀ (vs : List Value) (off : Nat) (C : List Value), off + vs.length ≤ C.length →
  ((vs.zipIdx.foldl (fun (cs : Array Value) (p : Value × Nat) => cs.setIfInBounds (off + p.2) p.1) C.toArray)).toList = C.take off ++ vs ++ C.drop (off + vs.length) := by
 have key : ∀ (vs : List Value) (k off : Nat) (C : Array Value), off + k + vs.length ≤ C.size →
   ((vs.zipIdx k).foldl (fun (cs : Array Value) (p : Value × Nat) => cs.setIfInBounds (off + p.2) p.1) C).toList = C.toList.take (off + k) ++ vs ++ C.toList.drop (off + k + vs.length) := by
  intro vs
  induction vs with
  | nil => intro k off C h; simp
  | cons v vs ih =>
    intro k off C h
    simp only [List.length_cons] at h
    simp only [List.zipIdx_cons, List.foldl_cons]
    rw [ih (k + 1) off _ (by simp; omega)]
    simp only [Array.toList_setIfInBounds, List.length_cons]
    have hlt : off + k < C.toList.length := by simp; omega
    rw [List.take_set, List.drop_set_of_lt (by omega), show off + (k + 1) = off + k + 1 by omega, show off + k + 1 + vs.length = off + k + (vs.length + 1) by omega]
    have : (C.toList.take (off + k + 1)).set (off + k) v = C.toList.take (off + k) ++ [v] := by
     rw [List.take_succ_eq_append_getElem hlt, List.set_append_right _ _ (by simp; omega)]
     have hsz : C.toList.length = C.size := by simp
     have hmin : min (off + k) C.size = off + k := by omega
     simp [hmin]
    rw [this]
    simp
 intro vs off C h
 have := key vs 0 off C.toArray (by simpa using h)
 simpa using this
theorem splice_tr {G : Gam} {m : Mp} {cs vs : List CV} {C V : List Value} (hc : trL G m cs = some C) (hv : trL G m vs = some V) (off : Nat) :
  trL G m (splice cs off vs) = some (C.take off ++ V ++ C.drop (off + V.length)) := by
 have hl := trL_length hv
 have ht : ∀ n, trL G m (cs.take n) = some (C.take n) := fun n => by
  refine trL_mk (by simp [trL_length hc]) fun i u hu => ?_
  rw [List.getElem?_take] at hu ⊢
  split at hu
  ·rename_i hi; obtain ⟨ru, g1, g2⟩ := trL_get hc i u hu; exact ⟨ru, g1, by rw [if_pos hi]; exact g2⟩
  ·simp at hu
 have hd : ∀ n, trL G m (cs.drop n) = some (C.drop n) := fun n => by
  refine trL_mk (by simp [trL_length hc]) fun i u hu => ?_
  rw [List.getElem?_drop] at hu ⊢
  exact trL_get hc _ u hu
 unfold splice
 rw [hl]
 exact trL_append (trL_append (ht off) hv) (hd _)
theorem fill_sim {G : Gam} {m : Mp} {N : Nat} {e : Env} {a : Act} (he : ER G m N e a) (pl pl' : Nat → Option (Nat × Nat)) (hpl : ∀ i x, pl' i = some x → pl i = some x) :
  ∀ (ps : List (Nat × Operand)) (ps' : List (Nat × Nat × Opd)), partsM G pl' ps ps' = true → ∀ (qs : List (Nat × Nat × CV)), evParts e ps' = some qs → ∀ (cs cs' : List CV) (C : List Value), trL G m cs = some C → fillC cs qs = some cs' →
   ∃ C', Instr.fill pl C.toArray (ps.map fun p => (p.1, a.eval p.2)) = some C'.toArray ∧ trL G m cs' = some C'
 | [], [], _, qs, hq, cs, cs', C, hC, hf => by
   simp [evParts] at hq; subst hq
   simp [fillC] at hf; subst hf
   exact ⟨C, rfl, hC⟩
 | [], _ :: _, hM, _, _, _, _, _, _, _ => by simp [partsM] at hM
 | _ :: _, [], hM, _, _, _, _, _, _, _ => by simp [partsM] at hM
 | (i, x) :: ps, (off, size, y) :: ps', hM, qs, hq, cs, cs', C, hC, hf => by
   simp only [partsM, Bool.and_eq_true] at hM
   obtain ⟨⟨h1, h2⟩, h3⟩ := hM
   have h1 : pl i = some (off, size) := hpl i _ (by simpa using h1)
   simp only [evParts] at hq
   cases hy : y.ev e with
   | none => simp [hy] at hq
   | some v =>
     cases hr : evParts e ps' with
     | none => simp [hy, hr] at hq
     | some rs =>
       simp [hy, hr] at hq; subst hq
       simp only [fillC] at hf
       split at hf
       ·rename_i hcond
        obtain ⟨hsz, hle⟩ := hcond
        obtain ⟨V, hV, hVc⟩ := cells_one (opd_sim he h2 hy)
        have hVl : V.length = size := by rw [trL_length hV]; exact hsz
        have hCl := trL_length hC
        obtain ⟨C', g1, g2⟩ := fill_sim he pl pl' hpl ps ps' h3 rs hr (splice cs off v.cells) cs' _ (splice_tr hC hV off) hf
        refine ⟨C', ?_, g2⟩
        simp only [List.map_cons, Instr.fill, h1, hVc]
        have hs1 : V.toArray.size = size := by simpa using hVl
        rw [if_neg (by simp [hVl, hCl]; omega)]
        rw [← g1]
        congr 1
        have := set_splice V off C (by omega)
        rw [← Array.toList_inj]
        simpa using this
       ·simp at hf
theorem zeroL_run {P : Program} {G : Gam} {m : Mp} {t : TypeId} {z : List CV} (h : zeroL P G t z = true) (w : World) : ∃ v Z, (zeroValue t).run P w = .ok v w ∧ (∃ i, P.info? t = some i ∧ i.zero = some v) ∧ v.cells = Z.toArray ∧ trL G m z = some Z := by
 cases hi : P.info? t with
 | none => simp [zeroL, hi] at h
 | some i =>
   cases hz : i.zero with
   | none => simp [zeroL, hi, hz] at h
   | some v =>
     simp [zeroL, hi, hz] at h
     exact ⟨v, v.cells.toList, by simp [zeroValue, typeInfo, hi, hz], ⟨i, rfl, hz⟩, by simp, vML_tr z _ h⟩
theorem zeroM_run {P : Program} {G : Gam} {m : Mp} {t : TypeId} {z : CV} (h : zeroM P G t z = true) (w : World) : ∃ v, (zeroValue t).run P w = .ok v w ∧ tr G m z = some v := by
 cases hi : P.info? t with
 | none => simp [zeroM, hi] at h
 | some i =>
   cases hz : i.zero with
   | none => simp [zeroM, hi, hz] at h
   | some v =>
     simp [zeroM, hi, hz] at h
     exact ⟨v, by simp [zeroValue, typeInfo, hi, hz], vM_tr z _ h⟩
theorem sameNow_sim {P : Program} {G : Gam} {m : Mp} {t : TypeId} {bk : BK} (ht : bkM P t bk = true) {x y : CV} {r : Bool} (h : eqKind bk x y = some r) {rx ry : Value} (hx : tr G m x = some rx) (hy : tr G m y = some ry) :
  ∃ d, P.underlying t = some d ∧ Instr.sameNow d rx ry = some r := by
 cases hu : P.underlying t with
 | none => simp [bkM, hu] at ht
 | some d =>
   refine ⟨d, rfl, ?_⟩
   cases bk <;> cases d <;> simp [bkM, hu] at ht <;> cases x <;> cases y <;> simp [eqKind] at h
   ·obtain ⟨rfl, rfl⟩ := h; rw [tr_int hx, tr_int hy]; simp [Instr.sameNow]
   ·subst h; rw [tr_str hx, tr_str hy]; simp [Instr.sameNow, beq_toListBytes, bytes_toList]
   ·subst h; rw [tr_bool hx, tr_bool hy]; simp [Instr.sameNow]
theorem findNow_sim {P : Program} {G : Gam} {m : Mp} {t : TypeId} {bk : BK} (ht : bkM P t bk = true) {d : TypeDesc} (hu : P.underlying t = some d) {k : CV} {rk : Value} (hk : tr G m k = some rk) :
  ∀ (es : List (CV × CV × Nat)) (ES : List MapEntry) (i : Nat) (r : Option (Nat × CV × Nat)), ES.length = es.length → (∀ (i : Nat) x, es[i]? = some x → ∃ y, ES[i]? = some y ∧ Entry.rel G m x y) → findKey bk k es i = some r →
   match r with
   | none => Instr.findNow d rk ES i = some none
   | some (j, v, born) => i ≤ j ∧ j < i + es.length ∧ ∃ y, ES[j - i]? = some y ∧ tr G m v = some y.val ∧ born = y.born ∧ Instr.findNow d rk ES i = some (some (j, y.val)) ∧ tr G m k = some y.key
 | [], ES, i, r, hl, _, h => by
   simp [findKey] at h; subst h
   cases ES with
   | nil => simp [Instr.findNow]
   | cons _ _ => simp at hl
 | x :: es, [], i, r, hl, _, h => by simp at hl
 | (k', v, born) :: es, Y :: ES, i, r, hl, hE, h => by
   obtain ⟨y, hy, h1, h2, h3⟩ := hE 0 (k', v, born) (by simp)
   simp at hy; subst hy
   simp only [findKey] at h
   cases hq : eqKind bk k k' with
   | none => simp [hq] at h
   | some q =>
     obtain ⟨d', hd', hs⟩ := sameNow_sim ht hq hk h1
     rw [hu] at hd'; cases hd'
     cases q with
     | true =>
       simp [hq] at h; subst h
       refine ⟨Nat.le_refl _, by simp, Y, by simp, h2, h3, by simp [Instr.findNow, hs], ?_⟩
       have : k = k' := by
        cases bk <;> cases k <;> cases k' <;> simp [eqKind] at hq <;> simp_all
       rw [this]; exact h1
     | false =>
       simp [hq] at h
       have ih := findNow_sim ht hu hk es ES (i + 1) r (by simpa using hl) (fun j x hx => by simpa using hE (j + 1) x (by simpa using hx)) h
       cases r with
       | none => simpa [Instr.findNow, hs] using ih
       | some p =>
         obtain ⟨j, v', b'⟩ := p
         obtain ⟨g1, g2, y, g3, g4, g5, g6, g7⟩ := ih
         refine ⟨by omega, by simp; omega, y, ?_, g4, g5, by simpa [Instr.findNow, hs] using g6, g7⟩
         rw [show j - i = (j - (i + 1)) + 1 by omega]; simpa using g3
theorem checkKey_sim {P : Program} {t : TypeId} {bk : BK} (ht : bkM P t bk = true) (b : Bool) (v : Value) (w : World) : (Instr.checkKey b 10000 t v).run P w = .ok () w := by
 have key : ∀ n, (Instr.checkKey b (n + 1) t v).run P w = .ok () w := fun n => by
  cases hu : P.underlying t with
  | none => simp [bkM, hu] at ht
  | some d => cases bk <;> cases d <;> simp [bkM, hu] at ht <;> simp [Instr.checkKey, run_underlying hu]
 exact key 9999
def Quiet (P : Program) (G : Gam) (o : Oper) (a : Act) (m : Mp) (w : World) (v : CV) : Prop :=
 ∃ rv, (execOp a.eval o).run P w = .ok (.value rv) w ∧ tr G m v = some rv
section
variable {P : Program} {G : Gam} {o : Oper} {e : Env} {m : Mp} {N : Nat} {a : Act} {w : World} {h h' : Heap} {v : CV} {call : CallF}
theorem q_move {x : Opd} (hM : opM P G o.op (.move x) = true) (hev : evOp call (.move x) e h = some (v, h')) (he : ER G m N e a) : Quiet P G o a m w v := by
 simp only [evOp] at hev
 obtain ⟨hx, _⟩ := withH_some hev
 cases hop : o.op <;> simp [opM, hop, isCallS] at hM
 all_goals exact ⟨_, by simp [execOp, hop], opd_sim he hM hx⟩
theorem q_pick {c x y : Opd} (hM : opM P G o.op (.pick c x y) = true) (hev : evOp call (.pick c x y) e h = some (v, h')) (he : ER G m N e a) : Quiet P G o a m w v := by
 simp only [evOp] at hev
 cases hop : o.op <;> simp [opM, hop, isCallS] at hM
 obtain ⟨⟨h1, h2⟩, h3⟩ := hM
 cases hc : c.ev e with
 | none => simp [hc] at hev
 | some cv =>
   cases cv <;> simp [hc] at hev
   rename_i t
   have hb := tr_bool (opd_sim he h1 hc)
   obtain ⟨hx, _⟩ := withH_some hev
   refine ⟨_, by simp [execOp, hop, hb, asBool]; rfl, ?_⟩
   cases t
   ·simpa using opd_sim he h3 hx
   ·simpa using opd_sim he h2 hx
theorem q_bin {op : BinOp} {x y : Opd} (hM : opM P G o.op (.bin op x y) = true) (hev : evOp call (.bin op x y) e h = some (v, h')) (he : ER G m N e a) : Quiet P G o a m w v := by
 simp only [evOp] at hev
 cases hop : o.op <;> simp [opM, hop, isCallS] at hM
 rename_i op' t X Y _
 obtain ⟨⟨rfl, h2⟩, h3⟩ := hM
 cases hx : x.ev e with
 | none => simp [hx] at hev
 | some xv =>
   cases hy : y.ev e with
   | none => simp [hx, hy] at hev
   | some yv =>
     simp [hx, hy] at hev
     obtain ⟨hb, _⟩ := withH_some hev
     obtain ⟨rv, g1, g2⟩ := bin_sim (P := P) hb (opd_sim he h2 hx) (opd_sim he h3 hy) t X Y w
     refine ⟨rv, ?_, g2⟩
     rw [Sem.run_bind] at g1
     simp only [execOp, hop, Sem.run_bind]
     rw [g1]; rfl
theorem q_eq {neg : Bool} {et : EqT} {x y : Opd} (hM : opM P G o.op (.eq neg et x y) = true) (hev : evOp call (.eq neg et x y) e h = some (v, h')) (he : ER G m N e a) : Quiet P G o a m w v := by
 simp only [evOp] at hev
 cases hop : o.op <;> simp [opM, hop, isCallS] at hM
 rename_i op' t X Y _
 obtain ⟨⟨⟨⟨rfl, h2⟩, h3⟩, h4⟩, h5⟩ := hM
 cases hx : x.ev e with
 | none => simp [hx] at hev
 | some xv =>
   cases hy : y.ev e with
   | none => simp [hx, hy] at hev
   | some yv =>
     simp [hx, hy] at hev
     cases hb : eqv et xv yv with
     | none => simp [hb] at hev
     | some r =>
       simp [hb] at hev
       obtain ⟨rfl, _⟩ := hev
       have g1 := eqv_sim (P := P) h4 hb (opd_sim he h2 hx) (opd_sim he h3 hy) (X := X) (Y := Y) (fun hi => by subst hi; simpa using h5) neg w
       refine ⟨_, ?_, rfl⟩
       rw [Sem.run_bind] at g1
       simp only [execOp, hop, Sem.run_bind]
       rw [g1]; rfl
theorem q_neg {x : Opd} (hM : opM P G o.op (.neg x) = true) (hev : evOp call (.neg x) e h = some (v, h')) (he : ER G m N e a) : Quiet P G o a m w v := by
 simp only [evOp] at hev
 cases hop : o.op <;> simp [opM, hop, isCallS] at hM
 rename_i op' t X
 cases op' <;> simp [opM] at hM
 cases hx : x.ev e with
 | none => simp [hx] at hev
 | some xv =>
   cases xv <;> simp [hx] at hev
   obtain ⟨rfl, _⟩ := hev
   have hb := tr_int (opd_sim he hM hx)
   exact ⟨_, by simp [execOp, hop, hb, Op.unary, Op.intArith]; rfl, by simp [tr]⟩
theorem q_not {x : Opd} (hM : opM P G o.op (.not x) = true) (hev : evOp call (.not x) e h = some (v, h')) (he : ER G m N e a) : Quiet P G o a m w v := by
 simp only [evOp] at hev
 cases hop : o.op <;> simp [opM, hop, isCallS] at hM
 rename_i op' t X
 cases op' <;> simp [opM] at hM
 cases hx : x.ev e with
 | none => simp [hx] at hev
 | some xv =>
   cases xv <;> simp [hx] at hev
   obtain ⟨rfl, _⟩ := hev
   have hb := tr_bool (opd_sim he hM hx)
   exact ⟨_, by simp [execOp, hop, hb, Op.unary]; rfl, by simp [tr]⟩
theorem q_conv {k : IntKind} {x : Opd} (hM : opM P G o.op (.conv k x) = true) (hev : evOp call (.conv k x) e h = some (v, h')) (he : ER G m N e a) : Quiet P G o a m w v := by
 simp only [evOp] at hev
 cases hop : o.op <;> simp [opM, hop, isCallS] at hM
 rename_i src dst X
 obtain ⟨⟨h1, h2⟩, h3⟩ := hM
 cases hd : P.underlying dst with
 | none => simp [hd] at h3
 | some d =>
   cases d <;> simp [hd] at h3
   subst h3
   obtain ⟨ds, hs⟩ := Option.isSome_iff_exists.1 h2
   cases hx : x.ev e with
   | none => simp [hx] at hev
   | some xv =>
     cases xv <;> simp [hx] at hev
     obtain ⟨rfl, _⟩ := hev
     have hb := tr_int (opd_sim he h1 hx)
     exact ⟨_, by simp [execOp, hop, hb, convert, run_underlying hs, run_underlying hd, Conv.intToInt]; rfl, by simp [tr]⟩
theorem q_same {x : Opd} (hM : opM P G o.op (.same x) = true) (hev : evOp call (.same x) e h = some (v, h')) (he : ER G m N e a) : Quiet P G o a m w v := by
 simp only [evOp] at hev
 cases hop : o.op <;> simp [opM, hop, isCallS] at hM
 rename_i src dst X
 obtain ⟨⟨h1, h2⟩, h3⟩ := hM
 cases hd : P.underlying dst with
 | none => simp [hd] at h3
 | some d =>
   cases d <;> simp [hd] at h3
   obtain ⟨ds, hs⟩ := Option.isSome_iff_exists.1 h2
   cases hx : x.ev e with
   | none => simp [hx] at hev
   | some xv =>
     cases xv <;> simp [hx] at hev
     obtain ⟨rfl, _⟩ := hev
     have hb := tr_str (opd_sim he h1 hx)
     exact ⟨_, by simp [execOp, hop, hb, convert, run_underlying hs, run_underlying hd]; rfl, by simp [tr]⟩
theorem q_nilck {x : Opd} (hM : opM P G o.op (.nilck x) = true) (hev : evOp call (.nilck x) e h = some (v, h')) (he : ER G m N e a) : Quiet P G o a m w v := by
 simp only [evOp] at hev
 cases hop : o.op <;> simp [opM, hop, isCallS] at hM
 cases hx : x.ev e with
 | none => simp [hx] at hev
 | some xv =>
   have ht := opd_sim he hM hx
   cases xv <;> simp [hx] at hev <;> obtain ⟨rfl, _⟩ := hev
   ·obtain ⟨L, _, hr⟩ := tr_ptr ht
    exact ⟨_, by simp [execOp, hop, hr]; rfl, by rw [← hr]; exact ht⟩
   ·obtain ⟨f, vs, _, _, hr⟩ := tr_fn ht
    exact ⟨_, by simp [execOp, hop, hr]; rfl, by rw [← hr]; exact ht⟩
   ·obtain ⟨y, _, hr⟩ := tr_ifc ht
    exact ⟨_, by simp [execOp, hop, hr]; rfl, by rw [← hr]; exact ht⟩
theorem q_fld {off : Nat} {n : Option Nat} {x : Opd} (hM : opM P G o.op (.fld off n x) = true) (hev : evOp call (.fld off n x) e h = some (v, h')) (he : ER G m N e a) : Quiet P G o a m w v := by
 simp only [evOp] at hev
 cases hop : o.op <;> simp [opM, hop, isCallS] at hM
 rename_i t X f
 obtain ⟨h1, h2⟩ := hM
 cases hu : P.underlying t with
 | none => simp [hu] at h2
 | some d =>
   cases d <;> simp [hu] at h2
   rename_i fs
   cases hf : fs[f]? with
   | none => simp [hf] at h2
   | some fd =>
     simp [hf] at h2
     obtain ⟨rfl, h3⟩ := h2
     cases hx : x.ev e with
     | none => simp [hx] at hev
     | some xv =>
       cases xv <;> simp [hx] at hev
       obtain ⟨hp, _⟩ := withH_some hev
       obtain ⟨vs, g1, g2⟩ := tr_agg (opd_sim he h1 hx)
       obtain ⟨rv, k1, k2⟩ := partOf_sim (P := P) h3 g1 hp w
       exact ⟨rv, by simp [execOp, hop, g2, Instr.field, run_underlying hu, hf, asAgg, k1], k2⟩
theorem q_fldAddr {off : Nat} {x : Opd} (hM : opM P G o.op (.fldAddr off x) = true) (hev : evOp call (.fldAddr off x) e h = some (v, h')) (he : ER G m N e a) : Quiet P G o a m w v := by
 simp only [evOp] at hev
 cases hop : o.op <;> simp [opM, hop, isCallS] at hM
 rename_i t X f
 obtain ⟨h1, h2⟩ := hM
 cases hu : P.underlying t with
 | none => simp [hu] at h2
 | some d =>
   cases d <;> simp [hu] at h2
   rename_i fs
   cases hf : fs[f]? with
   | none => simp [hf] at h2
   | some fd =>
     simp [hf] at h2
     obtain ⟨rfl, h3⟩ := h2
     cases hs : szOf P fd.type with
     | none => simp [hs] at h3
     | some s =>
       cases s <;> simp [hs] at h3
       rename_i s
       cases hx : x.ev e with
       | none => simp [hx] at hev
       | some xv =>
         cases xv <;> simp [hx] at hev
         obtain ⟨rfl, _⟩ := hev
         obtain ⟨L, g1, g2⟩ := tr_ptr (opd_sim he h1 hx)
         refine ⟨_, by simp [execOp, hop, g2, Instr.fieldAt, run_underlying hu, hf, Instr.sureAddr, fieldPlace, run_sizeOf hs, Loc.ad_add]; rfl, by simp [tr, g1]⟩
theorem q_idxAddr {esz : Nat} {x i : Opd} (hM : opM P G o.op (.idxAddr esz x i) = true) (hev : evOp call (.idxAddr esz x i) e h = some (v, h')) (he : ER G m N e a) : Quiet P G o a m w v := by
 simp only [evOp] at hev
 cases hop : o.op <;> simp [opM, hop, isCallS] at hM
 rename_i t X I
 obtain ⟨⟨h1, h2⟩, h3⟩ := hM
 cases hu : P.underlying t with
 | none => simp [hu] at h3
 | some d =>
   cases d <;> simp [hu] at h3
   rename_i el
   cases hx : x.ev e with
   | none => simp [hx] at hev
   | some xv =>
     cases xv <;> simp [hx] at hev
     cases hi : i.ev e with
     | none => simp [hi] at hev
     | some iv =>
       cases iv <;> simp [hi] at hev
       obtain ⟨hb, rfl, _⟩ := hev
       obtain ⟨L, g1, g2⟩ := tr_sl (opd_sim he h1 hx)
       have g3 := tr_int (opd_sim he h2 hi)
       refine ⟨_, by simp [execOp, hop, g2, g3, Instr.indexAt, run_underlying hu, asIntOf, hb, run_sizeOf h3, Loc.ad_add]; rfl, by simp [tr, g1]⟩
theorem q_idxArrAddr {esz len : Nat} {x i : Opd} (hM : opM P G o.op (.idxArrAddr esz len x i) = true) (hev : evOp call (.idxArrAddr esz len x i) e h = some (v, h')) (he : ER G m N e a) : Quiet P G o a m w v := by
 simp only [evOp] at hev
 cases hop : o.op <;> simp [opM, hop, isCallS] at hM
 rename_i t X I
 obtain ⟨⟨h1, h2⟩, h3⟩ := hM
 cases hu : P.underlying t with
 | none => simp [hu] at h3
 | some d =>
   cases d <;> simp [hu] at h3
   rename_i n el
   obtain ⟨rfl, h3⟩ := h3
   cases hx : x.ev e with
   | none => simp [hx] at hev
   | some xv =>
     cases xv <;> simp [hx] at hev
     cases hi : i.ev e with
     | none => simp [hi] at hev
     | some iv =>
       cases iv <;> simp [hi] at hev
       obtain ⟨hb, rfl, _⟩ := hev
       obtain ⟨L, g1, g2⟩ := tr_ptr (opd_sim he h1 hx)
       have g3 := tr_int (opd_sim he h2 hi)
       refine ⟨_, by simp [execOp, hop, g2, g3, Instr.indexAt, run_underlying hu, asIntOf, Instr.sureAddr, hb, run_sizeOf h3, Loc.ad_add]; rfl, by simp [tr, g1]⟩
theorem q_idxStr {x i : Opd} (hM : opM P G o.op (.idxStr x i) = true) (hev : evOp call (.idxStr x i) e h = some (v, h')) (he : ER G m N e a) : Quiet P G o a m w v := by
 simp only [evOp] at hev
 cases hop : o.op <;> simp [opM, hop, isCallS] at hM
 rename_i t X I
 obtain ⟨⟨h1, h2⟩, h3⟩ := hM
 cases hu : P.underlying t with
 | none => simp [hu] at h3
 | some d =>
   cases d <;> simp [hu] at h3
   cases hx : x.ev e with
   | none => simp [hx] at hev
   | some xv =>
     cases xv <;> simp [hx] at hev
     rename_i s
     cases hi : i.ev e with
     | none => simp [hi] at hev
     | some iv =>
       cases iv <;> simp [hi] at hev
       rename_i k n
       obtain ⟨hb, hev⟩ := hev
       cases hs : s[n.toNat]? with
       | none => simp [hs] at hev
       | some b =>
         simp [hs] at hev
         obtain ⟨rfl, _⟩ := hev
         have g2 := tr_str (opd_sim he h1 hx)
         have g3 := tr_int (opd_sim he h2 hi)
         have g4 : (⟨s.toArray⟩ : ByteArray)[n.toNat]? = some b := by rw [bytes_get]; exact hs
         refine ⟨_, by simp [execOp, hop, g2, g3, Instr.index, run_underlying hu, asIntOf, hb, g4]; rfl, by simp [tr]⟩
theorem q_idxArr {esz len : Nat} {n : Option Nat} {x i : Opd} (hM : opM P G o.op (.idxArr esz len n x i) = true) (hev : evOp call (.idxArr esz len n x i) e h = some (v, h')) (he : ER G m N e a) : Quiet P G o a m w v := by
 simp only [evOp] at hev
 cases hop : o.op <;> simp [opM, hop, isCallS] at hM
 rename_i t X I
 obtain ⟨⟨h1, h2⟩, h3⟩ := hM
 cases hu : P.underlying t with
 | none => simp [hu] at h3
 | some d =>
   cases d <;> simp [hu] at h3
   rename_i k el
   obtain ⟨⟨rfl, h3⟩, h4⟩ := h3
   cases hx : x.ev e with
   | none => simp [hx] at hev
   | some xv =>
     cases xv <;> simp [hx] at hev
     cases hi : i.ev e with
     | none => simp [hi] at hev
     | some iv =>
       cases iv <;> simp [hi] at hev
       obtain ⟨hb, hev⟩ := hev
       obtain ⟨hp, _⟩ := withH_some hev
       obtain ⟨vs, g1, g2⟩ := tr_agg (opd_sim he h1 hx)
       have g3 := tr_int (opd_sim he h2 hi)
       obtain ⟨rv, k1, k2⟩ := partOf_sim (P := P) h4 g1 hp w
       exact ⟨rv, by simp [execOp, hop, g2, g3, Instr.index, run_underlying hu, asIntOf, hb, run_sizeOf h3, k1], k2⟩
theorem q_build {z : List CV} {ps : List (Nat × Nat × Opd)} (hM : opM P G o.op (.build z ps) = true) (hev : evOp call (.build z ps) e h = some (v, h')) (he : ER G m N e a) : Quiet P G o a m w v := by
 simp only [evOp] at hev
 cases hop : o.op <;> simp [opM, hop, isCallS] at hM
 rename_i t qs
 obtain ⟨hz, h2⟩ := hM
 cases hq : evParts e ps with
 | none => simp [hq] at hev
 | some vs =>
   cases hf : fillC z vs with
   | none => simp [hq, hf] at hev
   | some cs =>
     simp [hq, hf] at hev
     obtain ⟨rfl, _⟩ := hev
     obtain ⟨zv, Z, g1, ⟨inf, gi, gz⟩, g2, g3⟩ := zeroL_run (m := m) hz w
     cases hu : P.underlying t with
     | none => simp [hu] at h2
     | some d =>
       cases d <;> simp [hu] at h2
       ·rename_i k el
        cases hs : szOf P el with
        | none => simp [hs] at h2
        | some s =>
          simp [hs] at h2
          obtain ⟨C', k1, k2⟩ := fill_sim he (fun i => some (i * s, s)) _ (fun i x hx => hx) qs.toList ps h2 vs hq z cs Z g3 hf
          refine ⟨.agg C'.toArray, ?_, by simp [tr, k2]⟩
          cases hi : P.info? el with
          | none => simp [szOf, hi] at hs
          | some ie =>
            simp [szOf, hi] at hs; subst hs
            simp only [execOp, hop, Sem.run_bind]
            rw [run_build w t _ C'.toArray]
            ·rfl
            ·simp only [Program.built, gi, hu, gz, hi, g2]
             rw [← k1]; congr 1; simp
       ·rename_i fs
        obtain ⟨hall, h2⟩ := h2
        obtain ⟨C', k1, k2⟩ := fill_sim he (fieldPl P fs) _ (fun i x hx => hx) qs.toList ps h2 vs hq z cs Z g3 hf
        refine ⟨.agg C'.toArray, ?_, by simp [tr, k2]⟩
        simp only [execOp, hop, Sem.run_bind]
        have hplaces : ∀ l : List Field, (∀ f ∈ l, (szOf P f.type).isSome = true) → ∃ pl, l.mapM (fun f => (P.info? f.type).map fun i => (f.offset, i.size)) = some pl ∧ pl.length = l.length ∧ ∀ (i : Nat) (f : Field), l[i]? = some f → ∀ s, szOf P f.type = some s → pl[i]? = some (f.offset, s) := by
         intro l
         induction l with
         | nil => intro _; exact ⟨[], rfl, rfl, by simp⟩
         | cons f l ih =>
           intro hl
           obtain ⟨pl, q1, q2, q3⟩ := ih fun x hx => hl x (List.mem_cons_of_mem _ hx)
           obtain ⟨s, hs⟩ := Option.isSome_iff_exists.1 (hl f (List.mem_cons_self ..))
           cases hi : P.info? f.type with
           | none => simp [szOf, hi] at hs
           | some inf =>
             have hs' : inf.size = s := by simpa [szOf, hi] using hs
             refine ⟨(f.offset, s) :: pl, by simp [List.mapM_cons, hi, q1, hs'], by simp [q2], ?_⟩
             intro i f' hf' s' hs''
             cases i with
             | zero => simp at hf'; subst hf'; rw [hs] at hs''; cases hs''; rfl
             | succ i => simpa using q3 i f' (by simpa using hf') s' hs''
        obtain ⟨pl, q1, q2, q3⟩ := hplaces fs.toList (fun f hf => by
         obtain ⟨i, hi, rfl⟩ := List.getElem_of_mem hf
         simpa using hall i (by simpa using hi))
        have hfe : (fun i => (pl.toArray)[i]?) = fieldPl P fs := by
         funext i
         simp only [fieldPl]
         cases hfi : fs[i]? with
         | none =>
           have : fs.toList.length ≤ i := by simpa using hfi
           simp; omega
         | some f =>
           have hmem : (szOf P f.type).isSome = true := by
            obtain ⟨hlt, rfl⟩ := Array.getElem?_eq_some_iff.1 hfi
            exact hall i hlt
           obtain ⟨s, hs⟩ := Option.isSome_iff_exists.1 hmem
           simp [hs]
           exact q3 i f (by simpa using hfi) s hs
        rw [run_build w t _ C'.toArray]
        ·rfl
        ·simp only [Program.built, gi, hu, gz, q1, g2]
         rw [← k1, ← hfe]; congr 1; simp
theorem bytes_all (s : List UInt8) : (⟨s.toArray⟩ : ByteArray).extract 0 s.length = ⟨s.toArray⟩ := by rw [bytes_extract]; simp
theorem q_slStr {x : Opd} {lo hi : Option Opd} (hM : opM P G o.op (.slStr x lo hi) = true) (hev : evOp call (.slStr x lo hi) e h = some (v, h')) (he : ER G m N e a) : Quiet P G o a m w v := by
 simp only [evOp] at hev
 cases hop : o.op <;> simp [opM, hop, isCallS] at hM
 rename_i t X LO HI MX
 cases MX <;> simp [opM] at hM
 obtain ⟨⟨⟨h1, h2⟩, h3⟩, h4⟩ := hM
 cases hu : P.underlying t with
 | none => simp [hu] at h4
 | some d =>
   cases d <;> simp [hu] at h4
   cases hx : x.ev e with
   | none => simp [hx] at hev
   | some xv =>
     cases xv <;> simp [hx] at hev
     rename_i s
     cases hl : optEv e lo with
     | none => simp [hl] at hev
     | some lv =>
       cases hh : optEv e hi with
       | none => simp [hl, hh] at hev
       | some hv =>
         simp [hl, hh] at hev
         obtain ⟨hp, _⟩ := withH_some hev
         simp only [slStr] at hp
         cases hb1 : bound hv s.length s.length with
         | none => simp [hb1] at hp
         | some H =>
           cases hb2 : bound lv 0 H with
           | none => simp [hb1, hb2] at hp
           | some L =>
             simp [hb1, hb2] at hp; subst hp
             have g2 := tr_str (opd_sim he h1 hx)
             refine ⟨.string ((⟨s.toArray⟩ : ByteArray).extract L H), ?_, by rw [bytes_extract]; rfl⟩
             have c1 := bound_sim he h3 hh hb1
             have c2 := bound_sim he h2 hl hb2
             rcases c1 with ⟨rfl, rfl⟩ | ⟨hx', hk, hn, rfl, he1, hp1, hp2, rfl⟩ <;> rcases c2 with ⟨rfl, rfl⟩ | ⟨lx, lk, ln, rfl, he2, hq1, hq2, rfl⟩
             ·simp [execOp, hop, g2, Instr.sliceAt, Instr.slice, run_underlying hu, Instr.sliceBounds, bytes_size, bytes_all]
             ·simp [execOp, hop, g2, Instr.sliceAt, Instr.slice, run_underlying hu, Instr.sliceBounds, bytes_size, he2, run_sliceBound w lk ln s.length _ hq1 hq2]
             ·simp [execOp, hop, g2, Instr.sliceAt, Instr.slice, run_underlying hu, Instr.sliceBounds, bytes_size, he1, run_sliceBound w hk hn s.length _ hp1 hp2]
             ·simp [execOp, hop, g2, Instr.sliceAt, Instr.slice, run_underlying hu, Instr.sliceBounds, bytes_size, he1, he2, run_sliceBound w hk hn s.length _ hp1 hp2, run_sliceBound w lk ln hn.toNat _ hq1 hq2]
theorem q_mx {xs : List Opd} (hM : opM P G o.op (.mx xs) = true) (hev : evOp call (.mx xs) e h = some (v, h')) (he : ER G m N e a) : Quiet P G o a m w v := by
 simp only [evOp] at hev
 cases hop : o.op <;> simp [opM, hop, isCallS] at hM
 rename_i c
 obtain ⟨callee, args, ats⟩ := c
 cases callee <;> simp [callM] at hM
 rename_i b
 cases b <;> simp [builtinM] at hM
 cases hx : evs e xs with
 | none => simp [hx] at hev
 | some vs =>
   simp [hx] at hev
   obtain ⟨hp, _⟩ := withH_some hev
   have g1 := opds_sim he hM hx
   cases vs with
   | nil => simp [mxL] at hp
   | cons c vs =>
     obtain ⟨y, ys, hy, hr, hyl⟩ := trL_cons g1
     cases c <;> simp [mxL] at hp
     obtain rfl := tr_int hy
     obtain ⟨rv, k1, k2⟩ := mxR_sim (P := P) w vs _ v ys hp hr
     refine ⟨rv, ?_, k2⟩
     simp [execOp, hop, resolve, invoke, builtin, Builtin.max_, hyl, k1]
theorem q_mn {xs : List Opd} (hM : opM P G o.op (.mn xs) = true) (hev : evOp call (.mn xs) e h = some (v, h')) (he : ER G m N e a) : Quiet P G o a m w v := by
 simp only [evOp] at hev
 cases hop : o.op <;> simp [opM, hop, isCallS] at hM
 rename_i c
 obtain ⟨callee, args, ats⟩ := c
 cases callee <;> simp [callM] at hM
 rename_i b
 cases b <;> simp [builtinM] at hM
 cases hx : evs e xs with
 | none => simp [hx] at hev
 | some vs =>
   simp [hx] at hev
   obtain ⟨hp, _⟩ := withH_some hev
   have g1 := opds_sim he hM hx
   cases vs with
   | nil => simp [mnL] at hp
   | cons c vs =>
     obtain ⟨y, ys, hy, hr, hyl⟩ := trL_cons g1
     cases c <;> simp [mnL] at hp
     obtain rfl := tr_int hy
     obtain ⟨rv, k1, k2⟩ := mnR_sim (P := P) w vs _ v ys hp hr
     refine ⟨rv, ?_, k2⟩
     simp [execOp, hop, resolve, invoke, builtin, Builtin.min_, hyl, k1]
theorem q_mkfn {f : Nat} {xs : List Opd} (hM : opM P G o.op (.mkfn f xs) = true) (hev : evOp call (.mkfn f xs) e h = some (v, h')) (he : ER G m N e a) : Quiet P G o a m w v := by
 simp only [evOp] at hev
 cases hop : o.op <;> simp [opM, hop, isCallS] at hM
 rename_i fn first caps
 cases fn <;> simp [opM] at hM
 obtain ⟨⟨h1, h2⟩, h3⟩ := hM
 cases hx : evs e xs with
 | none => simp [hx] at hev
 | some vs =>
   simp [hx] at hev
   obtain ⟨rfl, _⟩ := hev
   have g1 := opds_sim he h3 hx
   subst h2
   refine ⟨_, by simp [execOp, hop, Instr.makeFunc]; rfl, ?_⟩
   have : (List.map a.eval caps.toList).toArray = Array.map a.eval caps := by rw [← Array.toList_inj]; simp
   simp [tr, h1, g1, this]
theorem q_ext {i : Nat} {x : Opd} (hM : opM P G o.op (.ext i x) = true) (hev : evOp call (.ext i x) e h = some (v, h')) (he : ER G m N e a) : Quiet P G o a m w v := by
 simp only [evOp] at hev
 cases hop : o.op <;> simp [opM, hop, isCallS] at hM
 obtain ⟨rfl, h2⟩ := hM
 cases hx : x.ev e with
 | none => simp [hx] at hev
 | some xv =>
   cases xv <;> simp [hx] at hev
   obtain ⟨hp, _⟩ := withH_some hev
   obtain ⟨vs, g1, g2⟩ := tr_tup (opd_sim he h2 hx)
   obtain ⟨rv, k1, k2⟩ := trL_get g1 _ v hp
   exact ⟨rv, by simp [execOp, hop, g2, Instr.extract, k2], k1⟩
theorem q_mkifc {t : Nat} {x : Opd} (hM : opM P G o.op (.mkifc t x) = true) (hev : evOp call (.mkifc t x) e h = some (v, h')) (he : ER G m N e a) : Quiet P G o a m w v := by
 simp only [evOp] at hev
 cases hop : o.op <;> simp [opM, hop, isCallS] at hM
 rename_i T X
 obtain ⟨⟨rfl, h2⟩, h3⟩ := hM
 cases hx : x.ev e with
 | none => simp [hx] at hev
 | some xv =>
   simp [hx] at hev
   obtain ⟨rfl, _⟩ := hev
   have g1 := opd_sim he h2 hx
   refine ⟨.iface (G.T t) (a.eval X), ?_, by simp [tr, g1]⟩
   cases hu : P.underlying (G.T t) with
   | none => simp [hu] at h3
   | some d => cases d <;> simp [hu] at h3 <;> simp [execOp, hop, Instr.makeInterface, run_underlying hu]
theorem q_tas {t : Nat} {x : Opd} (hM : opM P G o.op (.tas t x) = true) (hev : evOp call (.tas t x) e h = some (v, h')) (he : ER G m N e a) : Quiet P G o a m w v := by
 simp only [evOp] at hev
 cases hop : o.op <;> simp [opM, hop, isCallS] at hM
 rename_i X XT T ok
 obtain ⟨⟨⟨rfl, rfl⟩, h2⟩, h3⟩ := hM
 cases hx : x.ev e with
 | none => simp [hx] at hev
 | some xv =>
   cases xv <;> simp [hx] at hev
   rename_i t' u
   obtain ⟨rfl, rfl, _⟩ := hev
   have g1 := opd_sim he h2 hx
   simp only [tr] at g1
   cases hu : tr G m u with
   | none => simp [hu] at g1
   | some rv =>
     simp [hu] at g1
     refine ⟨rv, ?_, hu⟩
     cases hd : P.underlying (G.T t') with
     | none => simp [hd] at h3
     | some d => cases d <;> simp [hd] at h3 <;> simp [execOp, hop, Instr.typeAssert, run_underlying hd, ← g1]
theorem q_capn {x : Opd} (hM : opM P G o.op (.capn x) = true) (hev : evOp call (.capn x) e h = some (v, h')) (he : ER G m N e a) : Quiet P G o a m w v := by
 simp only [evOp] at hev
 cases hop : o.op <;> simp [opM, hop, isCallS] at hM
 rename_i c
 obtain ⟨callee, args, ats⟩ := c
 cases callee <;> simp [callM] at hM
 rename_i b
 cases b <;> simp [builtinM] at hM
 obtain ⟨h1, h2⟩ := hM
 cases hx : x.ev e with
 | none => simp [hx] at hev
 | some xv =>
   have g1 := opds_sim he h1 (vs := [xv]) (by simp [evs, hx])
   obtain ⟨y, ys, hy, hr, hyl⟩ := trL_cons g1
   simp [trL] at hr; subst hr
   have hargs : args.map a.eval = #[y] := by rw [← Array.toList_inj]; simpa using hyl
   cases xv <;> simp [hx] at hev
   obtain ⟨rfl, _⟩ := hev
   obtain rfl := tr_nils hy
   cases ht : ats[0]? with
   | none => simp [ht] at h2
   | some t =>
     cases hu : P.underlying t with
     | none => simp [ht, hu] at h2
     | some d =>
       simp only [ht, hu] at h2
       cases d <;> simp at h2
       exact ⟨goInt 0, by simp [execOp, hop, resolve, invoke, builtin, hargs, Builtin.cap_, ht, run_underlying hu], rfl⟩
theorem q_stuck (hev : evOp call .stuck e h = some (v, h')) : Quiet P G o a m w v := by
 simp [evOp] at hev
theorem q_load {n : Option Nat} {x : Opd} (hM : opM P G o.op (.load n x) = true) (hev : evOp call (.load n x) e h = some (v, h')) (he : ER G m N e a) (hs : Sim G m h w) : Quiet P G o a m w v := by
 simp only [evOp] at hev
 cases hop : o.op <;> simp [opM, hop, isCallS] at hM
 rename_i t X
 obtain ⟨h1, h2⟩ := hM
 cases hx : x.ev e with
 | none => simp [hx] at hev
 | some xv =>
   cases xv <;> simp [hx] at hev
   obtain ⟨hp, _⟩ := withH_some hev
   obtain ⟨L, g1, g2⟩ := tr_ptr (opd_sim he h1 hx)
   obtain ⟨rv, k1, k2⟩ := loadAt_sim (P := P) hs g1 h2 hp
   exact ⟨rv, by simp [execOp, hop, g2, Instr.loadAt, Instr.sureAddr, k1], k2⟩
theorem q_len {k : LK} {x : Opd} (hM : opM P G o.op (.len k x) = true) (hev : evOp call (.len k x) e h = some (v, h')) (he : ER G m N e a) (hs : Sim G m h w) : Quiet P G o a m w v := by
 simp only [evOp] at hev
 cases hop : o.op <;> simp [opM, hop, isCallS] at hM
 rename_i c
 obtain ⟨callee, args, ats⟩ := c
 cases callee <;> simp [callM] at hM
 rename_i b
 cases b <;> simp [builtinM] at hM
 obtain ⟨h1, h2⟩ := hM
 cases hx : x.ev e with
 | none => simp [hx] at hev
 | some xv =>
   have g1 := opds_sim he h1 (vs := [xv]) (by simp [evs, hx])
   obtain ⟨y, ys, hy, hr, hyl⟩ := trL_cons g1
   simp [trL] at hr; subst hr
   have hargs : args.map a.eval = #[y] := by rw [← Array.toList_inj]; simpa using hyl
   cases ht : ats[0]? with
   | none => simp [lenM, ht] at h2
   | some t =>
     cases hu : P.underlying t with
     | none => simp [lenM, ht, hu] at h2
     | some d =>
       have R : ∀ (q : Value), (Builtin.len_ ats o.type #[y]).run P w = .ok q w → tr G m v = some q → Quiet P G o a m w v := fun q g k => ⟨q, by simp [execOp, hop, resolve, invoke, builtin, hargs, g], k⟩
       simp only [lenM, ht, hu] at h2
       cases k
       ·cases d <;> simp at h2
        cases xv <;> simp [hx] at hev
        obtain ⟨rfl, _⟩ := hev
        obtain rfl := tr_str hy
        exact R (goInt _) (by simp [Builtin.len_, ht, run_underlying hu, bytes_size]) rfl
       ·cases d <;> simp at h2
        cases xv <;> simp [hx] at hev
        ·obtain ⟨rfl, _⟩ := hev
         obtain ⟨L, _, rfl⟩ := tr_sl hy
         exact R (goInt _) (by simp [Builtin.len_, ht, run_underlying hu]) rfl
        ·obtain ⟨rfl, _⟩ := hev
         obtain rfl := tr_nils hy
         exact R (goInt 0) (by simp [Builtin.len_, ht, run_underlying hu]) rfl
       ·cases d <;> simp at h2
        cases xv <;> simp [hx] at hev
        ·rename_i b
         obtain ⟨L, hL, rfl⟩ := tr_mp hy
         cases hb : h[b]? with
         | none => simp [hb] at hev
         | some ob =>
           cases ob <;> simp [hb] at hev
           rename_i es clock
           obtain ⟨rfl, _⟩ := hev
           obtain ⟨ES, k1, k2, k3⟩ := hs.obj b L _ hL hb
           exact R (goInt ES.size) (by simp [Builtin.len_, ht, run_underlying hu, getObj, Sem.run, k1]) (by simp [tr, i64, goInt, k2])
        ·obtain ⟨rfl, _⟩ := hev
         obtain rfl := tr_nilm hy
         exact R (goInt 0) (by simp [Builtin.len_, ht, run_underlying hu]) rfl
       ·cases d <;> simp at h2
        cases xv <;> simp [hx] at hev
        rename_i b
        obtain ⟨L, hL, rfl⟩ := tr_ch hy
        cases hb : h[b]? with
        | none => simp [hb] at hev
        | some ob =>
          cases ob <;> simp [hb] at hev
          rename_i cp buf
          obtain ⟨rfl, _⟩ := hev
          obtain ⟨BUF, s, r, k1, k2⟩ := hs.obj b L _ hL hb
          have hl := trL_length k2
          exact R (goInt BUF.size) (by simp [Builtin.len_, ht, run_underlying hu, getObj, Sem.run, k1]) (by simp at hl; simp [tr, i64, goInt, hl])
theorem q_capc {x : Opd} (hM : opM P G o.op (.capc x) = true) (hev : evOp call (.capc x) e h = some (v, h')) (he : ER G m N e a) (hs : Sim G m h w) : Quiet P G o a m w v := by
 simp only [evOp] at hev
 cases hop : o.op <;> simp [opM, hop, isCallS] at hM
 rename_i c
 obtain ⟨callee, args, ats⟩ := c
 cases callee <;> simp [callM] at hM
 rename_i b
 cases b <;> simp [builtinM] at hM
 obtain ⟨h1, h2⟩ := hM
 cases hx : x.ev e with
 | none => simp [hx] at hev
 | some xv =>
   have g1 := opds_sim he h1 (vs := [xv]) (by simp [evs, hx])
   obtain ⟨y, ys, hy, hr, hyl⟩ := trL_cons g1
   simp [trL] at hr; subst hr
   have hargs : args.map a.eval = #[y] := by rw [← Array.toList_inj]; simpa using hyl
   cases ht : ats[0]? with
   | none => simp [ht] at h2
   | some t =>
     cases hu : P.underlying t with
     | none => simp [ht, hu] at h2
     | some d =>
       simp only [ht, hu] at h2
       cases d <;> simp at h2
       cases xv <;> simp [hx] at hev
       rename_i b
       obtain ⟨L, hL, rfl⟩ := tr_ch hy
       cases hb : h[b]? with
       | none => simp [hb] at hev
       | some ob =>
         cases ob <;> simp [hb] at hev
         rename_i cp buf
         obtain ⟨rfl, _⟩ := hev
         obtain ⟨BUF, s, r, k1, k2⟩ := hs.obj b L _ hL hb
         exact ⟨goInt cp, by simp [execOp, hop, resolve, invoke, builtin, hargs, Builtin.cap_, ht, run_underlying hu, getObj, Sem.run, k1], rfl⟩
theorem q_lookup {ok : Bool} {bk : BK} {z : CV} {x k : Opd} (hM : opM P G o.op (.lookup ok bk z x k) = true) (hev : evOp call (.lookup ok bk z x k) e h = some (v, h')) (he : ER G m N e a) (hs : Sim G m h w) : Quiet P G o a m w v := by
 simp only [evOp] at hev
 cases hop : o.op <;> simp [opM, hop, isCallS] at hM
 rename_i t X K ok'
 obtain ⟨⟨⟨rfl, h1⟩, h2⟩, h3⟩ := hM
 cases hu : P.underlying t with
 | none => simp [hu] at h3
 | some d =>
   cases d <;> simp [hu] at h3
   rename_i kt et
   obtain ⟨hbk, hz⟩ := h3
   obtain ⟨zv, z1, z2⟩ := zeroM_run (m := m) hz w
   obtain ⟨dd, hd⟩ : ∃ dd, P.underlying kt = some dd := by
    cases hk : P.underlying kt with
    | none => simp [bkM, hk] at hbk
    | some dd => exact ⟨dd, rfl⟩
   have RES : ∀ (q : CV) (rq : Value) (b : Bool), tr G m q = some rq → tr G m (if ok' = true then .tup [q, .bool b] else q) = some (if ok' = true then .tuple #[rq, .bool b] else rq) := by
    intro q rq b hq
    cases ok' <;> simp [tr, trL, hq]
   cases hx : x.ev e with
   | none => simp [hx] at hev
   | some xv =>
     cases hk : k.ev e with
     | none => cases xv <;> simp [hx, hk] at hev
     | some kv =>
       have hkr := opd_sim he h2 hk
       cases xv <;> simp [hx, hk] at hev
       ·rename_i b
        obtain ⟨L, hL, hr⟩ := tr_mp (opd_sim he h1 hx)
        cases hb : h[b]? with
        | none => simp [hb] at hev
        | some ob =>
          cases ob <;> simp [hb] at hev
          rename_i es clock
          obtain ⟨ES, k1, k2, k3⟩ := hs.obj b L _ hL hb
          cases hf : findKey bk kv es 0 with
          | none => simp [hf] at hev
          | some r =>
            have hfn := findNow_sim hbk hd hkr es ES.toList 0 r (by simpa using k2) (fun i y hy => by simpa using k3 i y hy) hf
            cases r with
            | none =>
              simp [hf] at hev
              obtain ⟨rfl, _⟩ := hev
              simp only at hfn
              refine ⟨_, ?_, RES z zv false z2⟩
              simp [execOp, hop, hr, Instr.lookup, run_underlying hu, getObj, Sem.run, k1, checkKey_sim hbk, Instr.findKey, run_underlying hd, hfn, z1]
            | some p =>
              obtain ⟨j, pv, pb⟩ := p
              simp [hf] at hev
              obtain ⟨rfl, _⟩ := hev
              simp only at hfn
              obtain ⟨_, _, y, _, g4, _, g6, _⟩ := hfn
              refine ⟨_, ?_, RES pv y.val true g4⟩
              simp [execOp, hop, hr, Instr.lookup, run_underlying hu, getObj, Sem.run, k1, checkKey_sim hbk, Instr.findKey, run_underlying hd, g6]
       ·obtain ⟨rfl, _⟩ := hev
        have hr := tr_nilm (opd_sim he h1 hx)
        have hfn := findNow_sim hbk hd hkr [] [] 0 none rfl (by simp) rfl
        simp only at hfn
        refine ⟨_, ?_, RES z zv false z2⟩
        simp [execOp, hop, hr, Instr.lookup, run_underlying hu, checkKey_sim hbk, Instr.findKey, run_underlying hd, hfn, z1]
theorem q_toStr {x : Opd} (hM : opM P G o.op (.toStr x) = true) (hev : evOp call (.toStr x) e h = some (v, h')) (he : ER G m N e a) (hs : Sim G m h w) : Quiet P G o a m w v := by
 simp only [evOp] at hev
 cases hop : o.op <;> simp [opM, hop, isCallS] at hM
 rename_i src dst X
 obtain ⟨⟨h1, h2⟩, h3⟩ := hM
 cases hd : P.underlying dst with
 | none => simp [hd] at h2
 | some d =>
   cases d <;> simp [hd] at h2
   cases hsr : P.underlying src with
   | none => simp [hsr] at h3
   | some d =>
     cases d <;> simp [hsr] at h3
     rename_i el
     have hel : P.underlying el = some (.int .u8) := by
      cases hh : P.underlying el with
      | none => simp [hh] at h3
      | some d =>
        cases d <;> simp [hh] at h3
        rename_i k
        cases k <;> simp at h3
        rfl
     cases hx : x.ev e with
     | none => simp [hx] at hev
     | some xv =>
       cases xv <;> simp [hx] at hev
       ·rename_i b oo n c
        obtain ⟨L, hL, hr⟩ := tr_sl (opd_sim he h1 hx)
        cases hc : cellsAt h b oo n with
        | none => simp [hc] at hev
        | some cs =>
          cases hb : ofBytes cs with
          | none => simp [hc, hb] at hev
          | some s =>
            simp [hc, hb] at hev
            obtain ⟨rfl, _⟩ := hev
            simp only [cellsAt] at hc
            cases hbb : h[b]? with
            | none => simp [hbb] at hc
            | some ob =>
              cases ob <;> simp [hbb] at hc
              rename_i cc st
              obtain ⟨hle, rfl⟩ := hc
              have hld : ∃ vs, (loadCells (L.ad oo) n).run P w = .ok vs.toArray w ∧ trL G m ((cc.drop oo).take n) = some vs := by
               rcases cells_sim hs hL hbb hle with rfl | ⟨C, t', fr, vs, hsp, q1, q2, q3, q4⟩
               ·exact ⟨[], by simp [loadCells, loadCellsFrom], by simp [trL]⟩
               ·have := loadCells_run (P := P) (off := L.off + oo) q1 q4
                rw [q3, ← Loc.ad_none hsp] at this
                exact ⟨vs, this, q2⟩
              obtain ⟨vs, q1, q2⟩ := hld
              obtain ⟨ns, rfl, rfl⟩ := ofBytes_sim _ s vs hb q2
              refine ⟨_, ?_, rfl⟩
              simp only [execOp, hop, Sem.run_bind, hr]
              rw [run_convert_bytes_string w src dst el _ _ _ hsr hel hd, run_bytesToString w _ _ _ ns q1, foldl_push]
              rfl
       ·obtain ⟨rfl, _⟩ := hev
        have hr := tr_nils (opd_sim he h1 hx)
        refine ⟨.string .empty, ?_, rfl⟩
        simp only [execOp, hop, Sem.run_bind, hr]
        rw [run_convert_bytes_string w src dst el _ _ _ hsr hel hd]
        rfl
theorem quiet_sim {sop : SOp} (hc : cls sop = 0 ∨ cls sop = 1) (hM : opM P G o.op sop = true) (hev : evOp call sop e h = some (v, h')) (he : ER G m N e a) (hs : Sim G m h w) : h' = h ∧ Quiet P G o a m w v := by
 have hh : h' = h := by
  rcases hc with hc | hc
  ·exact (evOp_pure hc hev).1
  ·cases sop <;> simp [cls] at hc <;> simp only [evOp] at hev
   all_goals (repeat' (first | (exact (withH_some hev).2) | (simp at hev; done) | (simp at hev; exact hev.2.symm) | (split at hev)))
 refine ⟨hh, ?_⟩
 cases sop <;> simp only [cls] at hc <;> (try (exact absurd hc (by decide)))
 ·exact q_move hM hev he
 ·exact q_pick hM hev he
 ·exact q_bin hM hev he
 ·exact q_eq hM hev he
 ·exact q_neg hM hev he
 ·exact q_not hM hev he
 ·exact q_conv hM hev he
 ·exact q_same hM hev he
 ·exact q_toStr hM hev he hs
 ·exact q_load hM hev he hs
 ·exact q_nilck hM hev he
 ·exact q_fld hM hev he
 ·exact q_fldAddr hM hev he
 ·exact q_idxAddr hM hev he
 ·exact q_idxArrAddr hM hev he
 ·exact q_idxStr hM hev he
 ·exact q_idxArr hM hev he
 ·exact q_build hM hev he
 ·exact q_slStr hM hev he
 ·exact q_len hM hev he hs
 ·exact q_mx hM hev he
 ·exact q_mn hM hev he
 ·exact q_mkfn hM hev he
 ·exact q_lookup hM hev he hs
 ·exact q_ext hM hev he
 ·exact q_mkifc hM hev he
 ·exact q_tas hM hev he
 ·exact q_capn hM hev he
 ·exact q_capc hM hev he hs
 ·exact q_stuck hev
end
theorem wrap_in (n : Int) (h0 : -9223372036854775808 ≤ n) (h1 : n ≤ 9223372036854775807) : IntKind.i64.wrap n = n := by rw [IntKind.wrap_i64]; omega
structure WGrow (w w' : World) : Prop where
 os : w'.os = w.os
 out : w'.output = w.output
 size : w.heap.size ≤ w'.heap.size
 old : ∀ r, r < w.heap.size → w'.heap[r]? = w.heap[r]?
theorem WGrow.refl (w : World) : WGrow w w := ⟨rfl, rfl, Nat.le_refl _, fun _ _ => rfl⟩
theorem WGrow.alloc (w : World) (o : Go.Obj) : WGrow w (w.alloc o) := by
 refine ⟨rfl, rfl, by simp, fun r hr => ?_⟩
 show (w.heap.push o)[r]? = _
 rw [Array.getElem?_push, if_neg (by omega)]
theorem alloc_get (w : World) (o : Go.Obj) : (w.alloc o).heap[w.heap.size]? = some o := by
 show (w.heap.push o)[w.heap.size]? = _
 simp
structure Makes (P : Program) (G : Gam) (o : Oper) (a : Act) (m : Mp) (hq : Heap) (w : World) (k : Nat) (g : List Obj) (v : CV) : Prop where
 go : ∃ m' rv w', (execOp a.eval o).run P w = .ok (.value rv) w' ∧ tr G m' v = some rv ∧ Sim G m' hq w' ∧ WGrow w w' ∧ (g = [] → m' = m) ∧ (∀ ob, g = [ob] → ∃ L, m' = m.upd k L ∧ (ownedO ob = true → w.heap.size ≤ L.blk))
theorem Sim.newObj {G : Gam} {m : Mp} {hq : Heap} {w w' : World} (s : Sim G m hq w) {k : Nat} {o : Obj} (hk : m k = none) (ho : hq[k]? = some o) {L : Loc} (hL : L.blk = w.heap.size)
  (hg : WGrow w w') (hr : ObjR G (m.upd k L) L w' o) : Sim G (m.upd k L) hq w' :=
 s.new hk ho (fun b L' e l => hg.old _ (s.blk_lt e l)) (fun _ b L' e l => by have := s.blk_lt e l; omega) hr
theorem objR_tight {G : Gam} {m : Mp} {w : World} {b : Nat} {cs : List CV} {vs : List Value} {C : Array Value} {t : TypeId} (hb : w.heap[b]? = some (.cells C t (0, 0))) (hv : trL G m cs = some vs) (hC : C.toList = vs) :
  ObjR G m ⟨b, 0, 0, none⟩ w (.arr cs .tight) := by
 refine .inr ⟨C, t, (0, 0), rfl, hb, fun i v hi => ?_, fun _ => ⟨fun _ => rfl, ?_, ?_⟩⟩
 ·obtain ⟨rv, g1, g2⟩ := trL_get hv i v hi
  refine ⟨rv, g1, ?_⟩
  rw [Nat.zero_add, ← Array.getElem?_toList, hC]; exact g2
 ·have := trL_length hv
  have : C.size = vs.length := by rw [← hC]; simp
  simp [slackCells]; omega
 ·intro j _ h; simp at h
section
variable {P : Program} {G : Gam} {o : Oper} {e : Env} {m : Mp} {N : Nat} {a : Act} {w : World} {hp hp' hq : Heap} {v : CV} {call : CallF}
theorem mk_tight {cs : List CV} {vs : List Value} {t : TypeId} {rv : Value} (s : Sim G m hq w) (ho : hq[hp.length]? = some (.arr cs .tight)) (hm : m hp.length = none) (hv : trL G m cs = some vs) (hV : ∀ m' : Mp, m' hp.length = some ⟨w.heap.size, 0, 0, none⟩ → tr G m' v = some rv)
  (hrun : (execOp a.eval o).run P w = .ok (.value rv) (w.alloc (.cells vs.toArray t))) : Makes P G o a m hq w hp.length [.arr cs .tight] v := by
 refine ⟨m.upd hp.length ⟨w.heap.size, 0, 0, none⟩, rv, _, hrun, hV _ (Mp.upd_same ..), ?_, WGrow.alloc w _, (fun h => by cases h), fun ob h => ⟨_, rfl, fun _ => Nat.le_refl _⟩⟩
 exact s.newObj hm ho rfl (WGrow.alloc w _) (objR_tight (alloc_get w _) (trL_mono G (Mp.upd_le hm) _ _ hv) (by simp))
theorem m_alloc {z : CV} (hM : opM P G o.op (.alloc z) = true) (hev : evOp call (.alloc z) e hp = some (v, hp')) (s : Sim G m hq w) :
  ∃ g, hp' = hp ++ g ∧ g.length ≤ 1 ∧ ((∀ ob, g = [ob] → hq[hp.length]? = some ob ∧ m hp.length = none) → Makes P G o a m hq w hp.length g v) := by
 simp only [evOp] at hev
 simp at hev
 obtain ⟨rfl, rfl⟩ := hev
 refine ⟨_, rfl, by simp, fun hg => ?_⟩
 obtain ⟨ho, hm⟩ := hg _ rfl
 cases hop : o.op <;> simp [opM, hop, isCallS] at hM
 rename_i t
 obtain ⟨zv, z1, z2⟩ := zeroM_run (m := m) hM w
 obtain ⟨vs, c1, c2⟩ := cells_one z2
 exact mk_tight (t := t) (rv := .pointer (some ⟨w.heap.size, 0, none⟩)) s ho hm c1 (fun m' hm' => by simp [tr, hm']) (by simp [execOp, hop, Instr.alloc, z1, newVar, newRow, c2])
theorem m_allocB {T : Nat} (hM : opM P G o.op (.allocB T) = true) (hev : evOp call (.allocB T) e hp = some (v, hp')) (s : Sim G m hq w) :
  ∃ g, hp' = hp ++ g ∧ g.length ≤ 1 ∧ ((∀ ob, g = [ob] → hq[hp.length]? = some ob ∧ m hp.length = none) → Makes P G o a m hq w hp.length g v) := by
 simp only [evOp] at hev
 simp at hev
 obtain ⟨rfl, rfl⟩ := hev
 refine ⟨_, rfl, by simp, fun hg => ?_⟩
 obtain ⟨ho, hm⟩ := hg _ rfl
 cases hop : o.op <;> simp [opM, hop, isCallS] at hM
 rename_i t
 obtain ⟨rfl, hM⟩ := hM
 obtain ⟨zv, z1, z2⟩ := zeroM_run (m := m) hM w
 obtain ⟨vs, c1, c2⟩ := cells_one z2
 have hvs : vs = [.pointer none, .slice none 0 0] := by simpa [CV.cells, trL, tr] using c1.symm
 subst hvs
 refine ⟨m.upd hp.length ⟨w.heap.size, 0, 0, none⟩, .pointer (some ⟨w.heap.size, 0, none⟩), w.alloc (.cells #[.pointer none, .slice none 0 0] (G.T T)), ?_, by simp [tr, Mp.upd_same], ?_, WGrow.alloc w _, (fun h => by cases h), fun ob h => ⟨_, rfl, fun _ => Nat.le_refl _⟩⟩
 ·simp [execOp, hop, Instr.alloc, z1, newVar, newRow, c2]
 ·exact s.newObj hm ho rfl (WGrow.alloc w _) ⟨rfl, rfl, _, _, alloc_get w _, .inl rfl, rfl⟩
theorem m_box {x : Opd} (hM : opM P G o.op (.box x) = true) (hev : evOp call (.box x) e hp = some (v, hp')) (he : ER G m N e a) (s : Sim G m hq w) :
  ∃ g, hp' = hp ++ g ∧ g.length ≤ 1 ∧ ((∀ ob, g = [ob] → hq[hp.length]? = some ob ∧ m hp.length = none) → Makes P G o a m hq w hp.length g v) := by
 simp only [evOp] at hev
 cases hx : x.ev e with
 | none => simp [hx] at hev
 | some xv =>
   simp [hx] at hev
   obtain ⟨rfl, rfl⟩ := hev
   refine ⟨_, rfl, by simp, fun hg => ?_⟩
   obtain ⟨ho, hm⟩ := hg _ rfl
   cases hop : o.op <;> simp [opM, hop, isCallS] at hM
   rename_i t X
   obtain ⟨vs, c1, c2⟩ := cells_one (opd_sim he hM hx)
   exact mk_tight (t := t) (rv := .pointer (some ⟨w.heap.size, 0, none⟩)) s ho hm c1 (fun m' hm' => by simp [tr, hm']) (by simp [execOp, hop, Instr.box, newVar, newRow, c2])
theorem m_mkmap (hM : opM P G o.op .mkmap = true) (hev : evOp call .mkmap e hp = some (v, hp')) (s : Sim G m hq w) :
  ∃ g, hp' = hp ++ g ∧ g.length ≤ 1 ∧ ((∀ ob, g = [ob] → hq[hp.length]? = some ob ∧ m hp.length = none) → Makes P G o a m hq w hp.length g v) := by
 simp only [evOp] at hev
 simp at hev
 obtain ⟨rfl, rfl⟩ := hev
 refine ⟨_, rfl, by simp, fun hg => ?_⟩
 obtain ⟨ho, hm⟩ := hg _ rfl
 cases hop : o.op <;> simp [opM, hop, isCallS] at hM
 rename_i t r
 refine ⟨m.upd hp.length ⟨w.heap.size, 0, 0, none⟩, .map (some w.heap.size), w.alloc (.map #[] 0), ?_, by simp [tr, Mp.upd_same], ?_, WGrow.alloc w _, (fun h => by cases h), fun ob h => ⟨_, rfl, fun _ => Nat.le_refl _⟩⟩
 ·cases r with
  | none => simp [execOp, hop, Instr.makeMap]
  | some r =>
    cases r <;> (try (simp at hM; done))
    rename_i cv
    cases cv <;> (try (simp at hM; done))
    cases hu : P.underlying t with
    | none => simp [hu] at hM
    | some d => cases d <;> simp [hu] at hM; simp [execOp, hop, Instr.makeMap, run_underlying hu, Act.eval, asInt, asIntOf]
 ·exact s.newObj hm ho rfl (WGrow.alloc w _) ⟨#[], alloc_get w _, rfl, fun i x hx => by simp at hx⟩
theorem m_mkch {x : Opd} (hM : opM P G o.op (.mkch x) = true) (hev : evOp call (.mkch x) e hp = some (v, hp')) (he : ER G m N e a) (s : Sim G m hq w) :
  ∃ g, hp' = hp ++ g ∧ g.length ≤ 1 ∧ ((∀ ob, g = [ob] → hq[hp.length]? = some ob ∧ m hp.length = none) → Makes P G o a m hq w hp.length g v) := by
 simp only [evOp] at hev
 cases hx : x.ev e with
 | none => simp [hx] at hev
 | some xv =>
   cases xv <;> simp [hx] at hev
   rename_i k n
   obtain ⟨⟨b1, b2⟩, rfl, rfl⟩ := hev
   refine ⟨_, rfl, by simp, fun hg => ?_⟩
   obtain ⟨ho, hm⟩ := hg _ rfl
   cases hop : o.op <;> simp [opM, hop, isCallS] at hM
   rename_i t X
   obtain ⟨h1, h2⟩ := hM
   have g1 := opd_sim he h1 hx
   simp [tr] at g1
   cases hu : P.underlying t with
   | none => simp [hu] at h2
   | some d =>
     cases d <;> simp [hu] at h2
     rename_i dir el
     cases hb : byOf P el with
     | none => simp [hb] at h2
     | some bb =>
       simp [hb] at h2
       obtain ⟨i, i1, i2⟩ := run_bytesOf hb w
       have hbig : (big : Int) = 4294967296 := rfl
       have hmul : (i.bytes : Int) * n ≤ 16 * 4294967296 := Int.mul_le_mul (by omega) (by omega) b1 (by decide)
       refine ⟨m.upd hp.length ⟨w.heap.size, 0, 0, none⟩, .chan (some w.heap.size), w.alloc (.chan n.toNat #[] false 0 0 false), ?_, by simp [tr, Mp.upd_same], ?_, WGrow.alloc w _, (fun h => by cases h), fun ob h => ⟨_, rfl, fun _ => Nat.le_refl _⟩⟩
       ·have c1 : ¬ n < 0 := by omega
        have c2 : ¬ n > 9223372036854775807 := by omega
        have c3 : ¬ (i.bytes : Int) * n > 2 ^ 48 - 112 := by
         have : (2 : Int) ^ 48 - 112 = 281474976710544 := by decide
         omega
        have hmx : IntKind.i64.max = 9223372036854775807 := by decide
        have c4 : ¬ (9223372036854775807 < n ∨ 281474976710544 < (i.bytes : Int) * n) := by rintro (h | h) <;> omega
        simp [execOp, hop, Instr.makeChan, run_underlying hu, ← g1, asInt, asIntOf, i1, hmx, c1, c4]
       ·exact s.newObj hm ho rfl (WGrow.alloc w _) ⟨#[], 0, 0, alloc_get w _, rfl⟩
theorem range_mod (Z : List Value) (n : Nat) : (Array.range (n * Z.length)).map (fun i => Z.toArray[i % Z.toArray.size]!) = (List.replicate n Z).flatten.toArray := by
 rw [← Array.toList_inj]
 simp only [Array.toList_map, Array.toList_range]
 apply List.ext_getElem?
 intro i
 by_cases hZ : Z.length = 0
 ·have : Z = [] := List.eq_nil_of_length_eq_zero hZ
  subst this; simp
 have hlen : (List.replicate n Z).flatten.length = n * Z.length := by simp
 by_cases hi : i < n * Z.length
 ·rw [List.getElem?_map, List.getElem?_range hi]
  have hmod : i % Z.length < Z.length := Nat.mod_lt _ (by omega)
  have key : ∀ (n i : Nat), i < n * Z.length → (List.replicate n Z).flatten[i]? = Z[i % Z.length]? := by
   intro n
   induction n with
   | zero => intro i h; simp at h
   | succ n ih =>
     intro i h
     rw [List.replicate_succ, List.flatten_cons]
     by_cases hlt : i < Z.length
     ·rw [List.getElem?_append_left hlt, Nat.mod_eq_of_lt hlt]
     ·rw [List.getElem?_append_right (by omega), ih _ (by rw [Nat.succ_mul] at h; omega), ← Nat.mod_eq_sub_mod (by omega)]
  simp only [List.toList_toArray, key n i hi, Option.map_some]
  simp [hmod]
 ·rw [List.getElem?_eq_none (by simp; omega), List.getElem?_eq_none (by simp; omega)]
theorem trL_replicate {z : List CV} {Z : List Value} (h : trL G m z = some Z) : ∀ n, trL G m (List.replicate n z).flatten = some (List.replicate n Z).flatten
 | 0 => by simp [trL]
 | n + 1 => by
   rw [List.replicate_succ, List.flatten_cons, List.replicate_succ, List.flatten_cons]
   exact trL_append h (trL_replicate h n)
theorem m_mksl {z : List CV} {l c : Opd} (hM : opM P G o.op (.mksl z l c) = true) (hev : evOp call (.mksl z l c) e hp = some (v, hp')) (he : ER G m N e a) (s : Sim G m hq w) :
  ∃ g, hp' = hp ++ g ∧ g.length ≤ 1 ∧ ((∀ ob, g = [ob] → hq[hp.length]? = some ob ∧ m hp.length = none) → Makes P G o a m hq w hp.length g v) := by
 simp only [evOp] at hev
 cases hl : l.ev e with
 | none => simp [hl] at hev
 | some lv =>
   cases hc : c.ev e with
   | none => simp [hl, hc] at hev
   | some cv =>
     cases lv <;> simp [hl, hc] at hev
     rename_i lk ln
     cases cv <;> (try (simp at hev; done))
     rename_i ck cn
     cases lk <;> cases ck <;> simp at hev
     obtain ⟨⟨b1, b2, b3⟩, rfl, rfl⟩ := hev
     refine ⟨_, rfl, by simp, fun hg => ?_⟩
     obtain ⟨ho, hm⟩ := hg _ rfl
     cases hop : o.op <;> simp [opM, hop, isCallS] at hM
     rename_i t X Y
     obtain ⟨⟨h1, h2⟩, h3⟩ := hM
     cases hu : P.underlying t with
     | none => simp [hu] at h3
     | some d =>
       cases d <;> simp [hu] at h3
       rename_i el
       obtain ⟨⟨⟨h4, h5⟩, h6⟩, h7⟩ := h3
       cases hb : byOf P el with
       | none => simp [hb] at h7
       | some nb =>
         simp [hb] at h7
         obtain ⟨inf, i1, i2⟩ := run_bytesOf hb w
         have e1 := tr_int (opd_sim he h1 hl)
         have e2 := tr_int (opd_sim he h2 hc)
         obtain ⟨zv, Z, z1, _, z3, z4⟩ := zeroL_run (m := m) h4 w
         have hzl : Z.length = z.length := trL_length z4
         have hbig : (big : Int) = 4294967296 := rfl
         have w1 : IntKind.i64.wrap ln = ln := wrap_in ln (by omega) (by omega)
         have w2 : IntKind.i64.wrap cn = cn := wrap_in cn (by omega) (by omega)
         have htl : ∀ n : Int, 0 ≤ n → n ≤ cn → (decide (n < 0) || decide ((nb : Int) * n > 2 ^ 48)) = false := by
          intro n q1 q2
          have : (nb : Int) * n ≤ 65536 * 4294967296 := Int.mul_le_mul (by omega) (by omega) q1 (by decide)
          simp; omega
         refine mk_tight (t := el) (vs := (List.replicate cn.toNat Z).flatten) (rv := .slice (some ⟨w.heap.size, 0, none⟩) ln.toNat cn.toNat) s ho hm (trL_replicate z4 _) (fun m' hm' => by simp [tr, hm']) ?_
         have hR : (Instr.makeSlice t (.int .i64 ln) (.int .i64 cn)).run P w = .ok (.slice (some ⟨w.heap.size, 0, none⟩) ln.toNat cn.toNat) (w.alloc (.cells (List.replicate cn.toNat Z).flatten.toArray el)) := by
          simp only [Instr.makeSlice, Sem.run_bind, run_underlying hu, Result.andThen_ok, asInt, asIntOf, Sem.run_pure, i1, w1, w2, i2, htl cn (by omega) (by omega)]
          have q1 : ¬ (ln < 0) := by omega
          have q2 : ¬ (ln > cn) := by omega
          simp only [q1, q2, decide_false, Bool.or_self, Bool.false_eq_true, if_false, Sem.run_bind, run_askRoom, Result.andThen_ok, run_sizeOf h5]
          by_cases hn : cn.toNat * z.length = 0
          ·have hc0 : cn.toNat = 0 := by rcases Nat.mul_eq_zero.1 hn with h | h; exact h; exact absurd (List.eq_nil_of_length_eq_zero h) h6
           simp [hn, hc0, newRow]
           rw [Array.range_zero']; simp
          ·rw [if_neg hn]
           simp only [Sem.run_bind, z1, Result.andThen_ok, Sem.run_pure, newRow, run_newObj, z3]
           rw [← hzl, range_mod Z cn.toNat]
           rfl
         simp [execOp, hop, e1, e2, hR]
theorem m_buildSl {len : Nat} {z : List CV} {ps : List (Nat × Nat × Opd)} (hM : opM P G o.op (.buildSl len z ps) = true) (hev : evOp call (.buildSl len z ps) e hp = some (v, hp')) (he : ER G m N e a) (s : Sim G m hq w) :
  ∃ g, hp' = hp ++ g ∧ g.length ≤ 1 ∧ ((∀ ob, g = [ob] → hq[hp.length]? = some ob ∧ m hp.length = none) → Makes P G o a m hq w hp.length g v) := by
 simp only [evOp] at hev
 cases hps : evParts e ps with
 | none => simp [hps] at hev
 | some qs =>
   cases hf : fillC z qs with
   | none => simp [hps, hf] at hev
   | some cs =>
     simp [hps, hf] at hev
     obtain ⟨rfl, rfl⟩ := hev
     refine ⟨_, rfl, by simp, fun hg => ?_⟩
     obtain ⟨ho, hm⟩ := hg _ rfl
     cases hop : o.op <;> simp [opM, hop, isCallS] at hM
     rename_i t n parts
     obtain ⟨rfl, h1⟩ := hM
     cases hu : P.underlying t with
     | none => simp [hu] at h1
     | some d =>
       cases d <;> simp [hu] at h1
       rename_i el
       cases hs : szOf P el with
       | none => simp [hs] at h1
       | some sz =>
         simp [hs] at h1
         obtain ⟨⟨h2, h3⟩, h4⟩ := h1
         have hZ : ∃ Z : List Value, trL G m z = some Z ∧ ∃ zc : Array Value, ((if n * sz = 0 then pure #[] else do pure (← zeroValue el).cells : Sem (Array Value)).run P w = .ok zc w) ∧ (Array.range (n * sz)).map (fun i => zc[i % zc.size]!) = Z.toArray := by
          rcases h3 with ⟨h3, rfl⟩ | h3
          ·refine ⟨[], by simp [trL], #[], ?_, ?_⟩
           ·rw [if_pos h3]; rfl
           ·rw [h3, Array.range_zero']; simp
          ·cases hi : P.info? el with
           | none => simp [hi] at h3
           | some inf =>
             cases hz : inf.zero with
             | none => simp [hi, hz] at h3
             | some zv =>
               simp [hi, hz] at h3
               obtain ⟨h5, h6⟩ := h3
               refine ⟨_, vML_tr z _ h6, zv.cells, ?_, ?_⟩
               ·rw [if_neg h5]; simp [zeroValue, typeInfo, hi, hz]
               ·rw [← Array.toList_inj]; simp
         obtain ⟨Z, z1, zc, z2, z3⟩ := hZ
         obtain ⟨C', k1, k2⟩ := fill_sim he (fun i => some (i * sz, sz)) _ (fun i x hx => hx) parts.toList ps h4 qs hps z cs Z z1 hf
         refine mk_tight (t := el) (vs := C') (rv := .slice (some ⟨w.heap.size, 0, none⟩) n n) s ho hm k2 (fun m' hm' => by simp [tr, hm']) ?_
         have hle : ¬ (n * sz > 2 ^ 24) := by simpa using h2
         have k1' : Instr.fill (fun i => some (i * sz, sz)) ((Array.range (n * sz)).map (fun i => zc[i % zc.size]!)) ((parts.map fun x => (x.1, a.eval x.2)).toList) = some C'.toArray := by
          rw [z3, ← k1]; congr 1; simp
         have hR : (Instr.buildSlice t n (parts.map fun x => (x.1, a.eval x.2))).run P w = .ok (.slice (some ⟨w.heap.size, 0, none⟩) n n) (w.alloc (.cells C'.toArray el)) := by
          simp only [Instr.buildSlice, Sem.run_bind, run_underlying hu, Result.andThen_ok, run_sizeOf hs, if_neg hle, Sem.run_pure]
          by_cases h0 : n * sz = 0
          ·rw [if_pos h0] at z2 ⊢
           simp only [Sem.run_pure] at z2
           cases z2
           simp only [Sem.run_bind, Sem.run_pure, Result.andThen_ok, k1', newRow, run_newObj]
           rfl
          ·rw [if_neg h0] at z2 ⊢
           simp only [Sem.run_bind] at z2 ⊢
           cases hz : (zeroValue el).run P w with
           | halt _ _ => rw [hz] at z2; cases z2
           | ok zv wz =>
             rw [hz] at z2
             simp only [Result.andThen_ok, Sem.run_pure] at z2 ⊢
             cases z2
             simp only [Sem.run_bind, Sem.run_pure, Result.andThen_ok, k1', newRow, run_newObj]
             rfl
         simp [execOp, hop, hR]
theorem m_toBytes {x : Opd} (hM : opM P G o.op (.toBytes x) = true) (hev : evOp call (.toBytes x) e hp = some (v, hp')) (he : ER G m N e a) (s : Sim G m hq w) :
  ∃ g, hp' = hp ++ g ∧ g.length ≤ 1 ∧ ((∀ ob, g = [ob] → hq[hp.length]? = some ob ∧ m hp.length = none) → Makes P G o a m hq w hp.length g v) := by
 simp only [evOp] at hev
 cases hx : x.ev e with
 | none => simp [hx] at hev
 | some xv =>
   cases xv <;> simp [hx] at hev
   rename_i str
   obtain ⟨hbig, rfl, rfl⟩ := hev
   refine ⟨_, rfl, by simp, fun hg => ?_⟩
   obtain ⟨ho, hm⟩ := hg _ rfl
   cases hop : o.op <;> simp [opM, hop, isCallS] at hM
   rename_i src dst X
   obtain ⟨⟨h1, h2⟩, h3⟩ := hM
   obtain ⟨ds, hs⟩ := Option.isSome_iff_exists.1 h2
   cases hd : P.underlying dst with
   | none => simp [hd] at h3
   | some d =>
     cases d <;> simp [hd] at h3
     rename_i el
     have hel : P.underlying el = some (.int .u8) := by
      cases hh : P.underlying el with
      | none => simp [hh] at h3
      | some d =>
        cases d <;> simp [hh] at h3
        rename_i k
        cases k <;> simp at h3
        rfl
     have hX := tr_str (opd_sim he h1 hx)
     let cap := (Question.appendCap str.length 0 el).cut (w.tape w.drawn (.appendCap str.length 0 el))
     have hcap : str.length ≤ cap := by simp only [cap, Question.cut]; omega
     let C : Array Value := str.toArray.map (fun b => Value.int .u8 b.toNat) ++ Array.replicate (cap - str.length) (.int .u8 0)
     have hCs : C.size = cap := by simp [C]; omega
     let w' : World := (w.drew.alloc (.cells C el)).freeze { block := w.heap.size, off := C.size } 1
     have hw'new : w'.heap[w.heap.size]? = some (.cells C el (C.size, C.size + 1)) := by
      have : (w.drew.alloc (.cells C el)).heap[w.heap.size]? = some (.cells C el) := alloc_get w.drew _
      simp only [w', World.freeze]
      rw [if_neg (by decide), Array.getElem?_modify, if_pos rfl, this]
      rfl
     have hw'old : ∀ r, r < w.heap.size → w'.heap[r]? = w.heap[r]? := by
      intro r hr
      simp only [w', World.freeze]
      rw [if_neg (by decide), Array.getElem?_modify, if_neg (by omega)]
      exact (WGrow.alloc w.drew _).old r hr
     have hsz' : w'.heap.size = w.heap.size + 1 := by
      simp only [w', World.freeze]
      rw [if_neg (by decide)]
      simp
     have hgrow : WGrow w w' := ⟨rfl, rfl, by omega, hw'old⟩
     have hvs : trL G m (str.map fun x => CV.int .u8 x.toNat) = some (str.map fun b => Value.int .u8 b.toNat) := by
      refine trL_mk (by simp) fun i u hu => ?_
      rw [List.getElem?_map] at hu ⊢
      cases hs : str[i]? with
      | none => simp [hs] at hu
      | some b => simp [hs] at hu; subst hu; exact ⟨_, rfl, by simp⟩
     refine ⟨m.upd hp.length ⟨w.heap.size, 0, cap - str.length, none⟩, .slice (some ⟨w.heap.size, 0, none⟩) str.length cap, w', ?_, ?_, ?_, hgrow, (fun h => by cases h), fun ob h => ⟨_, rfl, fun _ => Nat.le_refl _⟩⟩
     ·have hR : (convert src dst (.string ⟨str.toArray⟩)).run P w = .ok (.slice (some ⟨w.heap.size, 0, none⟩) str.length cap) w' := by
       simp only [convert, Sem.run_bind, run_underlying hs, run_underlying hd, Result.andThen_ok, run_underlying hel, Conv.stringToBytes, run_choose, Question.forced, Bool.false_eq_true, if_false, bytes_size, newRow, run_newObj, Sem.run_pure, markStringish]
       simp only [run_shape, Result.andThen_ok]
       have hsh : (World.shape? { w with drawn := w.drawn + 1, heap := w.heap.push (.cells C el) } w.heap.size) = some (el, C.size) := by
        simp [World.shape?]
       show (Result.andThen (Sem.run P (match World.shape? { w with drawn := w.drawn + 1, heap := w.heap.push (.cells C el) } w.heap.size with | some (_, n) => freeze { block := w.heap.size, off := n } 1 | _ => pure ()) _) _) = _
       rw [hsh]
       rfl
      simp [execOp, hop, hX, hR]
     ·simp [tr, Mp.upd_same]; omega
     ·refine s.newObj hm ho rfl hgrow (.inr ⟨C, el, _, rfl, hw'new, fun i u hu => ?_, fun _ => ⟨(fun h => by cases h), (by simp only [slackCells, List.length_map, hCs]; omega), fun j hj => by simp only [slackCells, List.length_map] at hj; simp only [hCs]; omega⟩⟩)
      obtain ⟨rv, g1, g2⟩ := trL_get hvs i u hu
      refine ⟨rv, tr_mono G (Mp.upd_le hm) _ _ g1, ?_⟩
      have hlt : i < str.length := by
       have := (List.getElem?_eq_some_iff.1 hu).1; simpa using this
      rw [Nat.zero_add, Array.getElem?_append_left (by simpa using hlt)]
      rw [← Array.getElem?_toList]
      simpa using g2
theorem m_slMax {esz : Nat} {x hi mx : Opd} {lo : Option Opd} (hM : opM P G o.op (.slMax esz x lo hi mx) = true) (hev : evOp call (.slMax esz x lo hi mx) e hp = some (v, hp')) (he : ER G m N e a) (s : Sim G m hq w) :
  ∃ g, hp' = hp ++ g ∧ g.length ≤ 1 ∧ ((∀ ob, g = [ob] → hq[hp.length]? = some ob ∧ m hp.length = none) → Makes P G o a m hq w hp.length g v) := by
 simp only [evOp] at hev
 cases hop : o.op <;> simp [opM, hop, isCallS] at hM
 rename_i t X LO HI MX
 cases MX <;> cases HI <;> (try (simp at hM; done))
 rename_i MX HI
 simp at hM
 obtain ⟨⟨⟨⟨h1, h2⟩, h3⟩, h5⟩, h4⟩ := hM
 cases hu : P.underlying t with
 | none => simp [hu] at h4
 | some d =>
   cases d <;> simp [hu] at h4
   rename_i el
   cases hx : x.ev e with
   | none => simp [hx] at hev
   | some xv =>
     cases hl : optEv e lo with
     | none => simp [hx, hl] at hev
     | some lv =>
       cases hh : hi.ev e with
       | none => simp [hx, hl, hh] at hev
       | some hv =>
         cases hm : mx.ev e with
         | none => simp [hx, hl, hh, hm] at hev
         | some mv =>
           simp [hx, hl, hh, hm] at hev
           have hX := opd_sim he h1 hx
           cases xv <;> simp [slMax] at hev
           rename_i b ob n c
           cases hb0 : bound (some mv) 0 c with
           | none => simp [hb0] at hev
           | some M =>
             cases hb1 : bound (some hv) 0 M with
             | none => simp [hb0, hb1] at hev
             | some H =>
               cases hb2 : bound lv 0 H with
               | none => simp [hb0, hb1, hb2] at hev
               | some L =>
                 simp [hb0, hb1, hb2] at hev
                 obtain ⟨rfl, rfl⟩ := hev
                 obtain ⟨Lc, hLc, hr⟩ := tr_sl hX
                 have c0 := bound_sim he (show oopdM G (some MX) (some mx) = true by simpa [oopdM] using h5) (show optEv e (some mx) = some (some mv) by simp [optEv, hm]) hb0
                 have c1 := bound_sim he (show oopdM G (some HI) (some hi) = true by simpa [oopdM] using h3) (show optEv e (some hi) = some (some hv) by simp [optEv, hh]) hb1
                 have c2 := bound_sim he h2 hl hb2
                 refine ⟨_, rfl, by simp, fun hg => ?_⟩
                 obtain ⟨ho, hmm⟩ := hg _ rfl
                 have hrun : (execOp a.eval o).run P w = .ok (.value (.slice (if M = L then some (Lc.ad ob) else some ((Lc.ad ob).add (L * esz))) (H - L) (M - L))) w := by
                  rcases c0 with ⟨h0, _⟩ | ⟨mx', mk, mn, m0, he0, hm1, hm2, rfl⟩
                  ·cases h0
                  rcases c1 with ⟨h0, _⟩ | ⟨hx', hk, hn, h0, he1, hp1, hp2, rfl⟩
                  ·cases h0
                  cases m0; cases h0
                  rcases c2 with ⟨rfl, rfl⟩ | ⟨lx, lk, ln, rfl, he2, hq1, hq2, rfl⟩
                  ·simp [execOp, hop, hr, Instr.sliceAt, Instr.slice, run_underlying hu, Instr.sliceBounds, run_sizeOf h4, he0, he1, run_sliceBound w mk mn (c + Lc.slack) _ hm1 (by omega), run_sliceBound w hk hn mn.toNat _ hp1 hp2]
                  ·simp [execOp, hop, hr, Instr.sliceAt, Instr.slice, run_underlying hu, Instr.sliceBounds, run_sizeOf h4, he0, he1, he2, run_sliceBound w mk mn (c + Lc.slack) _ hm1 (by omega), run_sliceBound w hk hn mn.toNat _ hp1 hp2, run_sliceBound w lk ln hn.toNat _ hq1 hq2]
                 let A : Addr := if M = L then Lc.ad ob else (Lc.ad ob).add (L * esz)
                 refine ⟨m.upd hp.length ⟨A.block, A.off, M - L, A.spot⟩, _, w, hrun, ?_, ?_, WGrow.refl w, (fun h => by cases h), fun ob h => ⟨_, rfl, fun hO => by cases h; simp [ownedO] at hO⟩⟩
                 ·simp only [tr, Mp.upd_same, Option.map_some]
                  have hA : Loc.ad ⟨A.block, A.off, M - L, A.spot⟩ 0 = A := by simp [Loc.ad, Addr.add]
                  rw [hA, Nat.zero_add]
                  simp only [A]
                  split <;> rfl
                 ·exact s.new hmm ho (fun _ _ _ _ => rfl) (fun hl => by simp [liveO] at hl) (.inl ⟨rfl, rfl⟩)
theorem m_slSl {esz : Nat} {x : Opd} {lo hi : Option Opd} (hM : opM P G o.op (.slSl esz x lo hi) = true) (hev : evOp call (.slSl esz x lo hi) e hp = some (v, hp')) (he : ER G m N e a) (s : Sim G m hq w) :
  ∃ g, hp' = hp ++ g ∧ g.length ≤ 1 ∧ ((∀ ob, g = [ob] → hq[hp.length]? = some ob ∧ m hp.length = none) → Makes P G o a m hq w hp.length g v) := by
 simp only [evOp] at hev
 cases hop : o.op <;> simp [opM, hop, isCallS] at hM
 rename_i t X LO HI MX
 cases MX <;> (try (simp at hM; done))
 simp at hM
 obtain ⟨⟨⟨h1, h2⟩, h3⟩, h4⟩ := hM
 cases hu : P.underlying t with
 | none => simp [hu] at h4
 | some d =>
   cases d <;> simp [hu] at h4
   rename_i el
   cases hx : x.ev e with
   | none => simp [hx] at hev
   | some xv =>
     cases hl : optEv e lo with
     | none => simp [hx, hl] at hev
     | some lv =>
       cases hh : optEv e hi with
       | none => simp [hx, hl, hh] at hev
       | some hv =>
         simp [hx, hl, hh] at hev
         have hX := opd_sim he h1 hx
         cases xv <;> simp [slSl] at hev
         ·rename_i b ob n c
          obtain ⟨hcn, hev⟩ := hev
          cases hb1 : bound hv n c with
          | none => simp [hb1] at hev
          | some H =>
            cases hb2 : bound lv 0 H with
            | none => simp [hb1, hb2] at hev
            | some L =>
              simp [hb1, hb2] at hev
              obtain ⟨Lc, hLc, hr⟩ := tr_sl hX
              have c1 := bound_sim he h3 hh hb1
              have c2 := bound_sim he h2 hl hb2
              have hLH : L ≤ H := by rcases c2 with ⟨_, rfl⟩ | ⟨_, _, _, _, _, q1, q2, rfl⟩ <;> omega
              have hrun : (execOp a.eval o).run P w = .ok (.value (.slice (if c + Lc.slack = L then some (Lc.ad ob) else some ((Lc.ad ob).add (L * esz))) (H - L) (c + Lc.slack - L))) w := by
               rcases c1 with ⟨rfl, rfl⟩ | ⟨hx', hk, hn, rfl, he1, hp1, hp2, rfl⟩ <;> rcases c2 with ⟨rfl, rfl⟩ | ⟨lx, lk, ln, rfl, he2, hq1, hq2, rfl⟩
               ·simp [execOp, hop, hr, Instr.sliceAt, Instr.slice, run_underlying hu, Instr.sliceBounds, run_sizeOf h4]
               ·simp [execOp, hop, hr, Instr.sliceAt, Instr.slice, run_underlying hu, Instr.sliceBounds, run_sizeOf h4, he2, run_sliceBound w lk ln H _ hq1 hq2]
               ·simp [execOp, hop, hr, Instr.sliceAt, Instr.slice, run_underlying hu, Instr.sliceBounds, run_sizeOf h4, he1, run_sliceBound w hk hn (c + Lc.slack) _ hp1 (by omega)]
               ·simp [execOp, hop, hr, Instr.sliceAt, Instr.slice, run_underlying hu, Instr.sliceBounds, run_sizeOf h4, he1, he2, run_sliceBound w hk hn (c + Lc.slack) _ hp1 (by omega), run_sliceBound w lk ln hn.toNat _ hq1 hq2]
              have hHc : H ≤ c := by rcases c1 with ⟨_, rfl⟩ | ⟨_, _, _, _, _, q1, q2, rfl⟩ <;> omega
              split at hev
              ·rename_i hcl
               simp at hev
               obtain ⟨rfl, rfl⟩ := hev
               refine ⟨_, rfl, by simp, fun hg => ?_⟩
               obtain ⟨ho, hm⟩ := hg _ rfl
               obtain ⟨rfl, _⟩ := hcl
               obtain rfl : H = L := by omega
               let A : Addr := if H + Lc.slack = H then Lc.ad ob else (Lc.ad ob).add (H * esz)
               refine ⟨m.upd hp.length ⟨A.block, A.off, Lc.slack, A.spot⟩, _, w, hrun, ?_, ?_, WGrow.refl w, (fun h => by cases h), fun ob h => ⟨_, rfl, fun hO => by cases h; simp [ownedO] at hO⟩⟩
               ·simp only [tr, Mp.upd_same, Option.map_some]
                have hA : Loc.ad ⟨A.block, A.off, Lc.slack, A.spot⟩ 0 = A := by simp [Loc.ad, Addr.add]
                rw [hA]
                have hz : 0 + Lc.slack = H + Lc.slack - H := by omega
                rw [hz, Nat.sub_self]
                simp only [A]
                split <;> rfl
               ·exact s.new hm ho (fun _ _ _ _ => rfl) (fun hl => by simp [liveO] at hl) (.inl ⟨rfl, rfl⟩)
              ·rename_i hcl
               simp at hev
               obtain ⟨rfl, rfl⟩ := hev
               refine ⟨[], by simp, by simp, fun _ => ?_⟩
               refine ⟨m, _, w, hrun, ?_, s, WGrow.refl w, fun _ => rfl, fun ob h => by cases h⟩
               simp only [tr, hLc, Option.map_some]
               have hsl : c + Lc.slack - L = c - L + Lc.slack := by omega
               rw [hsl]
               split
               ·rename_i hc0
                have : L = 0 := by omega
                subst this; simp
               ·simp [Loc.ad_add]
         ·cases hb1 : bound hv 0 0 with
          | none => simp [hb1] at hev
          | some H =>
            cases hb2 : bound lv 0 H with
            | none => simp [hb1, hb2] at hev
            | some L =>
              simp [hb1, hb2] at hev
              obtain ⟨rfl, rfl⟩ := hev
              refine ⟨[], by simp, by simp, fun _ => ?_⟩
              refine ⟨m, .slice none 0 0, w, ?_, rfl, s, WGrow.refl w, fun _ => rfl, fun ob h => by cases h⟩
              have hr := tr_nils hX
              have c1 := bound_sim he h3 hh hb1
              have c2 := bound_sim he h2 hl hb2
              rcases c1 with ⟨rfl, rfl⟩ | ⟨hx', hk, hn, rfl, he1, hp1, hp2, rfl⟩ <;> rcases c2 with ⟨rfl, rfl⟩ | ⟨lx, lk, ln, rfl, he2, hq1, hq2, rfl⟩
              ·simp [execOp, hop, hr, Instr.sliceAt, Instr.slice, run_underlying hu, Instr.sliceBounds, run_sizeOf h4]
              ·have : ln = 0 := by omega
               subst this
               simp [execOp, hop, hr, Instr.sliceAt, Instr.slice, run_underlying hu, Instr.sliceBounds, run_sizeOf h4, he2, run_sliceBound w lk 0 0 _ hq1 hq2]
              ·have : hn = 0 := by omega
               subst this
               simp [execOp, hop, hr, Instr.sliceAt, Instr.slice, run_underlying hu, Instr.sliceBounds, run_sizeOf h4, he1, run_sliceBound w hk 0 0 _ hp1 (by omega)]
              ·have : hn = 0 := by omega
               subst this
               have : ln = 0 := by omega
               subst this
               simp [execOp, hop, hr, Instr.sliceAt, Instr.slice, run_underlying hu, Instr.sliceBounds, run_sizeOf h4, he1, he2, run_sliceBound w hk 0 0 _ hp1 (by omega), run_sliceBound w lk 0 0 _ hq1 hq2]
end
def Heavy (P : Program) (G : Gam) (o : Oper) (a : Act) (m : Mp) (h : Heap) (w : World) (v : CV) (h' : Heap) : Prop :=
 ∃ m' nx rv w', (execOp a.eval o).run P w = .ok nx w' ∧ (nx = .value rv ∨ (nx = .skip ∧ rv = undef)) ∧ tr G m' v = some rv ∧ Sim G m' h' w' ∧ Evo m h w m' h' w'
theorem storeCells_run {P : Program} {b off : Nat} {e : TypeId} {fr : Nat × Nat} : ∀ (vs : List Value) (i : Nat) (w : World) (C : Array Value), w.heap[b]? = some (.cells C e fr) → off + i + vs.length ≤ C.size →
  (∀ j, j < vs.length → ¬ (fr.1 ≤ off + i + j ∧ off + i + j < fr.2)) → (∀ v ∈ vs, v.oneCell' = true) →
  ∃ w', (storeCells ⟨b, off, none⟩ vs i).run P w = .ok () w' ∧ w'.os = w.os ∧ w'.output = w.output ∧ w'.heap.size = w.heap.size ∧ (∀ r, r ≠ b → w'.heap[r]? = w.heap[r]?) ∧
   ∃ C', w'.heap[b]? = some (.cells C' e fr) ∧ C'.size = C.size ∧ ∀ j, C'[j]? = if off + i ≤ j ∧ j < off + i + vs.length then vs[j - (off + i)]? else C[j]?
 | [], i, w, C, hb, _, _, _ => ⟨w, rfl, rfl, rfl, rfl, fun _ _ => rfl, C, hb, rfl, fun j => by rw [if_neg (by simp only [List.length_nil]; omega)]⟩
 | v :: vs, i, w, C, hb, hle, hfr, ho => by
   simp only [List.length_cons] at hle hfr
   have hlt : off + i < C.size := by omega
   have hc : w.cell? (Addr.add ⟨b, off, none⟩ i) = some C[off + i] := by
    rw [Addr.add_lit]; simp [World.cell?, hb, hlt]
   have hf : w.frozen? (Addr.add ⟨b, off, none⟩ i) = false := by
    rw [Addr.add_lit]
    have := hfr 0 (by omega)
    simp only [World.frozen?, hb]
    simp only [Nat.add_zero] at this
    simp only [Bool.and_eq_false_iff, decide_eq_false_iff_not]
    omega
   have hs1 : (w.setCell (Addr.add ⟨b, off, none⟩ i) v).heap[b]? = some (.cells (C.setIfInBounds (off + i) v) e fr) := by
    rw [Addr.add_lit]
    simp only [World.setCell, Array.getElem?_modify, if_pos rfl, hb]
    simp
   have hs2 : ∀ r, r ≠ b → (w.setCell (Addr.add ⟨b, off, none⟩ i) v).heap[r]? = w.heap[r]? := by
    intro r hr
    rw [Addr.add_lit]
    simp only [World.setCell, Array.getElem?_modify]
    rw [if_neg (Ne.symm hr)]
   have q1 : off + (i + 1) + vs.length ≤ (C.setIfInBounds (off + i) v).size := by rw [Array.size_setIfInBounds]; omega
   have q2 : ∀ j, j < vs.length → ¬ (fr.1 ≤ off + (i + 1) + j ∧ off + (i + 1) + j < fr.2) := fun j hj => by
    have := hfr (j + 1) (by omega)
    rw [show off + (i + 1) + j = off + i + (j + 1) by omega]; exact this
   obtain ⟨w', g1, g2, g3, g4, g5, C', g6, g7, g8⟩ := storeCells_run (P := P) vs (i + 1) (w.setCell (Addr.add ⟨b, off, none⟩ i) v) (C.setIfInBounds (off + i) v) hs1 q1 q2 (fun u hu => ho u (List.mem_cons_of_mem _ hu))
   refine ⟨w', ?_, g2, g3, by rw [g4]; simp, fun r hr => (g5 r hr).trans (hs2 r hr), C', g6, by rw [g7]; simp, ?_⟩
   ·simp only [storeCells, Sem.run_bind]
    rw [run_store P w _ v .plain (ho v (List.mem_cons_self ..)), hc, hf]
    simpa using g1
   ·intro j
    rw [g8 j]
    by_cases h1 : off + (i + 1) ≤ j ∧ j < off + (i + 1) + vs.length
    ·rw [if_pos h1, if_pos (by simp only [List.length_cons]; omega)]
     rw [show j - (off + i) = (j - (off + (i + 1))) + 1 by omega]
     simp
    ·rw [if_neg h1]
     by_cases h2 : j = off + i
     ·subst h2
      rw [if_pos (by simp only [List.length_cons]; omega), Array.getElem?_setIfInBounds_self_of_lt hlt]
      simp
     ·rw [if_neg (by simp only [List.length_cons]; omega), Array.getElem?_setIfInBounds_ne (Ne.symm h2)]
theorem Evo.turn {m : Mp} {h : Heap} {w w' : World} {b : Nat} {L : Loc} {o' : Obj} (e : m b = some L) (hO : owned h b) (h1 : w'.os = w.os) (h2 : w'.output = w.output) (h3 : w'.heap.size = w.heap.size)
  (h4 : ∀ r, r ≠ L.blk → w'.heap[r]? = w.heap[r]?) : Evo m h w m (h.set b o') w' where
 mono := Mp.le_refl m
 len := by simp
 un x hx e' := ⟨e', List.getElem?_set_ne (fun hb => by subst hb; rw [e] at e'; cases e')⟩
 os := h1
 out := h2
 size := Nat.le_of_eq h3.symm
 frame r hr hn := h4 r (fun he => hn b L e hO he.symm)
 own x L' e' o1 := by
  by_cases hxb : x = b
  ·subst hxb; rw [e] at e'; cases e'; exact .inr ⟨x, L, e, hO, rfl⟩
  ·obtain ⟨ob, g1, g2⟩ := o1
   rw [List.getElem?_set_ne (Ne.symm hxb)] at g1
   exact .inr ⟨x, L', e', ⟨ob, g1, g2⟩, rfl⟩
theorem owned_arr {h : Heap} {b : Nat} {cs : List CV} {st : St} (hb : h[b]? = some (.arr cs st)) (hs : st ≠ .ro) : owned h b := ⟨_, hb, by simp [ownedO, hs]⟩
theorem storeAt_sim {P : Program} {G : Gam} {m : Mp} {h h' : Heap} {w : World} (s : Sim G m h w) {b o : Nat} {L : Loc} (e : m b = some L) {vs : List CV} {V : List Value} (hv : trL G m vs = some V) (hst : storeAt h b o vs = some h') :
  ∃ w', (storeCells (L.ad o) V).run P w = .ok () w' ∧ Sim G m h' w' ∧ Evo m h w m h' w' := by
 simp only [storeAt] at hst
 cases hb : h[b]? with
 | none => simp [hb] at hst
 | some ob =>
   cases ob <;> simp [hb] at hst
   rename_i cs st
   obtain ⟨⟨hst1, hle, hsc⟩, rfl⟩ := hst
   rcases s.obj b L _ e hb with ⟨_, h0⟩ | ⟨C, t, fr, hsp, h1, h2, h3⟩
   rotate_left
   rw [Loc.ad_none hsp]
   rotate_left
   ·exact absurd h0 hst1
   ·obtain ⟨h4, h5, h6⟩ := h3 hst1
    have hVl := trL_length hv
    obtain ⟨w', g1, g2, g3, g4, g5, C', g6, g7, g8⟩ := storeCells_run (P := P) (b := L.blk) (off := L.off + o) V 0 w C h1 (by omega)
     (fun j hj => by have := h6 (o + j) (by omega); rw [show L.off + o + 0 + j = L.off + (o + j) by omega]; exact this)
     (fun v hv' => by
      obtain ⟨i, hi, rfl⟩ := List.getElem_of_mem hv'
      obtain ⟨rv, k1, k2⟩ := trL_get hv i vs[i] (by simp)
      have : V[i]? = some V[i] := by simp
      rw [this] at k2; cases k2
      exact tr_scalar k1 (hsc _ (List.getElem_mem _)))
    refine ⟨w', g1, ?_, Evo.turn e (owned_arr hb hst1) g2 g3 g4 g5⟩
    have hO : owned h b := owned_arr hb hst1
    refine s.turn e hb (by simp [ownedO, hst1]) (fun b' L' hne e' l' => g5 _ (s.apart b b' L L' (Ne.symm hne) e e' hO l').symm) (.inr ⟨C', t, fr, hsp, g6, ?_, fun _ => ⟨h4, ?_, ?_⟩⟩)
    ·intro i u hu
     rw [g8]
     simp only [splice, List.append_assoc] at hu
     by_cases c1 : i < o
     ·rw [List.getElem?_append_left (by simp; omega), List.getElem?_take_of_lt c1] at hu
      obtain ⟨rv, k1, k2⟩ := h2 i u hu
      exact ⟨rv, k1, by rw [if_neg (by omega)]; exact k2⟩
     ·rw [List.getElem?_append_right (by simp; omega)] at hu
      have hlen : (List.take o cs).length = o := by simp; omega
      rw [hlen] at hu
      by_cases c2 : i < o + vs.length
      ·rw [List.getElem?_append_left (by omega)] at hu
       obtain ⟨rv, k1, k2⟩ := trL_get hv _ u hu
       exact ⟨rv, k1, by rw [if_pos (by omega), show L.off + i - (L.off + o + 0) = i - o by omega]; exact k2⟩
      ·rw [List.getElem?_append_right (by omega), List.getElem?_drop, show o + vs.length + (i - o - vs.length) = i by omega] at hu
       obtain ⟨rv, k1, k2⟩ := h2 i u hu
       exact ⟨rv, k1, by rw [if_neg (by omega)]; exact k2⟩
    ·have : (splice cs o vs).length = cs.length := by simp [splice]; omega
     rw [this, g7]; exact h5
    ·have : (splice cs o vs).length = cs.length := by simp [splice]; omega
     rw [this]; exact h6
section
variable {P : Program} {G : Gam} {o : Oper} {e : Env} {m : Mp} {N : Nat} {a : Act} {w : World} {h h' : Heap} {v : CV} {call : CallF}
theorem h_store {n : Option Nat} {x y : Opd} (hM : opM P G o.op (.store n x y) = true) (hev : evOp call (.store n x y) e h = some (v, h')) (he : ER G m N e a) (s : Sim G m h w) : Heavy P G o a m h w v h' := by
 simp only [evOp] at hev
 cases hop : o.op <;> simp [opM, hop, isCallS] at hM
 rename_i t X Y
 obtain ⟨⟨h1, h2⟩, h3⟩ := hM
 cases hx : x.ev e with
 | none => simp [hx] at hev
 | some xv =>
   cases hy : y.ev e with
   | none => cases xv <;> simp [hx, hy] at hev
   | some yv =>
     cases xv <;> simp [hx, hy] at hev
     rename_i b off
     obtain ⟨hk, hev⟩ := hev
     ·cases hst : storeAt h b off yv.cells with
      | none => simp [hst] at hev
      | some hh =>
        simp [hst] at hev
        obtain ⟨rfl, rfl⟩ := hev
        obtain ⟨L, g1, g2⟩ := tr_ptr (opd_sim he h1 hx)
        obtain ⟨V, c1, c2⟩ := cells_one (opd_sim he h2 hy)
        have hVl := trL_length c1
        obtain ⟨w', k1, k2, k3⟩ := storeAt_sim (P := P) s g1 c1 hst
        have hsz : szOf P t = some V.length := by
         cases n with
         | none =>
           simp at h3
           cases yv <;> simp [fits] at hk <;> simp [CV.cells] at hVl <;> rw [h3, hVl]
         | some n =>
           simp at h3
           cases yv <;> simp [fits] at hk
           simp [CV.cells] at hVl
           rw [h3, hVl, hk]
        refine ⟨m, .skip, undef, w', ?_, .inr ⟨rfl, rfl⟩, rfl, k2, k3⟩
        have hs2 : (a.eval Y).cells.size = V.length := by rw [c2]; simp
        simp [execOp, hop, g2, Instr.storeAt, Instr.sureAddr, storeVar, run_sizeOf hsz, c2, k1]
theorem spread_sim {esz k : Nat} {y : CV} {ys : List CV} (hy : spread h esz y = some (k, ys)) {ry : Value} (hr : tr G m y = some ry) (s : Sim G m h w) :
  (Builtin.lenOf ry).run P w = .ok k w ∧ ∃ vs, (Builtin.firstCells esz k ry).run P w = .ok vs.toArray w ∧ trL G m ys = some vs ∧ ys.length = k * esz := by
 cases y <;> simp only [spread] at hy <;> (try (cases hy; done))
 ·rename_i q
  simp at hy
  obtain ⟨rfl, rfl, rfl⟩ := hy
  obtain rfl := tr_str hr
  refine ⟨by simp [Builtin.lenOf, bytes_size], q.map (fun b => Value.int .u8 b.toNat), ?_, ?_, by simp⟩
  ·simp [Builtin.firstCells, bytes_all]
  ·refine trL_mk (by simp) fun i u hu => ?_
   rw [List.getElem?_map] at hu ⊢
   cases hs : q[i]? with
   | none => simp [hs] at hu
   | some b => simp [hs] at hu; subst hu; exact ⟨_, rfl, by simp⟩
 ·rename_i b off n c
  split at hy
  ·rename_i cs hcs
   simp at hy
   obtain ⟨rfl, rfl⟩ := hy
   obtain ⟨L, hL, rfl⟩ := tr_sl hr
   simp only [cellsAt] at hcs
   cases hbb : h[b]? with
   | none => simp [hbb] at hcs
   | some ob =>
     cases ob <;> simp [hbb] at hcs
     rename_i cc st
     obtain ⟨hle, rfl⟩ := hcs
     refine ⟨by simp [Builtin.lenOf], ?_⟩
     rcases cells_sim s hL hbb hle with h0 | ⟨C, t', fr, vs, hsp, q1, q2, q3, q4⟩
     ·exact ⟨[], by simp [Builtin.firstCells, h0, loadCells, loadCellsFrom], by simp [h0, trL], by simp [h0]⟩
     ·have := loadCells_run (P := P) (off := L.off + off) q1 q4
      rw [q3, ← Loc.ad_none hsp] at this
      exact ⟨vs, by simpa [Builtin.firstCells] using this, q2, by simp; omega⟩
  ·cases hy
 ·simp at hy
  obtain ⟨rfl, rfl⟩ := hy
  obtain rfl := tr_nils hr
  exact ⟨by simp [Builtin.lenOf], [], by simp [Builtin.firstCells], by simp [trL], by simp⟩
theorem growBy_le (n : Nat) : ∀ (r c : Nat), c ≤ 2 * n + 1000 → Builtin.growBy n r c ≤ 2 * n + 1000
 | 0, c, h => h
 | r + 1, c, h => by
   simp only [Builtin.growBy]
   split
   ·exact h
   ·exact growBy_le n r _ (by omega)
theorem nextcap_le (n c : Nat) (h : c < n) : Builtin.nextslicecap n c ≤ 2 * n + 1000 := by
 unfold Builtin.nextslicecap
 split
 ·omega
 ·split
  ·omega
  ·exact growBy_le n 4 c (by omega)
theorem zeroCells_size (z : Array Value) (n : Nat) : (Builtin.zeroCells z n).size = n * z.size := by simp [Builtin.zeroCells]
theorem kill_get {h : Heap} {b x : Nat} (hx : x ≠ b) : (kill h b)[x]? = h[x]? := by
 unfold kill
 split
 ·exact List.getElem?_set_ne (Ne.symm hx)
 ·rfl
theorem kill_length (h : Heap) (b : Nat) : (kill h b).length = h.length := by
 unfold kill
 split <;> simp
theorem kill_sim {b : Nat} {L : Loc} (s : Sim G m h w) (e1 : m b = some L) {cs : List CV} {st : St} (hb : h[b]? = some (.arr cs st)) (hst : st ≠ .ro) : Sim G m (kill h b) w ∧ Evo m h w m (kill h b) w := by
 unfold kill
 rw [hb]
 cases st with
 | loose z => exact ⟨s.turn e1 hb (by simp [ownedO]) (fun _ _ _ _ _ => rfl) trivial, Evo.turn e1 (owned_arr hb (by simp)) rfl rfl rfl fun _ _ => rfl⟩
 | tight => exact ⟨s, Evo.refl ..⟩
 | ro => exact absurd rfl hst
theorem push_sim {L : Loc} {ob : Obj} {w' : World} (s : Sim G m h w) (hL : L.blk = w.heap.size) (hg : WGrow w w') (hr : ObjR G (m.upd h.length L) L w' ob) :
  Sim G (m.upd h.length L) (h ++ [ob]) w' ∧ Evo m h w (m.upd h.length L) (h ++ [ob]) w' := by
 have hm : m h.length = none := by
  cases hk : m h.length with
  | none => rfl
  | some L' => exact absurd (s.dom _ _ hk) (by omega)
 refine ⟨(s.more [ob]).newObj hm (by simp) hL hg hr, ?_⟩
 refine ⟨Mp.upd_le hm, by simp, fun b hb e1 => ⟨?_, List.getElem?_append_left hb⟩, hg.os, hg.out, hg.size, fun r hr _ => hg.old r hr, ?_⟩
 ·have : b ≠ h.length := by omega
  simp [Mp.upd, this, e1]
 ·intro b L' e1 o1
  by_cases hb : b = h.length
  ·subst hb; rw [Mp.upd_same] at e1; cases e1; exact .inl (by omega)
  ·simp [Mp.upd, hb] at e1
   obtain ⟨x, g1, g2⟩ := o1
   rw [List.getElem?_append_left (s.dom b L' e1)] at g1
   exact .inr ⟨b, L', e1, ⟨x, g1, g2⟩, rfl⟩
theorem appM_facts {ts : Array TypeId} {esz : Nat} (hM : appM P ts esz = true) : ∃ t u el nb zi, ts[0]? = some t ∧ ts[1]? = some u ∧ P.underlying t = some (.slice el) ∧ ((∃ e2, P.underlying u = some (.slice e2)) ∨ (P.underlying u = some .string ∧ esz = 1)) ∧
  esz ≠ 0 ∧ szOf P el = some esz ∧ byOf P el = some nb ∧ nb ≤ 4096 ∧ P.info? el = some zi ∧ ∃ z, zi.zero = some z ∧ z.cells.size = esz := by
 unfold appM at hM
 cases ht : ts[0]? with
 | none => simp [ht] at hM
 | some t =>
   cases hu : ts[1]? with
   | none => simp [ht, hu] at hM
   | some u =>
     simp only [ht, hu] at hM
     cases hpt : P.underlying t with
     | none => simp [hpt] at hM
     | some d =>
       cases d <;> simp [hpt] at hM
       rename_i el
       cases hpu : P.underlying u with
       | none => simp [hpu] at hM
       | some d =>
         cases d <;> simp [hpu] at hM
         all_goals
          obtain ⟨⟨⟨a1, a2⟩, a3⟩, a4⟩ := hM
          cases hb : byOf P el with
          | none => simp [hb] at a3
          | some nb =>
            simp [hb] at a3
            cases hi : P.info? el with
            | none => simp [hi] at a4
            | some zi =>
              cases hz : zi.zero with
              | none => simp [hi, hz] at a4
              | some z =>
                simp [hi, hz] at a4
                refine ⟨t, u, el, nb, zi, rfl, rfl, hpt, ?_, ?_, a2, hb, a3, hi, z, hz, a4⟩
                first
                | exact .inr ⟨hpu, a1⟩
                | exact .inl ⟨_, hpu⟩
                first
                | exact a1
                | omega
theorem append_grow {t u el : TypeId} {esz nb : Nat} {zi : TypeInfo} {z : Value} {base : Option Addr} {n C k : Nat} {rx : Value} {old new : List Value} (ty : TypeId)
  (ht : P.underlying t = some (.slice el)) (hu : ∃ d, P.underlying u = some d ∧ ∀ kk, d ≠ .int kk) (hs : szOf P el = some esz) (hb : byOf P el = some nb) (hnb : nb ≤ 4096) (hi : P.info? el = some zi) (hz : zi.zero = some z) (hzs : z.cells.size = esz)
  (hl : (Builtin.lenOf rx).run P w = .ok k w) (hgrow : C < n + k) (hbig : n + k ≤ 2 * big) (ho : ∀ w' : World, w'.heap = w.heap → (Builtin.firstCells esz n (.slice base n C)).run P w' = .ok old.toArray w') (hn : ∀ w' : World, w'.heap = w.heap → (Builtin.firstCells esz k rx).run P w' = .ok new.toArray w') (hol : old.length = n * esz) (hnl : new.length = k * esz) :
  ∃ cap R, n + k ≤ cap ∧ R.size = (cap - (n + k)) * esz ∧ (Builtin.append_ #[t, u] ty #[.slice base n C, rx]).run P w = .ok (.slice (some ⟨w.heap.size, 0, none⟩) (n + k) cap) (w.drew.alloc (.cells (old.toArray ++ new.toArray ++ R) el)) := by
 obtain ⟨d, hd, hdn⟩ := hu
 obtain ⟨inf, i1, i2⟩ := run_bytesOf hb w
 let cap := (Question.appendCap (n + k) C el).cut (w.tape w.drawn (.appendCap (n + k) C el))
 have hcap : n + k ≤ cap := by simp only [cap, Question.cut]; omega
 refine ⟨cap, Builtin.zeroCells z.cells (cap - (n + k)), hcap, by rw [zeroCells_size, hzs], ?_⟩
 have hzero : (match d with | .int _ => true | _ => false) = false := by cases d <;> first | rfl | exact absurd rfl (hdn _)
 have hbb : big = 4294967296 := rfl
 have hnc := nextcap_le (n + k) C hgrow
 have hprod : Builtin.nextslicecap (n + k) C * nb ≤ 2 ^ 48 := by
  have : Builtin.nextslicecap (n + k) C * nb ≤ (2 * (2 * big) + 1000) * 4096 := Nat.mul_le_mul (by omega) hnb
  rw [hbb] at this
  omega
 have hti : ∀ w' : World, (typeInfo el).run P w' = .ok zi w' := fun w' => by simp [typeInfo, hi]
 have hzb : zi.bytes = nb := by simpa [byOf, hi] using hb
 have hzv : ∀ w' : World, (zeroValue el).run P w' = .ok z w' := fun w' => by simp [zeroValue, typeInfo, hi, hz]
 unfold Builtin.append_
 simp only [List.getElem?_toArray, List.getElem?_cons_zero, List.getElem?_cons_succ, Sem.run_bind, run_underlying ht, run_underlying hd, Result.andThen_ok, run_sizeOf hs, Sem.run_pure]
 have h1 : ¬ (((n + k : Nat) : Int) > IntKind.i64.max) := by rw [IntKind.max_i64]; omega
 have h2 : ¬ (n + k ≤ C) := by omega
 have h3 : ¬ (Builtin.nextslicecap (n + k) C * zi.bytes > 2 ^ 48) := by rw [hzb]; omega
 simp only [Bool.false_eq_true, if_false, Sem.run_bind, hl, Result.andThen_ok, h2, hti, h1, false_and, h3, run_choose, Question.forced, run_askRoom]
 have g1 := ho w.drew rfl
 have g2 := hn w.drew rfl
 simp only [World.drew_eq, g1, Result.andThen_ok, Bool.not_false, if_true, g2, hzv, newRow, Sem.run_bind, run_newObj, Sem.run_pure]
 rfl
theorem append_room {t u el : TypeId} {esz : Nat} {A : Addr} {n C k : Nat} {rx : Value} {new : List Value} {w' : World} (ty : TypeId)
  (ht : P.underlying t = some (.slice el)) (hu : ∃ d, P.underlying u = some d ∧ ∀ kk, d ≠ .int kk) (hs : szOf P el = some esz)
  (hl : (Builtin.lenOf rx).run P w = .ok k w) (hroom : n + k ≤ C) (hn : (Builtin.firstCells esz k rx).run P w = .ok new.toArray w)
  (hst : (storeCells (A.add (n * esz)) new).run P w = .ok () w') :
  (Builtin.append_ #[t, u] ty #[.slice (some A) n C, rx]).run P w = .ok (.slice (some A) (n + k) C) w' := by
 obtain ⟨d, hd, hdn⟩ := hu
 have hzero : (match d with | .int _ => true | _ => false) = false := by cases d <;> first | rfl | exact absurd rfl (hdn _)
 unfold Builtin.append_
 simp only [List.getElem?_toArray, List.getElem?_cons_zero, List.getElem?_cons_succ, Sem.run_bind, run_underlying ht, run_underlying hd, Result.andThen_ok, run_sizeOf hs, Sem.run_pure]
 simp only [Bool.false_eq_true, if_false, Sem.run_bind, hl, Result.andThen_ok, hroom, if_true, Bool.not_false, hn, hst, Sem.run_pure]
theorem append_nil {t u el : TypeId} {esz : Nat} {rx : Value} (ty : TypeId)
  (ht : P.underlying t = some (.slice el)) (hu : ∃ d, P.underlying u = some d ∧ ∀ kk, d ≠ .int kk) (hs : szOf P el = some esz)
  (hl : (Builtin.lenOf rx).run P w = .ok 0 w) (hn : ∃ new, (Builtin.firstCells esz 0 rx).run P w = .ok new w) :
  (Builtin.append_ #[t, u] ty #[.slice none 0 0, rx]).run P w = .ok (.slice none 0 0) w := by
 obtain ⟨d, hd, hdn⟩ := hu
 obtain ⟨new, hn⟩ := hn
 have hzero : (match d with | .int _ => true | _ => false) = false := by cases d <;> first | rfl | exact absurd rfl (hdn _)
 unfold Builtin.append_
 simp only [List.getElem?_toArray, List.getElem?_cons_zero, List.getElem?_cons_succ, Sem.run_bind, run_underlying ht, run_underlying hd, Result.andThen_ok, run_sizeOf hs, Sem.run_pure]
 simp only [Bool.false_eq_true, if_false, Sem.run_bind, hl, Result.andThen_ok, Nat.add_zero, Nat.le_refl, if_true, Bool.not_false, hn, Sem.run_pure]
theorem ats_two {ts : Array TypeId} {t u : TypeId} (h0 : ts[0]? = some t) (h1 : ts[1]? = some u) (ty : TypeId) (x y : Value) (w : World) : (Builtin.append_ ts ty #[x, y]).run P w = (Builtin.append_ #[t, u] ty #[x, y]).run P w := by
 unfold Builtin.append_
 rw [h0, h1]
 rfl
theorem objR_loose {b off : Nat} {cs : List CV} {vs : List Value} {C : Array Value} {t : TypeId} {fr : Nat × Nat} {slack esz : Nat} (hb : w.heap[b]? = some (.cells C t fr)) (hv : trL G m cs = some vs) (hC : ∀ (i : Nat) v, vs[i]? = some v → C[off + i]? = some v)
  (hroom : off + cs.length + slack * esz ≤ C.size) (hfr : ∀ j, j < cs.length + slack * esz → ¬ (fr.1 ≤ off + j ∧ off + j < fr.2)) : ObjR G m ⟨b, off, slack, none⟩ w (.arr cs (.loose esz)) := by
 refine .inr ⟨C, t, fr, rfl, hb, fun i v hi => ?_, fun _ => ⟨(fun h => by cases h), hroom, hfr⟩⟩
 obtain ⟨rv, g1, g2⟩ := trL_get hv i v hi
 exact ⟨rv, g1, hC i rv g2⟩
theorem over_sim {b : Nat} {L L' : Loc} {cs : List CV} {st : St} {ob : Obj} (s : Sim G m h w) (hL : m b = some L) (hb : h[b]? = some (.arr cs st)) (hro : st ≠ .ro) (hbk : L'.blk = L.blk) (hR : ObjR G (m.upd h.length L') L' w ob) :
  Sim G (m.upd h.length L') (h.set b .dead ++ [ob]) w ∧ Evo m h w (m.upd h.length L') (h.set b .dead ++ [ob]) w := by
 have s1 : Sim G m (h.set b .dead) w := s.turn hL hb (by simp [ownedO, hro]) (fun _ _ _ _ _ => rfl) trivial
 have hm : m h.length = none := by
  cases hk : m h.length with
  | none => rfl
  | some L' => exact absurd (s.dom _ _ hk) (by omega)
 have hO : owned h b := owned_arr hb hro
 have hlt := s.dom b L hL
 have hkb : (h.set b .dead)[b]? = some .dead := List.getElem?_set_self hlt
 have hget : ∀ x, x ≠ b → (h.set b .dead)[x]? = h[x]? := fun x hx => List.getElem?_set_ne (Ne.symm hx)
 have ho' : (h.set b .dead ++ [ob])[h.length]? = some ob := by
  have : h.length = (h.set b .dead).length := by simp
  rw [this]; simp
 have hliveb : ∀ b', live (h.set b .dead ++ [ob]) b' → b' ≠ h.length → b' ≠ b ∧ live h b' := by
  rintro b' ⟨ox, x1, x2⟩ hne
  have hlt' : b' < h.length := by
   have := (List.getElem?_eq_some_iff.1 x1).1
   simp at this; omega
  rw [List.getElem?_append_left (by simpa using hlt')] at x1
  by_cases hbb : b' = b
  ·subst hbb; rw [hkb] at x1; cases x1; simp [liveO] at x2
  ·exact ⟨hbb, ox, by rw [hget _ hbb] at x1; exact x1, x2⟩
 refine ⟨(s1.more [ob]).new hm ho' (fun _ _ _ _ => rfl) ?_ hR, ?_⟩
 ·intro _ b' L2 em lv
  have hne : b' ≠ h.length := fun hh => by subst hh; rw [hm] at em; cases em
  obtain ⟨x1, x2⟩ := hliveb b' lv hne
  rw [hbk]
  exact (s.apart b b' L L2 (Ne.symm x1) hL em hO x2).symm
 ·refine ⟨Mp.upd_le hm, by simp, ?_, rfl, rfl, Nat.le_refl _, fun _ _ _ => rfl, ?_⟩
  ·intro b' hb' em
   have hne : b' ≠ h.length := by omega
   have hnb : b' ≠ b := fun hh => by subst hh; rw [hL] at em; cases em
   exact ⟨by simp [Mp.upd, hne, em], by rw [List.getElem?_append_left (by simpa using hb'), hget _ hnb]⟩
  ·intro b' L2 em o2
   by_cases hne : b' = h.length
   ·subst hne; rw [Mp.upd_same] at em; cases em
    exact .inr ⟨b, L, hL, hO, hbk.symm⟩
   ·simp [Mp.upd, hne] at em
    obtain ⟨ox, x1, x2⟩ := o2
    have hlt' := s.dom b' L2 em
    rw [List.getElem?_append_left (by simpa using hlt')] at x1
    by_cases hbb : b' = b
    ·subst hbb; rw [hkb] at x1; cases x1; simp [ownedO] at x2
    ·rw [hget _ hbb] at x1
     exact .inr ⟨b', L2, em, ⟨ox, x1, x2⟩, rfl⟩
theorem h_slTail {esz : Nat} {x lo : Opd} (hM : opM P G o.op (.slTail esz x lo) = true) (hev : evOp call (.slTail esz x lo) e h = some (v, h')) (he : ER G m N e a) (s : Sim G m h w) : Heavy P G o a m h w v h' := by
 simp only [evOp] at hev
 cases hop : o.op <;> simp [opM, hop, isCallS] at hM
 rename_i t X LO HI MX
 cases MX <;> (try (simp at hM; done))
 simp at hM
 obtain ⟨⟨⟨rfl, h1⟩, h2⟩, h4⟩ := hM
 cases hu : P.underlying t with
 | none => simp [hu] at h4
 | some d =>
   cases d <;> simp [hu] at h4
   rename_i el
   cases hx : x.ev e with
   | none => simp [hx] at hev
   | some xv =>
     cases hl : lo.ev e with
     | none => simp [hx, hl] at hev
     | some lv =>
       simp only [hx, hl] at hev
       cases xv <;> simp only [slTail] at hev <;> (try (cases hev; done))
       rename_i b ob n c
       cases lv <;> simp only at hev <;> (try (cases hev; done))
       rename_i lk ln
       split at hev
       case isFalse => cases hev
       rename_i hc
       obtain ⟨hc1, hc2, hc3⟩ := hc
       have hX := opd_sim he h1 hx
       obtain ⟨Lc, hLc, hr⟩ := tr_sl hX
       have hb2 : bound (some (.int lk ln)) 0 n = some ln.toNat := by simp [bound, hc1, hc2]
       have c2 := bound_sim he h2 (o := some (.int lk ln)) (by simp [optEv, hl]) hb2
       have hrun : (execOp a.eval o).run P w = .ok (.value (.slice (if c + Lc.slack = ln.toNat then some (Lc.ad ob) else some ((Lc.ad ob).add (ln.toNat * esz))) (n - ln.toNat) (c + Lc.slack - ln.toNat))) w := by
        rcases c2 with ⟨q0, _⟩ | ⟨lx, lk', ln', q0, he2, hq1, hq2, q3⟩
        ·subst q0; simp [oopdM] at h2
        ·subst q0
         rw [q3]
         simp [execOp, hop, hr, Instr.sliceAt, Instr.slice, run_underlying hu, Instr.sliceBounds, run_sizeOf h4, he2, run_sliceBound w lk' ln' n _ hq1 hq2]
       split at hev
       ·rename_i hlc
        simp at hev
        obtain ⟨rfl, rfl⟩ := hev
        refine ⟨m, _, _, w, hrun, .inl rfl, ?_, s, Evo.refl ..⟩
        simp only [tr, hLc, Option.map_some]
        rw [if_neg (by omega), Loc.ad_add]
        have hsl : c + Lc.slack - ln.toNat = c - ln.toNat + Lc.slack := by omega
        rw [hsl]
       ·rename_i hlc
        cases hb : h[b]? with
        | none => simp [hb] at hev
        | some obj =>
          cases obj <;> simp only [hb] at hev <;> (try (cases hev; done))
          rename_i cs st
          split at hev
          case isFalse => cases hev
          rename_i hk
          obtain ⟨hro, hst, hend⟩ := hk
          simp at hev
          obtain ⟨rfl, rfl⟩ := hev
          rcases s.obj b Lc _ hLc hb with ⟨_, h0⟩ | ⟨C, t', fr, hsp, q1, q2, q3⟩
          ·exact absurd h0 hro
          obtain ⟨q4, q5, q6⟩ := q3 hro
          have hcl : ln.toNat = c := by omega
          have hnc : n = c := by omega
          rw [hcl] at hrun
          have hm : m h.length = none := by
           cases hk : m h.length with
           | none => rfl
           | some L' => exact absurd (s.dom _ _ hk) (by omega)
          have q5' : Lc.off + cs.length + Lc.slack * esz ≤ C.size ∧ ∀ j, j < Lc.slack * esz → ¬ (fr.1 ≤ Lc.off + (cs.length + j) ∧ Lc.off + (cs.length + j) < fr.2) := by
           rcases hst with rfl | rfl
           ·have := q4 rfl
            simp only [slackCells] at q5
            rw [this]
            exact ⟨by omega, fun j hj => by simp at hj⟩
           ·simp only [slackCells] at q5 q6
            exact ⟨q5, fun j hj => q6 (cs.length + j) (by omega)⟩
          let A : Addr := if c + Lc.slack = c then Lc.ad ob else (Lc.ad ob).add (c * esz)
          let L' : Loc := ⟨Lc.blk, if c + Lc.slack = c then Lc.off + ob else Lc.off + ob + c * esz, Lc.slack, none⟩
          have hR' : ObjR G (m.upd h.length L') L' w (.arr [] (.loose esz)) := by
           refine .inr ⟨C, t', fr, rfl, q1, fun i v hi => (by simp at hi), fun _ => ⟨(fun h => by cases h), ?_, ?_⟩⟩
           ·simp only [L', slackCells, List.length_nil]
            split
            ·rename_i h0
             have : Lc.slack = 0 := by omega
             rw [this]; omega
            ·omega
           ·intro j hj
            simp only [slackCells, List.length_nil, L'] at hj ⊢
            split
            ·rename_i h0
             have : Lc.slack = 0 := by omega
             rw [this] at hj; simp at hj
            ·have := q5'.2 j (by omega)
             rw [← hend] at this
             rw [show Lc.off + ob + c * esz + j = Lc.off + (ob + c * esz + j) by omega]; exact this
          obtain ⟨p1, p2⟩ := over_sim (L' := L') s hLc hb hro rfl hR'
          refine ⟨_, _, _, w, hrun, .inl rfl, ?_, p1, p2⟩
          simp only [tr, Mp.upd_same, Option.map_some]
          have hz : c + Lc.slack - c = 0 + Lc.slack := by omega
          rw [hz, hnc, Nat.sub_self]
          congr 3
          simp only [L']
          split
          ·rw [Loc.ad_none hsp, Loc.ad_none (L := ⟨Lc.blk, Lc.off + ob, Lc.slack, none⟩) rfl]; rfl
          ·rw [Loc.ad_none hsp, Loc.ad_none (L := ⟨Lc.blk, Lc.off + ob + c * esz, Lc.slack, none⟩) rfl]
           simp only [Addr.add]
           split
           ·rename_i h0; rw [h0]; rfl
           ·rfl
theorem h_append {esz : Nat} {x y : Opd} (hM : opM P G o.op (.append esz x y) = true) (hev : evOp call (.append esz x y) e h = some (v, h')) (he : ER G m N e a) (s : Sim G m h w) : Heavy P G o a m h w v h' := by
 simp only [evOp] at hev
 cases hop : o.op <;> simp [opM, hop, isCallS] at hM
 rename_i c
 obtain ⟨callee, args, ats⟩ := c
 cases callee <;> simp [callM] at hM
 rename_i b
 cases b <;> simp [builtinM] at hM
 obtain ⟨h1, h2⟩ := hM
 obtain ⟨t, u, el, nb, zi, ht0, hu1, ht, hu, hesz, hsz, hby, hnb, hinf, z, hz, hzs⟩ := appM_facts h2
 have hud : ∃ d, P.underlying u = some d ∧ ∀ kk, d ≠ .int kk := by
  rcases hu with ⟨e2, hu⟩ | ⟨hu, _⟩
  ·exact ⟨_, hu, fun _ h => by cases h⟩
  ·exact ⟨_, hu, fun _ h => by cases h⟩
 cases hx : x.ev e with
 | none => simp [hx] at hev
 | some xv =>
   cases hy : y.ev e with
   | none => simp [hx, hy] at hev
   | some yv =>
     simp only [hx, hy] at hev
     cases hsp : spread h esz yv with
     | none => simp [hsp] at hev
     | some kp =>
       obtain ⟨k, ys⟩ := kp
       simp only [hsp] at hev
       have g1 := opds_sim he h1 (vs := [xv, yv]) (by simp [evs, hx, hy])
       obtain ⟨rx, r1, hrx, g2, hyl⟩ := trL_cons g1
       obtain ⟨ry, r2, hry, g3, rfl⟩ := trL_cons g2
       simp [trL] at g3; subst g3
       have hargs : args.map a.eval = #[rx, ry] := by rw [← Array.toList_inj]; simpa using hyl
       have R : ∀ q w', (Builtin.append_ #[t, u] o.type #[rx, ry]).run P w = .ok q w' → (execOp a.eval o).run P w = .ok (.value q) w' := by
        intro q w' g
        simp [execOp, hop, resolve, invoke, builtin, hargs, ats_two ht0 hu1, g]
       obtain ⟨hlen, new, hnew, htrn, hysl⟩ := spread_sim (P := P) hsp hry s
       have hnewL : new.length = k * esz := by rw [trL_length htrn, hysl]
       have hnewAll : ∀ w' : World, w'.heap = w.heap → (Builtin.firstCells esz k ry).run P w' = .ok new.toArray w' := by
        intro w' hw'
        obtain ⟨_, new', q1, q2, _⟩ := spread_sim (P := P) hsp hry (s.world (w' := w') fun b L _ _ => by rw [hw'])
        rw [htrn] at q2; cases q2; exact q1
       simp only [appendTo] at hev
       split at hev
       ·cases hev
       rename_i hcond
       have hkbig : k ≤ big := by omega
       have hsc : ys.all CV.scalar = true := by
        cases hq : ys.all CV.scalar
        ·exact absurd (.inr hq) hcond
        ·rfl
       cases xv <;> simp at hev
       ·rename_i b ob n c
        obtain ⟨hnbig, hev⟩ := hev
        obtain ⟨L, hL, rfl⟩ := tr_sl hrx
        split at hev
        ·-- nothing is appended
         rename_i h0
         obtain ⟨rfl, hnc⟩ := h0
         simp at hev
         obtain ⟨rfl, rfl⟩ := hev
         have hnew0 : new = [] := List.eq_nil_of_length_eq_zero (by omega)
         subst hnew0
         refine ⟨m, .value (.slice (some (L.ad ob)) (n + 0) (c + L.slack)), _, w, R _ _ (append_room o.type ht hud hsz hlen (by omega) hnew (w' := w) rfl), .inl rfl, by simp [tr, hL], s, Evo.refl ..⟩
        ·split at hev
         ·-- in its own cells
          rename_i hnk
          cases hst : storeAt h b (ob + n * esz) ys with
          | none => simp [hst] at hev
          | some hh =>
            simp [hst] at hev
            obtain ⟨rfl, rfl⟩ := hev
            obtain ⟨w', k1, k2, k3⟩ := storeAt_sim (P := P) s hL htrn hst
            rw [← Loc.ad_add] at k1
            exact ⟨m, .value (.slice (some (L.ad ob)) (n + k) (c + L.slack)), _, w', R _ _ (append_room o.type ht hud hsz hlen (by omega) hnew k1), .inl rfl, by simp [tr, hL], k2, k3⟩
         ·rename_i hk0 hnk
          cases hb : h[b]? with
          | none => simp [hb] at hev
          | some obj =>
            cases obj <;> simp [hb] at hev
            rename_i cs st
            obtain ⟨⟨hro, hst, hle1, hle2⟩, rfl, rfl⟩ := hev
            obtain ⟨s1, e1⟩ := kill_sim s hL hb hro
            have hkl := kill_length h b
            have htrold : ∃ old, trL G m ((cs.drop ob).take (n * esz)) = some old ∧ old.length = n * esz ∧ ∀ w' : World, w'.heap = w.heap → (Builtin.firstCells esz n (.slice (some (L.ad ob)) n (c + L.slack))).run P w' = .ok old.toArray w' := by
             rcases cells_sim s hL hb hle1 with h0 | ⟨C, t', fr, vs, hsp, q1, q2, q3, q4⟩
             ·exact ⟨[], by simp [h0, trL], by simp [h0], fun w' _ => by simp [Builtin.firstCells, h0, loadCells, loadCellsFrom]⟩
             ·refine ⟨vs, q2, q3, fun w' hw' => ?_⟩
              have := loadCells_run (P := P) (w := w') (off := L.off + ob) (by rw [hw']; exact q1) q4
              rw [q3, ← Loc.ad_none hsp] at this
              simpa [Builtin.firstCells] using this
            obtain ⟨old, ho1, ho2, ho3⟩ := htrold
            have htrall := trL_append ho1 htrn
            by_cases hroom : n + k ≤ c + L.slack
            ·-- in the cells behind it
             have hloose : st = .loose esz := by
              rcases hst with rfl | h
              ·rcases s.obj b L _ hL hb with ⟨_, h0⟩ | ⟨C, t', fr, _, _, _, q3⟩
               ·cases h0
               ·have := (q3 (by simp)).1 rfl; omega
              ·exact h
             subst hloose
             rcases s.obj b L _ hL hb with ⟨_, h0⟩ | ⟨C, t', fr, hsp, q1, q2, q3⟩
             ·cases h0
             obtain ⟨_, q5, q6⟩ := q3 hro
             simp only [slackCells] at q5 q6
             have hm1 : (n + k) * esz ≤ (c + L.slack) * esz := Nat.mul_le_mul_right _ hroom
             rw [Nat.add_mul, Nat.add_mul] at hm1
             obtain ⟨w', k1, k2, k3, k4, k5, C', k6, k7, k8⟩ := storeCells_run (P := P) (b := L.blk) (off := L.off + (ob + n * esz)) new 0 w C q1 (by omega)
              (fun j hj => by have := q6 (ob + n * esz + j) (by omega); rw [show L.off + (ob + n * esz) + 0 + j = L.off + (ob + n * esz + j) by omega]; exact this)
              (fun v hv' => by
               obtain ⟨i, hi, rfl⟩ := List.getElem_of_mem hv'
               have hlt : i < ys.length := by have := trL_length htrn; omega
               obtain ⟨rv, g4, g5⟩ := trL_get htrn i ys[i] (by simp)
               have : new[i]? = some new[i] := by simp
               rw [this] at g5; cases g5
               exact tr_scalar g4 (by have := List.all_eq_true.1 hsc ys[i] (List.getElem_mem _); exact this))
             rw [← Loc.ad_none hsp, ← Loc.ad_add] at k1
             have hm : m h.length = none := by
              cases hk : m h.length with
              | none => rfl
              | some L' => exact absurd (s.dom _ _ hk) (by omega)
             have hO : owned h b := owned_arr hb hro
             have hbl : b ≠ h.length := by have := s.dom b L hL; omega
             have hkb : (kill h b)[b]? = some .dead := by
              unfold kill; rw [hb]
              exact List.getElem?_set_self (s.dom b L hL)
             have hsum : ((cs.drop ob).take (n * esz) ++ ys).length = n * esz + k * esz := by rw [trL_length htrall |>.symm]; simp; omega
             let L' : Loc := ⟨L.blk, L.off + ob, c + L.slack - (n + k), none⟩
             have hsl : (c + L.slack - (n + k)) * esz = c * esz + L.slack * esz - (n * esz + k * esz) := by rw [Nat.sub_mul, Nat.add_mul, Nat.add_mul]
             have hR' : ObjR G (m.upd h.length L') L' w' (.arr ((cs.drop ob).take (n * esz) ++ ys) (.loose esz)) := by
              refine objR_loose k6 (trL_mono G (Mp.upd_le hm) _ _ htrall) ?_ ?_ ?_
              ·intro i u hu'
               rw [k8 (L.off + ob + i)]
               by_cases c1 : i < n * esz
               ·rw [if_neg (by omega)]
                rw [List.getElem?_append_left (by omega)] at hu'
                rcases cells_sim s hL hb hle1 with h0 | ⟨C2, t2, fr2, vs, _, p1, p2, p3, p4⟩
                ·omega
                ·rw [q1] at p1; cases p1
                 rw [ho1] at p2; cases p2
                 exact p4 i u hu'
               ·rw [List.getElem?_append_right (by omega)] at hu'
                have hlt : i - old.length < new.length := (List.getElem?_eq_some_iff.1 hu').1
                rw [if_pos (by omega), ← hu']
                congr 1; omega
              ·rw [k7, hsum]; simp only [L', hsl]; omega
              ·intro j hj
               rw [hsum] at hj
               simp only [L', hsl] at hj
               have := q6 (ob + j) (by omega)
               show ¬ (fr.1 ≤ L.off + ob + j ∧ L.off + ob + j < fr.2)
               rw [show L.off + ob + j = L.off + (ob + j) by omega]; exact this
             refine ⟨m.upd h.length L', .value (.slice (some (L.ad ob)) (n + k) (c + L.slack)), _, w', R _ _ (append_room o.type ht hud hsz hlen hroom hnew k1), .inl rfl, ?_, ?_, ?_⟩
             ·simp only [tr, Mp.upd_same, Option.map_some, Loc.ad_none hsp, L']
              rw [Loc.ad_none rfl]
              simp; omega
             ·have hk : m h.length = none := hm
              have ho' : (kill h b ++ [Obj.arr ((cs.drop ob).take (n * esz) ++ ys) (.loose esz)])[h.length]? = some (.arr ((cs.drop ob).take (n * esz) ++ ys) (.loose esz)) := by
               rw [← hkl]; simp
              have hliveb : ∀ b', live (kill h b ++ [Obj.arr ((cs.drop ob).take (n * esz) ++ ys) (.loose esz)]) b' → b' ≠ h.length → b' ≠ b ∧ live h b' := by
               rintro b' ⟨ox, x1, x2⟩ hne
               have hlt : b' < h.length := by
                have := (List.getElem?_eq_some_iff.1 x1).1
                simp [hkl] at this; omega
               rw [List.getElem?_append_left (by omega)] at x1
               by_cases hbb : b' = b
               ·subst hbb; rw [hkb] at x1; cases x1; simp [liveO] at x2
               ·exact ⟨hbb, ox, by rw [kill_get hbb] at x1; exact x1, x2⟩
              refine (s1.more _).new hk ho' ?_ ?_ hR'
              ·intro b' L2 em lv
               have hne : b' ≠ h.length := fun hh => by subst hh; rw [hm] at em; cases em
               obtain ⟨x1, x2⟩ := hliveb b' lv hne
               exact k5 _ (s.apart b b' L L2 (Ne.symm x1) hL em hO x2).symm
              ·intro _ b' L2 em lv
               have hne : b' ≠ h.length := fun hh => by subst hh; rw [hm] at em; cases em
               obtain ⟨x1, x2⟩ := hliveb b' lv hne
               exact (s.apart b b' L L2 (Ne.symm x1) hL em hO x2).symm
             ·refine ⟨Mp.upd_le hm, by simp [hkl], ?_, k2, k3, by omega, ?_, ?_⟩
              ·intro b' hb' em
               have hne : b' ≠ h.length := by omega
               have hnb : b' ≠ b := fun hh => by subst hh; rw [hL] at em; cases em
               exact ⟨by simp [Mp.upd, hne, em], by rw [List.getElem?_append_left (by omega), kill_get hnb]⟩
              ·intro r _ hn
               exact k5 r fun hh => hn b L hL hO hh.symm
              ·intro b' L2 em o2
               by_cases hne : b' = h.length
               ·subst hne; rw [Mp.upd_same] at em; cases em
                exact .inr ⟨b, L, hL, hO, rfl⟩
               ·simp [Mp.upd, hne] at em
                obtain ⟨ox, x1, x2⟩ := o2
                have hlt := s.dom b' L2 em
                rw [List.getElem?_append_left (by omega)] at x1
                by_cases hbb : b' = b
                ·subst hbb; rw [hkb] at x1; cases x1; simp [ownedO] at x2
                ·rw [kill_get hbb] at x1
                 exact .inr ⟨b', L2, em, ⟨ox, x1, x2⟩, rfl⟩
            ·-- in a new array
             obtain ⟨cap, RR, a1, a2, a3⟩ := append_grow o.type ht hud hsz hby hnb hinf hz hzs hlen (by omega) (by omega) ho3 hnewAll ho2 hnewL
             have hgrow : WGrow w (w.drew.alloc (.cells (old.toArray ++ new.toArray ++ RR) el)) := by
              have := WGrow.alloc w.drew (.cells (old.toArray ++ new.toArray ++ RR) el)
              exact ⟨this.os, this.out, this.size, this.old⟩
             have hm : m (kill h b).length = none := by
              cases hk : m (kill h b).length with
              | none => rfl
              | some L' => exact absurd (s1.dom _ _ hk) (by omega)
             have hsum : ((cs.drop ob).take (n * esz) ++ ys).length = n * esz + k * esz := by rw [trL_length htrall |>.symm]; simp; omega
             have hsl : (cap - (n + k)) * esz = cap * esz - (n * esz + k * esz) := by rw [Nat.sub_mul, Nat.add_mul]
             have hcm : (n + k) * esz ≤ cap * esz := Nat.mul_le_mul_right _ a1
             rw [Nat.add_mul] at hcm
             have hR' : ObjR G (m.upd (kill h b).length ⟨w.heap.size, 0, cap - (n + k), none⟩) ⟨w.heap.size, 0, cap - (n + k), none⟩ (w.drew.alloc (.cells (old.toArray ++ new.toArray ++ RR) el)) (.arr ((cs.drop ob).take (n * esz) ++ ys) (.loose esz)) := by
              refine objR_loose (alloc_get w.drew _) (trL_mono G (Mp.upd_le hm) _ _ htrall) ?_ ?_ ?_
              ·intro i u hu'
               have hlt : i < (old ++ new).length := (List.getElem?_eq_some_iff.1 hu').1
               rw [Nat.zero_add, ← Array.getElem?_toList]
               simp only [Array.toList_append, List.toList_toArray]
               rw [List.getElem?_append_left hlt]; exact hu'
              ·rw [hsum]; simp [a2, ho2, hnewL, hsl]
              ·intro j _ hh; simp at hh
             obtain ⟨p1, p2⟩ := push_sim s1 rfl hgrow hR'
             rw [hkl] at p1 p2
             refine ⟨_, .value (.slice (some ⟨w.heap.size, 0, none⟩) (n + k) cap), _, _, R _ _ a3, .inl rfl, ?_, p1, e1.trans p2⟩
             simp [tr, Mp.upd_same]; omega
       ·obtain rfl := tr_nils hrx
        split at hev
        ·rename_i h0
         subst h0
         simp at hev
         obtain ⟨rfl, rfl⟩ := hev
         exact ⟨m, .value (.slice none 0 0), _, w, R _ _ (append_nil o.type ht hud hsz hlen ⟨_, hnew⟩), .inl rfl, rfl, s, Evo.refl ..⟩
        ·rename_i h0
         simp at hev
         obtain ⟨rfl, rfl⟩ := hev
         obtain ⟨cap, RR, a1, a2, a3⟩ := append_grow (old := []) (base := none) (n := 0) (C := 0) o.type ht hud hsz hby hnb hinf hz hzs hlen (by omega) (by omega) (fun w' _ => by simp [Builtin.firstCells]) hnewAll (by simp) hnewL
         have hgrow : WGrow w (w.drew.alloc (.cells (([] : List Value).toArray ++ new.toArray ++ RR) el)) := by
          have := WGrow.alloc w.drew (.cells (([] : List Value).toArray ++ new.toArray ++ RR) el)
          exact ⟨this.os, this.out, this.size, this.old⟩
         have hm : m h.length = none := by
          cases hk : m h.length with
          | none => rfl
          | some L' => exact absurd (s.dom _ _ hk) (by omega)
         have hsl : (cap - (0 + k)) * esz = cap * esz - k * esz := by rw [Nat.sub_mul, Nat.zero_add]
         have hcm : k * esz ≤ cap * esz := Nat.mul_le_mul_right _ (by omega)
         have hR' : ObjR G (m.upd h.length ⟨w.heap.size, 0, cap - (0 + k), none⟩) ⟨w.heap.size, 0, cap - (0 + k), none⟩ (w.drew.alloc (.cells (([] : List Value).toArray ++ new.toArray ++ RR) el)) (.arr ys (.loose esz)) := by
          refine objR_loose (alloc_get w.drew _) (trL_mono G (Mp.upd_le hm) _ _ htrn) ?_ ?_ ?_
          ·intro i u hu'
           have hlt : i < new.length := (List.getElem?_eq_some_iff.1 hu').1
           rw [Nat.zero_add, ← Array.getElem?_toList]
           simp only [Array.toList_append, List.toList_toArray, List.nil_append]
           rw [List.getElem?_append_left hlt]; exact hu'
          ·rw [hysl]; simp [a2, hnewL, hsl]
          ·intro j _ hh; simp at hh
         obtain ⟨p1, p2⟩ := push_sim s rfl hgrow hR'
         refine ⟨_, .value (.slice (some ⟨w.heap.size, 0, none⟩) (0 + k) cap), _, _, R _ _ a3, .inl rfl, ?_, p1, p2⟩
         simp [tr, Mp.upd_same]; omega
theorem append_zeros {t u el : TypeId} {esz nb : Nat} {zi : TypeInfo} {z : Value} {kq : IntKind} {k : Int} (ty : TypeId)
  (ht : P.underlying t = some (.slice el)) (hu : P.underlying u = some (.int kq)) (hs : szOf P el = some esz) (hb : byOf P el = some nb) (hnb : nb ≤ 4096) (hi : P.info? el = some zi) (hz : zi.zero = some z) (hz0 : esz ≠ 0) (h0 : 1 ≤ k) (hk : k ≤ big) :
  ∃ cap R, k.toNat ≤ cap ∧ R.size = (cap - k.toNat) * z.cells.size ∧ (Builtin.append_ #[t, u] ty #[.slice none 0 0, .int .i64 k]).run P w = .ok (.slice (some ⟨w.heap.size, 0, none⟩) k.toNat cap) (w.drew.alloc (.cells (Builtin.zeroCells z.cells k.toNat ++ R) el)) := by
 have hbb : big = 4294967296 := rfl
 let cap := (Question.appendCap (0 + k.toNat) 0 el).cut (w.tape w.drawn (.appendCap (0 + k.toNat) 0 el))
 have hcap : k.toNat ≤ cap := by simp only [cap, Question.cut]; omega
 refine ⟨cap, Builtin.zeroCells z.cells (cap - k.toNat), hcap, by rw [zeroCells_size], ?_⟩
 have hnc := nextcap_le (0 + k.toNat) 0 (by omega)
 have hprod : Builtin.nextslicecap (0 + k.toNat) 0 * nb ≤ 2 ^ 48 := by
  have : Builtin.nextslicecap (0 + k.toNat) 0 * nb ≤ (2 * (2 * big) + 1000) * 4096 := Nat.mul_le_mul (by omega) hnb
  rw [hbb] at this
  omega
 have hti : ∀ w' : World, (typeInfo el).run P w' = .ok zi w' := fun w' => by simp [typeInfo, hi]
 have hzb : zi.bytes = nb := by simpa [byOf, hi] using hb
 have hzv : ∀ w' : World, (zeroValue el).run P w' = .ok z w' := fun w' => by simp [zeroValue, typeInfo, hi, hz]
 have hw : IntKind.i64.wrap k = k := wrap_in k (by omega) (by omega)
 unfold Builtin.append_
 simp only [List.getElem?_toArray, List.getElem?_cons_zero, List.getElem?_cons_succ, Sem.run_bind, run_underlying ht, run_underlying hu, Result.andThen_ok, run_sizeOf hs, Sem.run_pure]
 have h1 : ¬ (((0 + k.toNat : Nat) : Int) > IntKind.i64.max) := by rw [IntKind.max_i64]; omega
 have h2 : ¬ (0 + k.toNat ≤ 0) := by omega
 have h3 : ¬ (Builtin.nextslicecap (0 + k.toNat) 0 * zi.bytes > 2 ^ 48) := by rw [hzb]; omega
 have h4 : ¬ (k < 0) := by omega
 have h5 : ¬ (k * (zi.bytes : Int) > 2 ^ 48) := by
  have : k * (zi.bytes : Int) ≤ 4294967296 * 4096 := Int.mul_le_mul (by omega) (by omega) (by omega) (by decide)
  omega
 have h6 : ¬ (k.toNat * esz = 0) := fun h => by rcases Nat.mul_eq_zero.1 h with h | h <;> omega
 simp only [if_true, Sem.run_bind, asInt, asIntOf, Sem.run_pure, Result.andThen_ok, hw, h4, if_false, hti, h5, h2, h1, false_and, h3, run_choose, Question.forced, run_askRoom]
 simp only [World.drew_eq, Builtin.firstCells, Sem.run_pure, Result.andThen_ok, Bool.not_true, Bool.false_eq_true, if_false, h6, hzv, newRow, Sem.run_bind, run_newObj]
 simp [cap]
 rfl
theorem h_appZ {z : List CV} {x y : Opd} (hM : opM P G o.op (.appZ z x y) = true) (hev : evOp call (.appZ z x y) e h = some (v, h')) (he : ER G m N e a) (s : Sim G m h w) : Heavy P G o a m h w v h' := by
 simp only [evOp] at hev
 cases hop : o.op <;> simp [opM, hop, isCallS] at hM
 rename_i c
 obtain ⟨callee, args, ats⟩ := c
 cases callee <;> simp [callM] at hM
 rename_i b
 cases b <;> simp [builtinM] at hM
 obtain ⟨h1, h2⟩ := hM
 cases hx : x.ev e with
 | none => simp [hx] at hev
 | some xv =>
   cases hy : y.ev e with
   | none => cases xv <;> simp [hx, hy] at hev
   | some yv =>
     cases xv <;> simp only [hx, hy] at hev <;> (try (cases hev; done))
     cases yv <;> (try (cases hev; done))
     rename_i kk k
     cases kk <;> (try (cases hev; done))
     simp only at hev
     split at hev
     case isFalse => cases hev
     rename_i hbb
     obtain ⟨b1, b2⟩ := hbb
     have g1 := opds_sim he h1 (vs := [.nils, .int .i64 k]) (by simp [evs, hx, hy])
     obtain ⟨X, ys, hX, hr, hyl⟩ := trL_cons g1
     obtain ⟨Y, ys', hY, hr', rfl⟩ := trL_cons hr
     simp [trL] at hr'; subst hr'
     obtain rfl := tr_nils hX
     obtain rfl := tr_int hY
     have hargs : args.map a.eval = #[.slice none 0 0, .int .i64 k] := by rw [← Array.toList_inj]; simpa using hyl
     cases ht : ats[0]? with
     | none => simp [ht] at h2
     | some t =>
       cases hu : ats[1]? with
       | none => simp [ht, hu] at h2
       | some u =>
         simp only [ht, hu] at h2
         cases hpt : P.underlying t with
         | none => simp [hpt] at h2
         | some d =>
           cases d <;> simp [hpt] at h2
           rename_i el
           cases hpu : P.underlying u with
           | none => simp [hpu] at h2
           | some d2 =>
             cases d2 <;> simp [hpu] at h2
             rename_i kq
             obtain ⟨⟨⟨h4, h5⟩, h6⟩, h7⟩ := h2
             cases hb : byOf P el with
             | none => simp [hb] at h7
             | some nb =>
               simp [hb] at h7
               have R : ∀ (q : Value) (w' : World), (Builtin.append_ #[t, u] o.type #[.slice none 0 0, .int .i64 k]).run P w = .ok q w' → (execOp a.eval o).run P w = .ok (.value q) w' := fun q w' g => by
                simp [execOp, hop, resolve, invoke, builtin, hargs, ats_two ht hu, g]
               obtain ⟨zv, Z, z1, _, z3, z4⟩ := zeroL_run (m := m) h4 w
               have hzl : Z.length = z.length := trL_length z4
               split at hev
               ·rename_i h0
                subst h0
                simp at hev
                obtain ⟨rfl, rfl⟩ := hev
                refine ⟨m, .value (.slice none 0 0), _, w, R _ _ ?_, .inl rfl, rfl, s, Evo.refl ..⟩
                have hti : ∃ zi, ∀ w' : World, (typeInfo el).run P w' = .ok zi w' := by
                 cases hi : P.info? el with
                 | none => simp [byOf, hi] at hb
                 | some zi => exact ⟨zi, fun w' => by simp [typeInfo, hi]⟩
                obtain ⟨zi, hti⟩ := hti
                have hw : IntKind.i64.wrap 0 = 0 := wrap_in 0 (by omega) (by omega)
                unfold Builtin.append_
                simp only [List.getElem?_toArray, List.getElem?_cons_zero, List.getElem?_cons_succ, Sem.run_bind, run_underlying hpt, run_underlying hpu, Result.andThen_ok, run_sizeOf h5, Sem.run_pure]
                have q1 : ¬ ((0 : Int) < 0) := by omega
                have q2 : ¬ ((0 : Int) * (zi.bytes : Int) > 2 ^ 48) := by omega
                simp only [if_true, Sem.run_bind, asInt, asIntOf, Sem.run_pure, Result.andThen_ok, hw, q1, if_false, hti, q2, Int.toNat_zero, Nat.add_zero, Nat.le_refl, Bool.not_true, Bool.false_eq_true, Nat.zero_mul]
               ·rename_i h0
                simp at hev
                obtain ⟨rfl, rfl⟩ := hev
                cases hi : P.info? el with
                | none => simp [byOf, hi] at hb
                | some zi =>
                  cases hz : zi.zero with
                  | none => simp [zeroL, hi, hz] at h4
                  | some zz =>
                    have hzz : zv = zz := by
                     have : (zeroValue el).run P w = .ok zz w := by simp [zeroValue, typeInfo, hi, hz]
                     rw [z1] at this; simpa using this
                    subst hzz
                    have hZ : zv.cells.size = Z.length := by rw [z3]; simp
                    obtain ⟨cap, RR, a1, a2, a3⟩ := append_zeros (w := w) o.type hpt hpu h5 hb h7 hi hz (by simpa using h6) (by omega) b2
                    have hcells : Builtin.zeroCells zv.cells k.toNat = (List.replicate k.toNat Z).flatten.toArray := by
                     unfold Builtin.zeroCells
                     rw [z3]
                     exact range_mod Z k.toNat
                    rw [hcells] at a3
                    have hgrow : WGrow w (w.drew.alloc (.cells ((List.replicate k.toNat Z).flatten.toArray ++ RR) el)) := by
                     have := WGrow.alloc w.drew (.cells ((List.replicate k.toNat Z).flatten.toArray ++ RR) el)
                     exact ⟨this.os, this.out, this.size, this.old⟩
                    have hm : m h.length = none := by
                     cases hk : m h.length with
                     | none => rfl
                     | some L' => exact absurd (s.dom _ _ hk) (by omega)
                    have hR' : ObjR G (m.upd h.length ⟨w.heap.size, 0, cap - k.toNat, none⟩) ⟨w.heap.size, 0, cap - k.toNat, none⟩ (w.drew.alloc (.cells ((List.replicate k.toNat Z).flatten.toArray ++ RR) el)) (.arr (List.replicate k.toNat z).flatten (.loose z.length)) := by
                     refine objR_loose (alloc_get w.drew _) (trL_mono G (Mp.upd_le hm) _ _ (trL_replicate z4 _)) ?_ ?_ ?_
                     ·intro i u hu'
                      have hlt : i < (List.replicate k.toNat Z).flatten.length := (List.getElem?_eq_some_iff.1 hu').1
                      rw [Nat.zero_add, ← Array.getElem?_toList]
                      simp only [Array.toList_append, List.toList_toArray]
                      rw [List.getElem?_append_left hlt]; exact hu'
                     ·have l1 : (List.replicate k.toNat Z).flatten.length = k.toNat * Z.length := by simp
                      have l2 : (List.replicate k.toNat z).flatten.length = k.toNat * z.length := by simp
                      simp only [Array.size_append, List.size_toArray, l1, l2, a2, hZ, hzl, Nat.zero_add]
                      omega
                     ·intro j _ hh; simp at hh
                    obtain ⟨p1, p2⟩ := push_sim s rfl hgrow hR'
                    refine ⟨_, .value (.slice (some ⟨w.heap.size, 0, none⟩) k.toNat cap), _, _, R _ _ a3, .inl rfl, ?_, p1, p2⟩
                    simp [tr, Mp.upd_same]; omega
end
end Go.Cl
