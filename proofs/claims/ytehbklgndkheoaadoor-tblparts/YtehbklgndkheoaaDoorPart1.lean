/- Part 1 of a proof: flonglaw09.TblParts returns true for every text and leaves it as it was; no condition of our own. -/
import Derived.Calls
import Derived.Orders
import Derived.Below
import Derived.Laws.World
import Derived.Laws.Strings
import Derived.Laws.Entries
import Derived.Lib.Strings
/- A small deterministic machine over immutable lists and a local heap: its values, its code, its evaluator. -/
set_option linter.unusedVariables false
set_option linter.unusedSimpArgs false
namespace Go.Proofs.VmX

/-- Values. 'sl': a slice that nobody writes, by what it holds (x: its capacity is its length); 'osl': a slice of an object of the local heap. -/
inductive AV where
  | bool (b : Bool)
  | int (k : IntKind) (n : Int)
  | str (s : List UInt8)
  | nilp
  | nili
  | nilfn
  | ptr (id gen i off : Nat)
  | vptr (e : AV) (off : Nat)
  | sl (x : Bool) (sz : Nat) (xs : List AV)
  | osl (id gen sz i len : Nat)
  | it (id : Nat)
  | fn (f : Nat) (first cap : List AV)
  | mp (ks vs : List AV)
  | agg (cs : List AV)
  | tup (vs : List AV)
  | junk

instance : Inhabited AV := ⟨.junk⟩

def AV.cells : AV → List AV
  | .agg cs => cs
  | v => [v]

/-- May it stand in one cell? -/
def AV.one : AV → Bool
  | .agg _ => false
  | .tup _ => false
  | .junk => false
  | _ => true

/-- An element of so many cells. -/
def okEl (sz : Nat) (e : AV) : Bool := e.cells.length == sz && e.cells.all AV.one

/-- An object: elements of one size; 'lock': how many of them are never written again. -/
structure Arr where
  gen : Nat
  els : List AV
  sz : Nat
  el : Nat
  lock : Nat
  cap : Option Nat

inductive Obj where
  | arr (o : Arr)
  | iter (s : List UInt8) (pos : Nat)
  | dead

instance : Inhabited Obj := ⟨.dead⟩

abbrev Heap := List Obj

structure St where
  t : List AV
  h : Heap

def get (t : List AV) (i : Nat) : AV := t.getD i (.tup [])

def put : List AV → Nat → AV → List AV
  | [], 0, v => [v]
  | [], i + 1, v => .tup [] :: put [] i v
  | _ :: t, 0, v => v :: t
  | a :: t, i + 1, v => a :: put t i v

theorem get_put (t : List AV) (i : Nat) (v : AV) : ∀ j, get (put t i v) j = if i = j then v else get t j := by
  induction t, i, v using put.induct with
  | case1 v => intro j; cases j <;> simp [put, get]
  | case2 v i ih =>
    intro j
    cases j with
    | zero => simp [put, get]
    | succ j => have := ih j; simp [put, get] at this ⊢; exact this
  | case3 v a t => intro j; cases j <;> simp [put, get]
  | case4 v a t i ih =>
    intro j
    cases j with
    | zero => simp [put, get]
    | succ j => have := ih j; simp [put, get] at this ⊢; exact this

def putO (t : List AV) : Option Nat → AV → List AV
  | some d, v => put t d v
  | none, _ => t

def getA (h : Heap) (id gen : Nat) : Option Arr :=
  match h[id]? with
  | some (.arr o) => if o.gen = gen then some o else none
  | _ => none

/-! Code. -/
inductive Opd where
  | t (i : Nat)
  | c (v : AV)

/-- Conversions. -/
inductive Cv where
  | int (k : IntKind)
  | same
  | intStr
  | strBytes
  | strRunes
  | bytesStr
  | runesStr
  | ptr (el : Nat)
  | unptr (el : Nat)

inductive COp where
  | mv (x : Opd)
  | nilCheck (x : Opd)
  | pick (c a b : Opd)
  | alloc (zero : AV) (sz el : Nat)
  | box (sz el : Nat) (x : Opd)
  | build (zero : List AV) (parts : List (Nat × Nat × Opd))
  | bsl (sz : Nat) (parts : List Opd)
  | load (agg : Bool) (n : Nat) (a : Opd)
  | store (n : Nat) (a x : Opd)
  | bin (ty : Nat) (op : BinOp) (x y : Opd)
  | eqs (neg : Bool) (ks : List Nat) (x y : Opd)
  | un (op : UnOp) (x : Opd)
  | conv (c : Cv) (x : Opd)
  | fld (off : Nat) (x : Opd)
  | part (agg : Bool) (n off : Nat) (x : Opd)
  | idxS (sz : Nat) (x i : Opd)
  | idxA (len sz : Nat) (x i : Opd)
  | idxStr (x i : Opd)
  | idxAgg (agg : Bool) (len sz : Nat) (x i : Opd)
  | sliceStr (x : Opd) (lo hi : Option Opd)
  | slice (sz : Nat) (x : Opd) (lo hi mx : Option Opd)
  | sliceArr (len sz : Nat) (x : Opd) (lo hi : Option Opd)
  | extract (x : Opd) (i : Nat)
  | len (str : Bool) (x : Opd)
  | cap (x : Opd)
  | append (el sz bytes : Nat) (s x : Opd)
  | appendZ (el sz bytes : Nat) (zero : AV) (s x : Opd)
  | copy (sz : Nat) (d s : Opd)
  | mm (max : Bool) (x : Opd) (xs : List Opd)
  | mkSlice (el sz bytes : Nat) (zero : AV) (l c : Opd)
  | callF (f : Nat) (inl : Bool) (args : List Opd)
  | callP (f : Nat) (args : List Opd)
  | callV (f : Opd) (args : List Opd)
  | mkFn (f : Nat) (first cap : List Opd)
  | lookup (kind : Nat) (zero : AV) (ok : Bool) (m k : Opd)
  | rangeS (x : Opd)
  | nextS (x : Opd)
  | iface
  | uSliceData (sz : Nat) (x : Opd)
  | uString (x n : Opd)
  | bad

structure CI where
  dst : Option Nat
  op : COp
  g : Option (Nat × Bool)

/-- One of a region whose order is drawn: at which heap it stands at the earliest; is it an effect? -/
structure DI where
  ci : CI
  lo : Nat
  eff : Bool

/-- A second look at a value, at another heap. -/
structure CK where
  ci : CI
  at_ : Nat

inductive CC where
  | skip
  | reg (l : List CI)
  | dreg (l : List DI) (chk : List CK)
  | seq (a b : CC)
  | cond (c : Opd) (t e : CC)
  | block (id : Nat) (b : CC)
  | loop (b : CC)
  | exit (id : Nat)
  | scope (b : CC)
  | label (l : Nat)
  | goto (l : Nat)
  | ret
  | bad

inductive CIt where
  | code (c : CC)
  | inBlock (id : Nat)
  | inLoop (b : CC)
  | inScope (b : CC)

inductive CRes where
  | tmp (t : Nat)
  | cell (a : Nat) (agg : Bool) (n : Nat)

structure CFn where
  res : List CRes
  body : Option CC
  ext : Nat

/-! The evaluator. -/
def opd (t : List AV) : Opd → AV
  | .t i => get t i
  | .c v => v

def ldE (agg : Bool) (n : Nat) (e : AV) (off : Nat) : Option AV :=
  if agg then (if off + n ≤ e.cells.length then some (.agg ((e.cells.drop off).take n)) else none)
  else e.cells[off]?

def stE (e : AV) (off : Nat) (vs : List AV) : Option AV :=
  match e with
  | .agg cs => if off + vs.length ≤ cs.length then some (.agg (cs.take off ++ vs ++ cs.drop (off + vs.length))) else none
  | _ => match vs, off with
    | [v], 0 => some v
    | _, _ => none

def ld (agg : Bool) (n : Nat) (a : AV) (h : Heap) : Option AV :=
  match a with
  | .ptr id gen i off => (getA h id gen).bind fun o => (o.els[i]?).bind fun e => ldE agg n e off
  | .vptr e off => ldE agg n e off
  | _ => none

def stA (a : AV) (vs : List AV) (h : Heap) : Option Heap :=
  match a with
  | .ptr id gen i off => (getA h id gen).bind fun o =>
    if o.lock ≤ i then (o.els[i]?).bind fun e => (stE e off vs).map fun e' => h.set id (.arr { o with els := o.els.set i e' }) else none
  | _ => none

def iBin (op : BinOp) (k : IntKind) (a b : Int) : Option AV :=
  match op with
  | .add => some (.int k (k.wrap (a + b)))
  | .sub => some (.int k (k.wrap (a - b)))
  | .mul => some (.int k (k.wrap (a * b)))
  | .quo => if b = 0 then none else some (.int k (k.wrap (a.tdiv b)))
  | .rem => if b = 0 then none else some (.int k (a.tmod b))
  | .and => some (.int k (k.wrap (BitVec.ofInt k.bits a &&& BitVec.ofInt k.bits b).toNat))
  | .or => some (.int k (k.wrap (BitVec.ofInt k.bits a ||| BitVec.ofInt k.bits b).toNat))
  | .xor => some (.int k (k.wrap (BitVec.ofInt k.bits a ^^^ BitVec.ofInt k.bits b).toNat))
  | .andNot => some (.int k (k.wrap (BitVec.ofInt k.bits a &&& ~~~(BitVec.ofInt k.bits b)).toNat))
  | .shl => none
  | .shr => none
  | .eql => some (.bool (a == b))
  | .neq => some (.bool (a != b))
  | .lss => some (.bool (decide (a < b)))
  | .leq => some (.bool (decide (a ≤ b)))
  | .gtr => some (.bool (decide (a > b)))
  | .geq => some (.bool (decide (a ≥ b)))

def sBin (op : BinOp) (a b : List UInt8) : Option AV :=
  match op with
  | .add => if a.length + b.length ≤ 4611686018427387904 then some (.str (a ++ b)) else none
  | .eql => some (.bool (a == b))
  | .neq => some (.bool (!(a == b)))
  | .lss => some (.bool (Op.bytesLess a b))
  | .leq => some (.bool (Op.bytesLess a b || a == b))
  | .gtr => some (.bool (!(Op.bytesLess a b || a == b)))
  | .geq => some (.bool (!(Op.bytesLess a b)))
  | _ => none

def bBin (op : BinOp) (a b : Bool) : Option AV :=
  match op with
  | .eql => some (.bool (a == b))
  | .neq => some (.bool (!(a == b)))
  | _ => none

def eqB (op : BinOp) (r : Bool) : Option AV :=
  match op with
  | .eql => some (.bool r)
  | .neq => some (.bool (!r))
  | _ => none

/-- ty: 1 bools, 2 pointers, 3 functions; 4 slices (by 'evOp'); else whole numbers and texts. -/
def bin (ty : Nat) (op : BinOp) (x y : AV) : Option AV :=
  match x, y with
  | .int k a, .int k' b =>
    match op with
    | .shl => if b < 0 then none else some (.int k (k.wrap (a * 2 ^ (min b.toNat k.bits))))
    | .shr => if b < 0 then none else some (.int k (a.fdiv (2 ^ (min b.toNat k.bits))))
    | _ => if k = k' then iBin op k a b else none
  | .str a, .str b => sBin op a b
  | .bool a, .bool b => if ty = 1 then bBin op a b else none
  | .nilp, .nilp => if ty = 2 then eqB op true else none
  | .nilp, .ptr .. => if ty = 2 then eqB op false else none
  | .ptr .., .nilp => if ty = 2 then eqB op false else none
  | .nilp, .vptr .. => if ty = 2 then eqB op false else none
  | .vptr .., .nilp => if ty = 2 then eqB op false else none
  | .nilfn, .nilfn => if ty = 3 then eqB op true else none
  | .fn .., .nilfn => if ty = 3 then eqB op false else none
  | .nilfn, .fn .. => if ty = 3 then eqB op false else none
  | _, _ => none

def binE (ty : Nat) (op : BinOp) (x y : AV) (h : Heap) : Option AV :=
  match x, y with
  | .ptr i g a b, .ptr j k c d => if ty = 2 ∧ i = j ∧ g = k ∧ a = c ∧ b = d ∧ (getA h i g).isSome then eqB op true else none
  | .sl _ s xs, .sl _ 0 [] => if ty = 4 then eqB op (s == 0 && xs.isEmpty) else none
  | .osl .., .sl _ 0 [] => if ty = 4 then eqB op false else none
  | u, v => bin ty op u v

/-! The same value? -/
mutual
def same : AV → AV → Bool
  | .bool a, .bool b => a == b
  | .int k a, .int j b => k == j && a == b
  | .str a, .str b => a == b
  | .nilp, .nilp => true
  | .nili, .nili => true
  | .nilfn, .nilfn => true
  | .ptr a b c d, .ptr e f g i => a == e && b == f && c == g && d == i
  | .vptr e o, .vptr f p => same e f && o == p
  | .sl x s xs, .sl y t ys => x == y && s == t && sames xs ys
  | .osl a b c d e, .osl f g i j k => a == f && b == g && c == i && d == j && e == k
  | .it a, .it b => a == b
  | .fn f a b, .fn g c d => f == g && sames a c && sames b d
  | .mp a b, .mp c d => sames a c && sames b d
  | .agg a, .agg b => sames a b
  | .tup a, .tup b => sames a b
  | _, _ => false
def sames : List AV → List AV → Bool
  | [], [] => true
  | a :: l, b :: m => same a b && sames l m
  | _, _ => false
end

/-- Are two plain cells equal? -/
def eqCell (kind : Nat) (x y : AV) : Option Bool :=
  match x, y with
  | .int k a, .int k' b => if kind = 2 ∧ k = k' then some (a == b) else none
  | .bool a, .bool b => if kind = 1 then some (a == b) else none
  | .str a, .str b => if kind = 3 then some (a == b) else none
  | _, _ => none

def eqCells : List Nat → List AV → List AV → Option Bool
  | [], [], [] => some true
  | k :: ks, a :: az, b :: bs => (eqCell k a b).bind fun r => if r then eqCells ks az bs else some false
  | _, _, _ => none

def un (op : UnOp) (x : AV) : Option AV :=
  match op, x with
  | .neg, .int k n => some (.int k (k.wrap (0 - n)))
  | .xor, .int k n => iBin .xor k (if k.signed then -1 else k.max) n
  | .not, .bool b => some (.bool (!b))
  | _, _ => none

def byteAV (b : UInt8) : AV := .int .u8 b.toNat

def toByte : AV → Option UInt8
  | .int .u8 n => some (UInt8.ofNat n.toNat)
  | _ => none

def toRune : AV → Option (List UInt8)
  | .int .i32 n => some (Utf8.encode n).data.toList
  | _ => none

def seqO {α β : Type} (f : α → Option β) : List α → Option (List β)
  | [] => some []
  | a :: l => (f a).bind fun b => (seqO f l).map fun m => b :: m

/-- What a slice, or a text, has as elements. -/
def elsOf (x : AV) (h : Heap) : Option (List AV) :=
  match x with
  | .sl _ _ xs => some xs
  | .osl id gen sz i len => (getA h id gen).bind fun o => if i + len ≤ o.els.length then some ((o.els.drop i).take len) else none
  | .str s => some (s.map byteAV)
  | _ => none

def conv (c : Cv) (x : AV) (h : Heap) : Option AV :=
  match c, x with
  | .int k, .int _ n => some (.int k (k.wrap n))
  | .same, .str s => some (.str s)
  | .intStr, .int _ n => some (.str (Utf8.encode n).data.toList)
  | .strBytes, .str s => some (.sl false 1 (s.map byteAV))
  | .bytesStr, .str _ => none
  | .bytesStr, v => (elsOf v h).bind fun l => (seqO toByte l).map .str
  | .runesStr, .str _ => none
  | .runesStr, v => (elsOf v h).bind fun l => (seqO toRune l).map fun m => .str m.flatten
  | _, _ => none

def asNat (x : AV) : Option Nat :=
  match x with
  | .int _ n => if 0 ≤ n then some n.toNat else none
  | _ => none

def bnd (t : List AV) (d : Nat) : Option Opd → Option Nat
  | none => some d
  | some x => asNat (opd t x)

def sliceV (sz : Nat) (x : AV) (l h : Nat) (hp : Heap) : Option AV :=
  match x with
  | .sl e s xs => if l ≤ h ∧ h ≤ xs.length then some (.sl (e && h == xs.length) s ((xs.take h).drop l)) else none
  | .osl id gen s i len =>
    if l ≤ h ∧ h ≤ len then (if l < h ∨ l = 0 then some (.osl id gen s (i + l) (h - l)) else some (.sl false s []))
    else (getA hp id gen).bind fun o => if l ≤ h ∧ i + h ≤ o.els.length ∧ (l < h ∨ l = 0) then some (.osl id gen s (i + l) (h - l)) else none
  | _ => none

/-- With a capacity: only where it is the new length. -/
def sliceM (x : AV) (l h m : Nat) : Option AV :=
  match x with
  | .sl _ s xs => if l ≤ h ∧ h = m ∧ m ≤ xs.length then some (.sl true s ((xs.take h).drop l)) else none
  | .osl _ _ s _ len => if l = h ∧ h = m ∧ m ≤ len then some (.sl true s []) else none
  | _ => none

def chunk (agg : Bool) (sz : Nat) (cs : List AV) : Nat → List AV
  | 0 => []
  | n + 1 => (if agg then .agg (cs.take sz) else (cs.headD .junk)) :: chunk agg sz (cs.drop sz) n

def roomOk (need bytes : Nat) : Bool := decide (need ≤ 1099511627776 ∧ (2 * need + 192) * bytes ≤ 281474976710656)

def appendV (el sz bytes : Nat) (s : AV) (ys : List AV) (h : Heap) : Option (AV × Heap) :=
  match s with
  | .sl x s0 xs =>
    if ys = [] then some (.sl x s0 xs, h)
    else if x && (s0 == sz || xs.isEmpty) && roomOk (xs.length + ys.length) bytes then
      some (.osl h.length 0 sz 0 (xs.length + ys.length), h ++ [.arr { gen := 0, els := xs ++ ys, sz, el, lock := 0, cap := none }])
    else none
  | .osl id gen s0 i len => (getA h id gen).bind fun o =>
    if s0 ≠ sz ∨ o.el ≠ el then none else
    if i + len = o.els.length then
      if ys = [] then some (s, h) else
      if i = 0 ∧ roomOk (len + ys.length) bytes ∧ o.lock ≤ o.els.length then
        some (.osl id (gen + 1) sz 0 (len + ys.length), h.set id (.arr { o with gen := gen + 1, els := o.els ++ ys, cap := o.cap.bind fun c => if len + ys.length ≤ c then some c else none }))
      else none
    else if i + len + ys.length ≤ o.els.length ∧ o.lock ≤ i + len then
      some (.osl id gen sz i (len + ys.length), h.set id (.arr { o with els := o.els.take (i + len) ++ ys ++ o.els.drop (i + len + ys.length) }))
    else none
  | _ => none

def copyV (sz : Nat) (d : AV) (ys : List AV) (h : Heap) : Option (AV × Heap) :=
  match d with
  | .osl id gen s0 i len => (getA h id gen).bind fun o =>
    if s0 = sz ∧ i + len ≤ o.els.length ∧ (o.lock ≤ i ∨ min ys.length len = 0) then
      some (.int .i64 (min ys.length len : Nat), h.set id (.arr { o with els := o.els.take i ++ ys.take len ++ o.els.drop (i + min ys.length len) }))
    else none
  | .sl _ _ xs => if xs.length = 0 ∨ ys.length = 0 then some (.int .i64 0, h) else none
  | _ => none

/-! References: what is handed to a call of its own is told by what it holds. -/
mutual
def rf : AV → Bool
  | .ptr .. => false
  | .osl .. => false
  | .it _ => false
  | .vptr e _ => rf e
  | .sl _ _ xs => rfs xs
  | .fn _ a b => rfs a && rfs b
  | .mp a b => rfs a && rfs b
  | .agg cs => rfs cs
  | .tup vs => rfs vs
  | _ => true
def rfs : List AV → Bool
  | [] => true
  | a :: l => rf a && rfs l
end

/-- A value without references; n: how deep they may go. -/
def snap (h : Heap) : Nat → AV → Option AV
  | 0, _ => none
  | n + 1, a =>
    if rf a then some a else
    match a with
    | .osl id gen sz i len => (getA h id gen).bind fun o =>
      if sz ≠ 0 ∧ i + len ≤ o.els.length then (seqO (snap h n) ((o.els.drop i).take len)).map (.sl false sz) else none
    | .sl x sz xs => (seqO (snap h n) xs).map (.sl x sz)
    | .vptr e off => (snap h n e).map (.vptr · off)
    | .fn f az bs => (seqO (snap h n) az).bind fun az' => (seqO (snap h n) bs).map fun bs' => .fn f az' bs'
    | .mp az bs => (seqO (snap h n) az).bind fun az' => (seqO (snap h n) bs).map fun bs' => .mp az' bs'
    | .agg cs => (seqO (snap h n) cs).map .agg
    | .tup vs => (seqO (snap h n) vs).map .tup
    | _ => none

/-- Which objects a value leads to, and how far. -/
def refs (h : Heap) : Nat → AV → List (Nat × Nat)
  | 0, _ => []
  | n + 1, a =>
    if rf a then [] else
    match a with
    | .osl id gen sz i len =>
      match getA h id gen with
      | some o => (id, i + len) :: ((o.els.drop i).take len).flatMap (refs h n)
      | none => []
    | .sl x sz xs => xs.flatMap (refs h n)
    | .vptr e off => refs h n e
    | .fn f az bs => az.flatMap (refs h n) ++ bs.flatMap (refs h n)
    | .mp az bs => az.flatMap (refs h n) ++ bs.flatMap (refs h n)
    | .agg cs => cs.flatMap (refs h n)
    | .tup vs => vs.flatMap (refs h n)
    | _ => []

def lockO (h : Heap) : List (Nat × Nat) → Heap
  | [] => h
  | (id, m) :: l =>
    match h[id]? with
    | some (.arr o) => lockO (h.set id (.arr { o with lock := max o.lock m })) l
    | _ => lockO h l

def deep : Nat := 64

def snaps (h : Heap) (az : List AV) : Option (List AV × Heap) :=
  if rfs az then some (az, h) else
  (seqO (snap h deep) az).map fun az' => (az', lockO h (az.flatMap (refs h deep)))

/-! Externs. -/
def idxByte (c : UInt8) : List UInt8 → Nat → Int
  | [], _ => -1
  | b :: l, n => if b == c then (n : Int) else idxByte c l (n + 1)

def isPre : List UInt8 → List UInt8 → Bool
  | [], _ => true
  | _ :: _, [] => false
  | a :: s, b :: l => a == b && isPre s l

def idxStr (sub : List UInt8) : List UInt8 → Nat → Int
  | [], n => if sub.isEmpty then (n : Int) else -1
  | b :: l, n => if isPre sub (b :: l) then (n : Int) else idxStr sub l (n + 1)

def cntByte (c : UInt8) (l : List UInt8) : Nat := (l.filter (· == c)).length

/-- Functions that are not walked, by a number of ours: 1 IndexByteString, 2 CountString, 4 NoEscape; from 10 on those that have a body: 10 stringslite.Index. -/
def ext (k : Nat) (args : List AV) (h : Heap) : Option (AV × Heap) :=
  match k, args with
  | 1, [.str s, .int .u8 c] => some (.int .i64 (idxByte (UInt8.ofNat c.toNat) s 0), h)
  | 2, [.str s, .int .u8 c] => some (.int .i64 (cntByte (UInt8.ofNat c.toNat) s), h)
  | 4, [v] => some (v, h)
  | 10, [.str s, .str t] => if s.length < 4294967281 ∧ t.length < 4294967281 then some (.int .i64 (idxStr t s 0), h) else none
  | _, _ => none

structure Env where
  code : Nat → Option CFn
  inl : Nat → Bool

abbrev CallT := Nat → List AV → Heap → Option (AV × Heap)

def wantedA (t : List AV) : Option (Nat × Bool) → Option Bool
  | none => some true
  | some (s, w) => match get t s with
    | .bool b => some (b == w)
    | .tup [] => some false
    | _ => none

/-- A call of its own. -/
def pureCall (call : CallT) (f : Nat) (args : List AV) : Option AV :=
  (call f args []).bind fun rh => snap rh.2 deep rh.1

def doCall (call : CallT) (f : Nat) (inl : Bool) (args : List AV) (h : Heap) : Option (AV × Heap) :=
  if inl then call f args h else
  (snaps h args).bind fun ah => (pureCall call f ah.1).map fun r => (r, ah.2)

def nextV (x : AV) (h : Heap) : Option (AV × Heap) :=
  match x with
  | .it id => match h[id]? with
    | some (.iter s pos) =>
      if pos < s.length then
        let d := Utf8.decode ⟨s.toArray⟩ pos
        some (.tup [.bool true, .int .i64 pos, .int .i32 d.1], h.set id (.iter s (pos + d.2)))
      else some (.tup [.bool false], h)
    | _ => none
  | _ => none

def keyIs (a b : AV) : Option Bool :=
  match a, b with
  | .int k x, .int k' y => if k = k' then some (x == y) else none
  | .str x, .str y => some (x == y)
  | _, _ => none

def keyOK : AV → Bool
  | .int .. => true
  | .str _ => true
  | _ => false

def keysApart : List AV → Bool
  | [] => true
  | a :: l => keyOK a && l.all (fun b => match keyIs a b with | some false => true | _ => false) && keysApart l

def keyKind : AV → Nat
  | .int .. => 2
  | .str _ => 3
  | _ => 0

def findK (k : AV) : List AV → List AV → Option (Option AV)
  | [], [] => some none
  | a :: ks, v :: vs => (keyIs k a).bind fun r => if r then some (some v) else findK k ks vs
  | _, _ => none

def fillParts : List AV → List (Nat × Nat × AV) → Option (List AV)
  | cs, [] => some cs
  | cs, (off, n, v) :: l =>
    if v.cells.length = n ∧ off + n ≤ cs.length then fillParts (cs.take off ++ v.cells ++ cs.drop (off + n)) l else none

def minMax (mx : Bool) : Int → List AV → IntKind → Option Int
  | a, [], _ => some a
  | a, .int k b :: l, k0 => if k = k0 then minMax mx (if mx then (if b > a then b else a) else (if b < a then b else a)) l k0 else none
  | _, _, _ => none

/-- One operation: its value, and the heap. -/
def evOp (E : Env) (call : CallT) (t : List AV) (h : Heap) : COp → Option (AV × Heap)
  | .mv x => some (opd t x, h)
  | .nilCheck x => match opd t x with
    | .ptr a b c d => some (.ptr a b c d, h)
    | .vptr e o => some (.vptr e o, h)
    | .fn f a b => some (.fn f a b, h)
    | _ => none
  | .pick c a b => match opd t c with
    | .bool r => some (if r then opd t a else opd t b, h)
    | _ => none
  | .alloc zero sz el => if okEl sz zero then some (.ptr h.length 0 0 0, h ++ [.arr { gen := 0, els := [zero], sz, el, lock := 0, cap := some 1 }]) else none
  | .box sz el x => if okEl sz (opd t x) then some (.ptr h.length 0 0 0, h ++ [.arr { gen := 0, els := [opd t x], sz, el, lock := 0, cap := some 1 }]) else none
  | .build zero parts => if (parts.all fun p => (opd t p.2.2).cells.all AV.one) then (fillParts zero (parts.map fun p => (p.1, p.2.1, opd t p.2.2))).map fun cs => (.agg cs, h) else none
  | .bsl sz parts => if (parts.map (opd t)).all (okEl sz) then some (.sl true sz (parts.map (opd t)), h) else none
  | .load agg n a => (ld agg n (opd t a) h).map fun v => (v, h)
  | .store n a x => if (opd t x).cells.length = n ∧ (opd t x).cells.all AV.one then (stA (opd t a) (opd t x).cells h).map fun h' => (.tup [], h') else none
  | .bin ty op x y => (binE ty op (opd t x) (opd t y) h).map fun v => (v, h)
  | .eqs neg ks x y => match opd t x, opd t y with
    | .agg xs, .agg ys => (eqCells ks xs ys).map fun r => (.bool (if neg then !r else r), h)
    | _, _ => none
  | .un op x => (un op (opd t x)).map fun v => (v, h)
  | .conv c x => (conv c (opd t x) h).map fun v => (v, h)
  | .fld off x => match opd t x with
    | .ptr a b c d => some (.ptr a b c (d + off), h)
    | .vptr e o => some (.vptr e (o + off), h)
    | _ => none
  | .part agg n off x => match opd t x with
    | .agg cs => (ldE agg n (.agg cs) off).map fun v => (v, h)
    | _ => none
  | .idxS sz x i => (asNat (opd t i)).bind fun k => match opd t x with
    | .sl _ s xs => if s = sz then (xs[k]?).map fun e => (.vptr e 0, h) else none
    | .osl id gen s b len => if s = sz ∧ k < len then some (.ptr id gen (b + k) 0, h) else none
    | _ => none
  | .idxA len sz x i => (asNat (opd t i)).bind fun k => if k < len then (match opd t x with
    | .ptr a b c d => some (.ptr a b c (d + k * sz), h)
    | .vptr e o => some (.vptr e (o + k * sz), h)
    | _ => none) else none
  | .idxStr x i => (asNat (opd t i)).bind fun k => match opd t x with
    | .str s => (s[k]?).map fun b => (byteAV b, h)
    | _ => none
  | .idxAgg agg len sz x i => (asNat (opd t i)).bind fun k => if k < len then (match opd t x with
    | .agg cs => (ldE agg sz (.agg cs) (k * sz)).map fun v => (v, h)
    | _ => none) else none
  | .sliceStr x lo hi => match opd t x with
    | .str s => (bnd t 0 lo).bind fun l => (bnd t s.length hi).bind fun r => if l ≤ r ∧ r ≤ s.length then some (.str ((s.take r).drop l), h) else none
    | _ => none
  | .slice sz x lo hi mx =>
    match opd t x with
    | .sl e s xs => (bnd t 0 lo).bind fun l => (bnd t xs.length hi).bind fun r => if s = sz ∨ xs.isEmpty then (match mx with
      | none => (sliceV sz (.sl e s xs) l r h).map fun v => (v, h)
      | some m => (asNat (opd t m)).bind fun m => (sliceM (.sl e s xs) l r m).map fun v => (v, h)) else none
    | .osl id gen s i len => (bnd t 0 lo).bind fun l => (bnd t len hi).bind fun r => if s = sz then (match mx with
      | none => (sliceV sz (.osl id gen s i len) l r h).map fun v => (v, h)
      | some m => (asNat (opd t m)).bind fun m => (sliceM (.osl id gen s i len) l r m).map fun v => (v, h)) else none
    | _ => none
  | .sliceArr .. => none
  | .extract x i => match opd t x with
    | .tup vs => (vs[i]?).map fun v => (v, h)
    | _ => none
  | .len b x => match b, opd t x with
    | false, .sl _ _ xs => some (.int .i64 xs.length, h)
    | false, .osl _ _ _ _ n => some (.int .i64 n, h)
    | true, .str s => some (.int .i64 s.length, h)
    | _, _ => none
  | .cap x => match opd t x with
    | .sl true _ xs => some (.int .i64 xs.length, h)
    | .osl id gen _ i _ => (getA h id gen).bind fun o => o.cap.bind fun c => if i ≤ c ∧ o.sz ≠ 0 then some (.int .i64 (c - i : Nat), h) else none
    | _ => none
  | .append el sz bytes s x => match opd t x with
    | .sl e s0 ys => if s0 = sz ∨ ys.isEmpty then appendV el sz bytes (opd t s) ys h else none
    | .osl id gen s0 i len => if s0 = sz then (elsOf (.osl id gen s0 i len) h).bind fun ys => appendV el sz bytes (opd t s) ys h else none
    | .str b => if sz = 1 then appendV el sz bytes (opd t s) (b.map byteAV) h else none
    | _ => none
  | .appendZ el sz bytes zero s x => (asNat (opd t x)).bind fun n => if n ≤ 1099511627776 ∧ n * bytes ≤ 281474976710656 ∧ okEl sz zero then appendV el sz bytes (opd t s) (List.replicate n zero) h else none
  | .copy .. => none
  | .mm mx x xs => match opd t x with
    | .int k a => (minMax mx a (xs.map (opd t)) k).map fun r => (.int k r, h)
    | _ => none
  | .mkSlice el sz bytes zero l c => (asNat (opd t l)).bind fun l => (asNat (opd t c)).bind fun c =>
    if l ≤ c ∧ c ≤ 1099511627776 ∧ c * bytes ≤ 281474976710656 ∧ okEl sz zero then
      some (.osl h.length 0 sz 0 l, h ++ [.arr { gen := 0, els := List.replicate c zero, sz, el, lock := 0, cap := some c }])
    else none
  | .callF f inl args => doCall call f inl (args.map (opd t)) h
  | .callP f args => if rfs (args.map (opd t)) then (pureCall call f (args.map (opd t))).map fun r => (r, h) else none
  | .callV x args => match opd t x with
    | .fn f first cap => doCall call f (E.inl f) (first ++ args.map (opd t) ++ cap) h
    | _ => none
  | .mkFn f first cap => some (.fn f (first.map (opd t)) (cap.map (opd t)), h)
  | .lookup kind zero ok m k => match opd t m with
    | .mp ks vs => if keyKind (opd t k) = kind then (findK (opd t k) ks vs).map fun r => match (match r with | some v => (v, true) | none => (zero, false) : AV × Bool) with | (v, b) => (if ok then .tup [v, .bool b] else v, h) else none
    | _ => none
  | .rangeS x => match opd t x with
    | .str s => some (.it h.length, h ++ [.iter s 0])
    | _ => none
  | .nextS x => nextV (opd t x) h
  | .iface => some (.junk, h)
  | .uSliceData _ _ => none
  | .uString _ _ => none
  | .bad => none

def evOps (E : Env) (call : CallT) : List CI → St → Option St
  | [], st => some st
  | i :: l, st => (wantedA st.t i.g).bind fun w =>
    if w then (evOp E call st.t st.h i.op).bind fun r => evOps E call l ⟨putO st.t i.dst r.1, r.2⟩
    else evOps E call l ⟨putO st.t i.dst (.tup []), st.h⟩

/-- A region whose order is drawn: the heaps, one behind the other. -/
def evD (E : Env) (call : CallT) : List DI → List AV → List Heap → Option (List AV × List Heap)
  | [], t, hs => some (t, hs)
  | i :: l, t, hs => (wantedA t i.ci.g).bind fun w => (hs[i.lo]?).bind fun h =>
    if w then (evOp E call t h i.ci.op).bind fun r => evD E call l (putO t i.ci.dst r.1) (if i.eff then hs ++ [r.2] else hs)
    else evD E call l (putO t i.ci.dst (.tup [])) (if i.eff then hs ++ [h] else hs)

def evC (E : Env) (call : CallT) (t : List AV) (hs : List Heap) : List CK → Bool
  | [] => true
  | c :: l => (match wantedA t c.ci.g with
    | some true => (match hs[c.at_]?, c.ci.dst with
      | some h, some d => (match evOp E call t h c.ci.op with
        | some r => same r.1 (get t d)
        | none => false)
      | _, _ => false)
    | some false => true
    | none => false) && evC E call t hs l

def exitC (id : Nat) : List CIt → Option (List CIt)
  | .inBlock id' :: k => if id' == id then some k else exitC id k
  | _ :: k => exitC id k
  | [] => none

def labelC : CC → Nat → Option CC
  | .seq a b, l =>
    match labelC a l with
    | some rest => some (.seq rest b)
    | none => labelC b l
  | .label l', l => if l' == l then some .skip else none
  | _, _ => none

def gotoC (l : Nat) : List CIt → Option (List CIt)
  | .inScope body :: k =>
    match labelC body l with
    | some rest => some (.code rest :: .inScope body :: k)
    | none => gotoC l k
  | _ :: k => gotoC l k
  | [] => none

def run (E : Env) (call : CallT) : Nat → List CIt → St → Option St
  | 0, _, _ => none
  | n + 1, todo, st =>
    match todo with
    | [] => some st
    | .code .ret :: _ => some st
    | .code .skip :: k => run E call n k st
    | .code (.label _) :: k => run E call n k st
    | .inBlock _ :: k => run E call n k st
    | .inScope _ :: k => run E call n k st
    | .code (.seq a b) :: k => run E call n (.code a :: .code b :: k) st
    | .code (.cond c a b) :: k => match opd st.t c with
      | .bool r => run E call n (.code (if r then a else b) :: k) st
      | _ => none
    | .code (.block id b) :: k => run E call n (.code b :: .inBlock id :: k) st
    | .code (.loop b) :: k => run E call n (.code b :: .inLoop b :: k) st
    | .inLoop b :: k => run E call n (.code b :: .inLoop b :: k) st
    | .code (.scope b) :: k => run E call n (.code b :: .inScope b :: k) st
    | .code (.exit id) :: k => (exitC id k).bind fun k' => run E call n k' st
    | .code (.goto l) :: k => (gotoC l k).bind fun k' => run E call n k' st
    | .code (.reg l) :: k => (evOps E call l st).bind fun st' => run E call n k st'
    | .code (.dreg l c) :: k => (evD E call l st.t [st.h]).bind fun r => if evC E call r.1 r.2 c then run E call n k ⟨r.1, r.2.getLastD []⟩ else none
    | .code .bad :: _ => none

def resOne (t : List AV) (h : Heap) : CRes → Option AV
  | .tmp i => some (get t i)
  | .cell a agg n => ld agg n (get t a) h

def resOf (t : List AV) (h : Heap) (l : List CRes) : Option AV :=
  (seqO (resOne t h) l).map fun vs => match vs with
    | [v] => v
    | vs => .tup vs

def evFn (E : Env) : Nat → CallT
  | 0, _, _, _ => none
  | n + 1, f, args, h => (E.code f).bind fun fn =>
    match fn.body with
    | some c => (run E (evFn E n) n [.code c] ⟨args, h⟩).bind fun st => (resOf st.t st.h fn.res).map fun r => (r, st.h)
    | none => ext fn.ext args h

end Go.Proofs.VmX

/- From the model's code to the small machine's: what it takes, with the types' sizes looked up. -/
set_option linter.unusedVariables false
set_option linter.unusedSimpArgs false
namespace Go.Proofs.VmX

def ofCell : Value → AV
  | .bool b => .bool b
  | .int k n => .int k n
  | .string s => .str s.data.toList
  | .pointer none => .nilp
  | .slice none 0 0 => .sl true 0 []
  | .nilIface => .nili
  | .nilFunc => .nilfn
  | _ => .junk

def ofVal : Value → AV
  | .agg cs => .agg (cs.toList.map ofCell)
  | .tuple vs => if vs.size = 0 then .tup [] else .junk
  | v => ofCell v

/-- What the compiling knows besides the program: what the variables hold; which functions are walked into; (the end). -/
structure Hints where
  glob : Nat → AV
  inl : Nat → Bool

def tsz (P : Program) (t : TypeId) : Nat := ((P.info? t).map (·.size)).getD 0
def tbytes (P : Program) (t : TypeId) : Nat := ((P.info? t).map (·.bytes)).getD 0
def tzero (P : Program) (t : TypeId) : Option AV := ((P.info? t).bind (·.zero)).map ofVal
def tagg (P : Program) (t : TypeId) : Bool :=
  match P.underlying t with
  | some (.struct _) => true
  | some (.array ..) => true
  | _ => false
def known (P : Program) (t : TypeId) : Bool := (P.info? t).isSome && (P.underlying t).isSome

def cOpd (H : Hints) : Operand → Opd
  | .tmp i => .t i
  | .const v => .c (ofVal v)
  | .global g => .c (H.glob g)
  | .func f => .c (.fn f [] [])

def fldOff (P : Program) (s : TypeId) (f : Nat) : Option (Nat × Nat × TypeId) :=
  match P.underlying s with
  | some (.struct fields) => (fields[f]?).bind fun x => if known P x.type ∧ tsz P x.type ≠ 0 then some (x.offset, tsz P x.type, x.type) else none
  | _ => none

/-- Structs of plain cells, one a field. -/
def eqKind (P : Program) (t : TypeId) : Option Nat :=
  if known P t then (match P.underlying t with | some .bool => some 1 | some (.int _) => some 2 | some .string => some 3 | _ => none) else none

def eqKinds (P : Program) : List Field → Nat → Option (List Nat)
  | [], _ => some []
  | f :: l, i => if f.offset == i && f.name != "_" then (eqKind P f.type).bind fun k => (eqKinds P l (i + 1)).map fun ks => k :: ks else none

def eqType (P : Program) (t : TypeId) : Option (List Nat) :=
  match P.underlying t with
  | some (.struct fields) => if !P.stoodInHeld t && !P.eqGuardType P.depth t then eqKinds P fields.toList 0 else none
  | _ => none

def cBin (P : Program) (H : Hints) (op : BinOp) (t : TypeId) (x y : Operand) : COp :=
  match P.underlying t with
  | some .bool => .bin 1 op (cOpd H x) (cOpd H y)
  | some (.pointer e) => if known P e ∧ tsz P e ≠ 0 then .bin 2 op (cOpd H x) (cOpd H y) else .bad
  | some (.func ..) => .bin 3 op (cOpd H x) (cOpd H y)
  | some (.int _) => .bin 0 op (cOpd H x) (cOpd H y)
  | some .string => .bin 0 op (cOpd H x) (cOpd H y)
  | some (.struct _) => match eqType P t, op with
    | some n, .eql => .eqs false n (cOpd H x) (cOpd H y)
    | some n, .neq => .eqs true n (cOpd H x) (cOpd H y)
    | _, _ => .bad
  | some (.slice _) => .bin 4 op (cOpd H x) (cOpd H y)
  | some .invalid => .bad
  | some (.named ..) => .bad
  | some _ => .bad
  | none => .bin 0 op (cOpd H x) (cOpd H y)

def cConv (P : Program) (H : Hints) (src dst : TypeId) (x : Operand) : COp :=
  match P.underlying src, P.underlying dst with
  | some (.int _), some (.int k) => .conv (.int k) (cOpd H x)
  | some (.int _), some .string => .conv .intStr (cOpd H x)
  | some .string, some .string => .conv .same (cOpd H x)
  | some .string, some (.slice e) => match P.underlying e with
    | some (.int .u8) => .conv .strBytes (cOpd H x)
    | some (.int .i32) => .conv .strRunes (cOpd H x)
    | _ => .bad
  | some (.slice e), some .string => match P.underlying e with
    | some (.int .u8) => .conv .bytesStr (cOpd H x)
    | some (.int .i32) => .conv .runesStr (cOpd H x)
    | _ => .bad
  | _, _ => .bad

def cCall (P : Program) (H : Hints) (f : Nat) (strict : Bool) (dst : Option Nat) (c : Call) : COp :=
  let az := c.args.toList
  match c.callee with
  | .builtin b =>
    match b, az, c.argTypes.toList with
    | .len, [x], [t] => match P.underlying t with
      | some .string => .len true (cOpd H x)
      | some (.slice _) => .len false (cOpd H x)
      | _ => .bad
    | .cap, [x], [t] => match P.underlying t with
      | some (.slice _) => .cap (cOpd H x)
      | _ => .bad
    | .append, [s, x], [t, u] => match P.underlying t with
      | some (.slice e) => match tzero P e with
        | none => .bad
        | some z =>
          if known P e ∧ okEl (tsz P e) z ∧ tsz P e ≠ 0 then
            (match P.underlying u with
             | some (.int _) => .appendZ e (tsz P e) (tbytes P e) z (cOpd H s) (cOpd H x)
             | some (.slice _) => .append e (tsz P e) (tbytes P e) (cOpd H s) (cOpd H x)
             | some .string => .append e (tsz P e) (tbytes P e) (cOpd H s) (cOpd H x)
             | _ => .bad)
          else .bad
      | _ => .bad
    | .copy, [d, s], [t, _] => match P.underlying t with
      | some (.slice e) => if known P e ∧ tsz P e ≠ 0 then .copy (tsz P e) (cOpd H d) (cOpd H s) else .bad
      | _ => .bad
    | .max, x :: xs, _ => .mm true (cOpd H x) (xs.map (cOpd H))
    | .min, x :: xs, _ => .mm false (cOpd H x) (xs.map (cOpd H))
    | _, _, _ => .bad
  | .value (.func g) => if strict && !H.inl g then .callP g (az.map (cOpd H)) else .callF g (H.inl g) (az.map (cOpd H))
  | .value x => .callV (cOpd H x) (az.map (cOpd H))
  | .invoke .. => .bad

def cBuild (P : Program) (H : Hints) (t : TypeId) (parts : List (Nat × Operand)) : COp :=
  match tzero P t, P.underlying t with
  | some (.agg z), some (.struct fields) =>
    (match seqO (fun (p : Nat × Operand) => (fields[p.1]?).bind fun x => if known P x.type then some (x.offset, tsz P x.type, cOpd H p.2) else none) parts with
     | some l => if (fields.toList.all fun x => known P x.type) then .build z l else .bad
     | none => .bad)
  | some (.agg z), some (.array _ e) =>
    if known P e then .build z (parts.map fun p => (p.1 * tsz P e, tsz P e, cOpd H p.2)) else .bad
  | _, _ => .bad

def cOp (P : Program) (H : Hints) (f : Nat) (strict : Bool) (o : Oper) : COp :=
  match o.op with
  | .move x => .mv (cOpd H x)
  | .assign x => .mv (cOpd H x)
  | .pick c a b => .pick (cOpd H c) (cOpd H a) (cOpd H b)
  | .alloc e => match tzero P e with
    | some z => .alloc z (tsz P e) e
    | none => .bad
  | .box e x => .box (tsz P e) e (cOpd H x)
  | .build t parts => cBuild P H t parts.toList
  | .buildSlice t n parts => match P.underlying t with
    | some (.slice e) => if parts.toList.map (·.1) = List.range n ∧ n * tsz P e ≤ 16777216 ∧ known P e ∧ tsz P e ≠ 0 ∧ (tzero P e).isSome then .bsl (tsz P e) (parts.toList.map fun p => cOpd H p.2) else .bad
    | _ => .bad
  | .load t a => if known P t then .load (tagg P t) (tsz P t) (cOpd H a) else .bad
  | .store t a x => if known P t then .store (tsz P t) (cOpd H a) (cOpd H x) else .bad
  | .nilCheck x => .nilCheck (cOpd H x)
  | .binOp op t x y _ => cBin P H op t x y
  | .unOp op _ x => .un op (cOpd H x)
  | .convert s d x => cConv P H s d x
  | .makeInterface t _ => match P.underlying t with
    | some (.interface _) => .bad
    | some _ => .iface
    | none => .bad
  | .makeFunc (.func g) first cap => .mkFn g (first.toList.map (cOpd H)) (cap.toList.map (cOpd H))
  | .makeSlice t l c => match P.underlying t with
    | some (.slice e) => match tzero P e with
      | some z => if known P e ∧ tsz P e ≠ 0 then .mkSlice e (tsz P e) (tbytes P e) z (cOpd H l) (cOpd H c) else .bad
      | none => .bad
    | _ => .bad
  | .slice t x lo hi mx => match P.underlying t, mx with
    | some .string, none => .sliceStr (cOpd H x) (lo.map (cOpd H)) (hi.map (cOpd H))
    | some (.slice e), mx => if known P e ∧ tsz P e ≠ 0 ∧ (mx.isSome → hi.isSome) then .slice (tsz P e) (cOpd H x) (lo.map (cOpd H)) (hi.map (cOpd H)) (mx.map (cOpd H)) else .bad
    | some (.array n e), none => if known P e ∧ tsz P e ≠ 0 then .sliceArr n (tsz P e) (cOpd H x) (lo.map (cOpd H)) (hi.map (cOpd H)) else .bad
    | _, _ => .bad
  | .fieldAddr s x i => match fldOff P s i with
    | some (off, _, _) => .fld off (cOpd H x)
    | none => .bad
  | .field s x i => match fldOff P s i with
    | some (off, n, ft) => .part (tagg P ft) n off (cOpd H x)
    | none => .bad
  | .indexAddr t x i => match P.underlying t with
    | some (.slice e) => if known P e ∧ tsz P e ≠ 0 then .idxS (tsz P e) (cOpd H x) (cOpd H i) else .bad
    | some (.array n e) => if known P e ∧ tsz P e ≠ 0 then .idxA n (tsz P e) (cOpd H x) (cOpd H i) else .bad
    | _ => .bad
  | .index t x i => match P.underlying t with
    | some .string => .idxStr (cOpd H x) (cOpd H i)
    | some (.array n e) => if known P e ∧ tsz P e ≠ 0 then .idxAgg (tagg P e) n (tsz P e) (cOpd H x) (cOpd H i) else .bad
    | _ => .bad
  | .lookup t m k ok => match P.underlying t with
    | some (.map kt e) => match P.underlying kt, tzero P e with
      | some (.int _), some z => .lookup 2 z ok (cOpd H m) (cOpd H k)
      | some .string, some z => .lookup 3 z ok (cOpd H m) (cOpd H k)
      | _, _ => .bad
    | _ => .bad
  | .range t x => match P.underlying t with
    | some .string => .rangeS (cOpd H x)
    | _ => .bad
  | .next it true => .nextS (cOpd H it)
  | .extract x i => .extract (cOpd H x) i
  | .call c => cCall P H f strict o.dst c
  | _ => .bad

def cGuard (ops : Array Oper) : Option (Nat × Bool) → Option (Option (Nat × Bool))
  | none => some none
  | some (j, w) => ((ops[j]?).bind (·.dst)).map fun d => some (d, w)

def cOper (P : Program) (H : Hints) (f : Nat) (strict : Bool) (ops : Array Oper) (o : Oper) : CI :=
  match cGuard ops o.guard with
  | some g => { dst := o.dst, op := cOp P H f strict o, g }
  | none => { dst := none, op := .bad, g := none }

/-- All the slots written are those of the frame. -/
def dstsIn (N : Nat) (ops : Array Oper) : Bool := ops.toList.all fun o => match o.dst with | some d => d < N | none => true

def cPlain (P : Program) (H : Hints) (f : Nat) (ops : Array Oper) : List CI := (List.range ops.size).map fun i => cOper P H f false ops (ops.getD i default)

/-! Regions whose order is drawn. -/
def Opd.slots : Opd → List Nat
  | .t i => [i]
  | .c _ => []

def oslots : Option Opd → List Nat
  | some x => x.slots
  | none => []

/-- Which slots an operation looks at. -/
def COp.slots : COp → List Nat
  | .mv x => x.slots
  | .nilCheck x => x.slots
  | .pick c a b => c.slots ++ a.slots ++ b.slots
  | .alloc .. => []
  | .box _ _ x => x.slots
  | .build _ parts => parts.flatMap fun p => p.2.2.slots
  | .bsl _ parts => parts.flatMap Opd.slots
  | .load _ _ a => a.slots
  | .store _ a x => a.slots ++ x.slots
  | .bin _ _ x y => x.slots ++ y.slots
  | .eqs _ _ x y => x.slots ++ y.slots
  | .un _ x => x.slots
  | .conv _ x => x.slots
  | .fld _ x => x.slots
  | .part _ _ _ x => x.slots
  | .idxS _ x i => x.slots ++ i.slots
  | .idxA _ _ x i => x.slots ++ i.slots
  | .idxStr x i => x.slots ++ i.slots
  | .idxAgg _ _ _ x i => x.slots ++ i.slots
  | .sliceStr x lo hi => x.slots ++ oslots lo ++ oslots hi
  | .slice _ x lo hi mx => x.slots ++ oslots lo ++ oslots hi ++ oslots mx
  | .sliceArr .. => []
  | .extract x _ => x.slots
  | .len _ x => x.slots
  | .cap x => x.slots
  | .append _ _ _ s x => s.slots ++ x.slots
  | .appendZ _ _ _ _ s x => s.slots ++ x.slots
  | .copy .. => []
  | .mm _ x xs => x.slots ++ xs.flatMap Opd.slots
  | .mkSlice _ _ _ _ l c => l.slots ++ c.slots
  | .callF _ _ args => args.flatMap Opd.slots
  | .callP _ args => args.flatMap Opd.slots
  | .callV x args => x.slots ++ args.flatMap Opd.slots
  | .mkFn _ fs cs => fs.flatMap Opd.slots ++ cs.flatMap Opd.slots
  | .lookup _ _ _ m k => m.slots ++ k.slots
  | .rangeS x => x.slots
  | .nextS x => x.slots
  | .iface => []
  | .uSliceData .. => []
  | .uString .. => []
  | .bad => []

/-- Neither looks at the heap nor turns it. -/
def COp.pure : COp → Bool
  | .mv _ => true
  | .nilCheck _ => true
  | .pick .. => true
  | .build .. => true
  | .bsl .. => true
  | .bin ty _ _ _ => ty != 2
  | .eqs .. => true
  | .un .. => true
  | .conv (.int _) _ => true
  | .conv .same _ => true
  | .conv .intStr _ => true
  | .conv .strBytes _ => true
  | .fld .. => true
  | .part .. => true
  | .idxS .. => true
  | .idxA .. => true
  | .idxStr .. => true
  | .idxAgg .. => true
  | .sliceStr .. => true
  | .extract .. => true
  | .len .. => true
  | .mm .. => true
  | .callP .. => true
  | .mkFn .. => true
  | .lookup .. => true
  | .iface => true
  | _ => false

/-- Looks at the heap at most. -/
def COp.still : COp → Bool
  | .load .. => true
  | .bin .. => true
  | .conv .. => true
  | .slice .. => true
  | .cap _ => true
  | o => o.pure

def guardSlots : Option (Nat × Bool) → List Nat
  | some (s, _) => [s]
  | none => []

def CI.reads (c : CI) : List Nat := guardSlots c.g ++ c.op.slots

def bindPreds (o : Oper) : List Nat := (o.after.toList.filter fun e => Region.binds .any e).map (·.on)

/-- What stands ahead of each, in every order. -/
def ancTable : List Oper → List (List Nat) → List (List Nat)
  | [], acc => acc
  | o :: l, acc => ancTable l (acc ++ [((bindPreds o) ++ (bindPreds o).flatMap fun p => acc.getD p []).eraseDups])

structure Plan where
  cis : List CI
  anc : List (List Nat)

def Plan.ci (p : Plan) (i : Nat) : CI := p.cis.getD i { dst := none, op := .bad, g := none }
def Plan.before (p : Plan) (i j : Nat) : Bool := (p.anc.getD j []).contains i
def Plan.eff (p : Plan) (i : Nat) : Bool := !(p.ci i).op.still
def Plan.n (p : Plan) : Nat := p.cis.length
/-- How many effects stand ahead; how many may. -/
def Plan.lo (p : Plan) (i : Nat) : Nat := (List.range p.n).countP fun j => p.eff j && p.before j i
def Plan.hi (p : Plan) (i : Nat) : Nat := (List.range p.n).countP fun j => p.eff j && !p.before i j

/-- Ahead of: indeed so. -/
def Plan.ancOK (p : Plan) (ops : Array Oper) : Bool :=
  (List.range p.n).all fun j => (p.anc.getD j []).all (fun k => k < j && ((bindPreds (ops.getD j default)).contains k || (bindPreds (ops.getD j default)).any fun q => p.before k q)) &&
    (bindPreds (ops.getD j default)).all fun q => p.before q j

/-- Two that must not change places: they don't. -/
def Plan.pairOK (p : Plan) (i j : Nat) : Bool :=
  p.before i j || (!(p.eff i && p.eff j) &&
    (match (p.ci i).dst with | some d => !(p.ci j).reads.contains d && (p.ci j).dst != some d | none => true) &&
    (match (p.ci j).dst with | some d => !(p.ci i).reads.contains d | none => true))

def Plan.pairsOK (p : Plan) : Bool := (List.range p.n).all fun j => (List.range j).all fun i => p.pairOK i j

/-- Is a second look wanted? Then what it looks at stands. -/
def Plan.again (p : Plan) (i : Nat) : Bool := !p.eff i && !(p.ci i).op.pure && p.lo i < p.hi i
def Plan.againOK (p : Plan) : Bool := (List.range p.n).all fun i => !p.again i || ((p.ci i).dst.isSome && (List.range p.n).all fun j => match (p.ci j).dst with
  | some d => (!(p.ci i).reads.contains d || p.before j i) && (j == i || (p.ci i).dst != some d)
  | none => true)

def Plan.chk (p : Plan) : List CK := (List.range p.n).flatMap fun i => if p.again i then (List.range (p.hi i - p.lo i)).map fun m => { ci := p.ci i, at_ := p.lo i + 1 + m } else []

def cDrawAt (P : Program) (H : Hints) (f : Nat) (strict : Bool) (ops : Array Oper) : CC :=
  let p : Plan := { cis := (List.range ops.size).map fun i => cOper P H f strict ops (ops.getD i default), anc := ancTable ops.toList [] }
  if p.ancOK ops && p.pairsOK && p.againOK then .dreg ((List.range p.n).map fun i => { ci := p.ci i, lo := p.lo i, eff := p.eff i }) p.chk else .bad

/-- Calls as they are, if that goes; else those of their own alone, that are handed no references. -/
def cDraw (P : Program) (H : Hints) (f : Nat) (ops : Array Oper) : CC :=
  match cDrawAt P H f false ops with
  | .dreg l c => .dreg l c
  | _ => cDrawAt P H f true ops

def cRegion (P : Program) (H : Hints) (f N : Nat) (draw : Bool) (ops : Array Oper) : CC :=
  if dstsIn N ops then (if draw then cDraw P H f ops else .reg (cPlain P H f ops)) else .bad

def cCode (P : Program) (H : Hints) (f N : Nat) : Code → CC
  | .skip => .skip
  | .region _ ops draw => cRegion P H f N draw ops
  | .seq a b => .seq (cCode P H f N a) (cCode P H f N b)
  | .cond c a b => .cond (cOpd H c) (cCode P H f N a) (cCode P H f N b)
  | .block id b => .block id (cCode P H f N b)
  | .loop b => .loop (cCode P H f N b)
  | .exit id => .exit id
  | .scope b => .scope (cCode P H f N b)
  | .label l => .label l
  | .goto l => .goto l
  | .ret => .ret
  | _ => .bad

def cItem (P : Program) (H : Hints) (f N : Nat) : Item → CIt
  | .code c => .code (cCode P H f N c)
  | .inBlock id => .inBlock id
  | .inLoop b => .inLoop (cCode P H f N b)
  | .inScope b => .inScope (cCode P H f N b)
  | _ => .code .bad

def cRes (P : Program) : ResultVar → Option CRes
  | .tmp t => some (.tmp t)
  | .cell a t => if known P t then some (.cell a (tagg P t) (tsz P t)) else none

/-- The bodiless ones that we have, by a number of ours. -/
def extNum (name : String) : Nat :=
  if name = "internal/bytealg.IndexByteString" then 1
  else if name = "internal/bytealg.CountString" then 2
  else if name = "internal/abi.NoEscape" then 4
  else if name = "internal/stringslite.Index" then 10
  else 0

def cFn (P : Program) (H : Hints) (f : Nat) : Option CFn :=
  (P.funcs[f]?).bind fun fn =>
    if fn.name = "runtime.NumGoroutine" then none else
    (seqO (cRes P) fn.results.toList).map fun res => { res, body := if 10 ≤ extNum fn.name then none else fn.body.map (cCode P H f fn.ntmps), ext := extNum fn.name }

def envOf (P : Program) (H : Hints) : Env := { code := cFn P H, inl := H.inl }

end Go.Proofs.VmX

/- How the small machine's values and heap stand to the model's world. -/
set_option linter.unusedVariables false
set_option linter.unusedSimpArgs false
set_option linter.unusedSectionVars false
namespace Go.Proofs.VmX
open Go.RowKit

abbrev Phi := List Nat

/-- A cell that nobody writes any more. -/
def Safe (S : Nat → Nat → Prop) (φ : Phi) (h : Heap) (b o : Nat) : Prop :=
  S b o ∧ ∀ (id : Nat) (x : Arr), φ[id]? = some b → h[id]? = some (.arr x) → o < x.lock * x.sz

mutual
inductive VR (S : Nat → Nat → Prop) (φ : Phi) (h : Heap) (w : World) : AV → Value → Prop
  | bool (b : Bool) : VR S φ h w (.bool b) (.bool b)
  | int (k : IntKind) (n : Int) : VR S φ h w (.int k n) (.int k n)
  | str (s : List UInt8) : VR S φ h w (.str s) (.string ⟨s.toArray⟩)
  | nilp : VR S φ h w .nilp (.pointer none)
  | nili : VR S φ h w .nili .nilIface
  | nilfn : VR S φ h w .nilfn .nilFunc
  | ptr (id gen i off : Nat) (a : Addr) (hid : id < h.length) (hg : ∀ x, h[id]? = some (.arr x) → gen ≤ x.gen) (ha : ∀ o, getA h id gen = some o → ∃ b, φ[id]? = some b ∧ a = ⟨b, i * o.sz + off, none⟩) :
      VR S φ h w (.ptr id gen i off) (.pointer (some a))
  | vptr (e : AV) (off b o : Nat) (hc : VC S φ h w e.cells b o) : VR S φ h w (.vptr e off) (.pointer (some ⟨b, o + off, none⟩))
  | sl0 (x : Bool) (sz : Nat) (a : Option Addr) (c : Nat) (hx : x = true → c = 0) (hz : sz = 0 ↔ a = none) : VR S φ h w (.sl x sz []) (.slice a 0 c)
  | sl (x : Bool) (sz : Nat) (xs : List AV) (b o c : Nat) (hn : xs ≠ []) (he : ∀ e ∈ xs, okEl sz e = true) (hc : VC S φ h w (xs.flatMap AV.cells) b o)
      (hl : xs.length ≤ c) (hx : x = true → c = xs.length) : VR S φ h w (.sl x sz xs) (.slice (some ⟨b, o, none⟩) xs.length c)
  | osl (id gen sz i len : Nat) (a : Option Addr) (c : Nat) (hid : id < h.length) (hg : ∀ x, h[id]? = some (.arr x) → gen ≤ x.gen) (hn : len ≤ c) (hs : a.isSome = true)
      (ha : ∀ o, getA h id gen = some o → o.sz = sz ∧ i + len ≤ o.els.length ∧ ∃ b cs fr, φ[id]? = some b ∧ a = some ⟨b, i * sz, none⟩ ∧
        w.heap[b]? = some (.cells cs o.el fr) ∧ (i + c) * sz = cs.size) : VR S φ h w (.osl id gen sz i len) (.slice a len c)
  | it (id b : Nat) (s : List UInt8) (p : Nat) (hb : φ[id]? = some b) (hi : h[id]? = some (.iter s p)) : VR S φ h w (.it id) (.pointer (some ⟨b, 0, none⟩))
  | fn (f : Nat) (az bs : List AV) (vs ws : List Value) (h1 : VRs S φ h w az vs) (h2 : VRs S φ h w bs ws) : VR S φ h w (.fn f az bs) (.func (.func f) vs.toArray ws.toArray)
  | mp (ks vs : List AV) (r : Nat) (es es0 : List MapEntry) (clock : Nat) (hr : w.heap[r]? = some (.map es0.toArray clock)) (hp : es.Perm es0) (hd : keysApart ks = true)
      (h1 : VRs S φ h w ks (es.map (·.key))) (h2 : VRs S φ h w vs (es.map (·.val))) : VR S φ h w (.mp ks vs) (.map (some r))
  | agg (cs : List AV) (vs : List Value) (h1 : VRs S φ h w cs vs) : VR S φ h w (.agg cs) (.agg vs.toArray)
  | tup (cs : List AV) (vs : List Value) (h1 : VRs S φ h w cs vs) : VR S φ h w (.tup cs) (.tuple vs.toArray)
  | junk (v : Value) : VR S φ h w .junk v
inductive VRs (S : Nat → Nat → Prop) (φ : Phi) (h : Heap) (w : World) : List AV → List Value → Prop
  | nil : VRs S φ h w [] []
  | cons (a : AV) (v : Value) (az : List AV) (vs : List Value) (h1 : VR S φ h w a v) (h2 : VRs S φ h w az vs) : VRs S φ h w (a :: az) (v :: vs)
inductive VC (S : Nat → Nat → Prop) (φ : Phi) (h : Heap) (w : World) : List AV → Nat → Nat → Prop
  | nil (b o : Nat) : VC S φ h w [] b o
  | cons (a : AV) (l : List AV) (b o : Nat) (v : Value) (h1 : VR S φ h w a v) (hone : a.one = true) (hc : w.cell? ⟨b, o, none⟩ = some v) (hs : Safe S φ h b o)
      (hr : VC S φ h w l b (o + 1)) : VC S φ h w (a :: l) b o
end

/-- From one state to a later one. -/
structure Ext (S : Nat → Nat → Prop) (φ : Phi) (h : Heap) (w : World) (φ' : Phi) (h' : Heap) (w' : World) : Prop where
  hlen : h.length ≤ h'.length
  arrs : ∀ (id : Nat) (x' : Arr), id < h.length → h'[id]? = some (.arr x') → ∃ x, h[id]? = some (.arr x) ∧ x.gen ≤ x'.gen ∧
    (x.gen = x'.gen → x.sz = x'.sz ∧ x.el = x'.el ∧ x.els.length = x'.els.length ∧ φ'[id]? = φ[id]?)
  blk : ∀ (b : Nat) (cs : Array Value) (el : TypeId) (fr : Nat × Nat), w.heap[b]? = some (.cells cs el fr) → ∃ cs' fr', w'.heap[b]? = some (.cells cs' el fr') ∧ cs'.size = cs.size
  cell : ∀ (b o : Nat) (v : Value), w.cell? ⟨b, o, none⟩ = some v → Safe S φ h b o → w'.cell? ⟨b, o, none⟩ = some v ∧ Safe S φ' h' b o
  maps : ∀ (r : Nat) (es : Array MapEntry) (c : Nat), w.heap[r]? = some (.map es c) → w'.heap[r]? = some (.map es c)
  its : ∀ (id b : Nat) (s : List UInt8) (p : Nat), h[id]? = some (.iter s p) → φ[id]? = some b → (∃ s' p', h'[id]? = some (.iter s' p')) ∧ φ'[id]? = some b

theorem Ext.refl (S : Nat → Nat → Prop) (φ : Phi) (h : Heap) (w : World) : Ext S φ h w φ h w :=
  ⟨Nat.le_refl _, fun id x' _ h1 => ⟨x', h1, Nat.le_refl _, fun _ => ⟨rfl, rfl, rfl, rfl⟩⟩, fun b cs el fr h1 => ⟨cs, fr, h1, rfl⟩, fun b o v h1 h2 => ⟨h1, h2⟩, fun _ _ _ h1 => h1,
    fun id b s p h1 h2 => ⟨⟨s, p, h1⟩, h2⟩⟩

theorem Ext.trans {S : Nat → Nat → Prop} {φ φ1 φ2 : Phi} {h h1 h2 : Heap} {w w1 w2 : World} (e : Ext S φ h w φ1 h1 w1) (k : Ext S φ1 h1 w1 φ2 h2 w2) : Ext S φ h w φ2 h2 w2 := by
  refine ⟨Nat.le_trans e.hlen k.hlen, fun id x2 hid hx2 => ?_, fun b cs el fr hb => ?_, fun b o v hc hs => ?_, fun r es c hr => k.maps _ _ _ (e.maps _ _ _ hr), fun id b s p hi hb => ?_⟩
  · obtain ⟨x1, hx1, g1, a1⟩ := k.arrs id x2 (Nat.lt_of_lt_of_le hid e.hlen) hx2
    obtain ⟨x0, hx0, g0, a0⟩ := e.arrs id x1 hid hx1
    refine ⟨x0, hx0, Nat.le_trans g0 g1, fun hg => ?_⟩
    obtain ⟨b1, b2, b3, b4⟩ := a0 (by omega)
    obtain ⟨c1, c2, c3, c4⟩ := a1 (by omega)
    exact ⟨b1.trans c1, b2.trans c2, b3.trans c3, c4.trans b4⟩
  · obtain ⟨c1, f1, g1, s1⟩ := e.blk b cs el fr hb
    obtain ⟨c2, f2, g2, s2⟩ := k.blk b c1 el f1 g1
    exact ⟨c2, f2, g2, s2.trans s1⟩
  · obtain ⟨c1, s1⟩ := e.cell b o v hc hs
    exact k.cell b o v c1 s1
  · obtain ⟨⟨s1, p1, i1⟩, b1⟩ := e.its id b s p hi hb
    exact k.its id b s1 p1 i1 b1

theorem getA_some {h : Heap} {id gen : Nat} {x : Arr} (hg : getA h id gen = some x) : h[id]? = some (.arr x) ∧ x.gen = gen := by
  unfold getA at hg
  split at hg
  · rename_i y hy
    split at hg
    · rename_i hgen; injection hg with hg; subst hg; exact ⟨hy, hgen⟩
    · cases hg
  · cases hg

theorem getA_of {h : Heap} {id : Nat} {x : Arr} (hx : h[id]? = some (.arr x)) : getA h id x.gen = some x := by
  unfold getA
  simp [hx]

theorem Ext.gen {S : Nat → Nat → Prop} {φ φ' : Phi} {h h' : Heap} {w w' : World} (e : Ext S φ h w φ' h' w') {id gen : Nat} (hid : id < h.length) (hg : ∀ x, h[id]? = some (.arr x) → gen ≤ x.gen) :
    (∀ x, h'[id]? = some (.arr x) → gen ≤ x.gen) ∧ ∀ o', getA h' id gen = some o' → ∃ o, getA h id gen = some o ∧ o.sz = o'.sz ∧ o.el = o'.el ∧ o.els.length = o'.els.length ∧ φ'[id]? = φ[id]? := by
  refine ⟨fun x' hx' => ?_, fun o' ho' => ?_⟩
  · obtain ⟨x, hx, g1, _⟩ := e.arrs id x' hid hx'
    exact Nat.le_trans (hg x hx) g1
  · obtain ⟨h1, h2⟩ := getA_some ho'
    obtain ⟨x, hx, g1, g2⟩ := e.arrs id o' hid h1
    have := hg x hx
    have hxg : x.gen = gen := by omega
    obtain ⟨a1, a2, a3, a4⟩ := g2 (by omega)
    exact ⟨x, hxg ▸ getA_of hx, a1, a2, a3, a4⟩

section mono
variable {S : Nat → Nat → Prop} {φ φ' : Phi} {h h' : Heap} {w w' : World}
mutual
theorem VR.mono (e : Ext S φ h w φ' h' w') : ∀ {a : AV} {v : Value}, VR S φ h w a v → VR S φ' h' w' a v
  | _, _, .bool b => .bool b
  | _, _, .int k n => .int k n
  | _, _, .str s => .str s
  | _, _, .nilp => .nilp
  | _, _, .nili => .nili
  | _, _, .nilfn => .nilfn
  | _, _, .ptr id gen i off a hid hg ha => .ptr id gen i off a (Nat.lt_of_lt_of_le hid e.hlen) (e.gen hid hg).1 (fun o' ho' => by
      obtain ⟨o, ho, h1, _, _, h4⟩ := (e.gen hid hg).2 o' ho'
      obtain ⟨b, hb, hab⟩ := ha o ho
      exact ⟨b, h4.trans hb, by rw [hab, h1]⟩)
  | _, _, .vptr x off b o hc => .vptr x off b o (VC.mono e hc)
  | _, _, .sl0 x sz a c hx hz => .sl0 x sz a c hx hz
  | _, _, .sl x sz xs b o c hn he hc hl hx => .sl x sz xs b o c hn he (VC.mono e hc) hl hx
  | _, _, .osl id gen sz i len a c hid hg hn hs ha => .osl id gen sz i len a c (Nat.lt_of_lt_of_le hid e.hlen) (e.gen hid hg).1 hn hs (fun o' ho' => by
      obtain ⟨o, ho, h1, h2, h3, h4⟩ := (e.gen hid hg).2 o' ho'
      obtain ⟨k1, k2, b, cs, fr, k3, k4, k5, k6⟩ := ha o ho
      obtain ⟨cs', fr', g1, g2⟩ := e.blk b cs o.el fr k5
      exact ⟨h1 ▸ k1, h3 ▸ k2, b, cs', fr', h4.trans k3, k4, h2 ▸ g1, by rw [g2]; exact k6⟩)
  | _, _, .it id b s p hb hi => by
      obtain ⟨⟨s', p', h1⟩, h2⟩ := e.its id b s p hi hb
      exact .it id b s' p' h2 h1
  | _, _, .fn f az bs vs ws h1 h2 => .fn f az bs vs ws (VRs.mono e h1) (VRs.mono e h2)
  | _, _, .mp ks vs r es es0 c hr hp hd h1 h2 => .mp ks vs r es es0 c (e.maps _ _ _ hr) hp hd (VRs.mono e h1) (VRs.mono e h2)
  | _, _, .agg cs vs h1 => .agg cs vs (VRs.mono e h1)
  | _, _, .tup cs vs h1 => .tup cs vs (VRs.mono e h1)
  | _, _, .junk v => .junk v
theorem VRs.mono (e : Ext S φ h w φ' h' w') : ∀ {az : List AV} {vs : List Value}, VRs S φ h w az vs → VRs S φ' h' w' az vs
  | _, _, .nil => .nil
  | _, _, .cons a v az vs h1 h2 => .cons a v az vs (VR.mono e h1) (VRs.mono e h2)
theorem VC.mono (e : Ext S φ h w φ' h' w') : ∀ {l : List AV} {b o : Nat}, VC S φ h w l b o → VC S φ' h' w' l b o
  | _, _, _, .nil b o => .nil b o
  | _, _, _, .cons a l b o v h1 hone hc hs hr => .cons a l b o v (VR.mono e h1) hone (e.cell b o v hc hs).1 (e.cell b o v hc hs).2 (VC.mono e hr)
end
end mono

/-! What has no references goes from one heap to another. -/
section rf
variable {S S' : Nat → Nat → Prop} {φ φ' : Phi} {h h' : Heap} {w w' : World}
theorem rfs_flat : ∀ {xs : List AV}, rfs xs = true → rfs (xs.flatMap AV.cells) = true := by
  have app : ∀ (a b : List AV), rfs a = true → rfs b = true → rfs (a ++ b) = true := by
    intro a b ha hb
    induction a with
    | nil => exact hb
    | cons x l ih => simp only [rfs, Bool.and_eq_true] at ha; simp only [List.cons_append, rfs, Bool.and_eq_true]; exact ⟨ha.1, ih ha.2⟩
  intro xs
  induction xs with
  | nil => intro _; rfl
  | cons a l ih =>
    intro h1
    simp only [rfs, Bool.and_eq_true] at h1
    simp only [List.flatMap_cons]
    refine app _ _ ?_ (ih h1.2)
    cases a <;> simp_all [AV.cells, rfs, rf]
theorem rf_cells {e : AV} (h1 : rf e = true) : rfs e.cells = true := by cases e <;> simp_all [AV.cells, rfs, rf]
mutual
theorem VR.shift (hcell : ∀ (b o : Nat) (v : Value), w.cell? ⟨b, o, none⟩ = some v → Safe S φ h b o → w'.cell? ⟨b, o, none⟩ = some v ∧ Safe S' φ' h' b o) (hmap : ∀ (r : Nat) (es : Array MapEntry) (c : Nat), w.heap[r]? = some (.map es c) → w'.heap[r]? = some (.map es c)) : ∀ {a : AV} {v : Value}, VR S φ h w a v → rf a = true → VR S' φ' h' w' a v
  | _, _, .bool b, _ => .bool b
  | _, _, .int k n, _ => .int k n
  | _, _, .str s, _ => .str s
  | _, _, .nilp, _ => .nilp
  | _, _, .nili, _ => .nili
  | _, _, .nilfn, _ => .nilfn
  | _, _, .ptr .., r => by simp [rf] at r
  | _, _, .vptr x off b o hc, r => .vptr x off b o (VC.shift hcell hmap hc (rf_cells (by simpa [rf] using r)))
  | _, _, .sl0 x sz a c hx hz, _ => .sl0 x sz a c hx hz
  | _, _, .sl x sz xs b o c hn he hc hl hx, r => .sl x sz xs b o c hn he (VC.shift hcell hmap hc (rfs_flat (by simpa [rf] using r))) hl hx
  | _, _, .osl .., r => by simp [rf] at r
  | _, _, .it .., r => by simp [rf] at r
  | _, _, .fn f az bs vs ws h1 h2, r => .fn f az bs vs ws (VRs.shift hcell hmap h1 (by simp [rf] at r; exact r.1)) (VRs.shift hcell hmap h2 (by simp [rf] at r; exact r.2))
  | _, _, .mp ks vs r0 es es0 c hr hp hd h1 h2, r => .mp ks vs r0 es es0 c (hmap _ _ _ hr) hp hd (VRs.shift hcell hmap h1 (by simp [rf] at r; exact r.1)) (VRs.shift hcell hmap h2 (by simp [rf] at r; exact r.2))
  | _, _, .agg cs vs h1, r => .agg cs vs (VRs.shift hcell hmap h1 (by simpa [rf] using r))
  | _, _, .tup cs vs h1, r => .tup cs vs (VRs.shift hcell hmap h1 (by simpa [rf] using r))
  | _, _, .junk v, _ => .junk v
theorem VRs.shift (hcell : ∀ (b o : Nat) (v : Value), w.cell? ⟨b, o, none⟩ = some v → Safe S φ h b o → w'.cell? ⟨b, o, none⟩ = some v ∧ Safe S' φ' h' b o) (hmap : ∀ (r : Nat) (es : Array MapEntry) (c : Nat), w.heap[r]? = some (.map es c) → w'.heap[r]? = some (.map es c)) : ∀ {az : List AV} {vs : List Value}, VRs S φ h w az vs → rfs az = true → VRs S' φ' h' w' az vs
  | _, _, .nil, _ => .nil
  | _, _, .cons a v az vs h1 h2, r => .cons a v az vs (VR.shift hcell hmap h1 (by simp [rfs] at r; exact r.1)) (VRs.shift hcell hmap h2 (by simp [rfs] at r; exact r.2))
theorem VC.shift (hcell : ∀ (b o : Nat) (v : Value), w.cell? ⟨b, o, none⟩ = some v → Safe S φ h b o → w'.cell? ⟨b, o, none⟩ = some v ∧ Safe S' φ' h' b o) (hmap : ∀ (r : Nat) (es : Array MapEntry) (c : Nat), w.heap[r]? = some (.map es c) → w'.heap[r]? = some (.map es c)) : ∀ {l : List AV} {b o : Nat}, VC S φ h w l b o → rfs l = true → VC S' φ' h' w' l b o
  | _, _, _, .nil b o, _ => .nil b o
  | _, _, _, .cons a l b o v h1 hone hc hs hr, r => .cons a l b o v (VR.shift hcell hmap h1 (by simp [rfs] at r; exact r.1)) hone (hcell b o v hc hs).1 (hcell b o v hc hs).2
      (VC.shift hcell hmap hr (by simp [rfs] at r; exact r.2))
end
end rf

/-- An object as it lies in the world. -/
structure OA (S : Nat → Nat → Prop) (φ : Phi) (h : Heap) (w : World) (o : Arr) (b : Nat) : Prop where
  ok : ∀ e ∈ o.els, okEl o.sz e = true
  at_ : ∃ vs rest fr, w.heap[b]? = some (.cells (vs ++ rest).toArray o.el fr) ∧ VRs S φ h w (o.els.flatMap AV.cells) vs ∧
    (∀ j, o.lock * o.sz ≤ j → j < (vs ++ rest).length → ¬ (fr.1 ≤ j ∧ j < fr.2)) ∧ (∀ c, o.cap = some c → (vs ++ rest).length = c * o.sz)

structure Rel (G : Nat → AV) (S : Nat → Nat → Prop) (B : Nat) (φ : Phi) (h : Heap) (w : World) : Prop where
  len : φ.length = h.length
  inj : ∀ (i j b : Nat), φ[i]? = some b → φ[j]? = some b → i = j
  low : ∀ (i b : Nat), φ[i]? = some b → B ≤ b ∧ b < w.heap.size
  base : B ≤ w.heap.size
  own : ∀ b o : Nat, B ≤ b → S b o
  arr : ∀ (i : Nat) (o : Arr) (b : Nat), h[i]? = some (.arr o) → φ[i]? = some b → OA S φ h w o b
  itr : ∀ (i : Nat) (s : List UInt8) (p b : Nat), h[i]? = some (.iter s p) → φ[i]? = some b → w.heap[b]? = some (.stringIter ⟨s.toArray⟩ p)
  glob : ∀ g : Nat, VR S φ h w (G g) (.pointer (some ⟨g, 0, none⟩))

theorem VRs.length {S : Nat → Nat → Prop} {φ : Phi} {h : Heap} {w : World} : ∀ {az : List AV} {vs : List Value}, VRs S φ h w az vs → az.length = vs.length
  | _, _, .nil => rfl
  | _, _, .cons _ _ _ _ _ h2 => by simp [VRs.length h2]
theorem VRs.get {S : Nat → Nat → Prop} {φ : Phi} {h : Heap} {w : World} : ∀ {az : List AV} {vs : List Value}, VRs S φ h w az vs → ∀ (i : Nat) (a : AV), az[i]? = some a → ∃ v, vs[i]? = some v ∧ VR S φ h w a v
  | _, _, .nil, i, a, h1 => by simp at h1
  | _, _, .cons a0 v0 az vs h1 h2, 0, a, h3 => by simp at h3; subst h3; exact ⟨v0, by simp, h1⟩
  | _, _, .cons a0 v0 az vs h1 h2, i + 1, a, h3 => by simpa using VRs.get h2 i a (by simpa using h3)
theorem VRs.append {S : Nat → Nat → Prop} {φ : Phi} {h : Heap} {w : World} {az bs : List AV} {vs ws : List Value} (h1 : VRs S φ h w az vs) (h2 : VRs S φ h w bs ws) : VRs S φ h w (az ++ bs) (vs ++ ws) := by
  induction az generalizing vs with
  | nil => cases h1; exact h2
  | cons a l ih => cases h1 with | cons _ v _ vs' g1 g2 => exact .cons _ _ _ _ g1 (ih g2)
theorem VRs.take {S : Nat → Nat → Prop} {φ : Phi} {h : Heap} {w : World} {az : List AV} {vs : List Value} (h1 : VRs S φ h w az vs) (n : Nat) : VRs S φ h w (az.take n) (vs.take n) := by
  induction az generalizing vs n with
  | nil => cases h1; simp; exact .nil
  | cons a l ih => cases h1 with | cons _ v _ vs' g1 g2 => cases n with
    | zero => exact .nil
    | succ n => exact .cons _ _ _ _ g1 (ih g2 n)
theorem VRs.drop {S : Nat → Nat → Prop} {φ : Phi} {h : Heap} {w : World} {az : List AV} {vs : List Value} (h1 : VRs S φ h w az vs) (n : Nat) : VRs S φ h w (az.drop n) (vs.drop n) := by
  induction az generalizing vs n with
  | nil => cases h1; simp; exact .nil
  | cons a l ih => cases h1 with | cons _ v _ vs' g1 g2 => cases n with
    | zero => exact .cons _ _ _ _ g1 g2
    | succ n => exact ih g2 n
theorem VRs.split {S : Nat → Nat → Prop} {φ : Phi} {h : Heap} {w : World} {az bs : List AV} {vs : List Value} (h1 : VRs S φ h w (az ++ bs) vs) : VRs S φ h w az (vs.take az.length) ∧ VRs S φ h w bs (vs.drop az.length) := by
  have h2 := h1.take az.length
  have h3 := h1.drop az.length
  simp at h2 h3
  exact ⟨h2, h3⟩

end Go.Proofs.VmX

/- The small machine's plain operations, against the model's. -/
set_option linter.unusedVariables false
set_option linter.unusedSimpArgs false
set_option linter.unusedSectionVars false
namespace Go.Proofs.VmX
open Go.RowKit

def TR (S : Nat → Nat → Prop) (φ : Phi) (h : Heap) (w : World) (t : List AV) (tm : Array Value) : Prop := ∀ i, VR S φ h w (get t i) (tm.getD i undef)

structure Good (G : Nat → AV) (S : Nat → Nat → Prop) (B : Nat) (φ : Phi) (h : Heap) (w : World) (h' : Heap) (r : AV) (φ' : Phi) (w' : World) (v : Value) : Prop where
  rel : Rel G S B φ' h' w'
  ext : Ext S φ h w φ' h' w'
  vr : VR S φ' h' w' r v
  below : Below B w w'

/-- The operation does in the model what the small machine says. -/
def OpOK (P : Program) (G : Nat → AV) (S : Nat → Nat → Prop) (B : Nat) (φ : Phi) (h : Heap) (w : World) (a : Act) (o : Oper) (h' : Heap) (r : AV) : Prop :=
  ∀ (K : Act → World → Prop) (Q : Exit → Act → World → Prop), (∀ φ' w' v, Good G S B φ h w h' r φ' w' v → K (a.put o.dst v) w') → o.wp P a w K Q

section
variable {P : Program} {H : Hints} {S : Nat → Nat → Prop} {B : Nat} {φ : Phi} {h : Heap} {w : World} {t : List AV} {a : Act} {o : Oper}

theorem ok_same {v : Value} {r : AV} (hrel : Rel H.glob S B φ h w) (hrun : (execOp a.eval o).run P w = .ok (.value v) w) (hr : VR S φ h w r v) : OpOK P H.glob S B φ h w a o h r := by
  intro K Q hK
  unfold Oper.wp
  rw [hrun]
  exact hK φ w v ⟨hrel, Ext.refl .., hr, Below.refl ..⟩

theorem ofCell_VR (v : Value) : VR S φ h w (ofCell v) v := by
  unfold ofCell
  split
  · exact .bool _
  · exact .int _ _
  · rename_i s
    have : (⟨s.data.toList.toArray⟩ : ByteArray) = s := by simp
    have := VR.str (S := S) (φ := φ) (h := h) (w := w) s.data.toList
    simpa using this
  · exact .nilp
  · exact .sl0 _ _ _ _ (fun _ => rfl) (by simp)
  · exact .nili
  · exact .nilfn
  · exact .junk _

theorem ofCells_VRs : ∀ (l : List Value), VRs S φ h w (l.map ofCell) l
  | [] => .nil
  | v :: l => .cons _ _ _ _ (ofCell_VR v) (ofCells_VRs l)

theorem ofVal_VR (v : Value) : VR S φ h w (ofVal v) v := by
  unfold ofVal
  split
  · rename_i cs
    have := VR.agg _ _ (ofCells_VRs (S := S) (φ := φ) (h := h) (w := w) cs.toList)
    simpa using this
  · rename_i vs
    split
    · rename_i h0
      have : vs = #[] := by simpa using h0
      subst this
      exact .tup [] [] .nil
    · exact .junk _
  · exact ofCell_VR _

theorem opd_VR (hrel : Rel H.glob S B φ h w) (ht : TR S φ h w t a.tmps) (x : Operand) : VR S φ h w (opd t (cOpd H x)) (a.eval x) := by
  cases x with
  | tmp i => exact ht i
  | const v => exact ofVal_VR v
  | global g => exact hrel.glob g
  | func f => exact .fn f [] [] [] [] .nil .nil

/-! What a value of the small machine says of the model's. -/
theorem VR.int_inv {k : IntKind} {n : Int} {v : Value} (hv : VR S φ h w (.int k n) v) : v = .int k n := by cases hv; rfl
theorem VR.bool_inv {b : Bool} {v : Value} (hv : VR S φ h w (.bool b) v) : v = .bool b := by cases hv; rfl
theorem VR.str_inv {s : List UInt8} {v : Value} (hv : VR S φ h w (.str s) v) : v = .string ⟨s.toArray⟩ := by cases hv; rfl
theorem VR.agg_inv {cs : List AV} {v : Value} (hv : VR S φ h w (.agg cs) v) : ∃ vs, v = .agg vs.toArray ∧ VRs S φ h w cs vs := by cases hv with | agg _ vs h1 => exact ⟨vs, rfl, h1⟩
theorem VR.tup_inv {cs : List AV} {v : Value} (hv : VR S φ h w (.tup cs) v) : ∃ vs, v = .tuple vs.toArray ∧ VRs S φ h w cs vs := by cases hv with | tup _ vs h1 => exact ⟨vs, rfl, h1⟩

theorem ok_mv (hrel : Rel H.glob S B φ h w) (ht : TR S φ h w t a.tmps) (x : Operand) (ho : o.op = .move x ∨ o.op = .assign x) : OpOK P H.glob S B φ h w a o h (opd t (cOpd H x)) := by
  refine ok_same (v := a.eval x) hrel ?_ (opd_VR hrel ht x)
  rcases ho with ho | ho <;> simp [execOp, ho]

theorem ok_pick (hrel : Rel H.glob S B φ h w) (ht : TR S φ h w t a.tmps) (c x y : Operand) (ho : o.op = .pick c x y) {b : Bool} (hc : opd t (cOpd H c) = .bool b) :
    OpOK P H.glob S B φ h w a o h (if b then opd t (cOpd H x) else opd t (cOpd H y)) := by
  have e1 := (hc ▸ opd_VR hrel ht c : VR S φ h w (.bool b) (a.eval c)).bool_inv
  refine ok_same (v := if b then a.eval x else a.eval y) hrel ?_ ?_
  · cases b <;> simp [execOp, ho, e1, asBool]
  · cases b
    · exact opd_VR hrel ht y
    · exact opd_VR hrel ht x

theorem ok_nilCheck (hrel : Rel H.glob S B φ h w) (ht : TR S φ h w t a.tmps) (x : Operand) (ho : o.op = .nilCheck x) {v : AV} (hv : opd t (cOpd H x) = v)
    (hk : (∃ i j k l, v = .ptr i j k l) ∨ (∃ e f, v = .vptr e f) ∨ ∃ f az bs, v = .fn f az bs) : OpOK P H.glob S B φ h w a o h v := by
  have e1 : VR S φ h w v (a.eval x) := hv ▸ opd_VR hrel ht x
  refine ok_same (v := a.eval x) hrel ?_ e1
  rcases hk with ⟨i, j, k, l, rfl⟩ | ⟨e, f, rfl⟩ | ⟨f, az, bs, rfl⟩
  · generalize hx : a.eval x = u at e1
    cases e1 with | ptr _ _ _ _ ad => simp [execOp, ho, hx]
  · generalize hx : a.eval x = u at e1
    cases e1 with | vptr _ _ b o => simp [execOp, ho, hx]
  · generalize hx : a.eval x = u at e1
    cases e1 with | fn _ _ _ vs ws => simp [execOp, ho, hx]

/-! Arithmetic. -/
theorem run_eqGuard_plain (op : BinOp) (ty : TypeId) (x y : Operand) (u v : Value) (h1 : ∀ c d, ¬ (u = .agg c ∧ v = .agg d)) (h2 : ¬ (u = .nilIface ∧ v = .nilIface)) :
    (eqGuard op ty x y u v).run P w = .ok () w := by
  unfold eqGuard
  cases op <;> simp only [Bool.not_true, Bool.not_false, if_true, Sem.run_pure, Bool.false_eq_true, if_false]
  all_goals
    split
    · exact absurd ⟨rfl, rfl⟩ h2
    · exact absurd ⟨rfl, rfl⟩ (h1 _ _)
    · rfl

theorem iBin_run (op : BinOp) (ty : TypeId) (k : IntKind) (m n : Int) (r : AV) (hb : iBin op k m n = some r) :
    ∃ v, (binOp op ty (.int k m) (.int k n)).run P w = .ok v w ∧ VR S φ h w r v := by
  cases op <;> simp only [iBin] at hb
  case add => injection hb with hb; subst hb; exact ⟨_, by simp [binOp, Op.intArith], .int _ _⟩
  case sub => injection hb with hb; subst hb; exact ⟨_, by simp [binOp, Op.intArith], .int _ _⟩
  case mul => injection hb with hb; subst hb; exact ⟨_, by simp [binOp, Op.intArith], .int _ _⟩
  case quo => split at hb; · cases hb
              · rename_i hz; injection hb with hb; subst hb; exact ⟨_, by simp [binOp, Op.intDiv, hz], .int _ _⟩
  case rem => split at hb; · cases hb
              · rename_i hz; injection hb with hb; subst hb; exact ⟨_, by simp [binOp, Op.intDiv, hz], .int _ _⟩
  case and => injection hb with hb; subst hb; exact ⟨_, by simp [binOp, Op.intBits], .int _ _⟩
  case or => injection hb with hb; subst hb; exact ⟨_, by simp [binOp, Op.intBits], .int _ _⟩
  case xor => injection hb with hb; subst hb; exact ⟨_, by simp [binOp, Op.intBits], .int _ _⟩
  case andNot => injection hb with hb; subst hb; exact ⟨_, by simp [binOp, Op.intBits], .int _ _⟩
  case shl => cases hb
  case shr => cases hb
  case eql => injection hb with hb; subst hb; exact ⟨_, by simp [binOp, Op.intCmp], .bool _⟩
  case neq => injection hb with hb; subst hb; exact ⟨_, by simp [binOp, Op.intCmp], .bool _⟩
  case lss => injection hb with hb; subst hb; exact ⟨_, by simp [binOp, Op.intCmp], .bool _⟩
  case leq => injection hb with hb; subst hb; exact ⟨_, by simp [binOp, Op.intCmp], .bool _⟩
  case gtr => injection hb with hb; subst hb; exact ⟨_, by simp [binOp, Op.intCmp], .bool _⟩
  case geq => injection hb with hb; subst hb; exact ⟨_, by simp [binOp, Op.intCmp], .bool _⟩

theorem shift_run (op : BinOp) (ty : TypeId) (k k' : IntKind) (m n : Int) (r : AV) (ho : op = .shl ∨ op = .shr) (hb : bin 0 op (.int k m) (.int k' n) = some r) :
    ∃ v, (binOp op ty (.int k m) (.int k' n)).run P w = .ok v w ∧ VR S φ h w r v := by
  rcases ho with rfl | rfl <;> simp only [bin] at hb <;> split at hb
  · cases hb
  · rename_i hz; injection hb with hb; subst hb; exact ⟨_, by simp [binOp, Op.shift, hz], .int _ _⟩
  · cases hb
  · rename_i hz; injection hb with hb; subst hb; exact ⟨_, by simp [binOp, Op.shift, hz], .int _ _⟩

theorem sBin_run (op : BinOp) (ty : TypeId) (m n : List UInt8) (r : AV) (hb : sBin op m n = some r) :
    ∃ v, (binOp op ty (.string ⟨m.toArray⟩) (.string ⟨n.toArray⟩)).run P w = .ok v w ∧ VR S φ h w r v := by
  cases op <;> simp only [sBin] at hb
  case add =>
    split at hb
    · rename_i hl
      injection hb with hb; subst hb
      have hs : ¬ (((⟨m.toArray⟩ : ByteArray).size + (⟨n.toArray⟩ : ByteArray).size : Nat) : Int) > IntKind.i64.max := by
        show ¬ (((m.toArray.size + n.toArray.size : Nat)) : Int) > 9223372036854775807
        simp only [List.size_toArray]
        omega
      refine ⟨.string ⟨(m ++ n).toArray⟩, ?_, .str _⟩
      have e : (⟨m.toArray⟩ : ByteArray) ++ ⟨n.toArray⟩ = ⟨(m ++ n).toArray⟩ := by
        apply ByteArray.ext
        simp [ByteArray.data_append]
      simp only [binOp, Op.stringOp, if_neg hs, e]
      rfl
    · cases hb
  case eql => injection hb with hb; subst hb; exact ⟨_, by simp [binOp, Op.stringOp], .bool _⟩
  case neq => injection hb with hb; subst hb; exact ⟨_, by simp [binOp, Op.stringOp], .bool _⟩
  case lss => injection hb with hb; subst hb; exact ⟨_, by simp [binOp, Op.stringOp], .bool _⟩
  case leq => injection hb with hb; subst hb; exact ⟨_, by simp [binOp, Op.stringOp], .bool _⟩
  case gtr => injection hb with hb; subst hb; exact ⟨_, by simp [binOp, Op.stringOp], .bool _⟩
  case geq => injection hb with hb; subst hb; exact ⟨_, by simp [binOp, Op.stringOp], .bool _⟩
  all_goals cases hb

end
end Go.Proofs.VmX

/- The small machine's plain operations, against the model's: comparisons, conversions, parts. -/
set_option linter.unusedVariables false
set_option linter.unusedSimpArgs false
set_option linter.unusedSectionVars false
namespace Go.Proofs.VmX
open Go.RowKit
section
variable {P : Program} {H : Hints} {S : Nat → Nat → Prop} {B : Nat} {φ : Phi} {h : Heap} {w : World} {t : List AV} {a : Act} {o : Oper}

/-- '==', '!=' of what is no number, no text. -/
theorem eq_run (op : BinOp) (ty : TypeId) (u v : Value) (r : Bool) (res : AV) (he : eqB op r = some res)
    (hu : ∀ k n, u ≠ .int k n) (hf : ∀ k n, u ≠ .float k n) (hc : ∀ k m n, u ≠ .complex k m n) (hs : ∀ s, u ≠ .string s)
    (hrun : (Op.equal ty u v).run P w = .ok r w) : ∃ x, (binOp op ty u v).run P w = .ok x w ∧ VR S φ h w res x := by
  cases op <;> simp only [eqB] at he <;> first | cases he | skip
  · refine ⟨.bool r, ?_, .bool _⟩
    cases u <;> simp_all [binOp]
  · refine ⟨.bool !r, ?_, .bool _⟩
    cases u <;> simp_all [binOp]

theorem run_under {t : TypeId} {d : TypeDesc} (hd : P.underlying t = some d) : (underlying t).run P w = .ok d w := by simp [underlying, hd]
theorem known_info {t : TypeId} (hk : known P t = true) : ∃ i d, P.info? t = some i ∧ P.underlying t = some d ∧ tsz P t = i.size := by
  simp only [known, Bool.and_eq_true, Option.isSome_iff_exists] at hk
  obtain ⟨⟨i, hi⟩, ⟨d, hd⟩⟩ := hk
  exact ⟨i, d, hi, hd, by simp [tsz, hi]⟩
theorem run_size {t : TypeId} (hk : known P t = true) : (sizeOf t).run P w = .ok (tsz P t) w := by
  obtain ⟨i, d, hi, _, hs⟩ := known_info hk
  simp [sizeOf, typeInfo, hi, hs]
theorem run_agg {t : TypeId} (hk : known P t = true) : (isAgg t).run P w = .ok (tagg P t) w := by
  obtain ⟨i, d, hi, hd, hs⟩ := known_info hk
  simp only [isAgg, Sem.run_bind, run_under hd, Result.andThen_ok, tagg, hd]
  cases d <;> rfl

theorem equal_bool {ty : TypeId} (hd : P.underlying ty = some .bool) (x y : Bool) : (Op.equal ty (.bool x) (.bool y)).run P w = .ok (x == y) w := by
  have key : ∀ d, (Op.equalIn (d + 1) ty (.bool x) (.bool y)).run P w = .ok (x == y) w := fun d => by simp [Op.equalIn, run_under hd]
  exact key 9999
theorem equal_ptr0 {ty e : TypeId} (hd : P.underlying ty = some (.pointer e)) (b : Option Addr) : (Op.equal ty (.pointer none) (.pointer b)).run P w = .ok b.isNone w := by
  have key : ∀ d, (Op.equalIn (d + 1) ty (.pointer none) (.pointer b)).run P w = .ok b.isNone w := fun d => by simp [Op.equalIn, run_under hd]
  exact key 9999
theorem equal_ptr1 {ty e : TypeId} (hd : P.underlying ty = some (.pointer e)) (b : Addr) : (Op.equal ty (.pointer (some b)) (.pointer none)).run P w = .ok false w := by
  have key : ∀ d, (Op.equalIn (d + 1) ty (.pointer (some b)) (.pointer none)).run P w = .ok false w := fun d => by simp [Op.equalIn, run_under hd]
  exact key 9999
theorem equal_ptr2 {ty e : TypeId} (hd : P.underlying ty = some (.pointer e)) (hk : known P e = true) (hz : tsz P e ≠ 0) (b : Addr) : (Op.equal ty (.pointer (some b)) (.pointer (some b))).run P w = .ok true w := by
  have key : ∀ d, (Op.equalIn (d + 1) ty (.pointer (some b)) (.pointer (some b))).run P w = .ok true w := fun d => by simp [Op.equalIn, run_under hd, run_size hk, hz, sameAddr]
  exact key 9999
theorem equal_fn0 {ty : TypeId} {p q : Array TypeId} {z : Bool} (hd : P.underlying ty = some (.func p q z)) : (Op.equal ty .nilFunc .nilFunc).run P w = .ok true w := by
  have key : ∀ d, (Op.equalIn (d + 1) ty .nilFunc .nilFunc).run P w = .ok true w := fun d => by simp [Op.equalIn, run_under hd]
  exact key 9999
theorem equal_fn1 {ty : TypeId} {p q : Array TypeId} {z : Bool} (hd : P.underlying ty = some (.func p q z)) (f : Fn) (m n : Array Value) : (Op.equal ty (.func f m n) .nilFunc).run P w = .ok false w := by
  have key : ∀ d, (Op.equalIn (d + 1) ty (.func f m n) .nilFunc).run P w = .ok false w := fun d => by simp [Op.equalIn, run_under hd]
  exact key 9999
theorem equal_fn2 {ty : TypeId} {p q : Array TypeId} {z : Bool} (hd : P.underlying ty = some (.func p q z)) (f : Fn) (m n : Array Value) : (Op.equal ty .nilFunc (.func f m n)).run P w = .ok false w := by
  have key : ∀ d, (Op.equalIn (d + 1) ty .nilFunc (.func f m n)).run P w = .ok false w := fun d => by simp [Op.equalIn, run_under hd]
  exact key 9999

theorem bBin_eqB (op : BinOp) (x y : Bool) (r : AV) (hb : bBin op x y = some r) : eqB op (x == y) = some r := by cases op <;> simp_all [bBin, eqB]

theorem bin_run (op : BinOp) (ty : TypeId) (k : Nat) (x y : AV) (u v : Value) (r : AV) (hu : VR S φ h w x u) (hv : VR S φ h w y v) (hb : bin k op x y = some r)
    (h1 : k = 1 → P.underlying ty = some .bool) (h2 : k = 2 → ∃ e, P.underlying ty = some (.pointer e)) (h3 : k = 3 → ∃ p q z, P.underlying ty = some (.func p q z)) :
    ∃ z, (binOp op ty u v).run P w = .ok z w ∧ VR S φ h w r z := by
  cases hu <;> cases hv <;> simp only [bin] at hb <;> try (cases hb; done)
  case bool.bool x y =>
    split at hb
    · rename_i hk
      refine eq_run op ty _ _ (x == y) r (bBin_eqB _ _ _ _ hb) (by simp) (by simp) (by simp) (by simp) ?_
      exact equal_bool (h1 hk) _ _
    · cases hb
  case int.int k m k' n =>
    cases op
    case shl => exact shift_run _ _ _ _ _ _ _ (.inl rfl) (by simpa [bin] using hb)
    case shr => exact shift_run _ _ _ _ _ _ _ (.inr rfl) (by simpa [bin] using hb)
    all_goals
      simp only at hb
      split at hb
      · rename_i hk; subst hk; exact iBin_run _ _ _ _ _ _ hb
      · cases hb
  case str.str m n => exact sBin_run _ _ _ _ _ hb
  case nilp.nilp =>
    split at hb
    · rename_i hk
      obtain ⟨e, he⟩ := h2 hk
      refine eq_run op ty _ _ true r hb (by simp) (by simp) (by simp) (by simp) ?_
      exact equal_ptr0 he _
    · cases hb
  case nilp.ptr =>
    split at hb
    · rename_i hk
      obtain ⟨e, he⟩ := h2 hk
      refine eq_run op ty _ _ false r hb (by simp) (by simp) (by simp) (by simp) ?_
      exact equal_ptr0 he _
    · cases hb
  case nilp.vptr =>
    split at hb
    · rename_i hk
      obtain ⟨e, he⟩ := h2 hk
      refine eq_run op ty _ _ false r hb (by simp) (by simp) (by simp) (by simp) ?_
      exact equal_ptr0 he _
    · cases hb
  case ptr.nilp =>
    split at hb
    · rename_i hk
      obtain ⟨e, he⟩ := h2 hk
      refine eq_run op ty _ _ false r hb (by simp) (by simp) (by simp) (by simp) ?_
      exact equal_ptr1 he _
    · cases hb
  case vptr.nilp =>
    split at hb
    · rename_i hk
      obtain ⟨e, he⟩ := h2 hk
      refine eq_run op ty _ _ false r hb (by simp) (by simp) (by simp) (by simp) ?_
      exact equal_ptr1 he _
    · cases hb
  case nilfn.nilfn =>
    split at hb
    · rename_i hk
      obtain ⟨p, q, z, he⟩ := h3 hk
      refine eq_run op ty _ _ true r hb (by simp) (by simp) (by simp) (by simp) ?_
      exact equal_fn0 he
    · cases hb
  case nilfn.fn =>
    split at hb
    · rename_i hk
      obtain ⟨p, q, z, he⟩ := h3 hk
      refine eq_run op ty _ _ false r hb (by simp) (by simp) (by simp) (by simp) ?_
      exact equal_fn2 he _ _ _
    · cases hb
  case fn.nilfn =>
    split at hb
    · rename_i hk
      obtain ⟨p, q, z, he⟩ := h3 hk
      refine eq_run op ty _ _ false r hb (by simp) (by simp) (by simp) (by simp) ?_
      exact equal_fn1 he _ _ _
    · cases hb

theorem bin_noagg {k : Nat} {op : BinOp} {x y r : AV} {u v : Value} (hu : VR S φ h w x u) (hv : VR S φ h w y v) (hb : bin k op x y = some r) :
    (∀ c d, ¬ (u = .agg c ∧ v = .agg d)) ∧ ¬ (u = .nilIface ∧ v = .nilIface) := by
  cases hu <;> cases hv <;> simp [bin] at hb ⊢

theorem ok_bin (hrel : Rel H.glob S B φ h w) (ht : TR S φ h w t a.tmps) (op : BinOp) (ty yty : TypeId) (x y : Operand) (ho : o.op = .binOp op ty x y yty) (k : Nat) (r : AV)
    (hb : bin k op (opd t (cOpd H x)) (opd t (cOpd H y)) = some r)
    (h1 : k = 1 → P.underlying ty = some .bool) (h2 : k = 2 → ∃ e, P.underlying ty = some (.pointer e)) (h3 : k = 3 → ∃ p q z, P.underlying ty = some (.func p q z)) :
    OpOK P H.glob S B φ h w a o h r := by
  have hu := opd_VR hrel ht x
  have hv := opd_VR hrel ht y
  obtain ⟨z, hz, hr⟩ := bin_run op ty k _ _ _ _ r hu hv hb h1 h2 h3
  obtain ⟨n1, n2⟩ := bin_noagg hu hv hb
  refine ok_same hrel ?_ hr
  simp [execOp, ho, run_eqGuard_plain op ty x y _ _ n1 n2, hz]

theorem ok_ptreq (hrel : Rel H.glob S B φ h w) (ht : TR S φ h w t a.tmps) (op : BinOp) (ty yty : TypeId) (x y : Operand) (ho : o.op = .binOp op ty x y yty) (e : TypeId)
    (hty : P.underlying ty = some (.pointer e)) (hk : known P e = true) (hz : tsz P e ≠ 0) (i g c d : Nat) (hx : opd t (cOpd H x) = .ptr i g c d) (hy : opd t (cOpd H y) = .ptr i g c d) (hl : (getA h i g).isSome = true)
    (r : AV) (hb : eqB op true = some r) : OpOK P H.glob S B φ h w a o h r := by
  have hu := opd_VR hrel ht x
  have hv := opd_VR hrel ht y
  rw [hx] at hu
  rw [hy] at hv
  obtain ⟨ob, hob⟩ := Option.isSome_iff_exists.1 hl
  generalize hu' : a.eval x = u at hu
  generalize hv' : a.eval y = v at hv
  cases hu with | ptr _ _ _ _ a1 _ _ ha1 =>
  cases hv with | ptr _ _ _ _ a2 _ _ ha2 =>
  obtain ⟨b1, e1, rfl⟩ := ha1 ob hob
  obtain ⟨b2, e2, rfl⟩ := ha2 ob hob
  rw [e1] at e2
  injection e2 with e2
  subst e2
  have hrun : (Op.equal ty (.pointer (some ⟨b1, c * ob.sz + d, none⟩)) (.pointer (some ⟨b1, c * ob.sz + d, none⟩))).run P w = .ok true w := by
    exact equal_ptr2 hty hk hz _
  obtain ⟨z, hz', hr⟩ := eq_run (S := S) (φ := φ) (h := h) op ty _ _ true r hb (by simp) (by simp) (by simp) (by simp) hrun
  refine ok_same hrel ?_ hr
  have hg := run_eqGuard_plain (P := P) (w := w) op ty x y (.pointer (some ⟨b1, c * ob.sz + d, none⟩)) (.pointer (some ⟨b1, c * ob.sz + d, none⟩)) (by simp) (by simp)
  simp [execOp, ho, hu', hv', hg, hz']

theorem ok_un (hrel : Rel H.glob S B φ h w) (ht : TR S φ h w t a.tmps) (op : UnOp) (ty : TypeId) (x : Operand) (ho : o.op = .unOp op ty x) (r : AV)
    (hb : un op (opd t (cOpd H x)) = some r) : OpOK P H.glob S B φ h w a o h r := by
  have hu := opd_VR hrel ht x
  generalize hu' : a.eval x = u at hu
  generalize opd t (cOpd H x) = X at *
  cases op <;> cases hu <;> simp only [un] at hb <;> try (cases hb; done)
  · injection hb with hb; subst hb
    exact ok_same hrel (v := _) (by simp [execOp, ho, hu', Op.unary, Op.intArith]) (.int _ _)
  · rename_i k n
    simp only [iBin] at hb
    injection hb with hb; subst hb
    exact ok_same hrel (v := _) (by simp [execOp, ho, hu', Op.unary, Op.intBits]) (.int _ _)
  · injection hb with hb; subst hb
    exact ok_same hrel (v := _) (by simp [execOp, ho, hu', Op.unary]) (.bool _)

/-! Parts of structs. -/
theorem VRs.getElem {az : List AV} {vs : List Value} (h1 : VRs S φ h w az vs) (i : Nat) (x : AV) (hx : az[i]? = some x) : ∃ v, vs[i]? = some v ∧ VR S φ h w x v := VRs.get h1 i x hx

theorem part_run {ty : TypeId} (hk : known P ty = true) (cs : List AV) (vs : List Value) (hv : VRs S φ h w cs vs) (off : Nat) (r : AV) (hl : ldE (tagg P ty) (tsz P ty) (.agg cs) off = some r) :
    ∃ v, (Go.part ty vs.toArray off).run P w = .ok v w ∧ VR S φ h w r v := by
  unfold ldE at hl
  by_cases hagg : tagg P ty = true
  · rw [if_pos hagg] at hl
    by_cases hle : off + tsz P ty ≤ (AV.agg cs).cells.length
    · rw [if_pos hle] at hl
      injection hl with hl
      subst hl
      refine ⟨.agg (((vs.drop off).take (tsz P ty))).toArray, ?_, .agg _ _ ((hv.drop off).take _)⟩
      have : vs.toArray.extract off (off + tsz P ty) = ((vs.drop off).take (tsz P ty)).toArray := by
        apply Array.toList_inj.1
        simp
      simp [Go.part, run_agg hk, hagg, run_size hk, this]
    · rw [if_neg hle] at hl
      cases hl
  · rw [if_neg hagg] at hl
    obtain ⟨v, h1, h2⟩ := hv.get off r hl
    refine ⟨v, ?_, h2⟩
    simp [Go.part, run_agg hk, hagg, h1]

theorem fldOff_spec {s : TypeId} {i off n : Nat} {ft : TypeId} (hf : fldOff P s i = some (off, n, ft)) :
    ∃ fields f, P.underlying s = some (.struct fields) ∧ fields[i]? = some f ∧ f.offset = off ∧ f.type = ft ∧ n = tsz P ft ∧ known P ft = true ∧ tsz P ft ≠ 0 := by
  unfold fldOff at hf
  split at hf
  · rename_i fields hs
    rw [Option.bind_eq_some_iff] at hf
    obtain ⟨f, h1, h2⟩ := hf
    split at h2
    · rename_i hk
      injection h2 with h2
      simp only [Prod.mk.injEq] at h2
      obtain ⟨rfl, rfl, rfl⟩ := h2
      exact ⟨fields, f, hs, h1, rfl, rfl, rfl, hk.1, hk.2⟩
    · cases h2
  · cases hf

theorem ok_part (hrel : Rel H.glob S B φ h w) (ht : TR S φ h w t a.tmps) (s : TypeId) (x : Operand) (i : Nat) (ho : o.op = .field s x i) (off n : Nat) (ft : TypeId)
    (hf : fldOff P s i = some (off, n, ft)) (cs : List AV) (hx : opd t (cOpd H x) = .agg cs) (r : AV) (hl : ldE (tagg P ft) n (.agg cs) off = some r) : OpOK P H.glob S B φ h w a o h r := by
  have hu := opd_VR hrel ht x
  rw [hx] at hu
  obtain ⟨vs, hv, hvs⟩ := hu.agg_inv
  obtain ⟨fields, f, h1, h2, rfl, rfl, rfl, h6, h7⟩ := fldOff_spec hf
  obtain ⟨v, hrun, hr⟩ := part_run h6 cs vs hvs f.offset r hl
  refine ok_same hrel (v := v) ?_ hr
  simp [execOp, ho, hv, Instr.field, run_under h1, h2, asAgg, hrun]

theorem ok_fld (hrel : Rel H.glob S B φ h w) (ht : TR S φ h w t a.tmps) (s : TypeId) (x : Operand) (i : Nat) (ho : o.op = .fieldAddr s x i) (off n : Nat) (ft : TypeId)
    (hf : fldOff P s i = some (off, n, ft)) (r : AV)
    (hx : (∃ b c d e, opd t (cOpd H x) = .ptr b c d e ∧ r = .ptr b c d (e + off)) ∨ ∃ e f, opd t (cOpd H x) = .vptr e f ∧ r = .vptr e (f + off)) : OpOK P H.glob S B φ h w a o h r := by
  have hu := opd_VR hrel ht x
  obtain ⟨fields, f, h1, h2, rfl, rfl, rfl, h6, h7⟩ := fldOff_spec hf
  generalize hu' : a.eval x = u at hu
  have hadd : ∀ (ad : Addr) (n : Nat), ad.spot = none → ad.add n = ⟨ad.block, ad.off + n, none⟩ := by
    intro ad n hs
    cases ad
    simp only at hs
    subst hs
    unfold Addr.add
    split <;> simp_all
  rcases hx with ⟨b, c, d, e, hx, rfl⟩ | ⟨e, g, hx, rfl⟩
  · rw [hx] at hu
    cases hu with | ptr _ _ _ _ ad hid hgn had =>
    refine ok_same hrel (v := .pointer (some (ad.add f.offset))) ?_ (.ptr _ _ _ _ _ hid hgn ?_)
    · simp [execOp, ho, hu', Instr.fieldAt, run_under h1, h2, Instr.sureAddr, fieldPlace, run_size h6, h7]
    · intro ob hob
      obtain ⟨bb, e1, rfl⟩ := had ob hob
      exact ⟨bb, e1, by rw [hadd _ _ rfl]; simp [Nat.add_assoc]⟩
  · rw [hx] at hu
    cases hu with | vptr _ _ b ob hc =>
    refine ok_same hrel (v := .pointer (some ⟨b, ob + (g + f.offset), none⟩)) ?_ (.vptr _ _ _ _ hc)
    simp [execOp, ho, hu', Instr.fieldAt, run_under h1, h2, Instr.sureAddr, fieldPlace, run_size h6, h7, hadd, Nat.add_assoc]

end
end Go.Proofs.VmX

/- The small machine's loads, boxes, stores, against the model's. -/
set_option linter.unusedVariables false
set_option linter.unusedSimpArgs false
set_option linter.unusedSectionVars false
namespace Go.Proofs.VmX
open Go.RowKit
section
variable {P : Program} {H : Hints} {S : Nat → Nat → Prop} {B : Nat} {φ : Phi} {h : Heap} {w : World} {t : List AV} {a : Act} {o : Oper}

theorem add_plain (b o n : Nat) : (⟨b, o, none⟩ : Addr).add n = ⟨b, o + n, none⟩ := by unfold Addr.add; split <;> simp_all

/-- These cells read so. -/
def RD (S : Nat → Nat → Prop) (φ : Phi) (h : Heap) (w : World) (b o : Nat) (l : List AV) : Prop := ∀ (k : Nat) (x : AV), l[k]? = some x → ∃ v, w.cell? ⟨b, o + k, none⟩ = some v ∧ VR S φ h w x v

theorem VC.rd : ∀ {l : List AV} {b o : Nat}, VC S φ h w l b o → RD S φ h w b o l
  | _, _, _, .nil b o => fun k x hk => by simp at hk
  | _, _, _, .cons y l b o v h1 hone hc hs hr => fun k x hk => by
    cases k with
    | zero => simp at hk; subst hk; exact ⟨v, hc, h1⟩
    | succ k =>
      obtain ⟨u, h2, h3⟩ := VC.rd hr k x (by simpa using hk)
      exact ⟨u, by rw [show o + (k + 1) = o + 1 + k by omega]; exact h2, h3⟩

theorem run_load_cell {b o : Nat} {v : Value} (hc : w.cell? ⟨b, o, none⟩ = some v) : (load ⟨b, o, none⟩).run P w = .ok v w := by simp [hc]

theorem run_loadCellsFrom (b o : Nat) : ∀ (vs : List Value) (i : Nat) (acc : Array Value), (∀ k v, vs[k]? = some v → w.cell? ⟨b, o + (i + k), none⟩ = some v) →
    (loadCellsFrom ⟨b, o, none⟩ i vs.length acc).run P w = .ok (acc ++ vs.toArray) w := by
  intro vs
  induction vs with
  | nil => intro i acc _; simp [loadCellsFrom]
  | cons v l ih =>
    intro i acc hc
    have h0 : w.cell? ⟨b, o + i, none⟩ = some v := by simpa using hc 0 v (by simp)
    simp only [List.length_cons, loadCellsFrom, Sem.run_bind, add_plain, run_load_cell h0, Result.andThen_ok]
    rw [ih (i + 1) (acc.push v) (fun k u hk => by have := hc (k + 1) u (by simpa using hk); rwa [show i + 1 + k = i + (k + 1) by omega])]
    simp

theorem run_loadCells (b o : Nat) (vs : List Value) (hc : ∀ k v, vs[k]? = some v → w.cell? ⟨b, o + k, none⟩ = some v) : (loadCells ⟨b, o, none⟩ vs.length).run P w = .ok vs.toArray w := by
  unfold loadCells
  rw [run_loadCellsFrom b o vs 0 #[] (by simpa using hc)]
  simp

/-- The values of a stretch of cells. -/
theorem RD.vals {b o : Nat} : ∀ {l : List AV}, RD S φ h w b o l → ∃ vs, VRs S φ h w l vs ∧ ∀ k v, vs[k]? = some v → w.cell? ⟨b, o + k, none⟩ = some v := by
  intro l
  induction l generalizing o with
  | nil => intro _; exact ⟨[], .nil, by simp⟩
  | cons x l ih =>
    intro hr
    obtain ⟨v, h1, h2⟩ := hr 0 x (by simp)
    obtain ⟨vs, h3, h4⟩ := ih (o := o + 1) (fun k y hy => by
      obtain ⟨u, g1, g2⟩ := hr (k + 1) y (by simpa using hy)
      exact ⟨u, by rw [show o + 1 + k = o + (k + 1) by omega]; exact g1, g2⟩)
    refine ⟨v :: vs, .cons _ _ _ _ h2 h3, fun k u hk => ?_⟩
    cases k with
    | zero => simp at hk; subst hk; simpa using h1
    | succ k => have := h4 k u (by simpa using hk); rwa [show o + 1 + k = o + (k + 1) by omega] at this

theorem RD.sub {b o : Nat} {l : List AV} (hr : RD S φ h w b o l) (off n : Nat) : RD S φ h w b (o + off) ((l.drop off).take n) := by
  intro k x hk
  rw [List.getElem?_take] at hk
  split at hk
  · rw [List.getElem?_drop] at hk
    obtain ⟨v, h1, h2⟩ := hr (off + k) x hk
    exact ⟨v, by rw [show o + off + k = o + (off + k) by omega]; exact h1, h2⟩
  · cases hk

theorem rd_load {ty : TypeId} (hk : known P ty = true) {b o : Nat} {e : AV} (hr : RD S φ h w b o e.cells) (off : Nat) (r : AV) (hl : ldE (tagg P ty) (tsz P ty) e off = some r) :
    ∃ v, (loadVar ty ⟨b, o + off, none⟩).run P w = .ok v w ∧ VR S φ h w r v := by
  unfold ldE at hl
  by_cases hagg : tagg P ty = true
  · rw [if_pos hagg] at hl
    by_cases hle : off + tsz P ty ≤ e.cells.length
    · rw [if_pos hle] at hl
      injection hl with hl
      subst hl
      obtain ⟨vs, h1, h2⟩ := (hr.sub off (tsz P ty)).vals
      refine ⟨.agg vs.toArray, ?_, .agg _ _ h1⟩
      have hlen : vs.length = tsz P ty := by rw [← h1.length]; simp; omega
      have := run_loadCells (P := P) b (o + off) vs h2
      rw [hlen] at this
      simp [loadVar, run_agg hk, hagg, run_size hk, this]
    · rw [if_neg hle] at hl
      cases hl
  · rw [if_neg hagg] at hl
    obtain ⟨v, h1, h2⟩ := hr off r hl
    refine ⟨v, ?_, h2⟩
    simp [loadVar, run_agg hk, hagg, h1]

/-! Elements and their cells. -/
theorem okEl_len {sz : Nat} {e : AV} (he : okEl sz e = true) : e.cells.length = sz := by simp [okEl] at he; exact he.1
theorem okEl_one {sz : Nat} {e : AV} (he : okEl sz e = true) : ∀ x ∈ e.cells, x.one = true := by simp [okEl] at he; exact he.2

theorem flat_length {sz : Nat} : ∀ {xs : List AV}, (∀ e ∈ xs, okEl sz e = true) → (xs.flatMap AV.cells).length = xs.length * sz
  | [], _ => by simp
  | e :: xs, he => by
    rw [List.flatMap_cons, List.length_append, flat_length (fun x hx => he x (List.mem_cons_of_mem _ hx)), okEl_len (he e (by simp)), List.length_cons, Nat.add_mul]
    omega

theorem flat_take {sz : Nat} : ∀ {xs : List AV} (n : Nat), (∀ e ∈ xs, okEl sz e = true) → (xs.flatMap AV.cells).take (n * sz) = (xs.take n).flatMap AV.cells
  | [], n, _ => by simp
  | e :: xs, 0, _ => by simp
  | e :: xs, n + 1, he => by
    have h1 := okEl_len (he e (by simp))
    rw [List.flatMap_cons, List.take_succ_cons, List.flatMap_cons, List.take_append, ← flat_take n (fun x hx => he x (List.mem_cons_of_mem _ hx)), h1]
    rw [List.take_of_length_le (by rw [h1, Nat.add_mul]; omega)]
    congr 2
    rw [Nat.add_mul]
    omega

theorem flat_drop {sz : Nat} : ∀ {xs : List AV} (n : Nat), (∀ e ∈ xs, okEl sz e = true) → (xs.flatMap AV.cells).drop (n * sz) = (xs.drop n).flatMap AV.cells
  | [], n, _ => by simp
  | e :: xs, 0, _ => by simp
  | e :: xs, n + 1, he => by
    have h1 := okEl_len (he e (by simp))
    rw [List.flatMap_cons, List.drop_succ_cons, List.drop_append, ← flat_drop n (fun x hx => he x (List.mem_cons_of_mem _ hx)), h1]
    rw [List.drop_of_length_le (by rw [h1, Nat.add_mul]; omega)]
    simp only [List.nil_append]
    congr 1
    rw [Nat.add_mul]
    omega

theorem flat_get {sz : Nat} {xs : List AV} (he : ∀ e ∈ xs, okEl sz e = true) (i : Nat) (e : AV) (hi : xs[i]? = some e) (k : Nat) (x : AV) (hx : e.cells[k]? = some x) :
    (xs.flatMap AV.cells)[i * sz + k]? = some x := by
  have hlt : i < xs.length := (List.getElem?_eq_some_iff.1 hi).1
  rw [← List.getElem?_drop, flat_drop i he, List.drop_eq_getElem_cons hlt, List.flatMap_cons]
  have : xs[i] = e := (List.getElem?_eq_some_iff.1 hi).2
  rw [this, List.getElem?_append_left]
  · exact hx
  · exact (List.getElem?_eq_some_iff.1 hx).1

/-- An object's cells. -/
theorem OA.cell {x : Arr} {b : Nat} (ho : OA S φ h w x b) (k : Nat) (c : AV) (hk : (x.els.flatMap AV.cells)[k]? = some c) : ∃ v, w.cell? ⟨b, k, none⟩ = some v ∧ VR S φ h w c v := by
  obtain ⟨vs, rest, fr, h1, h2, _, _⟩ := ho.at_
  obtain ⟨v, h3, h4⟩ := h2.get k c hk
  refine ⟨v, ?_, h4⟩
  simp only [World.cell?, h1]
  have hlt : k < vs.length := (List.getElem?_eq_some_iff.1 h3).1
  simp [List.getElem?_append_left hlt, h3]

theorem OA.rd {x : Arr} {b : Nat} (ho : OA S φ h w x b) (i : Nat) (e : AV) (hi : x.els[i]? = some e) : RD S φ h w b (i * x.sz) e.cells := by
  intro k c hk
  exact ho.cell _ _ (flat_get ho.ok i e hi k c hk)

theorem Rel.phi {G : Nat → AV} (hrel : Rel G S B φ h w) {id : Nat} (hid : id < h.length) : ∃ b, φ[id]? = some b := by
  have : id < φ.length := by rw [hrel.len]; exact hid
  exact ⟨φ[id], by simp [this]⟩

/-- What a pointer leads to. -/
theorem VR.ptr_inv {G : Nat → AV} (hrel : Rel G S B φ h w) {id gen i off : Nat} {v : Value} (hv : VR S φ h w (.ptr id gen i off) v) {x : Arr} (hx : getA h id gen = some x) :
    ∃ b, φ[id]? = some b ∧ v = .pointer (some ⟨b, i * x.sz + off, none⟩) ∧ OA S φ h w x b := by
  cases hv with | ptr _ _ _ _ ad hid hgn had =>
  obtain ⟨b, h1, rfl⟩ := had x hx
  exact ⟨b, h1, rfl, hrel.arr id x b (getA_some hx).1 h1⟩

theorem ok_load (hrel : Rel H.glob S B φ h w) (ht : TR S φ h w t a.tmps) (ty : TypeId) (x : Operand) (ho : o.op = .load ty x) (hk : known P ty = true) (r : AV)
    (hl : ld (tagg P ty) (tsz P ty) (opd t (cOpd H x)) h = some r) : OpOK P H.glob S B φ h w a o h r := by
  have hu := opd_VR hrel ht x
  generalize hu' : a.eval x = u at hu
  generalize opd t (cOpd H x) = X at *
  cases X <;> simp only [ld] at hl <;> try (cases hl; done)
  case ptr id gen i off =>
    rw [Option.bind_eq_some_iff] at hl
    obtain ⟨ob, h1, h2⟩ := hl
    rw [Option.bind_eq_some_iff] at h2
    obtain ⟨e, h2, h3⟩ := h2
    obtain ⟨b, e1, rfl, e3⟩ := hu.ptr_inv hrel h1
    obtain ⟨v, hrun, hr⟩ := rd_load hk (e3.rd i e h2) off r h3
    refine ok_same hrel (v := v) ?_ hr
    simp [execOp, ho, hu', Instr.loadAt, Instr.sureAddr, hrun]
  case vptr e off =>
    cases hu with | vptr _ _ b ob hc =>
    obtain ⟨v, hrun, hr⟩ := rd_load hk hc.rd off r hl
    refine ok_same hrel (v := v) ?_ hr
    simp [execOp, ho, hu', Instr.loadAt, Instr.sureAddr, hrun]

/-! New objects. -/
/-- The world with one more object. -/
theorem Ext.push (hrel : Rel H.glob S B φ h w) (ob : Obj) (x : Obj → Prop) (o' : Go.Obj) : Ext S φ h w (φ ++ [w.heap.size]) (h ++ [ob]) (w.alloc o') := by
  have hl := hrel.len
  have old : ∀ k, k < w.heap.size → (w.alloc o').heap[k]? = w.heap[k]? := fun k hk => Below.heap_alloc w o' k hk
  have hphi : ∀ id, id < h.length → (φ ++ [w.heap.size])[id]? = φ[id]? := fun id hid => List.getElem?_append_left (by omega)
  have hheap : ∀ id, id < h.length → (h ++ [ob])[id]? = h[id]? := fun id hid => List.getElem?_append_left hid
  refine ⟨by simp, fun id x' hid hg => ?_, fun b cs el fr hb => ?_, fun b off v hc hs => ?_, fun r es c hr => ?_, fun id b s p hi hb => ?_⟩
  · rw [hheap id hid] at hg
    exact ⟨x', hg, Nat.le_refl _, fun _ => ⟨rfl, rfl, rfl, hphi id hid⟩⟩
  · have hlt : b < w.heap.size := (Array.getElem?_eq_some_iff.1 hb).1
    exact ⟨cs, fr, (old b hlt).trans hb, rfl⟩
  · have hlt : b < w.heap.size := World.block_lt_of_cell? w ⟨b, off, none⟩ hc
    refine ⟨?_, hs.1, fun id y h1 h2 => ?_⟩
    · exact (World.cell?_alloc_lt (w := w) (a := ⟨b, off, none⟩) (o := o') hlt).trans hc
    · by_cases hid : id < h.length
      · rw [hphi id hid] at h1
        rw [hheap id hid] at h2
        exact hs.2 id y h1 h2
      · have : id = φ.length := by
          have := (List.getElem?_eq_some_iff.1 h1).1
          simp at this
          omega
        subst this
        simp at h1
        omega
  · have hlt : r < w.heap.size := (Array.getElem?_eq_some_iff.1 hr).1
    exact (old r hlt).trans hr
  · have hid : id < h.length := (List.getElem?_eq_some_iff.1 hi).1
    exact ⟨⟨s, p, (hheap id hid).trans hi⟩, (hphi id hid).trans hb⟩

theorem OA.mono {φ' : Phi} {h' : Heap} {w' : World} (e : Ext S φ h w φ' h' w') {x : Arr} {b : Nat} (ho : OA S φ h w x b) (hb : w'.heap[b]? = w.heap[b]?) : OA S φ' h' w' x b := by
  obtain ⟨vs, rest, fr, h1, h2, h3, h4⟩ := ho.at_
  exact ⟨ho.ok, vs, rest, fr, hb.trans h1, h2.mono e, h3, h4⟩

theorem one_cell {x : AV} {v : Value} (hv : VR S φ h w x v) (h1 : x.one = true) : v.oneCell' = true := by
  cases hv <;> simp_all [AV.one, Value.oneCell']

/-- A new array lies in a new block. -/
theorem new_arr (hrel : Rel H.glob S B φ h w) (els : List AV) (sz el : Nat) (cap : Option Nat) (vs rest : List Value) (hok : ∀ e ∈ els, okEl sz e = true)
    (hv : VRs S φ h w (els.flatMap AV.cells) vs) (hcap : ∀ c, cap = some c → (vs ++ rest).length = c * sz) :
    Rel H.glob S B (φ ++ [w.heap.size]) (h ++ [.arr { gen := 0, els, sz, el, lock := 0, cap }]) (w.alloc (.cells (vs ++ rest).toArray el)) ∧
    Ext S φ h w (φ ++ [w.heap.size]) (h ++ [.arr { gen := 0, els, sz, el, lock := 0, cap }]) (w.alloc (.cells (vs ++ rest).toArray el)) ∧
    Below B w (w.alloc (.cells (vs ++ rest).toArray el)) := by
  have he := Ext.push hrel (.arr { gen := 0, els, sz, el, lock := 0, cap }) (fun _ => True) (.cells (vs ++ rest).toArray el)
  have hl := hrel.len
  have old : ∀ k, k < w.heap.size → (w.alloc (.cells (vs ++ rest).toArray el)).heap[k]? = w.heap[k]? := fun k hk => Below.heap_alloc w _ k hk
  have hnew : (w.alloc (.cells (vs ++ rest).toArray el)).heap[w.heap.size]? = some (.cells (vs ++ rest).toArray el) := by
    show (w.heap.push _)[w.heap.size]? = _
    simp
  refine ⟨⟨by simp [hl], fun i j b hi hj => ?_, fun i b hi => ?_, ?_, hrel.own, fun i x b hi hb => ?_, fun i s p b hi hb => ?_, fun g => (hrel.glob g).mono he⟩, he, (Below.refl B w).alloc hrel.base _⟩
  · rcases Nat.lt_or_ge i φ.length with h1 | h1 <;> rcases Nat.lt_or_ge j φ.length with h2 | h2
    · rw [List.getElem?_append_left h1] at hi
      rw [List.getElem?_append_left h2] at hj
      exact hrel.inj i j b hi hj
    · rw [List.getElem?_append_left h1] at hi
      rw [List.getElem?_append_right h2] at hj
      have := (hrel.low i b hi).2
      have h3 : j - φ.length = 0 := by
        have := (List.getElem?_eq_some_iff.1 hj).1
        simp at this; omega
      rw [h3] at hj; simp at hj; omega
    · rw [List.getElem?_append_right h1] at hi
      rw [List.getElem?_append_left h2] at hj
      have := (hrel.low j b hj).2
      have h3 : i - φ.length = 0 := by
        have := (List.getElem?_eq_some_iff.1 hi).1
        simp at this; omega
      rw [h3] at hi; simp at hi; omega
    · rw [List.getElem?_append_right h1] at hi
      rw [List.getElem?_append_right h2] at hj
      have := (List.getElem?_eq_some_iff.1 hi).1
      have := (List.getElem?_eq_some_iff.1 hj).1
      simp at *
      omega
  · rcases Nat.lt_or_ge i φ.length with h1 | h1
    · rw [List.getElem?_append_left h1] at hi
      have := hrel.low i b hi
      exact ⟨this.1, by simp; omega⟩
    · rw [List.getElem?_append_right h1] at hi
      have := (List.getElem?_eq_some_iff.1 hi).1
      simp at this
      have h3 : i - φ.length = 0 := by omega
      rw [h3] at hi
      simp at hi
      subst hi
      exact ⟨hrel.base, by simp⟩
  · have := hrel.base
    simp
    omega
  · rcases Nat.lt_or_ge i h.length with h1 | h1
    · rw [List.getElem?_append_left h1] at hi
      rw [List.getElem?_append_left (by omega)] at hb
      have hlt := (hrel.low i b hb).2
      exact (hrel.arr i x b hi hb).mono he (old b hlt)
    · rw [List.getElem?_append_right h1] at hi
      have h2 := (List.getElem?_eq_some_iff.1 hi).1
      simp at h2
      have h3 : i = h.length := by omega
      subst h3
      simp at hi
      subst hi
      rw [List.getElem?_append_right (by omega), hl] at hb
      simp at hb
      subst hb
      exact ⟨hok, vs, rest, (0, 0), hnew, hv.mono he, fun j _ _ => by simp, hcap⟩
  · have h1 : i < h.length := by
      rcases Nat.lt_or_ge i h.length with h1 | h1
      · exact h1
      · rw [List.getElem?_append_right h1] at hi
        have h2 := (List.getElem?_eq_some_iff.1 hi).1
        simp at h2
        have h3 : i - h.length = 0 := by omega
        rw [h3] at hi
        simp at hi
    rw [List.getElem?_append_left h1] at hi
    rw [List.getElem?_append_left (by omega)] at hb
    exact (old b (hrel.low i b hb).2).trans (hrel.itr i s p b hi hb)

theorem getA_push (ob : Arr) (g : Nat) (hg : ob.gen = g) : getA (h ++ [.arr ob]) h.length g = some ob := by
  unfold getA
  simp [hg]

theorem box_cells {sz : Nat} {x : AV} {v : Value} (hv : VR S φ h w x v) (hk : okEl sz x = true) : VRs S φ h w x.cells v.cells.toList := by
  have h1 := okEl_one hk
  cases x
  case agg cs =>
    obtain ⟨vs, rfl, h2⟩ := hv.agg_inv
    simpa [AV.cells, Value.cells] using h2
  case tup vs => have := h1 (.tup vs) (by simp [AV.cells]); simp [AV.one] at this
  case junk => have := h1 .junk (by simp [AV.cells]); simp [AV.one] at this
  all_goals
    have h3 : v.cells.toList = [v] := by cases hv <;> rfl
    rw [h3]
    exact .cons _ _ _ _ hv .nil

theorem ok_new (hrel : Rel H.glob S B φ h w) (x : AV) (v : Value) (sz el : Nat) (hk : okEl sz x = true) (hv : VR S φ h w x v)
    (hrun : (execOp a.eval o).run P w = .ok (.value (.pointer (some ⟨w.heap.size, 0, none⟩))) (w.alloc (.cells v.cells el))) :
    OpOK P H.glob S B φ h w a o (h ++ [.arr { gen := 0, els := [x], sz, el, lock := 0, cap := some 1 }]) (.ptr h.length 0 0 0) := by
  have hc := box_cells hv hk
  obtain ⟨h1, h2, h3⟩ := new_arr hrel [x] sz el (some 1) v.cells.toList [] (by simpa using hk) (by simpa using hc) (fun c hc' => by
    injection hc' with hc'
    subst hc'
    have := hc.length
    rw [okEl_len hk] at this
    simp at this ⊢
    omega)
  simp only [List.append_nil, Array.toArray_toList] at h1 h2 h3
  intro K Q hK
  unfold Oper.wp
  rw [hrun]
  refine hK _ _ _ ⟨h1, h2, .ptr _ _ _ _ _ (by simp) (fun x _ => Nat.zero_le _) ?_, h3⟩
  intro ob hob
  rw [getA_push _ 0 rfl] at hob
  injection hob with hob
  subst hob
  refine ⟨w.heap.size, ?_, by simp⟩
  rw [List.getElem?_append_right (by rw [hrel.len]; exact Nat.le_refl _), hrel.len]
  simp

theorem ok_box (hrel : Rel H.glob S B φ h w) (ht : TR S φ h w t a.tmps) (el : TypeId) (x : Operand) (ho : o.op = .box el x) (sz : Nat) (hk : okEl sz (opd t (cOpd H x)) = true) :
    OpOK P H.glob S B φ h w a o (h ++ [.arr { gen := 0, els := [opd t (cOpd H x)], sz, el, lock := 0, cap := some 1 }]) (.ptr h.length 0 0 0) := by
  refine ok_new hrel _ (a.eval x) sz el hk (opd_VR hrel ht x) ?_
  simp [execOp, ho, Instr.box, newVar, newRow]

theorem tzero_spec {el : TypeId} {z : AV} (hz : tzero P el = some z) : ∃ i v, P.info? el = some i ∧ i.zero = some v ∧ z = ofVal v := by
  simp only [tzero, Option.map_eq_some_iff, Option.bind_eq_some_iff] at hz
  obtain ⟨v, ⟨i, h1, h2⟩, h3⟩ := hz
  exact ⟨i, v, h1, h2, h3.symm⟩

theorem ok_alloc (hrel : Rel H.glob S B φ h w) (el : TypeId) (ho : o.op = .alloc el) (z : AV) (hz : tzero P el = some z) (sz : Nat) (hk : okEl sz z = true) :
    OpOK P H.glob S B φ h w a o (h ++ [.arr { gen := 0, els := [z], sz, el, lock := 0, cap := some 1 }]) (.ptr h.length 0 0 0) := by
  obtain ⟨i, v, h1, h2, rfl⟩ := tzero_spec hz
  refine ok_new hrel _ v sz el hk (ofVal_VR v) ?_
  simp [execOp, ho, Instr.alloc, zeroValue, typeInfo, h1, h2, newVar, newRow]

/-! Stores. -/
/-- A block of ours is written. -/
structure Wrote (w w' : World) (b : Nat) (cs cs' : Array Value) (el : TypeId) (fr : Nat × Nat) : Prop where
  was : w.heap[b]? = some (.cells cs el fr)
  is_ : w'.heap[b]? = some (.cells cs' el fr)
  size : cs'.size = cs.size
  rest : ∀ k, k ≠ b → w'.heap[k]? = w.heap[k]?
  hsize : w'.heap.size = w.heap.size
  os : w'.os = w.os
  tape : w'.tape = w.tape
  output : w'.output = w.output

theorem Wrote.trans {w w1 w2 : World} {b : Nat} {c c1 c2 : Array Value} {el : TypeId} {fr : Nat × Nat} (x : Wrote w w1 b c c1 el fr) (y : Wrote w1 w2 b c1 c2 el fr) : Wrote w w2 b c c2 el fr :=
  ⟨x.was, y.is_, y.size.trans x.size, fun k hk => (y.rest k hk).trans (x.rest k hk), y.hsize.trans x.hsize, y.os.trans x.os, y.tape.trans x.tape, y.output.trans x.output⟩

theorem Wrote.refl {w : World} {b : Nat} {c : Array Value} {el : TypeId} {fr : Nat × Nat} (hb : w.heap[b]? = some (.cells c el fr)) : Wrote w w b c c el fr :=
  ⟨hb, hb, rfl, fun _ _ => rfl, rfl, rfl, rfl, rfl⟩

theorem wrote_setCell {b off : Nat} {cs : Array Value} {el : TypeId} {fr : Nat × Nat} (hb : w.heap[b]? = some (.cells cs el fr)) (v : Value) :
    Wrote w (w.setCell ⟨b, off, none⟩ v) b cs (cs.setIfInBounds off v) el fr := by
  refine ⟨hb, ?_, by simp, fun k hk => Below.heap_setCell _ _ _ _ (by simpa using hk), by simp, rfl, rfl, rfl⟩
  simp only [World.setCell, Array.getElem?_modify, if_true]
  rw [hb]
  simp

/-- Storing a stretch of cells. -/
theorem run_storeCells (b off : Nat) (el : TypeId) (fr : Nat × Nat) : ∀ (vs : List Value) (i : Nat) (w : World) (cs : Array Value), w.heap[b]? = some (.cells cs el fr) → (∀ v ∈ vs, v.oneCell' = true) →
    off + i + vs.length ≤ cs.size → (∀ j, off + i ≤ j → j < off + i + vs.length → ¬ (fr.1 ≤ j ∧ j < fr.2)) →
    ∃ w' cs', (storeCells ⟨b, off, none⟩ vs i).run P w = .ok () w' ∧ Wrote w w' b cs cs' el fr ∧ cs'.toList = cs.toList.take (off + i) ++ vs ++ cs.toList.drop (off + i + vs.length) := by
  intro vs
  induction vs with
  | nil => intro i w cs hb _ _ _; exact ⟨w, cs, by simp [storeCells], .refl hb, by simp⟩
  | cons v l ih =>
    intro i w cs hb h1 hle hfr
    have hlt : off + i < cs.size := by simp at hle; omega
    have hcell : w.cell? ⟨b, off + i, none⟩ = some cs[off + i] := by
      simp only [World.cell?, hb]
      simp [hlt]
    have hfz : w.frozen? ⟨b, off + i, none⟩ = false := by
      have hx := hfr (off + i) (Nat.le_refl _) (by simp)
      simp only [World.frozen?, hb]
      cases fr with | mk lo hi =>
      simp only at hx ⊢
      simp
      omega
    have hw := wrote_setCell (w := w) (off := off + i) hb v
    obtain ⟨w', cs', h2, h3, h4⟩ := ih (i + 1) (w.setCell ⟨b, off + i, none⟩ v) (cs.setIfInBounds (off + i) v) hw.is_ (fun x hx => h1 x (List.mem_cons_of_mem _ hx)) (by simp at hle ⊢; omega)
      (fun j hj hj' => hfr j (by omega) (by simp at hj' ⊢; omega))
    refine ⟨w', cs', ?_, hw.trans h3, ?_⟩
    · have hst : (store ⟨b, off + i, none⟩ v).run P w = .ok () (w.setCell ⟨b, off + i, none⟩ v) := by
        rw [run_store P w _ v _ (h1 v (by simp)), hcell]
        simp [hfz]
      simp only [storeCells, Sem.run_bind, add_plain, hst, Result.andThen_ok]
      exact h2
    · rw [h4]
      have e1 : (cs.setIfInBounds (off + i) v).toList = cs.toList.take (off + i) ++ v :: cs.toList.drop (off + i + 1) := by
        rw [Array.toList_setIfInBounds, List.set_eq_take_append_cons_drop]
        simp [hlt]
      rw [e1]
      have l1 : (cs.toList.take (off + i)).length = off + i := by simp; omega
      rw [show off + (i + 1) = (cs.toList.take (off + i)).length + 1 by rw [l1]; omega, List.take_length_add_append]
      rw [show (cs.toList.take (off + i)).length + 1 + l.length = (cs.toList.take (off + i)).length + (1 + l.length) by omega, List.drop_length_add_append]
      simp only [List.take_succ_cons, List.take_zero, List.append_assoc, List.cons_append, List.nil_append]
      rw [show 1 + l.length = l.length + 1 by omega, List.drop_succ_cons, List.drop_drop]
      simp only [List.length_cons]
      congr 3
      all_goals first | rfl | (congr 1; omega) | skip

end
end Go.Proofs.VmX

/- The small machine's stores, against the model's. -/
set_option linter.unusedVariables false
set_option linter.unusedSimpArgs false
set_option linter.unusedSectionVars false
namespace Go.Proofs.VmX
open Go.RowKit
section
variable {P : Program} {H : Hints} {S : Nat → Nat → Prop} {B : Nat} {φ : Phi} {h : Heap} {w : World} {t : List AV} {a : Act} {o : Oper}

/-- An object of ours is written in its own block; its first cells stay. -/
theorem upd_arr {G : Nat → AV} (hrel : Rel G S B φ h w) {id b : Nat} {x x' : Arr} (hx : h[id]? = some (.arr x)) (hb : φ[id]? = some b) {w' : World} {cs cs' : Array Value} {fr : Nat × Nat}
    (hw : Wrote w w' b cs cs' x.el fr) (hgen : x'.gen = x.gen) (hsz : x'.sz = x.sz) (hel : x'.el = x.el) (hlock : x'.lock = x.lock) (hcap : x'.cap = x.cap) (hlen : x'.els.length = x.els.length)
    (hok : ∀ e ∈ x'.els, okEl x'.sz e = true) (vs' rest' : List Value) (hcs : cs'.toList = vs' ++ rest') (hv : VRs S φ h w (x'.els.flatMap AV.cells) vs')
    (hfr : ∀ j, x.lock * x.sz ≤ j → j < cs.size → ¬ (fr.1 ≤ j ∧ j < fr.2)) (hc : ∀ c, x.cap = some c → cs.size = c * x.sz)
    (hpre : ∀ j, j < x.lock * x.sz → cs'[j]? = cs[j]?) :
    Rel G S B φ (h.set id (.arr x')) w' ∧ Ext S φ h w φ (h.set id (.arr x')) w' ∧ Below B w w' := by
  have hidlt : id < h.length := (List.getElem?_eq_some_iff.1 hx).1
  have hset : (h.set id (.arr x'))[id]? = some (.arr x') := by simp [hidlt]
  have hne : ∀ j, j ≠ id → (h.set id (.arr x'))[j]? = h[j]? := fun j hj => List.getElem?_set_ne (Ne.symm hj)
  have hext : Ext S φ h w φ (h.set id (.arr x')) w' := by
    refine ⟨by simp, fun j y hj hy => ?_, fun c cs0 el fr0 hc0 => ?_, fun c off v hcell hs => ?_, fun r es c hr => ?_, fun j c s p hi hc0 => ?_⟩
    · by_cases hji : j = id
      · subst hji
        rw [hset] at hy
        injection hy with hy
        injection hy with hy
        subst hy
        exact ⟨x, hx, by omega, fun _ => ⟨hsz.symm, hel.symm, hlen.symm, rfl⟩⟩
      · rw [hne j hji] at hy
        exact ⟨y, hy, Nat.le_refl _, fun _ => ⟨rfl, rfl, rfl, rfl⟩⟩
    · by_cases hcb : c = b
      · subst hcb
        have := hw.was.symm.trans hc0
        injection this with this
        injection this with e1 e2 e3
        subst e1; subst e2; subst e3
        exact ⟨cs', fr, hw.is_, hw.size⟩
      · exact ⟨cs0, fr0, (hw.rest c hcb).trans hc0, rfl⟩
    · refine ⟨?_, hs.1, fun j y h1 h2 => ?_⟩
      · by_cases hcb : c = b
        · subst hcb
          have hlt := hs.2 id x hb hx
          simp only [World.cell?, hw.was] at hcell
          simp only [World.cell?, hw.is_]
          simpa [hpre off hlt] using hcell
        · have : w'.cell? ⟨c, off, none⟩ = w.cell? ⟨c, off, none⟩ := World.cell?_of_block (w := w) (hw.rest c hcb)
          exact this.trans hcell
      · by_cases hji : j = id
        · subst hji
          rw [hset] at h2
          injection h2 with h2
          injection h2 with h2
          subst h2
          have := hs.2 j x h1 hx
          rw [hlock, hsz]
          exact this
        · rw [hne j hji] at h2
          exact hs.2 j y h1 h2
    · have : r ≠ b := fun e => by subst e; rw [hw.was] at hr; cases hr
      exact (hw.rest r this).trans hr
    · have : j ≠ id := fun e => by subst e; rw [hx] at hi; cases hi
      exact ⟨⟨s, p, (hne j this).trans hi⟩, hc0⟩
  refine ⟨⟨by simp [hrel.len], hrel.inj, fun i c hi => ?_, ?_, hrel.own, fun i y c hi hc0 => ?_, fun i s p c hi hc0 => ?_, fun g => (hrel.glob g).mono hext⟩, hext, ?_⟩
  · rw [hw.hsize]; exact hrel.low i c hi
  · rw [hw.hsize]; exact hrel.base
  · by_cases hii : i = id
    · subst hii
      rw [hset] at hi
      injection hi with hi
      injection hi with hi
      subst hi
      have : c = b := Option.some.inj (hc0.symm.trans hb)
      subst this
      have hll : (vs' ++ rest').length = cs.size := by rw [← hcs]; simpa using hw.size
      refine ⟨hok, vs', rest', fr, ?_, hv.mono hext, fun j hj hj' => ?_, fun n hn => ?_⟩
      · rw [hw.is_, hel]
        rw [← hcs]
      · rw [hlock, hsz] at hj
        exact hfr j hj (by omega)
      · rw [hll, hsz]
        exact hc n (by rw [← hcap]; exact hn)
    · rw [hne i hii] at hi
      have hcb : c ≠ b := fun e => hii (hrel.inj i id c hc0 (e ▸ hb))
      exact (hrel.arr i y c hi hc0).mono hext (hw.rest c hcb)
  · have hii : i ≠ id := fun e => by subst e; rw [hset] at hi; cases hi
    rw [hne i hii] at hi
    have hcb : c ≠ b := fun e => hii (hrel.inj i id c hc0 (e ▸ hb))
    exact (hw.rest c hcb).trans (hrel.itr i s p c hi hc0)
  · exact ⟨hw.os, hw.tape, hw.output, by rw [hw.hsize]; exact Nat.le_refl _, fun k hk => hw.rest k (fun e => by have := (hrel.low id b hb).1; omega)⟩

theorem stE_spec {e e' : AV} {off : Nat} {xs : List AV} (h1 : ∀ x ∈ xs, x.one = true) (hs : stE e off xs = some e') :
    off + xs.length ≤ e.cells.length ∧ e'.cells = e.cells.take off ++ xs ++ e.cells.drop (off + xs.length) := by
  have key : (∀ cs, e ≠ .agg cs) → off + xs.length ≤ e.cells.length ∧ e'.cells = e.cells.take off ++ xs ++ e.cells.drop (off + xs.length) := by
    intro hne
    have hc : e.cells = [e] := by cases e <;> first | rfl | exact (hne _ rfl).elim
    have hs' : xs = [e'] ∧ off = 0 := by
      cases e <;> first
        | exact (hne _ rfl).elim
        | (simp only [stE] at hs
           split at hs
           · injection hs with hs; subst hs; exact ⟨rfl, rfl⟩
           · cases hs)
    obtain ⟨rfl, rfl⟩ := hs'
    have hv := h1 e' (by simp)
    have : e'.cells = [e'] := by cases e' <;> first | rfl | (simp [AV.one] at hv)
    rw [hc, this]
    simp
  by_cases hagg : ∃ cs, e = .agg cs
  · obtain ⟨cs, rfl⟩ := hagg
    unfold stE at hs
    by_cases hle : off + xs.length ≤ cs.length
    · simp only [hle, if_true] at hs
      injection hs with hs
      subst hs
      exact ⟨hle, rfl⟩
    · simp only [hle, if_false] at hs
      cases hs
  · exact key (fun cs hcs => hagg ⟨cs, hcs⟩)

theorem flat_set {sz : Nat} : ∀ {els : List AV} (i : Nat) (e e' : AV) (off : Nat) (xs : List AV), (∀ y ∈ els, okEl sz y = true) → els[i]? = some e →
    e'.cells = e.cells.take off ++ xs ++ e.cells.drop (off + xs.length) → off + xs.length ≤ e.cells.length →
    (els.set i e').flatMap AV.cells = (els.flatMap AV.cells).take (i * sz + off) ++ xs ++ (els.flatMap AV.cells).drop (i * sz + off + xs.length) := by
  intro els i e e' off xs hok hi hc hle
  have hlt : i < els.length := (List.getElem?_eq_some_iff.1 hi).1
  have hel : els[i] = e := (List.getElem?_eq_some_iff.1 hi).2
  have hesz : e.cells.length = sz := okEl_len (hok e (by rw [← hel]; exact List.getElem_mem _))
  have e1 : els.flatMap AV.cells = (els.take i).flatMap AV.cells ++ (e.cells ++ (els.drop (i + 1)).flatMap AV.cells) := by
    conv => lhs; rw [← List.take_append_drop i els, List.drop_eq_getElem_cons hlt, hel]
    simp
  have l1 : ((els.take i).flatMap AV.cells).length = i * sz := by
    rw [flat_length (sz := sz) (fun y hy => hok y (List.mem_of_mem_take hy)), List.length_take, Nat.min_eq_left (by omega)]
  rw [List.set_eq_take_append_cons_drop, if_pos hlt]
  simp only [List.flatMap_append, List.flatMap_cons]
  rw [hc, e1]
  rw [show i * sz + off = ((els.take i).flatMap AV.cells).length + off by rw [l1], List.take_length_add_append]
  rw [show ((els.take i).flatMap AV.cells).length + off + xs.length = ((els.take i).flatMap AV.cells).length + (off + xs.length) by omega, List.drop_length_add_append]
  rw [List.take_append_of_le_length (by omega), List.drop_append_of_le_length (by omega)]
  simp

theorem set_okEl {sz : Nat} {els : List AV} {i off : Nat} {e e' : AV} {xs : List AV} (hok : ∀ y ∈ els, okEl sz y = true) (hi : els[i]? = some e) (h1 : ∀ x ∈ xs, x.one = true)
    (hc : e'.cells = e.cells.take off ++ xs ++ e.cells.drop (off + xs.length)) (hle : off + xs.length ≤ e.cells.length) : ∀ y ∈ els.set i e', okEl sz y = true := by
  have he : okEl sz e = true := hok e (by obtain ⟨hlt, rfl⟩ := List.getElem?_eq_some_iff.1 hi; exact List.getElem_mem _)
  intro y hy
  rcases List.mem_or_eq_of_mem_set hy with hy | rfl
  · exact hok y hy
  · have h2 := okEl_one he
    have h3 := okEl_len he
    simp only [okEl, Bool.and_eq_true, beq_iff_eq, List.all_eq_true]
    rw [hc]
    refine ⟨by simp; omega, fun x hx => ?_⟩
    simp only [List.mem_append] at hx
    rcases hx with (hx | hx) | hx
    · exact h2 x (List.mem_of_mem_take hx)
    · exact h1 x hx
    · exact h2 x (List.mem_of_mem_drop hx)

/-- Cells are stored into an element. -/
theorem st_run {G : Nat → AV} (hrel : Rel G S B φ h w) (id gen i off : Nat) (u : Value) (hu : VR S φ h w (.ptr id gen i off) u) (xs : List AV) (vals : List Value) (hv : VRs S φ h w xs vals)
    (h1 : ∀ x ∈ xs, x.one = true) (h' : Heap) (hs : stA (.ptr id gen i off) xs h = some h') :
    ∃ ad w', u = .pointer (some ad) ∧ (storeCells ad vals).run P w = .ok () w' ∧ Rel G S B φ h' w' ∧ Ext S φ h w φ h' w' ∧ Below B w w' := by
  simp only [stA] at hs
  rw [Option.bind_eq_some_iff] at hs
  obtain ⟨x, hx, hs⟩ := hs
  obtain ⟨b, e1, rfl, e3⟩ := hu.ptr_inv hrel hx
  obtain ⟨hx0, hxg⟩ := getA_some hx
  rcases Nat.lt_or_ge i x.lock with hl0 | hl
  · rw [if_neg (by omega)] at hs; cases hs
  rw [if_pos hl] at hs
  rw [Option.bind_eq_some_iff] at hs
  obtain ⟨e, hi, hs⟩ := hs
  rw [Option.map_eq_some_iff] at hs
  obtain ⟨e', hs, rfl⟩ := hs
  obtain ⟨hle, hc⟩ := stE_spec h1 hs
  obtain ⟨vs, rest, fr, g1, g2, g3, g4⟩ := e3.at_
  have hilt : i < x.els.length := (List.getElem?_eq_some_iff.1 hi).1
  have hesz : e.cells.length = x.sz := okEl_len (e3.ok e (by obtain ⟨hlt, rfl⟩ := List.getElem?_eq_some_iff.1 hi; exact List.getElem_mem _))
  have hvl : vs.length = x.els.length * x.sz := by rw [← g2.length]; exact flat_length e3.ok
  have hll := hv.length
  have hmul : i * x.sz + x.sz ≤ x.els.length * x.sz := by
    have := Nat.mul_le_mul_right x.sz (show i + 1 ≤ x.els.length by omega)
    rw [Nat.add_mul] at this
    omega
  have hlk : x.lock * x.sz ≤ i * x.sz := Nat.mul_le_mul_right _ hl
  obtain ⟨w', cs', r1, r2, r3⟩ := run_storeCells (P := P) b (i * x.sz + off) x.el fr vals 0 w (vs ++ rest).toArray g1 (fun v hv' => by
      obtain ⟨k, hk⟩ := List.getElem?_of_mem hv'
      have hkl : k < xs.length := by have := (List.getElem?_eq_some_iff.1 hk).1; omega
      obtain ⟨v', k1, k2⟩ := hv.get k xs[k] (by simp [hkl])
      rw [hk] at k1
      injection k1 with k1
      subst k1
      exact one_cell k2 (h1 _ (List.getElem_mem _))) (by simp; omega) (fun j hj hj' => g3 j (by omega) (by simp; omega))
  refine ⟨_, w', rfl, r1, ?_⟩
  simp only [List.toList_toArray, Nat.add_zero] at r3
  have r4 : cs'.toList = (vs.take (i * x.sz + off) ++ vals ++ vs.drop (i * x.sz + off + vals.length)) ++ rest := by
    rw [r3, List.take_append_of_le_length (by omega), List.drop_append_of_le_length (by omega)]
    simp
  refine upd_arr hrel hx0 e1 r2 rfl rfl rfl rfl rfl (by simp) (set_okEl e3.ok hi h1 hc hle) _ rest r4 ?_ (by simpa using g3) (by simpa using g4) ?_
  · show VRs S φ h w ((x.els.set i e').flatMap AV.cells) _
    rw [flat_set i e e' off xs e3.ok hi hc hle, ← hll]
    exact ((g2.take _).append hv).append (g2.drop _)
  · intro j hj
    have : cs'.toList[j]? = (vs ++ rest)[j]? := by
      rw [r3, List.append_assoc, List.getElem?_append_left (by simp; omega), List.getElem?_take, if_pos (by omega)]
    simpa using this

theorem ok_store (hrel : Rel H.glob S B φ h w) (ht : TR S φ h w t a.tmps) (ty : TypeId) (p x : Operand) (ho : o.op = .store ty p x) (hk : known P ty = true)
    (hn : (opd t (cOpd H x)).cells.length = tsz P ty) (h1 : (opd t (cOpd H x)).cells.all AV.one = true) (h' : Heap) (hs : stA (opd t (cOpd H p)) (opd t (cOpd H x)).cells h = some h') :
    OpOK P H.glob S B φ h w a o h' (.tup []) := by
  have hu := opd_VR hrel ht p
  have hv := opd_VR hrel ht x
  generalize hu' : a.eval p = u at hu
  generalize hv' : a.eval x = v at hv
  generalize opd t (cOpd H p) = Pp at *
  generalize opd t (cOpd H x) = X at *
  cases Pp <;> simp only [stA] at hs <;> try (cases hs; done)
  case ptr id gen i off =>
    have hcs := box_cells hv (sz := tsz P ty) (by simp [okEl, hn, h1])
    obtain ⟨ad, w', rfl, r1, r2, r3, r4⟩ := st_run (P := P) hrel id gen i off u hu X.cells v.cells.toList hcs (by simpa using h1) h' hs
    have hsz : v.cells.size = tsz P ty := by have := hcs.length; simp at this; omega
    intro K Q hK
    unfold Oper.wp
    have hrun : (execOp a.eval o).run P w = .ok .skip w' := by
      simp [execOp, ho, hu', hv', Instr.storeAt, Instr.sureAddr, storeVar, run_size hk, hsz, r1]
    rw [hrun]
    exact hK φ w' undef ⟨r2, r3, .tup [] [] .nil, r4⟩

end
end Go.Proofs.VmX

/- The small machine's indexes, cuts, lengths, literals, against the model's. -/
set_option linter.unusedVariables false
set_option linter.unusedSimpArgs false
set_option linter.unusedSectionVars false
namespace Go.Proofs.VmX
open Go.RowKit
section
variable {P : Program} {H : Hints} {S : Nat → Nat → Prop} {B : Nat} {φ : Phi} {h : Heap} {w : World} {t : List AV} {a : Act} {o : Oper}

theorem asNat_inv {x : AV} {v : Value} {n : Nat} (hv : VR S φ h w x v) (hn : asNat x = some n) : ∃ k, v = .int k n := by
  unfold asNat at hn
  split at hn
  · rename_i k m
    split at hn
    · rename_i h0
      injection hn with hn
      refine ⟨k, ?_⟩
      rw [hv.int_inv, ← hn]
      congr 1
      omega
    · cases hn
  · cases hn

/-- What a slice's value is. -/
theorem VC.sub {l : List AV} {b off : Nat} (hc : VC S φ h w l b off) (n m : Nat) : VC S φ h w ((l.drop n).take m) b (off + n) := by
  induction l generalizing off n m with
  | nil => simp; exact .nil _ _
  | cons x l ih =>
    cases hc with | cons _ _ _ _ v h1 hone hcell hs hr =>
    cases n with
    | zero =>
      cases m with
      | zero => exact .nil _ _
      | succ m =>
        have := ih hr 0 m
        simp only [List.drop_zero, Nat.add_zero] at this
        exact .cons _ _ _ _ _ h1 hone hcell hs this
    | succ n =>
      have := ih hr n m
      simp only [List.drop_succ_cons]
      rw [show off + (n + 1) = off + 1 + n by omega]
      exact this

theorem elem_VC {sz : Nat} {xs : List AV} {b off : Nat} (he : ∀ e ∈ xs, okEl sz e = true) (hc : VC S φ h w (xs.flatMap AV.cells) b off) (i : Nat) (e : AV) (hi : xs[i]? = some e) :
    VC S φ h w e.cells b (off + i * sz) := by
  have hlt : i < xs.length := (List.getElem?_eq_some_iff.1 hi).1
  have hel : xs[i] = e := (List.getElem?_eq_some_iff.1 hi).2
  have h1 := hc.sub (i * sz) sz
  rw [flat_drop i he, List.drop_eq_getElem_cons hlt, List.flatMap_cons, hel, List.take_append_of_le_length (by rw [okEl_len (he e (hel ▸ List.getElem_mem _))]; exact Nat.le_refl _),
    List.take_of_length_le (by rw [okEl_len (he e (hel ▸ List.getElem_mem _))]; exact Nat.le_refl _)] at h1
  exact h1

theorem VR.sl_inv {e : Bool} {sz : Nat} {xs : List AV} {v : Value} (hv : VR S φ h w (.sl e sz xs) v) : ∃ ad c, v = .slice ad xs.length c ∧ (e = true → c = xs.length) ∧ xs.length ≤ c ∧
    (xs ≠ [] → ∃ b off, ad = some ⟨b, off, none⟩ ∧ (∀ y ∈ xs, okEl sz y = true) ∧ VC S φ h w (xs.flatMap AV.cells) b off) := by
  cases hv with
  | sl0 _ _ ad c hx _ => exact ⟨ad, c, rfl, hx, Nat.zero_le _, fun h => absurd rfl h⟩
  | sl _ _ _ b off c hn he hc hl hx => exact ⟨_, c, rfl, hx, hl, fun _ => ⟨b, off, rfl, he, hc⟩⟩

theorem VR.sl_nil {e : Bool} {sz : Nat} {ad : Option Addr} {n c : Nat} (hv : VR S φ h w (.sl e sz []) (.slice ad n c)) : sz = 0 ↔ ad = none := by
  generalize hX : AV.sl e sz [] = X at hv
  generalize hY : Value.slice ad n c = Y at hv
  cases hv with
  | sl0 _ _ ad' c' hx hz =>
    injection hX with h1 h2 h3
    injection hY with g1 g2 g3
    subst h2
    subst g1
    exact hz
  | sl _ _ _ b off c' hn he hc hl hx =>
    injection hX with h1 h2 h3
    exact absurd h3.symm hn
  | _ => cases hX

theorem bytes_size (s : List UInt8) : (ByteArray.mk s.toArray).size = s.length := by simp [ByteArray.size]

theorem bytes_get {s : List UInt8} {k : Nat} {b : UInt8} (hb : s[k]? = some b) : getElem? (ByteArray.mk s.toArray) k = some b := by
  have hlt : k < s.length := (List.getElem?_eq_some_iff.1 hb).1
  have h1 : k < (ByteArray.mk s.toArray).size := by rw [bytes_size]; exact hlt
  have h2 := (List.getElem?_eq_some_iff.1 hb).2
  have h3 : getElem? (ByteArray.mk s.toArray) k = some (getElem (ByteArray.mk s.toArray) k h1) := getElem?_pos (ByteArray.mk s.toArray) k h1
  rw [h3, ← h2]
  rfl

theorem ok_idxS (hrel : Rel H.glob S B φ h w) (ht : TR S φ h w t a.tmps) (ty : TypeId) (x i : Operand) (ho : o.op = .indexAddr ty x i) (el : TypeId) (hty : P.underlying ty = some (.slice el)) (hk : known P el = true)
    (k : Nat) (hi : asNat (opd t (cOpd H i)) = some k) (r : AV)
    (hr : (∃ e xs y, opd t (cOpd H x) = .sl e (tsz P el) xs ∧ xs[k]? = some y ∧ r = .vptr y 0) ∨
      ∃ id gen b len, opd t (cOpd H x) = .osl id gen (tsz P el) b len ∧ k < len ∧ r = .ptr id gen (b + k) 0) : OpOK P H.glob S B φ h w a o h r := by
  obtain ⟨ik, hiv⟩ := asNat_inv (opd_VR hrel ht i) hi
  have hu := opd_VR hrel ht x
  generalize hu' : a.eval x = u at hu
  rcases hr with ⟨e, xs, y, hx, hy, rfl⟩ | ⟨id, gen, b, len, hx, hlt, rfl⟩
  · rw [hx] at hu
    have hlt : k < xs.length := (List.getElem?_eq_some_iff.1 hy).1
    obtain ⟨ad, c, rfl, hxx, hl, hne⟩ := hu.sl_inv
    obtain ⟨b, off, rfl, he, hc⟩ := hne (by intro h0; subst h0; simp at hlt)
    refine ok_same hrel (v := .pointer (some ⟨b, off + k * tsz P el + 0, none⟩)) ?_ (.vptr _ _ _ _ (elem_VC he hc k y hy))
    have hkk : (k : Int) < (xs.length : Int) := by omega
    simp [execOp, ho, hu', hiv, Instr.indexAt, asIntOf, run_under hty, hkk, hlt, run_size hk, add_plain]
  · rw [hx] at hu
    cases hu with | osl _ _ _ _ _ ad c hid hgn hn hs ha =>
    have hsome := hs
    obtain ⟨ad', had⟩ := Option.isSome_iff_exists.1 hsome
    subst had
    have hkk : (k : Int) < (len : Int) := by omega
    refine ok_same hrel (v := .pointer (some (ad'.add (k * tsz P el)))) ?_ (.ptr _ _ _ _ _ hid hgn ?_)
    · simp [execOp, ho, hu', hiv, Instr.indexAt, asIntOf, run_under hty, hkk, hlt, run_size hk]
    · intro ob hob
      obtain ⟨g1, g2, bb, cs, fr, g3, g4, g5, g6⟩ := ha ob hob
      injection g4 with g4
      subst g4
      refine ⟨bb, g3, ?_⟩
      rw [add_plain, g1, Nat.add_mul]
      rfl

theorem ok_idxA (hrel : Rel H.glob S B φ h w) (ht : TR S φ h w t a.tmps) (ty : TypeId) (x i : Operand) (ho : o.op = .indexAddr ty x i) (len : Nat) (el : TypeId) (hty : P.underlying ty = some (.array len el)) (hk : known P el = true)
    (k : Nat) (hi : asNat (opd t (cOpd H i)) = some k) (hlt : k < len) (r : AV)
    (hr : (∃ b c d e, opd t (cOpd H x) = .ptr b c d e ∧ r = .ptr b c d (e + k * tsz P el)) ∨ ∃ e f, opd t (cOpd H x) = .vptr e f ∧ r = .vptr e (f + k * tsz P el)) : OpOK P H.glob S B φ h w a o h r := by
  obtain ⟨ik, hiv⟩ := asNat_inv (opd_VR hrel ht i) hi
  have hu := opd_VR hrel ht x
  generalize hu' : a.eval x = u at hu
  have hkk : (k : Int) < (len : Int) := by omega
  have hadd : ∀ (ad : Addr) (n : Nat), ad.spot = none → ad.add n = ⟨ad.block, ad.off + n, none⟩ := by
    intro ad n hs
    cases ad
    simp only at hs
    subst hs
    exact add_plain _ _ _
  rcases hr with ⟨b, c, d, e, hx, rfl⟩ | ⟨e, f, hx, rfl⟩
  · rw [hx] at hu
    cases hu with | ptr _ _ _ _ ad hid hgn had =>
    refine ok_same hrel (v := .pointer (some (ad.add (k * tsz P el)))) ?_ (.ptr _ _ _ _ _ hid hgn ?_)
    · simp [execOp, ho, hu', hiv, Instr.indexAt, asIntOf, run_under hty, hkk, hlt, run_size hk, Instr.sureAddr]
    · intro ob hob
      obtain ⟨bb, e1, rfl⟩ := had ob hob
      exact ⟨bb, e1, by rw [hadd _ _ rfl]; simp [Nat.add_assoc]⟩
  · rw [hx] at hu
    cases hu with | vptr _ _ b ob hc =>
    refine ok_same hrel (v := .pointer (some ⟨b, ob + (f + k * tsz P el), none⟩)) ?_ (.vptr _ _ _ _ hc)
    simp [execOp, ho, hu', hiv, Instr.indexAt, asIntOf, run_under hty, hkk, hlt, run_size hk, Instr.sureAddr, add_plain, Nat.add_assoc]

theorem ok_idxStr (hrel : Rel H.glob S B φ h w) (ht : TR S φ h w t a.tmps) (ty : TypeId) (x i : Operand) (ho : o.op = .index ty x i) (hty : P.underlying ty = some .string)
    (k : Nat) (hi : asNat (opd t (cOpd H i)) = some k) (s : List UInt8) (hx : opd t (cOpd H x) = .str s) (b : UInt8) (hb : s[k]? = some b) : OpOK P H.glob S B φ h w a o h (byteAV b) := by
  obtain ⟨ik, hiv⟩ := asNat_inv (opd_VR hrel ht i) hi
  have hu := opd_VR hrel ht x
  rw [hx] at hu
  have hg := bytes_get hb
  refine ok_same hrel (v := .int .u8 b.toNat) ?_ (.int _ _)
  simp [execOp, ho, hu.str_inv, hiv, Instr.index, asIntOf, run_under hty, hg]

theorem ok_idxAgg (hrel : Rel H.glob S B φ h w) (ht : TR S φ h w t a.tmps) (ty : TypeId) (x i : Operand) (ho : o.op = .index ty x i) (len : Nat) (el : TypeId) (hty : P.underlying ty = some (.array len el)) (hk : known P el = true)
    (k : Nat) (hi : asNat (opd t (cOpd H i)) = some k) (hlt : k < len) (cs : List AV) (hx : opd t (cOpd H x) = .agg cs) (r : AV) (hl : ldE (tagg P el) (tsz P el) (.agg cs) (k * tsz P el) = some r) :
    OpOK P H.glob S B φ h w a o h r := by
  obtain ⟨ik, hiv⟩ := asNat_inv (opd_VR hrel ht i) hi
  have hu := opd_VR hrel ht x
  rw [hx] at hu
  obtain ⟨vs, hv, hvs⟩ := hu.agg_inv
  obtain ⟨v, hrun, hr⟩ := part_run hk cs vs hvs (k * tsz P el) r hl
  have hkk : (k : Int) < (len : Int) := by omega
  refine ok_same hrel (v := v) ?_ hr
  simp [execOp, ho, hv, hiv, Instr.index, asIntOf, run_under hty, hkk, hlt, run_size hk, hrun]

theorem ok_extract (hrel : Rel H.glob S B φ h w) (ht : TR S φ h w t a.tmps) (x : Operand) (i : Nat) (ho : o.op = .extract x i) (vs : List AV) (hx : opd t (cOpd H x) = .tup vs) (r : AV) (hi : vs[i]? = some r) :
    OpOK P H.glob S B φ h w a o h r := by
  have hu := opd_VR hrel ht x
  rw [hx] at hu
  obtain ⟨us, hv, hvs⟩ := hu.tup_inv
  obtain ⟨v, h1, h2⟩ := hvs.get i r hi
  refine ok_same hrel (v := v) ?_ h2
  simp [execOp, ho, hv, Instr.extract, h1]

theorem ok_mkFn (hrel : Rel H.glob S B φ h w) (ht : TR S φ h w t a.tmps) (g : Nat) (first cap : Array Operand) (ho : o.op = .makeFunc (.func g) first cap) :
    OpOK P H.glob S B φ h w a o h (.fn g ((first.toList.map (cOpd H)).map (opd t)) ((cap.toList.map (cOpd H)).map (opd t))) := by
  have key : ∀ (l : List Operand), VRs S φ h w ((l.map (cOpd H)).map (opd t)) (l.map a.eval) := by
    intro l
    induction l with
    | nil => exact .nil
    | cons x l ih => exact .cons _ _ _ _ (opd_VR hrel ht x) ih
  have := VR.fn g _ _ _ _ (key first.toList) (key cap.toList)
  refine ok_same hrel (v := .func (.func g) (first.map a.eval) (cap.map a.eval)) ?_ ?_
  · simp [execOp, ho, Instr.makeFunc]
  · have e1 : (first.toList.map a.eval).toArray = first.map a.eval := by apply Array.toList_inj.1; simp
    have e2 : (cap.toList.map a.eval).toArray = cap.map a.eval := by apply Array.toList_inj.1; simp
    rw [e1, e2] at this
    exact this

theorem ok_iface (hrel : Rel H.glob S B φ h w) (ty : TypeId) (x : Operand) (ho : o.op = .makeInterface ty x) (d : TypeDesc) (hty : P.underlying ty = some d) (hd : ∀ m, d ≠ .interface m) :
    OpOK P H.glob S B φ h w a o h .junk := by
  refine ok_same hrel (v := .iface ty (a.eval x)) ?_ (.junk _)
  simp only [execOp, ho, Instr.makeInterface, Sem.run_bind, run_under hty, Result.andThen_ok]
  cases d <;> first | rfl | exact absurd rfl (hd _)

theorem builtin_run (b : Builtin) (args : Array Operand) (tys : Array TypeId) (ho : o.op = .call { callee := .builtin b, args, argTypes := tys }) :
    execOp a.eval o = (do let d ← resolve a.eval { callee := .builtin b, args, argTypes := tys } o.type; invoke d.target d.args) := by
  simp [execOp, ho]

theorem run_callBuiltin (b : Builtin) (args : Array Operand) (tys : Array TypeId) (ho : o.op = .call { callee := .builtin b, args, argTypes := tys }) (v : Value) (w' : World)
    (hrun : ∀ cs, (builtin b tys o.type cs (args.map a.eval)).run P w = .ok (.value v) w') : (execOp a.eval o).run P w = .ok (.value v) w' := by
  rw [builtin_run b args tys ho]
  simp only [resolve, Sem.run_bind, Sem.run_pure, Result.andThen_ok, invoke]
  exact hrun _

theorem ok_len (hrel : Rel H.glob S B φ h w) (ht : TR S φ h w t a.tmps) (x : Operand) (ty : TypeId) (ho : o.op = .call { callee := .builtin .len, args := #[x], argTypes := #[ty] })
    (hty : P.underlying ty = some .string ∨ ∃ e, P.underlying ty = some (.slice e)) (r : AV)
    (hr : (∃ e s xs, opd t (cOpd H x) = .sl e s xs ∧ r = .int .i64 xs.length ∧ ∃ e, P.underlying ty = some (.slice e)) ∨
      (∃ id gen s i n, opd t (cOpd H x) = .osl id gen s i n ∧ r = .int .i64 n ∧ ∃ e, P.underlying ty = some (.slice e)) ∨
      ∃ s, opd t (cOpd H x) = .str s ∧ r = .int .i64 s.length ∧ P.underlying ty = some .string) : OpOK P H.glob S B φ h w a o h r := by
  have hu := opd_VR hrel ht x
  generalize hu' : a.eval x = u at hu
  rcases hr with ⟨e, s, xs, hx, rfl, el, hel⟩ | ⟨id, gen, s, i, n, hx, rfl, el, hel⟩ | ⟨s, hx, rfl, hst⟩
  · rw [hx] at hu
    obtain ⟨ad, c, rfl, _, _, _⟩ := hu.sl_inv
    refine ok_same hrel (run_callBuiltin .len _ _ ho _ _ fun cs => ?_) (.int _ _)
    simp [builtin, Builtin.len_, run_under hel, hu', goInt]
  · rw [hx] at hu
    cases hu with | osl _ _ _ _ _ ad c hid hgn hn hs ha =>
    refine ok_same hrel (run_callBuiltin .len _ _ ho _ _ fun cs => ?_) (.int _ _)
    simp [builtin, Builtin.len_, run_under hel, hu', goInt]
  · rw [hx] at hu
    have := hu.str_inv
    subst this
    refine ok_same hrel (run_callBuiltin .len _ _ ho _ _ fun cs => ?_) (.int _ _)
    simp [builtin, Builtin.len_, run_under hst, hu', goInt, bytes_size]

end
end Go.Proofs.VmX

/- The small machine's cuts of slices and texts, against the model's. -/
set_option linter.unusedVariables false
set_option linter.unusedSimpArgs false
set_option linter.unusedSectionVars false
namespace Go.Proofs.VmX
open Go.RowKit
section
variable {P : Program} {H : Hints} {S : Nat → Nat → Prop} {B : Nat} {φ : Phi} {h : Heap} {w : World} {t : List AV} {a : Act} {o : Oper}

theorem run_sliceBound (k : IntKind) (n y : Nat) (c : BoundsCode) (hle : n ≤ y) : (Instr.sliceBound (.int k n) y c).run P w = .ok n w := by
  have : (n : Int) ≤ (y : Int) := by omega
  simp [Instr.sliceBound, asIntOf, this, hle]

theorem run_bounds (hrel : Rel H.glob S B φ h w) (ht : TR S φ h w t a.tmps) (isS : Bool) (len cap : Nat) (lo hi : Option Operand) (l r : Nat)
    (hl : bnd t 0 (lo.map (cOpd H)) = some l) (hr : bnd t len (hi.map (cOpd H)) = some r) (h1 : l ≤ r) (h2 : r ≤ cap) :
    (Instr.sliceBounds isS len cap (lo.map a.eval) (hi.map a.eval) none).run P w = .ok (l, r, cap) w := by
  have e1 : (match hi.map a.eval with | some v => Instr.sliceBound v cap (if isS then .sliceAcap else .sliceAlen) | none => pure len : Sem Nat).run P w = .ok r w := by
    cases hi with
    | none => simp [bnd] at hr; subst hr; rfl
    | some x =>
      simp only [Option.map_some, bnd] at hr ⊢
      obtain ⟨k, hv⟩ := asNat_inv (opd_VR hrel ht x) hr
      rw [hv]
      exact run_sliceBound _ _ _ _ h2
  have e2 : (match lo.map a.eval with | some v => Instr.sliceBound v r (if false then .slice3C else .sliceB) | none => pure 0 : Sem Nat).run P w = .ok l w := by
    cases lo with
    | none => simp [bnd] at hl; subst hl; rfl
    | some x =>
      simp only [Option.map_some, bnd] at hl ⊢
      obtain ⟨k, hv⟩ := asNat_inv (opd_VR hrel ht x) hl
      rw [hv]
      exact run_sliceBound _ _ _ _ h1
  unfold Instr.sliceBounds
  cases hi <;> cases lo <;> simp_all

theorem run_bounds3 (hrel : Rel H.glob S B φ h w) (ht : TR S φ h w t a.tmps) (isS : Bool) (len cap : Nat) (lo : Option Operand) (hi mx : Operand) (l r m : Nat)
    (hl : bnd t 0 (lo.map (cOpd H)) = some l) (hr : asNat (opd t (cOpd H hi)) = some r) (hm : asNat (opd t (cOpd H mx)) = some m) (h1 : l ≤ r) (h2 : r ≤ m) (h3 : m ≤ cap) :
    (Instr.sliceBounds isS len cap (lo.map a.eval) (some (a.eval hi)) (some (a.eval mx))).run P w = .ok (l, r, m) w := by
  obtain ⟨k1, hv1⟩ := asNat_inv (opd_VR hrel ht hi) hr
  obtain ⟨k2, hv2⟩ := asNat_inv (opd_VR hrel ht mx) hm
  have e2 : (match lo.map a.eval with | some v => Instr.sliceBound v r .slice3C | none => pure 0 : Sem Nat).run P w = .ok l w := by
    cases lo with
    | none => simp [bnd] at hl; subst hl; rfl
    | some x =>
      simp only [Option.map_some, bnd] at hl ⊢
      obtain ⟨k, hv⟩ := asNat_inv (opd_VR hrel ht x) hl
      rw [hv]
      exact run_sliceBound _ _ _ _ h1
  unfold Instr.sliceBounds
  rw [hv1, hv2]
  cases lo <;> simp_all [run_sliceBound]

theorem ok_sliceStr (hrel : Rel H.glob S B φ h w) (ht : TR S φ h w t a.tmps) (ty : TypeId) (x : Operand) (lo hi : Option Operand) (ho : o.op = .slice ty x lo hi none) (hty : P.underlying ty = some .string)
    (s : List UInt8) (hx : opd t (cOpd H x) = .str s) (l r : Nat) (hl : bnd t 0 (lo.map (cOpd H)) = some l) (hr : bnd t s.length (hi.map (cOpd H)) = some r) (h1 : l ≤ r) (h2 : r ≤ s.length) :
    OpOK P H.glob S B φ h w a o h (.str ((s.take r).drop l)) := by
  have hu := opd_VR hrel ht x
  rw [hx] at hu
  have hb := run_bounds (P := P) hrel ht false s.length s.length lo hi l r hl hr h1 h2
  have e : (ByteArray.mk s.toArray).extract l r = ⟨((s.take r).drop l).toArray⟩ := by
    rw [Lib.extract_eq]
    simp [List.drop_take]
  refine ok_same hrel (v := .string ⟨((s.take r).drop l).toArray⟩) ?_ (.str _)
  simp [execOp, ho, hu.str_inv, Instr.sliceAt, run_under hty, Instr.slice, bytes_size, hb, e]

theorem take_drop_flat {sz : Nat} {xs : List AV} (he : ∀ y ∈ xs, okEl sz y = true) (l r : Nat) (h1 : l ≤ r) : ((xs.take r).drop l).flatMap AV.cells = ((xs.flatMap AV.cells).drop (l * sz)).take ((r - l) * sz) := by
  rw [List.drop_take, flat_drop l he, flat_take (r - l) (fun y hy => he y (List.mem_of_mem_drop hy))]

/-- A cut of a slice, with the capacity that it has. -/
theorem slice_run (ty el : TypeId) (hty : P.underlying ty = some (.slice el)) (hk : known P el = true) (u : Value) (ad : Option Addr) (len cap : Nat) (hu : u = .slice ad len cap) (low high max : Option Value) (l r m : Nat)
    (hb : (Instr.sliceBounds true len cap low high max).run P w = .ok (l, r, m) w) :
    (Instr.sliceAt ty u low high max).run P w = .ok (.slice (if m = l then ad else ad.map (·.add (l * tsz P el))) (r - l) (m - l)) w := by
  subst hu
  simp [Instr.sliceAt, run_under hty, Instr.slice, hb, run_size hk]

theorem sl_cut {e : Bool} {sz : Nat} {xs : List AV} {ad : Option Addr} {c : Nat} (hv : VR S φ h w (.sl e sz xs) (.slice ad xs.length c)) (l r m : Nat) (h1 : l ≤ r) (h2 : r ≤ xs.length) (h3 : r ≤ m) (x' : Bool)
    (hx' : x' = true → m = r) (n : Nat) (hn : n = r - l) (hz : sz ≠ 0 ∨ xs = []) : VR S φ h w (.sl x' sz ((xs.take r).drop l)) (.slice (if m = l then ad else ad.map (·.add (l * sz))) n (m - l)) := by
  subst hn
  obtain ⟨ad', c', hvv, _, _, hne⟩ := hv.sl_inv
  injection hvv with e1 e2 e3
  subst e1
  rcases Nat.lt_or_ge l r with hlr | hlr
  · have hx0 : xs ≠ [] := by intro h0; subst h0; simp at h2; omega
    obtain ⟨b, off, rfl, he, hc⟩ := hne hx0
    have hlen : ((xs.take r).drop l).length = r - l := by simp; omega
    rw [if_neg (by omega)]
    simp only [Option.map_some, add_plain]
    have := VR.sl (S := S) (φ := φ) (h := h) (w := w) x' sz ((xs.take r).drop l) b (off + l * sz) (m - l) (by intro h0; rw [h0] at hlen; simp at hlen; omega)
      (fun y hy => he y (List.mem_of_mem_take (List.mem_of_mem_drop hy))) (by rw [take_drop_flat he l r h1]; exact hc.sub _ _) (by omega) (fun hx => by have := hx' hx; omega)
    rwa [hlen] at this
  · have hlen : (xs.take r).drop l = [] := List.drop_of_length_le (by simp; omega)
    rw [hlen, show r - l = 0 by omega]
    refine .sl0 _ _ _ _ (fun hx => by have := hx' hx; omega) ?_
    by_cases h0 : xs = []
    · subst h0
      have := hv.sl_nil
      rw [this]
      split
      · exact Iff.rfl
      · simp
    · obtain ⟨b, off, rfl, _, _⟩ := hne h0
      have hz' : sz ≠ 0 := hz.resolve_right h0
      constructor
      · intro h; exact absurd h hz'
      · intro h; split at h <;> simp at h

theorem ok_sliceSl (hrel : Rel H.glob S B φ h w) (ht : TR S φ h w t a.tmps) (ty el : TypeId) (x : Operand) (lo hi : Option Operand) (ho : o.op = .slice ty x lo hi none) (hty : P.underlying ty = some (.slice el)) (hk : known P el = true)
    (e : Bool) (s : Nat) (xs : List AV) (hx : opd t (cOpd H x) = .sl e s xs) (hs : s = tsz P el ∨ xs.isEmpty = true) (l r : Nat) (hl : bnd t 0 (lo.map (cOpd H)) = some l) (hr : bnd t xs.length (hi.map (cOpd H)) = some r)
    (h1 : l ≤ r) (h2 : r ≤ xs.length) (hz : tsz P el ≠ 0) : OpOK P H.glob S B φ h w a o h (.sl (e && r == xs.length) s ((xs.take r).drop l)) := by
  have hu := opd_VR hrel ht x
  generalize hu' : a.eval x = u at hu
  rw [hx] at hu
  obtain ⟨ad, c, rfl, hxx, hle, hne⟩ := hu.sl_inv
  have hb := run_bounds (P := P) hrel ht true xs.length c lo hi l r hl hr h1 (by omega)
  have hrun := slice_run (P := P) (w := w) ty el hty hk _ ad xs.length c rfl _ _ _ l r c hb
  refine ok_same hrel (v := .slice (if c = l then ad else ad.map (·.add (l * tsz P el))) (r - l) (c - l)) ?_ ?_
  · simp only [execOp, ho, hu', Option.map_none, Sem.run_bind, hrun, Result.andThen_ok]
    rfl
  · rcases hs with rfl | hs
    · exact sl_cut hu l r c h1 h2 (by omega) _ (fun hx => by simp at hx; have := hxx hx.1; omega) _ rfl (.inl hz)
    · have : xs = [] := by simpa using hs
      subst this
      simp at h2
      subst h2
      have : l = 0 := by omega
      subst this
      have hnil := hu.sl_nil
      simp
      exact .sl0 _ _ _ _ hxx (by rw [hnil]; split <;> simp)

theorem osl_cut {id gen sz i len : Nat} {ad : Option Addr} {c : Nat} (hv : VR S φ h w (.osl id gen sz i len) (.slice ad len c)) (l r : Nat) (h1 : l ≤ r) (h2 : r ≤ c) (h3 : l < r ∨ l = 0)
    (h4 : ∀ x, getA h id gen = some x → i + r ≤ x.els.length) (hsome : ad.isSome = true) :
    VR S φ h w (.osl id gen sz (i + l) (r - l)) (.slice (if c = l then ad else ad.map (·.add (l * sz))) (r - l) (c - l)) := by
  cases hv with | osl _ _ _ _ _ _ _ hid hg hn hs ha =>
  have hadd0 : ∀ x : Option Addr, x.map (·.add 0) = x := by intro x; cases x <;> simp [Addr.add]
  have had : (if c = l then ad else ad.map (·.add (l * sz))) = ad.map (·.add (l * sz)) := by
    split
    · have : l = 0 := by omega
      subst this
      simp [hadd0]
    · rfl
  rw [had]
  refine .osl _ _ _ _ _ _ _ hid hg (by omega) (by simp; exact hsome) (fun x hx => ?_)
  obtain ⟨g1, g2, b, cs, fr, g3, rfl, g5, g6⟩ := ha x hx
  refine ⟨g1, by have := h4 x hx; omega, b, cs, fr, g3, by simp [add_plain, Nat.add_mul], g5, ?_⟩
  rw [show i + l + (c - l) = i + c by omega]
  exact g6

theorem ok_sliceOsl (hrel : Rel H.glob S B φ h w) (ht : TR S φ h w t a.tmps) (ty el : TypeId) (x : Operand) (lo hi : Option Operand) (ho : o.op = .slice ty x lo hi none) (hty : P.underlying ty = some (.slice el)) (hk : known P el = true)
    (id gen i len : Nat) (hx : opd t (cOpd H x) = .osl id gen (tsz P el) i len) (l r : Nat) (hl : bnd t 0 (lo.map (cOpd H)) = some l) (hr : bnd t len (hi.map (cOpd H)) = some r)
    (v : AV) (hv : sliceV (tsz P el) (.osl id gen (tsz P el) i len) l r h = some v) (hz : tsz P el ≠ 0) : OpOK P H.glob S B φ h w a o h v := by
  have hu := opd_VR hrel ht x
  generalize hu' : a.eval x = u at hu
  rw [hx] at hu
  have hu0 := hu
  cases hu with | osl _ _ _ _ _ ad c hid hg hn hs ha =>
  simp only [sliceV] at hv
  by_cases hin : l ≤ r ∧ r ≤ len
  · rw [if_pos hin] at hv
    have hb := run_bounds (P := P) hrel ht true len c lo hi l r hl hr hin.1 (by omega)
    have hrun := slice_run (P := P) (w := w) ty el hty hk _ ad len c rfl _ _ _ l r c hb
    have hexec : (execOp a.eval o).run P w = .ok (.value (.slice (if c = l then ad else ad.map (·.add (l * tsz P el))) (r - l) (c - l))) w := by
      simp only [execOp, ho, hu', Option.map_none, Sem.run_bind, hrun, Result.andThen_ok]
      rfl
    by_cases hlr : l < r ∨ l = 0
    · rw [if_pos hlr] at hv
      injection hv with hv
      subst hv
      exact ok_same hrel hexec (osl_cut hu0 l r hin.1 (by omega) hlr (fun y hy => by have := (ha y hy).2.1; omega) hs)
    · rw [if_neg hlr] at hv
      injection hv with hv
      subst hv
      refine ok_same hrel hexec ?_
      rw [show r - l = 0 by omega]
      refine .sl0 _ _ _ _ (by simp) ?_
      constructor
      · intro h; exact absurd h hz
      · intro h
        split at h
        · rw [h] at hs; cases hs
        · rw [Option.map_eq_none_iff] at h; rw [h] at hs; cases hs
  · rw [if_neg hin] at hv
    rw [Option.bind_eq_some_iff] at hv
    obtain ⟨y, hy, hv⟩ := hv
    by_cases hc : l ≤ r ∧ i + r ≤ y.els.length ∧ (l < r ∨ l = 0)
    · rw [if_pos hc] at hv
      injection hv with hv
      subst hv
      obtain ⟨g1, g2, b, cs, fr, g3, g4, g5, g6⟩ := ha y hy
      have hoa := hrel.arr id y b (getA_some hy).1 g3
      obtain ⟨vs, rest, fr2, k1, k2, _, _⟩ := hoa.at_
      rw [g5] at k1
      injection k1 with k1
      injection k1 with k1 _ _
      have hlen := k2.length
      rw [flat_length hoa.ok] at hlen
      have hcap : r ≤ c := by
        have e1 : (i + r) * y.sz ≤ y.els.length * y.sz := Nat.mul_le_mul_right _ hc.2.1
        have e2 : vs.length ≤ cs.size := by rw [k1]; simp
        have e3 : (i + r) * tsz P el ≤ (i + c) * tsz P el := by rw [g6, ← g1]; omega
        have := Nat.le_of_mul_le_mul_right e3 (by omega)
        omega
      have hb := run_bounds (P := P) hrel ht true len c lo hi l r hl hr hc.1 hcap
      have hrun := slice_run (P := P) (w := w) ty el hty hk _ ad len c rfl _ _ _ l r c hb
      have hexec : (execOp a.eval o).run P w = .ok (.value (.slice (if c = l then ad else ad.map (·.add (l * tsz P el))) (r - l) (c - l))) w := by
        simp only [execOp, ho, hu', Option.map_none, Sem.run_bind, hrun, Result.andThen_ok]
        rfl
      exact ok_same hrel hexec (osl_cut hu0 l r hc.1 hcap hc.2.2 (fun z hz' => by rw [hy] at hz'; injection hz' with hz'; subst hz'; exact hc.2.1) (by rw [g4]; rfl))
    · rw [if_neg hc] at hv
      cases hv

theorem ok_slice3 (hrel : Rel H.glob S B φ h w) (ht : TR S φ h w t a.tmps) (ty el : TypeId) (x : Operand) (lo : Option Operand) (hi mx : Operand) (ho : o.op = .slice ty x lo (some hi) (some mx)) (hty : P.underlying ty = some (.slice el)) (hk : known P el = true)
    (l r m : Nat) (hl : bnd t 0 (lo.map (cOpd H)) = some l) (hr : asNat (opd t (cOpd H hi)) = some r) (hm : asNat (opd t (cOpd H mx)) = some m)
    (v : AV) (hv : sliceM (opd t (cOpd H x)) l r m = some v) (hs : ∀ e s xs, opd t (cOpd H x) = .sl e s xs → s = tsz P el ∨ xs.isEmpty = true) (hz : tsz P el ≠ 0) (hs2 : ∀ id gen s i len, opd t (cOpd H x) = .osl id gen s i len → s = tsz P el) : OpOK P H.glob S B φ h w a o h v := by
  have hu := opd_VR hrel ht x
  generalize hu' : a.eval x = u at hu
  generalize hX : opd t (cOpd H x) = X at hu hv hs hs2
  cases X <;> simp only [sliceM] at hv <;> try (cases hv; done)
  case sl e s xs =>
    by_cases hc : l ≤ r ∧ r = m ∧ m ≤ xs.length
    · rw [if_pos hc] at hv
      injection hv with hv
      subst hv
      obtain ⟨ad, c, rfl, hxx, hle, hne⟩ := hu.sl_inv
      have hb := run_bounds3 (P := P) hrel ht true xs.length c lo hi mx l r m hl hr hm hc.1 (by omega) (by omega)
      have hrun := slice_run (P := P) (w := w) ty el hty hk _ ad xs.length c rfl _ _ _ l r m hb
      refine ok_same hrel (v := .slice (if m = l then ad else ad.map (·.add (l * tsz P el))) (r - l) (m - l)) ?_ ?_
      · simp only [execOp, ho, hu', Option.map_some, Sem.run_bind, hrun, Result.andThen_ok]
        rfl
      · rcases hs e s xs rfl with rfl | hs
        · exact sl_cut hu l r m hc.1 (by omega) (by omega) _ (fun _ => by omega) _ rfl (.inl hz)
        · have : xs = [] := by simpa using hs
          subst this
          simp at hc
          have h0 : r = 0 := by omega
          have h1 : l = 0 := by omega
          have h2 : m = 0 := by omega
          subst h0; subst h1; subst h2
          have hnil := hu.sl_nil
          simp
          exact .sl0 _ _ _ _ (fun _ => rfl) hnil
    · rw [if_neg hc] at hv
      cases hv
  case osl id gen s i len =>
    by_cases hc : l = r ∧ r = m ∧ m ≤ len
    · rw [if_pos hc] at hv
      injection hv with hv
      subst hv
      cases hu with | osl _ _ _ _ _ ad c hid hg hn hs' ha =>
      have hb := run_bounds3 (P := P) hrel ht true len c lo hi mx l r m hl hr hm (by omega) (by omega) (by omega)
      have hrun := slice_run (P := P) (w := w) ty el hty hk _ ad len c rfl _ _ _ l r m hb
      refine ok_same hrel (v := .slice (if m = l then ad else ad.map (·.add (l * tsz P el))) (r - l) (m - l)) ?_ ?_
      · simp only [execOp, ho, hu', Option.map_some, Sem.run_bind, hrun, Result.andThen_ok]
        rfl
      · rw [show r - l = 0 by omega, show m - l = 0 by omega]
        refine .sl0 _ _ _ _ (fun _ => rfl) ?_
        have hss := hs2 id gen s i len rfl
        constructor
        · intro h; exact absurd (hss.symm.trans h) hz
        · intro h
          split at h
          · rw [h] at hs'; cases hs'
          · rw [Option.map_eq_none_iff] at h; rw [h] at hs'; cases hs'
    · rw [if_neg hc] at hv
      cases hv

end
end Go.Proofs.VmX

/- The small machine's appends, against the model's. -/
set_option linter.unusedVariables false
set_option linter.unusedSimpArgs false
set_option linter.unusedSectionVars false
namespace Go.Proofs.VmX
open Go.RowKit
section
variable {P : Program} {H : Hints} {S : Nat → Nat → Prop} {B : Nat} {φ : Phi} {h : Heap} {w : World} {t : List AV} {a : Act} {o : Oper}

/-- An object of ours grows in its own block. -/
theorem upd_grow {G : Nat → AV} (hrel : Rel G S B φ h w) {id b : Nat} {x x' : Arr} (hx : h[id]? = some (.arr x)) (hb : φ[id]? = some b) {w' : World} {cs cs' : Array Value} {fr : Nat × Nat}
    (hw : Wrote w w' b cs cs' x.el fr) (hgen : x'.gen = x.gen + 1) (hsz : x'.sz = x.sz) (hel : x'.el = x.el) (hlock : x'.lock = x.lock)
    (hok : ∀ e ∈ x'.els, okEl x'.sz e = true) (vs' rest' : List Value) (hcs : cs'.toList = vs' ++ rest') (hv : VRs S φ h w (x'.els.flatMap AV.cells) vs')
    (hfr : ∀ j, x.lock * x.sz ≤ j → j < cs.size → ¬ (fr.1 ≤ j ∧ j < fr.2)) (hc : ∀ c, x'.cap = some c → cs.size = c * x.sz)
    (hpre : ∀ j, j < x.lock * x.sz → cs'[j]? = cs[j]?) :
    Rel G S B φ (h.set id (.arr x')) w' ∧ Ext S φ h w φ (h.set id (.arr x')) w' ∧ Below B w w' := by
  have hidlt : id < h.length := (List.getElem?_eq_some_iff.1 hx).1
  have hset : (h.set id (.arr x'))[id]? = some (.arr x') := by simp [hidlt]
  have hne : ∀ j, j ≠ id → (h.set id (.arr x'))[j]? = h[j]? := fun j hj => List.getElem?_set_ne (Ne.symm hj)
  have hext : Ext S φ h w φ (h.set id (.arr x')) w' := by
    refine ⟨by simp, fun j y hj hy => ?_, fun c cs0 el fr0 hc0 => ?_, fun c off v hcell hs => ?_, fun r es c hr => ?_, fun j c s p hi hc0 => ?_⟩
    · by_cases hji : j = id
      · subst hji
        rw [hset] at hy
        injection hy with hy
        injection hy with hy
        subst hy
        exact ⟨x, hx, by omega, fun hg => by omega⟩
      · rw [hne j hji] at hy
        exact ⟨y, hy, Nat.le_refl _, fun _ => ⟨rfl, rfl, rfl, rfl⟩⟩
    · by_cases hcb : c = b
      · subst hcb
        have := hw.was.symm.trans hc0
        injection this with this
        injection this with e1 e2 e3
        subst e1; subst e2; subst e3
        exact ⟨cs', fr, hw.is_, hw.size⟩
      · exact ⟨cs0, fr0, (hw.rest c hcb).trans hc0, rfl⟩
    · refine ⟨?_, hs.1, fun j y h1 h2 => ?_⟩
      · by_cases hcb : c = b
        · subst hcb
          have hlt := hs.2 id x hb hx
          simp only [World.cell?, hw.was] at hcell
          simp only [World.cell?, hw.is_]
          simpa [hpre off hlt] using hcell
        · have : w'.cell? ⟨c, off, none⟩ = w.cell? ⟨c, off, none⟩ := World.cell?_of_block (w := w) (hw.rest c hcb)
          exact this.trans hcell
      · by_cases hji : j = id
        · subst hji
          rw [hset] at h2
          injection h2 with h2
          injection h2 with h2
          subst h2
          have := hs.2 j x h1 hx
          rw [hlock, hsz]
          exact this
        · rw [hne j hji] at h2
          exact hs.2 j y h1 h2
    · have : r ≠ b := fun e => by subst e; rw [hw.was] at hr; cases hr
      exact (hw.rest r this).trans hr
    · have : j ≠ id := fun e => by subst e; rw [hx] at hi; cases hi
      exact ⟨⟨s, p, (hne j this).trans hi⟩, hc0⟩
  refine ⟨⟨by simp [hrel.len], hrel.inj, fun i c hi => ?_, ?_, hrel.own, fun i y c hi hc0 => ?_, fun i s p c hi hc0 => ?_, fun g => (hrel.glob g).mono hext⟩, hext, ?_⟩
  · rw [hw.hsize]; exact hrel.low i c hi
  · rw [hw.hsize]; exact hrel.base
  · by_cases hii : i = id
    · subst hii
      rw [hset] at hi
      injection hi with hi
      injection hi with hi
      subst hi
      have : c = b := Option.some.inj (hc0.symm.trans hb)
      subst this
      have hll : (vs' ++ rest').length = cs.size := by rw [← hcs]; simpa using hw.size
      refine ⟨hok, vs', rest', fr, ?_, hv.mono hext, fun j hj hj' => ?_, fun n hn => ?_⟩
      · rw [hw.is_, hel]
        rw [← hcs]
      · rw [hlock, hsz] at hj
        exact hfr j hj (by omega)
      · rw [hll, hsz]
        exact hc n hn
    · rw [hne i hii] at hi
      have hcb : c ≠ b := fun e => hii (hrel.inj i id c hc0 (e ▸ hb))
      exact (hrel.arr i y c hi hc0).mono hext (hw.rest c hcb)
  · have hii : i ≠ id := fun e => by subst e; rw [hset] at hi; cases hi
    rw [hne i hii] at hi
    have hcb : c ≠ b := fun e => hii (hrel.inj i id c hc0 (e ▸ hb))
    exact (hw.rest c hcb).trans (hrel.itr i s p c hi hc0)
  · exact ⟨hw.os, hw.tape, hw.output, by rw [hw.hsize]; exact Nat.le_refl _, fun k hk => hw.rest k (fun e => by have := (hrel.low id b hb).1; omega)⟩

/-- An object of ours moves to a new block. -/
theorem upd_move {G : Nat → AV} (hrel : Rel G S B φ h w) {id b : Nat} {x x' : Arr} (hx : h[id]? = some (.arr x)) (hb : φ[id]? = some b) (hgen : x'.gen = x.gen + 1) (hok : ∀ e ∈ x'.els, okEl x'.sz e = true)
    (vs rest : List Value) (hv : VRs S φ h w (x'.els.flatMap AV.cells) vs) (hc : x'.cap = none) :
    Rel G S B (φ.set id w.heap.size) (h.set id (.arr x')) (w.drew.alloc (.cells (vs ++ rest).toArray x'.el)) ∧
    Ext S φ h w (φ.set id w.heap.size) (h.set id (.arr x')) (w.drew.alloc (.cells (vs ++ rest).toArray x'.el)) ∧ Below B w (w.drew.alloc (.cells (vs ++ rest).toArray x'.el)) := by
  have hidlt : id < h.length := (List.getElem?_eq_some_iff.1 hx).1
  have hphilt : id < φ.length := by rw [hrel.len]; exact hidlt
  have hset : (h.set id (.arr x'))[id]? = some (.arr x') := by simp [hidlt]
  have hne : ∀ j, j ≠ id → (h.set id (.arr x'))[j]? = h[j]? := fun j hj => List.getElem?_set_ne (Ne.symm hj)
  have pset : (φ.set id w.heap.size)[id]? = some w.heap.size := by simp [hphilt]
  have pne : ∀ j, j ≠ id → (φ.set id w.heap.size)[j]? = φ[j]? := fun j hj => List.getElem?_set_ne (Ne.symm hj)
  have old : ∀ k, k < w.heap.size → (w.drew.alloc (.cells (vs ++ rest).toArray x'.el)).heap[k]? = w.heap[k]? := fun k hk => Below.heap_alloc w.drew _ k hk
  have hnew : (w.drew.alloc (.cells (vs ++ rest).toArray x'.el)).heap[w.heap.size]? = some (.cells (vs ++ rest).toArray x'.el) := by
    show (w.heap.push _)[w.heap.size]? = _
    simp
  have hext : Ext S φ h w (φ.set id w.heap.size) (h.set id (.arr x')) (w.drew.alloc (.cells (vs ++ rest).toArray x'.el)) := by
    refine ⟨by simp, fun j y hj hy => ?_, fun c cs0 el fr0 hc0 => ?_, fun c off v hcell hs => ?_, fun r es c hr => ?_, fun j c s p hi hc0 => ?_⟩
    · by_cases hji : j = id
      · subst hji
        rw [hset] at hy
        injection hy with hy
        injection hy with hy
        subst hy
        exact ⟨x, hx, by omega, fun hg => by omega⟩
      · rw [hne j hji] at hy
        exact ⟨y, hy, Nat.le_refl _, fun _ => ⟨rfl, rfl, rfl, pne j hji⟩⟩
    · exact ⟨cs0, fr0, (old c (Array.getElem?_eq_some_iff.1 hc0).1).trans hc0, rfl⟩
    · have hlt : c < w.heap.size := World.block_lt_of_cell? w ⟨c, off, none⟩ hcell
      have : (w.drew.alloc (.cells (vs ++ rest).toArray x'.el)).cell? ⟨c, off, none⟩ = w.cell? ⟨c, off, none⟩ := World.cell?_of_block (w := w) (old c hlt)
      refine ⟨this.trans hcell, hs.1, fun j y h1 h2 => ?_⟩
      by_cases hji : j = id
      · subst hji
        rw [pset] at h1
        injection h1 with h1
        omega
      · rw [pne j hji] at h1
        rw [hne j hji] at h2
        exact hs.2 j y h1 h2
    · exact (old r (Array.getElem?_eq_some_iff.1 hr).1).trans hr
    · have : j ≠ id := fun e => by subst e; rw [hx] at hi; cases hi
      exact ⟨⟨s, p, (hne j this).trans hi⟩, (pne j this).trans hc0⟩
  refine ⟨⟨by simp [hrel.len], fun i j c hi hj => ?_, fun i c hi => ?_, ?_, hrel.own, fun i y c hi hc0 => ?_, fun i s p c hi hc0 => ?_, fun g => (hrel.glob g).mono hext⟩, hext, ?_⟩
  · by_cases hii : i = id <;> by_cases hjj : j = id
    · omega
    · subst hii
      rw [pset] at hi
      rw [pne j hjj] at hj
      injection hi with hi
      have := (hrel.low j c hj).2
      omega
    · subst hjj
      rw [pset] at hj
      rw [pne i hii] at hi
      injection hj with hj
      have := (hrel.low i c hi).2
      omega
    · rw [pne i hii] at hi
      rw [pne j hjj] at hj
      exact hrel.inj i j c hi hj
  · by_cases hii : i = id
    · subst hii
      rw [pset] at hi
      injection hi with hi
      subst hi
      exact ⟨hrel.base, by simp⟩
    · rw [pne i hii] at hi
      have := hrel.low i c hi
      exact ⟨this.1, by simp; omega⟩
  · have := hrel.base
    simp
    omega
  · by_cases hii : i = id
    · subst hii
      rw [hset] at hi
      injection hi with hi
      injection hi with hi
      subst hi
      rw [pset] at hc0
      injection hc0 with hc0
      subst hc0
      exact ⟨hok, vs, rest, (0, 0), hnew, hv.mono hext, fun j _ _ => by simp, fun c hcc => by rw [hc] at hcc; cases hcc⟩
    · rw [hne i hii] at hi
      rw [pne i hii] at hc0
      exact (hrel.arr i y c hi hc0).mono hext (old c (hrel.low i c hc0).2)
  · have hii : i ≠ id := fun e => by subst e; rw [hset] at hi; cases hi
    rw [hne i hii] at hi
    rw [pne i hii] at hc0
    exact (old c (hrel.low i c hc0).2).trans (hrel.itr i s p c hi hc0)
  · exact (Below.refl B w).drew.alloc hrel.base _

/-! What is appended. -/
/-- These are the values of what is appended. -/
structure Src (P : Program) (S : Nat → Nat → Prop) (φ : Phi) (h : Heap) (w : World) (sz : Nat) (u : Value) (ys : List AV) (vals : List Value) : Prop where
  ok : ∀ e ∈ ys, okEl sz e = true
  vr : VRs S φ h w (ys.flatMap AV.cells) vals
  len : ∀ w1 : World, (Go.Builtin.lenOf u).run P w1 = .ok ys.length w1
  run : ∀ w1 : World, (∀ p, w1.cell? p = w.cell? p) → ∀ n, n ≤ ys.length → (Go.Builtin.firstCells sz n u).run P w1 = .ok (vals.take (n * sz)).toArray w1

theorem Src.vlen {sz : Nat} {u : Value} {ys : List AV} {vals : List Value} (hs : Src P S φ h w sz u ys vals) : vals.length = ys.length * sz := by rw [← hs.vr.length]; exact flat_length hs.ok

theorem Src.one {sz : Nat} {u : Value} {ys : List AV} {vals : List Value} (hs : Src P S φ h w sz u ys vals) : ∀ v ∈ vals, v.oneCell' = true := by
  intro v hv
  obtain ⟨k, hk⟩ := List.getElem?_of_mem hv
  have hlt : k < (ys.flatMap AV.cells).length := by rw [hs.vr.length]; exact (List.getElem?_eq_some_iff.1 hk).1
  obtain ⟨v', h1, h2⟩ := hs.vr.get k _ (List.getElem?_eq_getElem hlt)
  rw [hk] at h1
  injection h1 with h1
  subst h1
  have hm : (ys.flatMap AV.cells)[k] ∈ ys.flatMap AV.cells := List.getElem_mem _
  obtain ⟨y, hy, hc⟩ := List.mem_flatMap.1 hm
  exact one_cell h2 (okEl_one (hs.ok y hy) _ hc)

theorem cells_run {b off : Nat} {vals : List Value} (hc : ∀ k v, vals[k]? = some v → w.cell? ⟨b, off + k, none⟩ = some v) (w1 : World) (hw : ∀ p, w1.cell? p = w.cell? p) (m : Nat) (hm : m ≤ vals.length) :
    (loadCells ⟨b, off, none⟩ m).run P w1 = .ok (vals.take m).toArray w1 := by
  have := run_loadCells (P := P) (w := w1) b off (vals.take m) (fun k v hk => by
    rw [hw]
    rw [List.getElem?_take] at hk
    split at hk
    · exact hc k v hk
    · cases hk)
  rwa [List.length_take, Nat.min_eq_left hm] at this

theorem src_sl {e : Bool} {s sz : Nat} {ys : List AV} {u : Value} (hv : VR S φ h w (.sl e s ys) u) (hs : s = sz ∨ ys.isEmpty = true) : ∃ vals, Src P S φ h w sz u ys vals := by
  obtain ⟨ad, c, rfl, _, hle, hne⟩ := hv.sl_inv
  by_cases h0 : ys = []
  · subst h0
    refine ⟨[], by simp, .nil, fun w1 => by simp [Builtin.lenOf], fun w1 _ n hn => ?_⟩
    have : n = 0 := by simpa using hn
    subst this
    cases ad <;> simp [Builtin.firstCells, loadCells, loadCellsFrom]
  · obtain ⟨b, off, rfl, he, hc⟩ := hne h0
    have hss : s = sz := by
      rcases hs with hs | hs
      · exact hs
      · exact absurd (by simpa using hs) h0
    subst hss
    obtain ⟨vals, h1, h2⟩ := hc.rd.vals
    have hvl : vals.length = ys.length * s := by rw [← h1.length]; exact flat_length he
    exact ⟨vals, he, h1, fun w1 => by simp [Builtin.lenOf], fun w1 hw n hn => by
      simp only [Builtin.firstCells]
      exact cells_run h2 w1 hw (n * s) (by rw [hvl]; exact Nat.mul_le_mul_right _ hn)⟩

theorem src_osl {G : Nat → AV} (hrel : Rel G S B φ h w) {id gen sz i len : Nat} {ys : List AV} {u : Value} (hv : VR S φ h w (.osl id gen sz i len) u) (hy : elsOf (.osl id gen sz i len) h = some ys) :
    ∃ vals, Src P S φ h w sz u ys vals := by
  simp only [elsOf, Option.bind_eq_some_iff] at hy
  obtain ⟨x, hx, hy⟩ := hy
  rcases Nat.lt_or_ge x.els.length (i + len) with hlt0 | hle
  · rw [if_neg (by omega)] at hy; cases hy
  rw [if_pos hle] at hy
  injection hy with hy
  subst hy
  cases hv with | osl _ _ _ _ _ ad c hid hg hn hs ha =>
  obtain ⟨g1, g2, b, cs, fr, g3, rfl, g5, g6⟩ := ha x hx
  have hoa := hrel.arr id x b (getA_some hx).1 g3
  subst g1
  have hr : RD S φ h w b (i * x.sz) (((x.els.drop i).take len).flatMap AV.cells) := by
    have h0 : RD S φ h w b 0 (x.els.flatMap AV.cells) := fun k c hk => by
      obtain ⟨v, k1, k2⟩ := hoa.cell k c hk
      exact ⟨v, by simpa using k1, k2⟩
    have h1 := h0.sub (i * x.sz) (len * x.sz)
    rw [flat_drop i hoa.ok, flat_take len (fun y hy => hoa.ok y (List.mem_of_mem_drop hy))] at h1
    simpa using h1
  obtain ⟨vals, h1, h2⟩ := hr.vals
  have hok : ∀ e ∈ (x.els.drop i).take len, okEl x.sz e = true := fun y hy => hoa.ok y (List.mem_of_mem_drop (List.mem_of_mem_take hy))
  have hll : ((x.els.drop i).take len).length = len := by simp; omega
  have hvl : vals.length = len * x.sz := by rw [← h1.length, flat_length hok, hll]
  refine ⟨vals, hok, h1, fun w1 => by simp only [Builtin.lenOf, hll]; rfl, fun w1 hw n hn => ?_⟩
  rw [hll] at hn
  simp only [Builtin.firstCells]
  exact cells_run h2 w1 hw (n * x.sz) (by rw [hvl]; exact Nat.mul_le_mul_right _ hn)

theorem bytes_VRs (s : List UInt8) : VRs S φ h w ((s.map byteAV).flatMap AV.cells) (s.map fun b => Value.int .u8 b.toNat) := by
  induction s with
  | nil => exact .nil
  | cons b s ih => exact .cons _ _ _ _ (.int _ _) ih

theorem src_str (s : List UInt8) {u : Value} (hv : VR S φ h w (.str s) u) : ∃ vals, Src P S φ h w 1 u (s.map byteAV) vals := by
  have := hv.str_inv
  subst this
  refine ⟨s.map fun b => Value.int .u8 b.toNat, fun e he => ?_, bytes_VRs s, fun w1 => by simp [Builtin.lenOf, bytes_size], fun w1 _ n hn => ?_⟩
  · obtain ⟨b, _, rfl⟩ := List.mem_map.1 he
    rfl
  · simp only [Builtin.firstCells]
    have : (((ByteArray.mk s.toArray).extract 0 n).data.map fun b => Value.int .u8 b.toNat) = ((s.map fun b => Value.int .u8 b.toNat).take (n * 1)).toArray := by
      rw [Lib.extract_eq]
      apply Array.toList_inj.1
      simp [List.map_take]
    rw [this]
    rfl

end
end Go.Proofs.VmX

/- The small machine's appends, against the model's: the operation. -/
set_option linter.unusedVariables false
set_option linter.unusedSimpArgs false
set_option linter.unusedSectionVars false
namespace Go.Proofs.VmX
open Go.RowKit
section
variable {P : Program} {H : Hints} {S : Nat → Nat → Prop} {B : Nat} {φ : Phi} {h : Heap} {w : World} {t : List AV} {a : Act} {o : Oper}

theorem growBy_le (n : Nat) : ∀ (r c : Nat), c ≤ n + (n + 768) / 4 → Builtin.growBy n r c ≤ n + (n + 768) / 4
  | 0, c, hc => hc
  | r + 1, c, hc => by
    unfold Builtin.growBy
    split
    · exact hc
    · exact growBy_le n r _ (by omega)

theorem nextcap_le (need cap : Nat) (hlt : cap < need) : Builtin.nextslicecap need cap ≤ 2 * need + 192 := by
  unfold Builtin.nextslicecap
  split
  · omega
  · split
    · omega
    · have := growBy_le need 4 cap (by omega)
      omega

theorem roomOk_spec {need bytes : Nat} (hr : roomOk need bytes = true) : need ≤ 1099511627776 ∧ (2 * need + 192) * bytes ≤ 281474976710656 := by simpa [roomOk] using hr

/-- The element's facts in the model. -/
structure ElOK (P : Program) (el : TypeId) (sz bytes : Nat) (z : AV) (i : TypeInfo) (zv : Value) : Prop where
  info : P.info? el = some i
  size : i.size = sz
  bytes : i.bytes = bytes
  zero : i.zero = some zv
  pos : sz ≠ 0
  zok : okEl sz z = true
  zvr : z = ofVal zv

theorem elOK_of {el : TypeId} {z : AV} (hz : tzero P el = some z) (hk : known P el = true) (hok : okEl (tsz P el) z = true) (hp : tsz P el ≠ 0) : ∃ i zv, ElOK P el (tsz P el) (tbytes P el) z i zv := by
  obtain ⟨i, zv, h1, h2, h3⟩ := tzero_spec hz
  exact ⟨i, zv, h1, by simp [tsz, h1], by simp [tbytes, h1], h2, hp, hok, h3⟩

/-- append, no zeros. -/
theorem run_append_fits (t1 t2 el : TypeId) (ht1 : P.underlying t1 = some (.slice el)) (ht2 : ∃ d, P.underlying t2 = some d ∧ ∀ k, d ≠ .int k) (hk : known P el = true) (base : Option Addr) (len cap : Nat) (x : Value) (n : Nat) (ty : TypeId)
    (hn : (Builtin.lenOf x).run P w = .ok n w) (hfit : len + n ≤ cap) (vals : List Value) (hv : (Builtin.firstCells (tsz P el) n x).run P w = .ok vals.toArray w) (w' : World)
    (hst : (match base with | some ad => storeCells (ad.add (len * tsz P el)) vals | none => pure () : Sem Unit).run P w = .ok () w') :
    (Builtin.append_ #[t1, t2] ty #[.slice base len cap, x]).run P w = .ok (.slice base (len + n) cap) w' := by
  obtain ⟨d, hd, hdk⟩ := ht2
  have hz : (match d with | .int _ => true | _ => false) = false := by cases d <;> first | rfl | exact absurd rfl (hdk _)
  simp only [Builtin.append_]
  simp only [List.getElem?_toArray, List.getElem?_cons_zero, List.getElem?_cons_succ, Sem.run_bind, run_under ht1, Result.andThen_ok, run_size hk, run_under hd, Sem.run_pure, hz, Bool.false_eq_true, if_false, hn, hfit, if_true, Bool.not_false, hv]
  cases base with
  | none => simpa using hst
  | some ad => simp [hst]

theorem run_append_grows (t1 t2 el : TypeId) (ht1 : P.underlying t1 = some (.slice el)) (ht2 : ∃ d, P.underlying t2 = some d ∧ ∀ k, d ≠ .int k) (hk : known P el = true) {sz bytes : Nat} {z : AV} {i : TypeInfo} {zv : Value} (he : ElOK P el sz bytes z i zv)
    (base : Option Addr) (len cap : Nat) (x : Value) (n : Nat) (ty : TypeId) (hn : (Builtin.lenOf x).run P w = .ok n w) (hfit : cap < len + n) (hroom : roomOk (len + n) bytes = true) (olds vals : List Value)
    (ho : (Builtin.firstCells sz len (.slice base len cap)).run P w.drew = .ok olds.toArray w.drew) (hv : (Builtin.firstCells sz n x).run P w.drew = .ok vals.toArray w.drew) :
    ∃ newCap rest, len + n ≤ newCap ∧ (Builtin.append_ #[t1, t2] ty #[.slice base len cap, x]).run P w = .ok (.slice (some ⟨w.heap.size, 0, none⟩) (len + n) newCap) (w.drew.alloc (.cells (olds ++ vals ++ rest).toArray el)) ∧
      rest.length = (newCap - (len + n)) * zv.cells.size := by
  obtain ⟨d, hd, hdk⟩ := ht2
  have hz : (match d with | .int _ => true | _ => false) = false := by cases d <;> first | rfl | exact absurd rfl (hdk _)
  have hsz : tsz P el = sz := by simp [tsz, he.info, he.size]
  have hinf : ∀ w1 : World, (typeInfo el).run P w1 = .ok i w1 := fun w1 => by simp [typeInfo, he.info]
  have hzero : ∀ w1 : World, (zeroValue el).run P w1 = .ok zv w1 := fun w1 => by simp [zeroValue, typeInfo, he.info, he.zero]
  obtain ⟨r1, r2⟩ := roomOk_spec hroom
  have hnf : ¬ (len + n ≤ cap) := by omega
  have hmax : ¬ (((len + n : Nat) : Int) > IntKind.i64.max) := by
    show ¬ (((len + n : Nat) : Int) > 9223372036854775807)
    omega
  have hcap : ¬ (Builtin.nextslicecap (len + n) cap * i.bytes > 2 ^ 48) := by
    have h1 := nextcap_le (len + n) cap hfit
    have h2 := Nat.mul_le_mul_right i.bytes h1
    rw [he.bytes] at h2 ⊢
    have : (2 : Nat) ^ 48 = 281474976710656 := by decide
    omega
  refine ⟨(Question.appendCap (len + n) cap el).cut (w.tape w.drawn (.appendCap (len + n) cap el)),
    (Builtin.zeroCells zv.cells ((Question.appendCap (len + n) cap el).cut (w.tape w.drawn (.appendCap (len + n) cap el)) - (len + n))).toList, by simp [Question.cut], ?_, by simp [Builtin.zeroCells]⟩
  have hch : (choose (.appendCap (len + n) cap el)).run P w = .ok ((Question.appendCap (len + n) cap el).cut (w.tape w.drawn (.appendCap (len + n) cap el))) w.drew := by
    rw [run_choose]
    rfl
  simp only [Builtin.append_]
  simp only [List.getElem?_toArray, List.getElem?_cons_zero, List.getElem?_cons_succ, Sem.run_bind, run_under ht1, Result.andThen_ok, run_size hk, run_under hd, Sem.run_pure, hz, Bool.false_eq_true, if_false, hn, hnf, Bool.not_false, if_true, hinf, hmax, false_and, hcap,
    hch, run_askRoom, hsz, ho, hv, hzero, newRow, run_newObj]
  have e : (olds.toArray ++ vals.toArray ++ Builtin.zeroCells zv.cells ((Question.appendCap (len + n) cap el).cut (w.tape w.drawn (.appendCap (len + n) cap el)) - (len + n))) =
    (olds ++ vals ++ (Builtin.zeroCells zv.cells ((Question.appendCap (len + n) cap el).cut (w.tape w.drawn (.appendCap (len + n) cap el)) - (len + n))).toList).toArray := by
    apply Array.toList_inj.1
    simp
  rw [e]
  rfl

end
end Go.Proofs.VmX

/- The small machine's appends, against the model's: the operation. -/
set_option linter.unusedVariables false
set_option linter.unusedSimpArgs false
set_option linter.unusedSectionVars false
namespace Go.Proofs.VmX
open Go.RowKit
section
variable {P : Program} {H : Hints} {S : Nat → Nat → Prop} {B : Nat} {φ : Phi} {h : Heap} {w : World} {t : List AV} {a : Act} {o : Oper}

theorem ofVal_cells (v : Value) {sz : Nat} (hk : okEl sz (ofVal v) = true) : v.cells.size = sz := by
  have h1 := okEl_len hk
  have h2 := (box_cells (S := fun _ _ => True) (φ := []) (h := []) (w := default) (ofVal_VR v) hk).length
  simp at h2
  omega

theorem drew_ext : Ext S φ h w φ h w.drew :=
  ⟨Nat.le_refl _, fun id x' _ h1 => ⟨x', h1, Nat.le_refl _, fun _ => ⟨rfl, rfl, rfl, rfl⟩⟩, fun b cs el fr h1 => ⟨cs, fr, h1, rfl⟩, fun b o v h1 h2 => ⟨h1, h2⟩, fun _ _ _ h1 => h1, fun id b s p h1 h2 => ⟨⟨s, p, h1⟩, h2⟩⟩

theorem drew_rel {G : Nat → AV} (hrel : Rel G S B φ h w) : Rel G S B φ h w.drew :=
  ⟨hrel.len, hrel.inj, hrel.low, hrel.base, hrel.own, fun i x b hi hb => (hrel.arr i x b hi hb).mono drew_ext rfl, hrel.itr, fun g => (hrel.glob g).mono drew_ext⟩

/-- What is appended: elements, by their values. -/
structure SrcV (S : Nat → Nat → Prop) (φ : Phi) (h : Heap) (w : World) (sz : Nat) (ys : List AV) (vals : List Value) : Prop where
  ok : ∀ e ∈ ys, okEl sz e = true
  vr : VRs S φ h w (ys.flatMap AV.cells) vals

theorem SrcV.vlen {sz : Nat} {ys : List AV} {vals : List Value} (hs : SrcV S φ h w sz ys vals) : vals.length = ys.length * sz := by rw [← hs.vr.length]; exact flat_length hs.ok

theorem SrcV.one {sz : Nat} {ys : List AV} {vals : List Value} (hs : SrcV S φ h w sz ys vals) : ∀ v ∈ vals, v.oneCell' = true := by
  intro v hv
  obtain ⟨k, hk⟩ := List.getElem?_of_mem hv
  have hlt : k < (ys.flatMap AV.cells).length := by rw [hs.vr.length]; exact (List.getElem?_eq_some_iff.1 hk).1
  obtain ⟨v', h1, h2⟩ := hs.vr.get k _ (List.getElem?_eq_getElem hlt)
  rw [hk] at h1
  injection h1 with h1
  subst h1
  have hm : (ys.flatMap AV.cells)[k] ∈ ys.flatMap AV.cells := List.getElem_mem _
  obtain ⟨y, hy, hc⟩ := List.mem_flatMap.1 hm
  exact one_cell h2 (okEl_one (hs.ok y hy) _ hc)

/-- The append that has room, and the one that has none. -/
structure AppRun (P : Program) (w : World) (a : Act) (o : Oper) (el : TypeId) (sv : Value) (n : Nat) (vals : List Value) (zs : Nat) : Prop where
  fits : ∀ (base : Option Addr) (len cap : Nat) (w' : World), sv = .slice base len cap → len + n ≤ cap →
    (match base with | some ad => storeCells (ad.add (len * tsz P el)) vals | none => pure () : Sem Unit).run P w = .ok () w' → (execOp a.eval o).run P w = .ok (.value (.slice base (len + n) cap)) w'
  grows : ∀ (base : Option Addr) (len cap : Nat) (olds : List Value), sv = .slice base len cap → cap < len + n → roomOk (len + n) (tbytes P el) = true →
    (Builtin.firstCells (tsz P el) len (.slice base len cap)).run P w.drew = .ok olds.toArray w.drew →
    ∃ newCap rest, len + n ≤ newCap ∧ (execOp a.eval o).run P w = .ok (.value (.slice (some ⟨w.heap.size, 0, none⟩) (len + n) newCap)) (w.drew.alloc (.cells (olds ++ vals ++ rest).toArray el)) ∧
      rest.length = (newCap - (len + n)) * zs

set_option maxHeartbeats 1000000 in
theorem ok_appendV (hrel : Rel H.glob S B φ h w) (el : TypeId) (hk : known P el = true) {z : AV} {i : TypeInfo} {zv : Value} (he : ElOK P el (tsz P el) (tbytes P el) z i zv)
    (s : AV) (sv : Value) (hs : VR S φ h w s sv) (ys : List AV) (vals : List Value) (hrun : AppRun P w a o el sv ys.length vals zv.cells.size) (hsrc : SrcV S φ h w (tsz P el) ys vals)
    (h' : Heap) (r : AV) (happ : appendV el (tsz P el) (tbytes P el) s ys h = some (r, h')) : OpOK P H.glob S B φ h w a o h' r := by
  have hpos := he.pos
  cases s <;> simp only [appendV] at happ <;> try (cases happ; done)
  case sl e s0 xs =>
    obtain ⟨ad, c, rfl, hxx, hle, hne⟩ := hs.sl_inv
    by_cases h0 : ys = []
    · subst h0
      simp only [if_true] at happ
      injection happ with happ
      simp only [Prod.mk.injEq] at happ
      obtain ⟨rfl, rfl⟩ := happ
      have hvl : vals = [] := by have := hsrc.vlen; simpa using this
      subst hvl
      have := hrun.fits ad xs.length c w rfl (by simpa using hle) (by cases ad <;> simp [storeCells])
      exact ok_same hrel this hs
    · rw [if_neg h0] at happ
      split at happ
      rotate_left
      · cases happ
      rename_i hc
      simp only [Bool.and_eq_true, Bool.or_eq_true, beq_iff_eq, List.isEmpty_iff] at hc
      obtain ⟨⟨he1, hs0⟩, hroom⟩ := hc
      injection happ with happ
      simp only [Prod.mk.injEq] at happ
      obtain ⟨rfl, rfl⟩ := happ
      have hcap := hxx he1
      subst hcap
      have hyl : 0 < ys.length := List.length_pos_iff.2 h0
      obtain ⟨olds, hsrc0⟩ := src_sl (P := P) (sz := tsz P el) hs (by rcases hs0 with hs0 | hs0; exact .inl hs0; exact .inr (by simp [hs0]))
      have hold : (Builtin.firstCells (tsz P el) xs.length (.slice ad xs.length xs.length)).run P w.drew = .ok olds.toArray w.drew := by
        have := hsrc0.run w.drew (fun _ => rfl) xs.length (Nat.le_refl _)
        rwa [List.take_of_length_le (by rw [hsrc0.vlen]; exact Nat.le_refl _)] at this
      obtain ⟨nc, rest, k1, k2, k3⟩ := hrun.grows ad xs.length xs.length olds rfl (by omega) hroom hold
      have hrel' := drew_rel hrel
      have hok : ∀ e ∈ xs ++ ys, okEl (tsz P el) e = true := fun e hm => (List.mem_append.1 hm).elim (hsrc0.ok e) (hsrc.ok e)
      obtain ⟨q1, q2, q3⟩ := new_arr hrel' (xs ++ ys) (tsz P el) el none (olds ++ vals) rest hok (by rw [List.flatMap_append]; exact (hsrc0.vr.append hsrc.vr).mono drew_ext) (by simp)
      intro K Q hK
      unfold Oper.wp
      rw [k2]
      refine hK _ _ _ ⟨q1, drew_ext.trans q2, .osl _ _ _ _ _ _ _ (by simp) (fun _ _ => Nat.zero_le _) k1 rfl ?_, ⟨q3.os, q3.tape, q3.output, q3.size, q3.block⟩⟩
      intro x hx
      rw [getA_push _ 0 rfl] at hx
      injection hx with hx
      subst hx
      refine ⟨rfl, by simp, w.heap.size, (olds ++ vals ++ rest).toArray, (0, 0), ?_, by simp, ?_, ?_⟩
      · rw [List.getElem?_append_right (by rw [hrel.len]; exact Nat.le_refl _), hrel.len]
        simp
      · show (w.heap.push _)[w.heap.size]? = _
        simp
      · have hz := ofVal_cells zv (sz := tsz P el) (by rw [← he.zvr]; exact he.zok)
        have h1 := hsrc0.vlen
        have h2 := hsrc.vlen
        simp only [List.size_toArray, List.length_append]
        rw [h1, h2, k3, hz, Nat.zero_add, ← Nat.add_mul, ← Nat.add_mul]
        congr 1
        omega
  case osl id gen s0 i len =>
    rw [Option.bind_eq_some_iff] at happ
    obtain ⟨x, hx, happ⟩ := happ
    split at happ
    · cases happ
    rename_i hse
    have hs0 : s0 = tsz P el ∧ x.el = el := by
      constructor
      · exact Classical.byContradiction fun hh => hse (.inl hh)
      · exact Classical.byContradiction fun hh => hse (.inr hh)
    obtain ⟨rfl, hxel⟩ := hs0
    have hs' := hs
    generalize hsv : sv = sv' at hs'
    cases hs' with | osl _ _ _ _ _ ad c hid hg hnn hsm ha =>
    obtain ⟨g1, g2, b, cs, fr, g3, rfl, g5, g6⟩ := ha x hx
    obtain ⟨hx0, hxg⟩ := getA_some hx
    have hoa := hrel.arr id x b hx0 g3
    obtain ⟨vs, rest, fr2, k1, k2, k3, k4⟩ := hoa.at_
    have hcs : Go.Obj.cells cs x.el fr = Go.Obj.cells (vs ++ rest).toArray x.el fr2 := Option.some.inj (g5.symm.trans k1)
    injection hcs with hcs1 _ hcs3
    subst hcs1
    subst hcs3
    have hvl : vs.length = x.els.length * tsz P el := by rw [← k2.length, ← g1]; exact flat_length hoa.ok
    have hll := hsrc.vlen
    by_cases htail : i + len = x.els.length
    · rw [if_pos htail] at happ
      by_cases h0 : ys = []
      · subst h0
        simp only [if_true] at happ
        injection happ with happ
        simp only [Prod.mk.injEq] at happ
        obtain ⟨rfl, rfl⟩ := happ
        have hvl0 : vals = [] := by simpa using hll
        subst hvl0
        subst hsv
        have := hrun.fits (some ⟨b, i * tsz P el, none⟩) len c w rfl (by simpa using hnn) (by simp [storeCells])
        exact ok_same hrel this hs
      · rw [if_neg h0] at happ
        split at happ
        rotate_left
        · cases happ
        rename_i hc
        obtain ⟨hi0, hroom, hlk⟩ := hc
        subst hi0
        injection happ with happ
        simp only [Prod.mk.injEq] at happ
        obtain ⟨rfl, rfl⟩ := happ
        simp only [Nat.zero_add, Nat.zero_mul] at htail g6 ha hsv
        subst hsv
        have hyl : 0 < ys.length := List.length_pos_iff.2 h0
        have hok : ∀ e ∈ x.els ++ ys, okEl x.sz e = true := fun e hm => (List.mem_append.1 hm).elim (hoa.ok e) (fun hm => by rw [g1]; exact hsrc.ok e hm)
        have hsize : (vs ++ rest).length = c * tsz P el := by simpa using g6.symm
        rcases Nat.lt_or_ge c (len + ys.length) with hgrow | hfit
        · -- a new block
          have hold : (Builtin.firstCells (tsz P el) len (.slice (some ⟨b, 0, none⟩) len c)).run P w.drew = .ok vs.toArray w.drew := by
            simp only [Builtin.firstCells]
            have := cells_run (P := P) (w := w) (b := b) (off := 0) (vals := vs) (fun k v hkv => by
              simp only [World.cell?, g5]
              have hlt : k < vs.length := (List.getElem?_eq_some_iff.1 hkv).1
              simp [List.getElem?_append_left hlt, hkv]) w.drew (fun _ => rfl) (len * tsz P el) (by rw [hvl, htail]; exact Nat.le_refl _)
            rwa [List.take_of_length_le (by rw [hvl, htail]; exact Nat.le_refl _)] at this
          obtain ⟨nc, rest', r1, r2, r3⟩ := hrun.grows (some ⟨b, 0, none⟩) len c vs rfl hgrow hroom hold
          have hcapn : (x.cap.bind fun c => if len + ys.length ≤ c then some c else none) = none := by
            cases hcx : x.cap with
            | none => rfl
            | some c' =>
              have := k4 c' hcx
              rw [hsize, g1] at this
              have : c = c' := Nat.eq_of_mul_eq_mul_right (by omega) this
              subst this
              simp
              omega
          obtain ⟨q1, q2, q3⟩ := upd_move hrel hx0 g3 (x' := { x with gen := gen + 1, els := x.els ++ ys, cap := x.cap.bind fun c => if len + ys.length ≤ c then some c else none }) (by rw [hxg]) hok (vs ++ vals) rest'
            (by simp only [List.flatMap_append]; exact k2.append hsrc.vr) hcapn
          rw [← hxel] at r2
          intro K Q hK
          unfold Oper.wp
          rw [r2]
          refine hK _ _ _ ⟨q1, q2, .osl _ _ _ _ _ _ _ (by simp; exact (List.getElem?_eq_some_iff.1 hx0).1) (fun y hy => ?_) r1 rfl ?_, q3⟩
          · have hidlt := (List.getElem?_eq_some_iff.1 hx0).1
            simp [hidlt] at hy
            subst hy
            exact Nat.le_refl _
          · intro y hy
            have hidlt := (List.getElem?_eq_some_iff.1 hx0).1
            have hphilt : id < φ.length := by rw [hrel.len]; exact hidlt
            have hy0 := (getA_some hy).1
            simp [hidlt] at hy0
            subst hy0
            refine ⟨g1, by simp; omega, w.heap.size, (vs ++ vals ++ rest').toArray, (0, 0), by simp [hphilt], by simp, ?_, ?_⟩
            · show (w.heap.push _)[w.heap.size]? = _
              simp
            · have hz := ofVal_cells zv (sz := tsz P el) (by rw [← he.zvr]; exact he.zok)
              simp only [List.size_toArray, List.length_append]
              rw [hvl, hll, r3, hz, Nat.zero_add, ← Nat.add_mul, ← Nat.add_mul]
              congr 1
              omega
        · -- in place
          have hbnd : (len + ys.length) * tsz P el ≤ c * tsz P el := Nat.mul_le_mul_right _ hfit
          rw [Nat.add_mul] at hbnd
          have hlk2 : x.lock * x.sz ≤ len * tsz P el := by rw [g1]; exact Nat.mul_le_mul_right _ (by omega)
          obtain ⟨w', cs', r1, r2, r3⟩ := run_storeCells (P := P) b (len * tsz P el) x.el fr vals 0 w (vs ++ rest).toArray g5 hsrc.one (by simp only [List.size_toArray]; rw [hsize, hll]; omega)
            (fun j hj hj' => k3 j (by omega) (by rw [hsize]; rw [hll] at hj'; omega))
          have happrun := hrun.fits (some ⟨b, 0, none⟩) len c w' rfl hfit (by simpa [add_plain] using r1)
          simp only [List.toList_toArray, Nat.add_zero] at r3
          have r4 : cs'.toList = (vs ++ vals) ++ rest.drop vals.length := by
            have e1 : len * tsz P el = vs.length := by rw [hvl, htail]
            rw [r3, e1, List.take_left, List.drop_length_add_append]
          obtain ⟨q1, q2, q3⟩ := upd_grow hrel hx0 g3 (x' := { x with gen := gen + 1, els := x.els ++ ys, cap := x.cap.bind fun c => if len + ys.length ≤ c then some c else none }) r2 (by rw [hxg]) rfl rfl rfl hok
            (vs ++ vals) (rest.drop vals.length) r4 (by simp only [List.flatMap_append]; exact k2.append hsrc.vr) (by simpa using k3) (fun c' hc' => by
              rw [Option.bind_eq_some_iff] at hc'
              obtain ⟨c2, hc2, hc3⟩ := hc'
              split at hc3
              · injection hc3 with hc3
                subst hc3
                simpa using k4 c2 hc2
              · cases hc3) (fun j hj => by
              have : cs'.toList[j]? = (vs ++ rest)[j]? := by
                rw [r3, List.append_assoc, List.getElem?_append_left (by simp only [List.length_take, List.length_append]; rw [hvl]; rw [← htail]; omega), List.getElem?_take, if_pos (by omega)]
              simpa using this)
          intro K Q hK
          unfold Oper.wp
          rw [happrun]
          refine hK _ _ _ ⟨q1, q2, .osl _ _ _ _ _ _ _ (by simp; exact (List.getElem?_eq_some_iff.1 hx0).1) (fun y hy => ?_) hfit rfl ?_, q3⟩
          · have hidlt := (List.getElem?_eq_some_iff.1 hx0).1
            simp [hidlt] at hy
            subst hy
            exact Nat.le_refl _
          · intro y hy
            have hidlt := (List.getElem?_eq_some_iff.1 hx0).1
            have hy0 := (getA_some hy).1
            simp [hidlt] at hy0
            subst hy0
            refine ⟨g1, by simp; omega, b, cs', fr, g3, by simp, r2.is_, ?_⟩
            rw [r2.size]
            simp only [List.size_toArray]
            rw [hsize, Nat.zero_add]
    · rw [if_neg htail] at happ
      split at happ
      rotate_left
      · cases happ
      rename_i hc
      injection happ with happ
      simp only [Prod.mk.injEq] at happ
      obtain ⟨rfl, rfl⟩ := happ
      subst hsv
      have hsize : (vs ++ rest).length = (i + c) * tsz P el := by simpa using g6.symm
      have e2 : (i + len + ys.length) * tsz P el ≤ x.els.length * tsz P el := Nat.mul_le_mul_right _ hc.1
      have hvs : x.els.length * tsz P el ≤ (i + c) * tsz P el := by rw [← hvl, ← hsize]; simp
      have hfit : len + ys.length ≤ c := by
        have := Nat.le_of_mul_le_mul_right (Nat.le_trans e2 hvs) (by omega)
        omega
      have hlk2 : x.lock * x.sz ≤ i * tsz P el + len * tsz P el := by rw [g1, ← Nat.add_mul]; exact Nat.mul_le_mul_right _ hc.2
      have e3 : (i + len + ys.length) * tsz P el = i * tsz P el + len * tsz P el + ys.length * tsz P el := by rw [Nat.add_mul, Nat.add_mul]
      obtain ⟨w', cs', r1, r2, r3⟩ := run_storeCells (P := P) b (i * tsz P el + len * tsz P el) x.el fr vals 0 w (vs ++ rest).toArray g5 hsrc.one (by simp only [List.size_toArray]; rw [hsize, hll]; omega)
        (fun j hj hj' => k3 j (by omega) (by rw [hsize]; rw [hll] at hj'; omega))
      have happrun := hrun.fits (some ⟨b, i * tsz P el, none⟩) len c w' rfl hfit (by simpa [add_plain] using r1)
      simp only [List.toList_toArray, Nat.add_zero] at r3
      have r4 : cs'.toList = (vs.take (i * tsz P el + len * tsz P el) ++ vals ++ vs.drop (i * tsz P el + len * tsz P el + vals.length)) ++ rest := by
        rw [r3, List.take_append_of_le_length (by omega), List.drop_append_of_le_length (by omega)]
        simp
      have hflat : (x.els.take (i + len) ++ ys ++ x.els.drop (i + len + ys.length)).flatMap AV.cells = (x.els.flatMap AV.cells).take (i * tsz P el + len * tsz P el) ++ ys.flatMap AV.cells ++ (x.els.flatMap AV.cells).drop (i * tsz P el + len * tsz P el + vals.length) := by
        simp only [List.flatMap_append]
        rw [show i * tsz P el + len * tsz P el = (i + len) * tsz P el by rw [Nat.add_mul], hll, ← Nat.add_mul, ← g1, flat_take _ hoa.ok, flat_drop _ hoa.ok]
      have hok : ∀ e ∈ x.els.take (i + len) ++ ys ++ x.els.drop (i + len + ys.length), okEl x.sz e = true := fun e hm => by
        rcases List.mem_append.1 hm with hm | hm
        · rcases List.mem_append.1 hm with hm | hm
          · exact hoa.ok e (List.mem_of_mem_take hm)
          · rw [g1]; exact hsrc.ok e hm
        · exact hoa.ok e (List.mem_of_mem_drop hm)
      obtain ⟨q1, q2, q3⟩ := upd_arr hrel hx0 g3 (x' := { x with els := x.els.take (i + len) ++ ys ++ x.els.drop (i + len + ys.length) }) r2 rfl rfl rfl rfl rfl (by simp; omega) hok _ rest r4
        (by rw [hflat]; exact ((k2.take _).append hsrc.vr).append (k2.drop _)) (by simpa using k3) (by simpa using k4) (fun j hj => by
          have : cs'.toList[j]? = (vs ++ rest)[j]? := by
            rw [r3, List.append_assoc, List.getElem?_append_left (by simp only [List.length_take, List.length_append]; omega), List.getElem?_take, if_pos (by omega)]
          simpa using this)
      intro K Q hK
      unfold Oper.wp
      rw [happrun]
      refine hK _ _ _ ⟨q1, q2, .osl _ _ _ _ _ _ _ (by simp; exact (List.getElem?_eq_some_iff.1 hx0).1) (fun y hy => ?_) hfit rfl ?_, q3⟩
      · have hidlt := (List.getElem?_eq_some_iff.1 hx0).1
        simp [hidlt] at hy
        subst hy
        rw [hxg]
        exact Nat.le_refl _
      · intro y hy
        have hidlt := (List.getElem?_eq_some_iff.1 hx0).1
        have hy0 := (getA_some hy).1
        simp [hidlt] at hy0
        subst hy0
        refine ⟨g1, by simp; omega, b, cs', fr, g3, rfl, r2.is_, ?_⟩
        rw [r2.size]
        exact g6

end
end Go.Proofs.VmX

/- The small machine's other operations, against the model's. -/
set_option linter.unusedVariables false
set_option linter.unusedSimpArgs false
set_option linter.unusedSectionVars false
namespace Go.Proofs.VmX
open Go.RowKit
section
variable {P : Program} {H : Hints} {S : Nat → Nat → Prop} {B : Nat} {φ : Phi} {h : Heap} {w : World} {t : List AV} {a : Act} {o : Oper}

theorem appRun_of (t1 t2 el : TypeId) (s x : Operand) (ho : o.op = .call { callee := .builtin .append, args := #[s, x], argTypes := #[t1, t2] }) (ht1 : P.underlying t1 = some (.slice el))
    (ht2 : ∃ d, P.underlying t2 = some d ∧ ∀ k, d ≠ .int k) (hk : known P el = true) {z : AV} {i : TypeInfo} {zv : Value} (he : ElOK P el (tsz P el) (tbytes P el) z i zv) (ys : List AV) (vals : List Value)
    (hsrc : Src P S φ h w (tsz P el) (a.eval x) ys vals) : AppRun P w a o el (a.eval s) ys.length vals zv.cells.size := by
  have hrun : ∀ (w' : World) (v : Value), (Builtin.append_ #[t1, t2] o.type #[a.eval s, a.eval x]).run P w = .ok v w' → (execOp a.eval o).run P w = .ok (.value v) w' := fun w' v hv => run_callBuiltin .append _ _ ho _ _ fun cs => by
    simp only [builtin]
    have e : (#[s, x].map a.eval) = #[a.eval s, a.eval x] := by simp
    rw [e]
    simp only [Sem.run_bind, hv, Result.andThen_ok]
    rfl
  have hn := hsrc.len w
  have hvals0 : ∀ w1 : World, (∀ p, w1.cell? p = w.cell? p) → (Builtin.firstCells (tsz P el) ys.length (a.eval x)).run P w1 = .ok vals.toArray w1 := fun w1 hw => by
    have := hsrc.run w1 hw ys.length (Nat.le_refl _)
    rwa [List.take_of_length_le (by rw [hsrc.vlen]; exact Nat.le_refl _)] at this
  refine ⟨fun base len cap w' hsv hfit hst => hrun _ _ ?_, fun base len cap olds hsv hgrow hroom hold => ?_⟩
  · rw [hsv]
    exact run_append_fits t1 t2 el ht1 ht2 hk base len cap _ _ o.type hn hfit vals (hvals0 w (fun _ => rfl)) w' hst
  · obtain ⟨nc, rest, k1, k2, k3⟩ := run_append_grows (P := P) (w := w) t1 t2 el ht1 ht2 hk he base len cap (a.eval x) ys.length o.type hn hgrow hroom olds vals hold (hvals0 w.drew (fun _ => rfl))
    exact ⟨nc, rest, k1, hrun _ _ (by rw [hsv]; exact k2), k3⟩

theorem ok_append (hrel : Rel H.glob S B φ h w) (ht : TR S φ h w t a.tmps) (t1 t2 el : TypeId) (s x : Operand) (ho : o.op = .call { callee := .builtin .append, args := #[s, x], argTypes := #[t1, t2] })
    (ht1 : P.underlying t1 = some (.slice el)) (ht2 : ∃ d, P.underlying t2 = some d ∧ ∀ k, d ≠ .int k) (hk : known P el = true) {z : AV} {i : TypeInfo} {zv : Value} (he : ElOK P el (tsz P el) (tbytes P el) z i zv)
    (h' : Heap) (r : AV) (ys : List AV)
    (hy : (∃ e s0, opd t (cOpd H x) = .sl e s0 ys ∧ (s0 = tsz P el ∨ ys.isEmpty = true)) ∨ (∃ id gen b len, opd t (cOpd H x) = .osl id gen (tsz P el) b len ∧ elsOf (.osl id gen (tsz P el) b len) h = some ys) ∨
      ∃ bs, opd t (cOpd H x) = .str bs ∧ tsz P el = 1 ∧ ys = bs.map byteAV)
    (happ : appendV el (tsz P el) (tbytes P el) (opd t (cOpd H s)) ys h = some (r, h')) : OpOK P H.glob S B φ h w a o h' r := by
  have hx := opd_VR hrel ht x
  have hsrc : ∃ vals, Src P S φ h w (tsz P el) (a.eval x) ys vals := by
    rcases hy with ⟨e, s0, hX, hs⟩ | ⟨id, gen, b, len, hX, hs⟩ | ⟨bs, hX, h1, rfl⟩
    · rw [hX] at hx; exact src_sl hx hs
    · rw [hX] at hx; exact src_osl hrel hx hs
    · rw [hX] at hx; rw [h1]; exact src_str bs hx
  obtain ⟨vals, hsrc⟩ := hsrc
  exact ok_appendV hrel el hk he _ _ (opd_VR hrel ht s) ys vals (appRun_of t1 t2 el s x ho ht1 ht2 hk he ys vals hsrc) ⟨hsrc.ok, hsrc.vr⟩ h' r happ

/-! Literals of slices. -/
theorem fillL (sz : Nat) (z : Value) : ∀ (parts : List (Nat × Value)) (n k : Nat) (pre : List Value) (rest : List Value), parts.map (·.1) = (List.range' k n) → (∀ p ∈ parts, p.2.cells.size = sz) → pre.length = k * sz → rest.length = n * sz →
    Instr.fill (fun i => some (i * sz, sz)) (pre ++ rest).toArray parts = some (pre ++ parts.flatMap fun p => p.2.cells.toList).toArray := by
  intro parts
  induction parts with
  | nil =>
    intro n k pre rest hp _ hpre hrest
    have : n = 0 := by
      cases n with
      | zero => rfl
      | succ n => simp [List.range'_succ] at hp
    subst this
    have : rest = [] := by simpa using hrest
    subst this
    simp [Instr.fill]
  | cons p parts ih =>
    intro n k pre rest hp hsz hpre hrest
    cases n with
    | zero => simp at hp
    | succ n =>
      rw [List.range'_succ] at hp
      simp only [List.map_cons, List.cons.injEq] at hp
      obtain ⟨hp1, hp2⟩ := hp
      have hps := hsz p (by simp)
      obtain ⟨pi, pv⟩ := p
      simp only at hp1 hps
      subst hp1
      rw [Nat.add_mul] at hrest
      simp only [Instr.fill]
      have hnot : ¬ (pv.cells.size ≠ sz ∨ pi * sz + pv.cells.size > (pre ++ rest).toArray.size) := by
        simp only [List.size_toArray, List.length_append, not_or]
        exact ⟨fun h => h hps, by omega⟩
      simp only [Bool.or_eq_true, decide_eq_true_eq, hnot, if_false]
      have key : ∀ (cs : List Value) (pre mid : List Value) (post : List Value) (off : Nat), off = pre.length → mid.length = cs.length → ∀ j0, off = off →
          (cs.zipIdx j0).foldl (fun (acc : Array Value) (c : Value × Nat) => acc.setIfInBounds (off - j0 + c.2) c.1) (pre ++ mid ++ post).toArray = (pre ++ cs ++ post).toArray ∨ j0 > off := by
        intro cs
        induction cs with
        | nil =>
          intro pre mid post off ho hm j0 _
          have : mid = [] := by simpa using hm
          subst this
          exact .inl (by simp)
        | cons c cs ihc =>
          intro pre mid post off ho hm j0 _
          by_cases hj : j0 > off
          · exact .inr hj
          · cases mid with
            | nil => simp at hm
            | cons m mid =>
              left
              simp only [List.zipIdx_cons, List.foldl_cons]
              have e1 : off - j0 + j0 = pre.length := by omega
              rw [e1]
              have e2 : (pre ++ m :: mid ++ post).toArray.setIfInBounds pre.length c = ((pre ++ [c]) ++ mid ++ post).toArray := by
                apply Array.toList_inj.1
                simp
              rw [e2]
              rcases ihc (pre ++ [c]) mid post (off + 1) (by simp; omega) (by simpa using hm) (j0 + 1) rfl with hh | hh
              · rw [show off + 1 - (j0 + 1) = off - j0 by omega] at hh
                rw [hh]
                simp
              · omega
      obtain ⟨mid, post, rfl, hmid⟩ : ∃ mid post, rest = mid ++ post ∧ mid.length = sz := ⟨rest.take sz, rest.drop sz, by simp, by simp; omega⟩
      have h1 := key pv.cells.toList pre mid post (pi * sz) (by omega) (by simp; omega) 0 rfl
      rcases h1 with h1 | h1
      rotate_left
      · omega
      have e3 : (Array.foldl (fun (cs : Array Value) (x : Value × Nat) => cs.setIfInBounds (pi * sz + x.2) x.1) (pre ++ (mid ++ post)).toArray pv.cells.zipIdx) = (pre ++ pv.cells.toList ++ post).toArray := by
        rw [← h1]
        rw [← Array.foldl_toList]
        simp [List.append_assoc]
      have e4 := ih n (pi + 1) (pre ++ pv.cells.toList) post hp2 (fun q hq => hsz q (List.mem_cons_of_mem _ hq)) (by simp [Nat.add_mul]; omega) (by simp at hrest; omega)
      rw [e3]
      rw [e4]
      simp

end
end Go.Proofs.VmX

/- The small machine's literals, against the model's. -/
set_option linter.unusedVariables false
set_option linter.unusedSimpArgs false
set_option linter.unusedSectionVars false
namespace Go.Proofs.VmX
open Go.RowKit
section
variable {P : Program} {H : Hints} {S : Nat → Nat → Prop} {B : Nat} {φ : Phi} {h : Heap} {w : World} {t : List AV} {a : Act} {o : Oper}

/-- A new block that nobody of ours will write. -/
theorem alloc_ext (o' : Go.Obj) : Ext S φ h w φ h (w.alloc o') := by
  have old : ∀ k, k < w.heap.size → (w.alloc o').heap[k]? = w.heap[k]? := fun k hk => Below.heap_alloc w o' k hk
  refine ⟨Nat.le_refl _, fun id x' _ h1 => ⟨x', h1, Nat.le_refl _, fun _ => ⟨rfl, rfl, rfl, rfl⟩⟩, fun b cs el fr h1 => ⟨cs, fr, (old b (Array.getElem?_eq_some_iff.1 h1).1).trans h1, rfl⟩, fun b off v h1 h2 => ⟨?_, h2⟩,
    fun r es c hr => (old r (Array.getElem?_eq_some_iff.1 hr).1).trans hr, fun id b s p h1 h2 => ⟨⟨s, p, h1⟩, h2⟩⟩
  exact (World.cell?_alloc_lt (w := w) (a := ⟨b, off, none⟩) (o := o') (World.block_lt_of_cell? w ⟨b, off, none⟩ h1)).trans h1

theorem alloc_rel {G : Nat → AV} (hrel : Rel G S B φ h w) (o' : Go.Obj) : Rel G S B φ h (w.alloc o') := by
  have old : ∀ k, k < w.heap.size → (w.alloc o').heap[k]? = w.heap[k]? := fun k hk => Below.heap_alloc w o' k hk
  refine ⟨hrel.len, hrel.inj, fun i b hi => ?_, ?_, hrel.own, fun i x b hi hb => (hrel.arr i x b hi hb).mono (alloc_ext o') (old b (hrel.low i b hb).2), fun i s p b hi hb => (old b (hrel.low i b hb).2).trans (hrel.itr i s p b hi hb),
    fun g => (hrel.glob g).mono (alloc_ext o')⟩
  · have := hrel.low i b hi; exact ⟨this.1, by simp; omega⟩
  · have := hrel.base; simp; omega

theorem VRs.toVC {b : Nat} : ∀ {l : List AV} {vs : List Value} {off : Nat}, VRs S φ h w l vs → (∀ x ∈ l, x.one = true) → (∀ k v, vs[k]? = some v → w.cell? ⟨b, off + k, none⟩ = some v) → (∀ k, Safe S φ h b k) → VC S φ h w l b off := by
  intro l
  induction l with
  | nil => intro vs off _ _ _ _; exact .nil _ _
  | cons x l ih =>
    intro vs off hv h1 hc hs
    cases hv with | cons _ v _ vs' g1 g2 =>
    refine .cons _ _ _ _ _ g1 (h1 x (by simp)) (by simpa using hc 0 v (by simp)) (hs _) (ih g2 (fun y hy => h1 y (List.mem_cons_of_mem _ hy)) (fun k u hk => ?_) hs)
    have := hc (k + 1) u (by simpa using hk)
    rwa [show off + (k + 1) = off + 1 + k by omega] at this

theorem flat_one {sz : Nat} {els : List AV} (hok : ∀ e ∈ els, okEl sz e = true) : ∀ x ∈ els.flatMap AV.cells, x.one = true := by
  intro x hx
  obtain ⟨y, hy, hc⟩ := List.mem_flatMap.1 hx
  exact okEl_one (hok y hy) _ hc

theorem imm_new {G : Nat → AV} (hrel : Rel G S B φ h w) (x : Bool) (sz el : Nat) (els : List AV) (vals rest : List Value) (hok : ∀ e ∈ els, okEl sz e = true) (hv : VRs S φ h w (els.flatMap AV.cells) vals) (c : Nat) (hc : els.length ≤ c) (hx : x = true → c = els.length) (hz : sz ≠ 0)
    (fr : Nat × Nat) : VR S φ h (w.alloc (.cells (vals ++ rest).toArray el fr)) (.sl x sz els) (.slice (some ⟨w.heap.size, 0, none⟩) els.length c) := by
  by_cases h0 : els = []
  · subst h0
    exact .sl0 _ _ _ _ (fun he => by simpa using hx he) (by simp [hz])
  · refine .sl _ _ _ _ _ _ h0 hok ((hv.mono (alloc_ext _)).toVC (flat_one hok) (fun k v hk => ?_) (fun k => ⟨hrel.own _ _ hrel.base, fun id y hp _ => ?_⟩)) hc hx
    · have hlt : k < vals.length := (List.getElem?_eq_some_iff.1 hk).1
      have : (w.alloc (.cells (vals ++ rest).toArray el fr)).heap[w.heap.size]? = some (.cells (vals ++ rest).toArray el fr) := by
        show (w.heap.push _)[w.heap.size]? = _
        simp
      simp only [World.cell?, this]
      simp [List.getElem?_append_left hlt, hk]
    · have := (hrel.low id _ hp).2
      omega

theorem opds_VRs (hrel : Rel H.glob S B φ h w) (ht : TR S φ h w t a.tmps) : ∀ (l : List Operand), VRs S φ h w ((l.map (cOpd H)).map (opd t)) (l.map a.eval)
  | [] => .nil
  | x :: l => .cons _ _ _ _ (opd_VR hrel ht x) (opds_VRs hrel ht l)

theorem flat_vals {sz : Nat} : ∀ {els : List AV} {vs : List Value}, VRs S φ h w els vs → (∀ e ∈ els, okEl sz e = true) → VRs S φ h w (els.flatMap AV.cells) (vs.flatMap fun v => v.cells.toList)
  | _, _, .nil, _ => .nil
  | _, _, .cons a v az vs h1 h2, hok => (box_cells h1 (hok a (by simp))).append (flat_vals h2 (fun e he => hok e (List.mem_cons_of_mem _ he)))

theorem ok_bsl (hrel : Rel H.glob S B φ h w) (ht : TR S φ h w t a.tmps) (ty el : TypeId) (n : Nat) (parts : Array (Nat × Operand)) (ho : o.op = .buildSlice ty n parts) (hty : P.underlying ty = some (.slice el))
    (hidx : parts.toList.map (·.1) = List.range n) (hmax : n * tsz P el ≤ 16777216) (hk : known P el = true) (hpos : tsz P el ≠ 0) (z : AV) (hz : tzero P el = some z)
    (hok : (((parts.toList.map fun p => cOpd H p.2).map (opd t)).all (okEl (tsz P el))) = true) :
    OpOK P H.glob S B φ h w a o h (.sl true (tsz P el) ((parts.toList.map fun p => cOpd H p.2).map (opd t))) := by
  obtain ⟨i, zv, h1, h2, rfl⟩ := tzero_spec hz
  have hv : VRs S φ h w ((parts.toList.map fun p => cOpd H p.2).map (opd t)) (parts.toList.map fun p => a.eval p.2) := by
    have := opds_VRs hrel ht (parts.toList.map (·.2))
    simp only [List.map_map] at this ⊢
    exact this
  have hokl : ∀ e ∈ (parts.toList.map fun p => cOpd H p.2).map (opd t), okEl (tsz P el) e = true := List.all_eq_true.1 hok
  have hfl := flat_vals hv hokl
  have hsz : ∀ p ∈ parts.toList.map (fun p => (p.1, a.eval p.2)), p.2.cells.size = tsz P el := by
    intro p hp
    obtain ⟨q, hq, rfl⟩ := List.mem_map.1 hp
    have h3 : okEl (tsz P el) (opd t (cOpd H q.2)) = true := hokl _ (List.mem_map.2 ⟨cOpd H q.2, List.mem_map.2 ⟨q, hq, rfl⟩, rfl⟩)
    have := (box_cells (opd_VR hrel ht q.2) h3).length
    rw [okEl_len h3] at this
    show (a.eval q.2).cells.size = tsz P el
    simp at this
    omega
  have hln : parts.toList.length = n := by have := congrArg List.length hidx; simpa using this
  have hrest : (((Array.range (n * tsz P el)).map fun j => (if n * tsz P el = 0 then #[] else zv.cells)[j % (if n * tsz P el = 0 then (#[] : Array Value) else zv.cells).size]!)).toList.length = n * tsz P el := by simp
  have hfill := fillL (tsz P el) undef (parts.toList.map fun p => (p.1, a.eval p.2)) n 0 [] _ (by simp only [List.map_map]; rw [← List.range_eq_range', ← hidx]; rfl) hsz (by simp) hrest
  simp only [List.nil_append, Array.toArray_toList] at hfill
  have hrun : (execOp a.eval o).run P w = .ok (.value (.slice (some ⟨w.heap.size, 0, none⟩) n n)) (w.alloc (.cells ((parts.toList.map fun p => a.eval p.2).flatMap fun v => v.cells.toList).toArray el)) := by
    have e1 : (parts.map fun x => (x.1, a.eval x.2)).toList = parts.toList.map fun p => (p.1, a.eval p.2) := by simp
    have hm : ¬ (n * tsz P el > 2 ^ 24) := by
      have : (2 : Nat) ^ 24 = 16777216 := by decide
      omega
    have hflat : ((parts.toList.map fun p => (p.1, a.eval p.2)).flatMap fun p => p.2.cells.toList) = ((parts.toList.map fun p => a.eval p.2).flatMap fun v => v.cells.toList) := by
      rw [List.flatMap_map, List.flatMap_map]
    rw [hflat] at hfill
    by_cases h0 : n * tsz P el = 0
    · simp only [h0, if_true] at hfill
      simp only [execOp, ho, Instr.buildSlice, Sem.run_bind, run_under hty, Result.andThen_ok, run_size hk, hm, if_false, h0, if_true, Sem.run_pure]
      simp only [h0] at hm
      simp only [hm, if_false, Sem.run_bind, Sem.run_pure, Result.andThen_ok]
      rw [e1, hfill]
      simp [newRow]
    · simp only [h0, if_false] at hfill
      have hzr : (zeroValue el).run P w = .ok zv w := by simp [zeroValue, typeInfo, h1, h2]
      simp only [execOp, ho, Instr.buildSlice, Sem.run_bind, run_under hty, Result.andThen_ok, run_size hk, hm, if_false, h0, Sem.run_pure, hzr]
      rw [e1, hfill]
      simp [newRow]
  intro K Q hK
  unfold Oper.wp
  rw [hrun]
  have hlen2 : ((parts.toList.map fun p => cOpd H p.2).map (opd t)).length = n := by simp; simpa using hln
  have := imm_new hrel true (tsz P el) el _ _ [] hokl hfl n (by rw [hlen2]; exact Nat.le_refl _) (fun _ => hlen2.symm) hpos (0, 0)
  rw [hlen2] at this
  simp only [List.append_nil] at this
  exact hK φ _ _ ⟨alloc_rel hrel _, alloc_ext _, this, (Below.refl B w).alloc hrel.base _⟩

end
end Go.Proofs.VmX

/- The small machine's structs, conversions, makes, against the model's. -/
set_option linter.unusedVariables false
set_option linter.unusedSimpArgs false
set_option linter.unusedSectionVars false
namespace Go.Proofs.VmX
open Go.RowKit
section
variable {P : Program} {H : Hints} {S : Nat → Nat → Prop} {B : Nat} {φ : Phi} {h : Heap} {w : World} {t : List AV} {a : Act} {o : Oper}

theorem foldl_setL : ∀ (cs : List Value) (k off : Nat) (arr : List Value), off + cs.length ≤ arr.length →
    (cs.zipIdx k).foldl (fun (acc : Array Value) (c : Value × Nat) => acc.setIfInBounds (off + c.2 - k) c.1) arr.toArray = (arr.take off ++ cs ++ arr.drop (off + cs.length)).toArray := by
  intro cs
  induction cs with
  | nil => intro k off arr _; simp
  | cons c cs ih =>
    intro k off arr hle
    simp only [List.zipIdx_cons, List.foldl_cons, List.length_cons] at hle ⊢
    have e1 : off + k - k = off := by omega
    rw [e1]
    have hlt : off < arr.length := by omega
    have e2 : arr.toArray.setIfInBounds off c = (arr.set off c).toArray := by simp
    rw [e2]
    have e3 : (fun (acc : Array Value) (c : Value × Nat) => acc.setIfInBounds (off + c.2 - k) c.1) = (fun acc c => acc.setIfInBounds (off + 1 + c.2 - (k + 1)) c.1) := by
      funext acc c
      rw [show off + c.2 - k = off + 1 + c.2 - (k + 1) by omega]
    rw [e3, ih (k + 1) (off + 1) (arr.set off c) (by simp; omega)]
    have e4 : (arr.set off c).take (off + 1) = arr.take off ++ [c] := by
      rw [List.set_eq_take_append_cons_drop, if_pos hlt, List.take_append]
      simp [Nat.min_eq_left (Nat.le_of_lt hlt), List.take_of_length_le]
    have e5 : (arr.set off c).drop (off + 1 + cs.length) = arr.drop (off + (cs.length + 1)) := by
      rw [List.drop_set_of_lt (by omega)]
      congr 1
      omega
    rw [e4, e5]
    simp

theorem foldl_set (v : Value) (off : Nat) (arr : List Value) (hle : off + v.cells.size ≤ arr.length) :
    v.cells.zipIdx.foldl (fun cs (c, j) => cs.setIfInBounds (off + j) c) arr.toArray = (arr.take off ++ v.cells.toList ++ arr.drop (off + v.cells.size)).toArray := by
  have := foldl_setL v.cells.toList 0 off arr (by simpa using hle)
  simp only [Nat.sub_zero] at this
  rw [← Array.foldl_toList]
  simpa using this

/-- 'fill', place by place. -/
theorem fill_run (place : Nat → Option (Nat × Nat)) : ∀ (parts : List (Nat × AV × Value)) (abs : List (Nat × Nat × AV)) (cs cs' : List AV) (vs : List Value),
    abs.length = parts.length → (∀ (k : Nat) (p : Nat × AV × Value) (q : Nat × Nat × AV), parts[k]? = some p → abs[k]? = some q → place p.1 = some (q.1, q.2.1) ∧ q.2.2 = p.2.1 ∧ VR S φ h w p.2.1 p.2.2) →
    (∀ q ∈ abs, q.2.2.cells.all AV.one = true) → VRs S φ h w cs vs → fillParts cs abs = some cs' →
    ∃ vs', Instr.fill place vs.toArray (parts.map fun p => (p.1, p.2.2)) = some vs'.toArray ∧ VRs S φ h w cs' vs' := by
  intro parts
  induction parts with
  | nil =>
    intro abs cs cs' vs hl _ _ hv hf
    have : abs = [] := by simpa using hl
    subst this
    simp only [fillParts] at hf
    injection hf with hf
    subst hf
    exact ⟨vs, by simp [Instr.fill], hv⟩
  | cons p parts ih =>
    intro abs cs cs' vs hl hp h1 hv hf
    cases abs with
    | nil => simp at hl
    | cons q abs =>
      obtain ⟨off, n, x⟩ := q
      obtain ⟨pi, px, pv⟩ := p
      obtain ⟨e1, e2, e3⟩ := hp 0 (pi, px, pv) (off, n, x) rfl rfl
      simp only at e1 e2 e3
      subst e2
      simp only [fillParts] at hf
      split at hf
      rotate_left
      · cases hf
      rename_i hc
      have h2 := h1 _ (List.mem_cons_self)
      have hb := box_cells e3 (sz := n) (by simp only [okEl, Bool.and_eq_true, beq_iff_eq]; exact ⟨hc.1, h2⟩)
      have hsz : pv.cells.size = n := by have := hb.length; simp at this; omega
      have hvl := hv.length
      obtain ⟨vs', k1, k2⟩ := ih abs (cs.take off ++ x.cells ++ cs.drop (off + n)) cs' (vs.take off ++ pv.cells.toList ++ vs.drop (off + n)) (by simpa using hl)
        (fun k p q hp' hq' => hp (k + 1) p q (by simpa using hp') (by simpa using hq')) (fun q hq => h1 q (List.mem_cons_of_mem _ hq)) (((hv.take _).append hb).append (hv.drop _)) hf
      refine ⟨vs', ?_, k2⟩
      simp only [List.map_cons, Instr.fill, e1]
      have hnot : ¬ (pv.cells.size ≠ n ∨ off + pv.cells.size > vs.toArray.size) := by
        simp only [List.size_toArray, not_or]
        exact ⟨fun h => h hsz, by omega⟩
      simp only [Bool.or_eq_true, decide_eq_true_eq, hnot, if_false]
      rw [foldl_set pv off vs (by omega), hsz]
      exact k1

theorem seqO_spec {α β : Type} {f : α → Option β} : ∀ {l : List α} {m : List β}, seqO f l = some m → m.length = l.length ∧ ∀ (k : Nat) (x : α) (y : β), l[k]? = some x → m[k]? = some y → f x = some y
  | [], m, h => by simp only [seqO] at h; injection h with h; subst h; simp
  | x :: l, m, h => by
    simp only [seqO, Option.bind_eq_some_iff, Option.map_eq_some_iff] at h
    obtain ⟨y, h1, m', h2, rfl⟩ := h
    obtain ⟨g1, g2⟩ := seqO_spec h2
    refine ⟨by simp [g1], fun k u v hu hv => ?_⟩
    cases k with
    | zero => simp at hu hv; subst hu; subst hv; exact h1
    | succ k => exact g2 k u v (by simpa using hu) (by simpa using hv)

theorem ofVal_agg_inv {zv : Value} {z : List AV} (he : ofVal zv = .agg z) : ∃ cs, zv = .agg cs ∧ z = cs.toList.map ofCell := by
  unfold ofVal at he
  split at he
  · injection he with he; exact ⟨_, rfl, he.symm⟩
  · split at he <;> cases he
  · rename_i v _ _
    exfalso
    unfold ofCell at he
    split at he <;> cases he

theorem mapM_places (fields : Array Field) (hall : ∀ x ∈ fields.toList, known P x.type = true) :
    (fields.mapM fun f => (do pure (f.offset, ← sizeOf f.type) : Sem (Nat × Nat))).run P w = .ok (fields.map fun f => (f.offset, tsz P f.type)) w := by
  have key : ∀ (l : List Field), (∀ x ∈ l, known P x.type = true) → (l.mapM fun f => (do pure (f.offset, ← sizeOf f.type) : Sem (Nat × Nat))).run P w = .ok (l.map fun f => (f.offset, tsz P f.type)) w := by
    intro l
    induction l with
    | nil => intro _; simp
    | cons f l ih =>
      intro hl
      have h1 := run_size (P := P) (w := w) (hl f (by simp))
      have h2 := ih (fun x hx => hl x (List.mem_cons_of_mem _ hx))
      simp only [List.mapM_cons, Sem.run_bind, h1, Result.andThen_ok, Sem.run_pure, h2, List.map_cons]
  have h1 := key fields.toList hall
  rw [← Array.toArray_toList (xs := fields), List.mapM_toArray]
  simp only [Sem.run_map, h1, Result.andThen_ok]
  apply congrArg (Result.ok · w)
  apply Array.toList_inj.1
  simp

theorem ok_build (hrel : Rel H.glob S B φ h w) (ht : TR S φ h w t a.tmps) (ty : TypeId) (parts : Array (Nat × Operand)) (ho : o.op = .build ty parts) (zero : List AV) (l : List (Nat × Nat × Opd)) (hb : cBuild P H ty parts.toList = .build zero l)
    (cs : List AV) (hf : fillParts zero (l.map fun p => (p.1, p.2.1, opd t p.2.2)) = some cs) (h1 : ∀ q ∈ l, (opd t q.2.2).cells.all AV.one = true) : OpOK P H.glob S B φ h w a o h (.agg cs) := by
  unfold cBuild at hb
  cases hz : tzero P ty with
  | none => rw [hz] at hb; cases hb
  | some z =>
    rw [hz] at hb
    obtain ⟨i, zv, k1, k2, k3⟩ := tzero_spec hz
    cases z with
    | agg z0 =>
      obtain ⟨zcs, rfl, rfl⟩ := ofVal_agg_inv k3.symm
      have hzr : (zeroValue ty).run P w = .ok (.agg zcs) w := by simp [zeroValue, typeInfo, k1, k2]
      have hzv : VRs S φ h w (zcs.toList.map ofCell) zcs.toList := ofCells_VRs _
      cases hu : P.underlying ty with
      | none => rw [hu] at hb; cases hb
      | some d =>
        rw [hu] at hb
        have fin : ∀ (place : Nat → Option (Nat × Nat)) (abs : List (Nat × Nat × AV)), abs = (l.map fun p => (p.1, p.2.1, opd t p.2.2)) → zero = zcs.toList.map ofCell → l.length = parts.size →
            (∀ (k : Nat) (p : Nat × Operand) (q : Nat × Nat × Opd), parts.toList[k]? = some p → l[k]? = some q → place p.1 = some (q.1, q.2.1) ∧ q.2.2 = cOpd H p.2) →
            ∃ vs', Instr.fill place zcs (parts.toList.map fun p => (p.1, a.eval p.2)) = some vs'.toArray ∧ VRs S φ h w cs vs' := by
          intro place abs habs hzero hll hpl
          subst habs
          subst hzero
          have := fill_run (S := S) (φ := φ) (h := h) (w := w) place (parts.toList.map fun p => (p.1, opd t (cOpd H p.2), a.eval p.2)) (l.map fun p => (p.1, p.2.1, opd t p.2.2)) _ cs zcs.toList (by simp [hll]) (fun k p q hp hq => by
            rw [List.getElem?_map, Option.map_eq_some_iff] at hp hq
            obtain ⟨p0, hp0, rfl⟩ := hp
            obtain ⟨q0, hq0, rfl⟩ := hq
            obtain ⟨g1, g2⟩ := hpl k p0 q0 hp0 hq0
            exact ⟨g1, by rw [g2], opd_VR hrel ht p0.2⟩) (fun q hq => by
            obtain ⟨q0, hq0, rfl⟩ := List.mem_map.1 hq
            exact h1 q0 hq0) hzv hf
          simpa [List.map_map, Function.comp_def] using this
        have ep : (parts.map fun x => (x.1, a.eval x.2)).toList = parts.toList.map fun p => (p.1, a.eval p.2) := by simp
        cases d <;> simp only at hb <;> try (cases hb; done)
        case struct fields =>
          split at hb
          · rename_i l0 hl0
            split at hb
            · rename_i hall
              injection hb with hb1 hb2
              subst hb2
              obtain ⟨s1, s2⟩ := seqO_spec hl0
              have hall' : ∀ x ∈ fields.toList, known P x.type = true := List.all_eq_true.1 hall
              obtain ⟨vs', r1, r2⟩ := fin ((fields.map fun f => (f.offset, tsz P f.type))[·]?) _ rfl hb1.symm (by simpa using s1) (fun k p q hp hq => by
                have := s2 k p q hp hq
                rw [Option.bind_eq_some_iff] at this
                obtain ⟨f, g1, g2⟩ := this
                split at g2
                · injection g2 with g2
                  subst g2
                  simp [g1]
                · cases g2)
              refine ok_same hrel (v := .agg vs'.toArray) ?_ (.agg _ _ r2)
              simp only [execOp, ho, Instr.build, Sem.run_bind, hzr, Result.andThen_ok, run_under hu, mapM_places fields hall', Value.cells, ep, r1, Sem.run_pure]
            · cases hb
          · cases hb
        case array len el =>
          split at hb
          · rename_i hk
            injection hb with hb1 hb2
            subst hb2
            obtain ⟨vs', r1, r2⟩ := fin (fun i => some (i * tsz P el, tsz P el)) _ rfl hb1.symm (by simp) (fun k p q hp hq => by
              rw [List.getElem?_map, hp] at hq
              simp at hq
              subst hq
              exact ⟨rfl, rfl⟩)
            refine ok_same hrel (v := .agg vs'.toArray) ?_ (.agg _ _ r2)
            simp only [execOp, ho, Instr.build, Sem.run_bind, hzr, Result.andThen_ok, run_under hu, run_size hk, Value.cells, ep, r1, Sem.run_pure]
          · cases hb
    | _ => simp only at hb; cases hb

end
end Go.Proofs.VmX
