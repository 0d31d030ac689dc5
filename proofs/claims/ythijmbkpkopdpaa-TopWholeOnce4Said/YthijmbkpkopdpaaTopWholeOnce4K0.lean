import Derived.WalkKit
import Derived.KernelRfl
import Derived.Still
import Derived.Defers
import Derived.WideKeyMaps
section
namespace Go.Vc

/-! ### values as the statements see them -/

structure Sl where
  ptr : Option Addr
  len : Nat
  cap : Nat

def Sl.val (s : Sl) : Value := .slice s.ptr s.len s.cap
/-- the address of element i (sz cells each) -/
def Sl.at (s : Sl) (sz i : Nat) : Addr := (s.ptr.getD ⟨0, 0, none⟩).add (i * sz)
def Sl.sub (s : Sl) (sz l h m : Nat) : Sl := ⟨if m = l then s.ptr else s.ptr.map (·.add (l * sz)), h - l, m - l⟩
def Sl.nil : Sl := ⟨none, 0, 0⟩

inductive Ty where
  | int (k : IntKind) | bool | str | ptr (e : Nat) | slice (e : Nat) | map | arr (k : IntKind) (n : Nat)
  | struct (isArr : Bool) (ts : List Ty) | tuple (ts : List Ty) | other

inductive SV where
  | int (k : IntKind) (n : Int) | bool (b : Bool) | str (s : ByteArray) | ptr (p : Option Addr) | slice (s : Sl) | map (r : Option Nat)
  | arr (k : IntKind) (n : Nat) (f : Nat → Int)
  | struct (fs : List SV) | tuple (fs : List SV)
  | clo (f : Nat) (cs : List SV)
  | lptr (id off : Nat) (path : List Nat)
  | box (b t : Nat) (c : SV)
  | raw (v : Value)

def ksame : IntKind → IntKind → Bool
  | .i8, .i8 => true | .i16, .i16 => true | .i32, .i32 => true | .i64, .i64 => true
  | .u8, .u8 => true | .u16, .u16 => true | .u32, .u32 => true | .u64, .u64 => true
  | _, _ => false

mutual
def Ty.same : Ty → Ty → Bool
  | .int k, .int k' => ksame k k'
  | .bool, .bool => true
  | .str, .str => true
  | .ptr e, .ptr e' => Nat.beq e e'
  | .slice e, .slice e' => Nat.beq e e'
  | .map, .map => true
  | .arr k n, .arr k' n' => ksame k k' && Nat.beq n n'
  | .struct b ts, .struct b' ts' => (match b, b' with | true, true => true | false, false => true | _, _ => false) && Ty.sames ts ts'
  | _, _ => false
def Ty.sames : List Ty → List Ty → Bool
  | [], [] => true
  | t :: r, t' :: r' => t.same t' && Ty.sames r r'
  | _, _ => false
end

def isAggTy : Ty → Bool | .arr _ _ => true | .struct _ _ => true | _ => false
def isData : Ty → Bool | .tuple _ => false | .other => false | _ => true

mutual
def Ty.size : Ty → Nat
  | .arr _ n => n
  | .struct _ ts => Ty.sizes ts
  | _ => 1
def Ty.sizes : List Ty → Nat
  | [] => 0
  | t :: r => t.size + Ty.sizes r
end

mutual
def SV.cells : SV → List Value
  | .int k n => [.int k n]
  | .bool b => [.bool b]
  | .str s => [.string s]
  | .ptr p => [.pointer p]
  | .slice s => [s.val]
  | .map r => [.map r]
  | .arr k n f => (List.range n).map fun i => .int k (f i)
  | .struct fs => SV.cellsL fs
  | .raw v => [v]
  | _ => []
def SV.cellsL : List SV → List Value
  | [] => []
  | x :: r => x.cells ++ SV.cellsL r
end

mutual
def SV.enc : SV → Value
  | .int k n => .int k n
  | .bool b => .bool b
  | .str s => .string s
  | .ptr p => .pointer p
  | .slice s => s.val
  | .map r => .map r
  | .arr k n f => .agg ((List.range n).map fun i => .int k (f i)).toArray
  | .struct fs => .agg (SV.cellsL fs).toArray
  | .tuple fs => .tuple (SV.encL fs).toArray
  | .clo f cs => .func (.func f) #[] (SV.encL cs).toArray
  | .raw v => v
  | .lptr _ _ _ => undef
  | .box _ _ _ => undef
def SV.encL : List SV → List Value
  | [] => []
  | x :: r => x.enc :: SV.encL r
end

/- has the value this type's shape? -/
mutual
def SV.shape : SV → Ty → Bool
  | .int k _, .int k' => ksame k k'
  | .bool _, .bool => true
  | .str _, .str => true
  | .ptr _, .ptr _ => true
  | .slice _, .slice _ => true
  | .map _, .map => true
  | .arr k n _, .arr k' n' => ksame k k' && Nat.beq n n'
  | .struct fs, .struct _ ts => SV.shapes fs ts
  | _, _ => false
def SV.shapes : List SV → List Ty → Bool
  | [], [] => true
  | x :: r, t :: s => x.shape t && SV.shapes r s
  | _, _ => false
end

mutual
def Ty.zero : Ty → Option SV
  | .int k => some (.int k 0)
  | .bool => some (.bool false)
  | .str => some (.str ⟨#[]⟩)
  | .ptr _ => some (.ptr none)
  | .slice _ => some (.slice ⟨none, 0, 0⟩)
  | .map => some (.map none)
  | .arr k n => some (.arr k n fun _ => 0)
  | .struct _ ts => match Ty.zeros ts with | some l => some (.struct l) | none => none
  | _ => none
def Ty.zeros : List Ty → Option (List SV)
  | [] => some []
  | t :: r => match t.zero, Ty.zeros r with | some x, some l => some (x :: l) | _, _ => none
end

/-! ### numbers -/
def wr (k : IntKind) (n : Int) : Int := k.wrap n
def ibits (k : IntKind) (r : BitVec k.bits) : Int := k.wrap r.toNat
def iand (k : IntKind) (a b : Int) : Int := ibits k (BitVec.ofInt k.bits a &&& BitVec.ofInt k.bits b)
def ior (k : IntKind) (a b : Int) : Int := ibits k (BitVec.ofInt k.bits a ||| BitVec.ofInt k.bits b)
def ixor (k : IntKind) (a b : Int) : Int := ibits k (BitVec.ofInt k.bits a ^^^ BitVec.ofInt k.bits b)
def iandnot (k : IntKind) (a b : Int) : Int := ibits k (BitVec.ofInt k.bits a &&& ~~~BitVec.ofInt k.bits b)
def gshl (k : IntKind) (a b : Int) : Int := k.wrap (a * 2 ^ (min b.toNat k.bits))
def gshr (k : IntKind) (a b : Int) : Int := a.fdiv (2 ^ (min b.toNat k.bits))
def imin (a b : Int) : Int := if b < a then b else a
def imax (a b : Int) : Int := if b > a then b else a
def eqArr (n : Nat) (f g : Nat → Int) : Bool := (List.range n).all fun i => f i == g i

/-! ### the statements' words -/
def Br (c : Bool) (X Y : Prop) : Prop := match c with | true => X | false => Y
def Need (c : Bool) (X : Prop) : Prop := match c with | true => X | false => False

def ifSome {α : Type} (o : Option α) (F : α → Prop) : Prop := match o with | some x => F x | none => False

structure Tab where
  P : Program
  T : Nat → Ty
  B : Nat → Nat
  C : Nat → Bool
  D : List Deferred
  M : Nat → Nat × Nat := fun _ => (0, 0)
  En : Ty := .other

/-- a call that returns, in the words of 'SV' -/
def Ret (P : Program) (f : Nat) (args : List SV) (w : World) (R : SV → World → Prop) : Prop :=
  Calls P f (SV.encL args).toArray w fun e w' => ∃ r, e = .returned r.enc ∧ R r w'

/- some value of this type -/
mutual
def Ty.ex : Ty → (SV → Prop) → Prop
  | .int k, F => ∃ n : Int, F (.int k n)
  | .bool, F => ∃ b : Bool, F (.bool b)
  | .str, F => ∃ s : ByteArray, F (.str s)
  | .ptr _, F => ∃ p : Option Addr, F (.ptr p)
  | .slice _, F => ∃ s : Sl, F (.slice s)
  | .map, F => ∃ r : Option Nat, F (.map r)
  | .arr k n, F => ∃ f : Nat → Int, F (.arr k n f)
  | .struct _ ts, F => Ty.exs ts fun l => F (.struct l)
  | .tuple ts, F => Ty.exs ts fun l => F (.tuple l)
  | .other, F => ∃ v : Value, F (.raw v)
def Ty.exs : List Ty → (List SV → Prop) → Prop
  | [], F => F []
  | t :: r, F => t.ex fun x => Ty.exs r fun l => F (x :: l)
end

/- every value of this type -/
mutual
def Ty.all : Ty → (SV → Prop) → Prop
  | .int k, F => ∀ n : Int, F (.int k n)
  | .bool, F => ∀ b : Bool, F (.bool b)
  | .str, F => ∀ s : ByteArray, F (.str s)
  | .ptr _, F => ∀ p : Option Addr, F (.ptr p)
  | .slice _, F => ∀ s : Sl, F (.slice s)
  | .map, F => ∀ r : Option Nat, F (.map r)
  | .arr k n, F => ∀ f : Nat → Int, F (.arr k n f)
  | .struct _ ts, F => Ty.alls ts fun l => F (.struct l)
  | .tuple ts, F => Ty.alls ts fun l => F (.tuple l)
  | .other, F => ∀ v : Value, F (.raw v)
def Ty.alls : List Ty → (List SV → Prop) → Prop
  | [], F => F []
  | t :: r, F => t.all fun x => Ty.alls r fun l => F (x :: l)
end

/- a function of values of these types -/
mutual
def Ty.Fn : Ty → Type → Type
  | .int _, R => Int → R
  | .bool, R => Bool → R
  | .str, R => ByteArray → R
  | .ptr _, R => Option Addr → R
  | .slice _, R => Sl → R
  | .map, R => Option Nat → R
  | .arr _ _, R => (Nat → Int) → R
  | .struct _ ts, R => Ty.Fns ts R
  | .tuple ts, R => Ty.Fns ts R
  | .other, R => Value → R
def Ty.Fns : List Ty → Type → Type
  | [], R => R
  | t :: r, R => t.Fn (Ty.Fns r R)
end

mutual
def Ty.app {R : Type} : (t : Ty) → t.Fn R → SV → Option R
  | .int k, f, .int k' n => match ksame k k' with | true => some (f n) | false => none
  | .bool, f, .bool b => some (f b)
  | .str, f, .str s => some (f s)
  | .ptr _, f, .ptr p => some (f p)
  | .slice _, f, .slice s => some (f s)
  | .map, f, .map r => some (f r)
  | .arr k n, f, .arr k' n' g => match ksame k k' && Nat.beq n n' with | true => some (f g) | false => none
  | .struct _ ts, f, .struct l => Ty.apps ts f l
  | .tuple ts, f, .tuple l => Ty.apps ts f l
  | .other, f, .raw v => some (f v)
  | _, _, _ => none
def Ty.apps {R : Type} : (ts : List Ty) → Ty.Fns ts R → List SV → Option R
  | [], f, [] => some f
  | t :: r, f, x :: l => match t.app f x with | some g => Ty.apps r g l | none => none
  | _, _, _ => none
end

inductive Key where
  | t (n : Nat)
  | b (n : Nat)

structure St where
  env : Nat → Option SV
  bx : Nat → Option SV
  nb : Nat
  nb0 : Nat
  ids : List Nat
  mods : List Nat
  news : List Nat
  dirty : Bool

def St.put (s : St) (t : Nat) (v : Option SV) : St := { s with env := fun u => match Nat.beq u t with | true => v | false => s.env u }
def St.putB (s : St) (i : Nat) (v : Option SV) : St := { s with bx := fun u => match Nat.beq u i with | true => v | false => s.bx u }
def St.putD (s : St) (d : Option Nat) (v : SV) : St := match d with | some t => s.put t (some v) | none => s

def constSV : Value → Option SV
  | .int k n => some (.int k n)
  | .bool b => some (.bool b)
  | .string s => some (.str s)
  | .pointer none => some (.ptr none)
  | .slice none n c => match Nat.beq n 0 && Nat.beq c 0 with | true => some (.slice ⟨none, 0, 0⟩) | false => none
  | .map none => some (.map none)
  | .nilIface => some (.raw .nilIface)
  | .nilFunc => some (.raw .nilFunc)
  | _ => none

def St.ev (s : St) : Operand → Option SV
  | .tmp t => s.env t
  | .const v => constSV v
  | .global g => some (.ptr (some ⟨g, 0, none⟩))
  | .func f => some (.clo f [])

def nth {α : Type} : List α → Nat → Option α
  | [], _ => none
  | x :: _, 0 => some x
  | _ :: r, n + 1 => nth r n
def setNth {α : Type} : List α → Nat → α → List α
  | [], _, _ => []
  | _ :: r, 0, y => y :: r
  | x :: r, n + 1, y => x :: setNth r n y

def Ty.off : List Ty → Nat → Nat
  | t :: r, n + 1 => t.size + Ty.off r n
  | _, _ => 0

def ad (a : Addr) (n : Nat) : Addr := match n with | 0 => a | n + 1 => a.add (n + 1)

mutual
def eqSV : SV → SV → Bool
  | .int _ a, .int _ b => a == b
  | .bool a, .bool b => a == b
  | .str a, .str b => a == b
  | .arr _ n f, .arr _ _ g => eqArr n f g
  | .struct l, .struct m => eqL l m
  | _, _ => false
def eqL : List SV → List SV → Bool
  | [], [] => true
  | x :: r, y :: s => match r, s with
    | [], [] => eqSV x y
    | r, s => eqSV x y && eqL r s
  | _, _ => false
end
mutual
def Ty.cmp : Ty → Bool
  | .int _ => true | .bool => true | .str => true | .arr _ _ => true
  | .struct false ts => Ty.cmps ts
  | _ => false
def Ty.cmps : List Ty → Bool
  | [] => true
  | t :: r => t.cmp && Ty.cmps r
end

mutual
def Ty.depth : Ty → Nat
  | .struct _ ts => Ty.depths ts + 1
  | .arr _ _ => 1
  | _ => 0
def Ty.depths : List Ty → Nat
  | [] => 0
  | t :: r => t.depth + Ty.depths r
end

def intVC (op : BinOp) (k : IntKind) (a b : Int) (F : SV → Prop) : Prop :=
  match op with
  | .add => F (.int k (wr k (a + b)))
  | .sub => F (.int k (wr k (a - b)))
  | .mul => F (.int k (wr k (a * b)))
  | .quo => Need (b != 0) (F (.int k (wr k (a.tdiv b))))
  | .rem => Need (b != 0) (F (.int k (a.tmod b)))
  | .and => F (.int k (iand k a b))
  | .or => F (.int k (ior k a b))
  | .xor => F (.int k (ixor k a b))
  | .andNot => F (.int k (iandnot k a b))
  | .eql => F (.bool (a == b))
  | .neq => F (.bool (a != b))
  | .lss => F (.bool (decide (a < b)))
  | .leq => F (.bool (decide (a ≤ b)))
  | .gtr => F (.bool (decide (a > b)))
  | .geq => F (.bool (decide (a ≥ b)))
  | _ => False

def strVC (op : BinOp) (a b : ByteArray) (F : SV → Prop) : Prop :=
  match op with
  | .eql => F (.bool (a == b))
  | .neq => F (.bool (!(a == b)))
  | _ => False

def eqVC (X : Tab) (t : Nat) (op : BinOp) (a b : SV) (F : SV → Prop) : Prop :=
  match (X.T t).cmp && Nat.ble (X.T t).depth 50 && a.shape (X.T t) && b.shape (X.T t) with
  | true => match op with
    | .eql => F (.bool (eqSV a b))
    | .neq => F (.bool (!eqSV a b))
    | _ => False
  | false => False

def nilVC (op : BinOp) (isNil : Bool) (F : SV → Prop) : Prop :=
  match op with
  | .eql => F (.bool isNil)
  | .neq => F (.bool (!isNil))
  | _ => False

def isSliceTy : Ty → Bool | .slice _ => true | _ => false
def Sl.isNil (q : Sl) : Bool := match q.ptr with | none => Nat.beq q.len 0 && Nat.beq q.cap 0 | some _ => false
def binVC (X : Tab) (op : BinOp) (t : Nat) (a b : SV) (F : SV → Prop) : Prop :=
  match a, b with
  | .int k x, .int k' y => match op with
    | .shl => Need (decide (0 ≤ y)) (F (.int k (gshl k x y)))
    | .shr => Need (decide (0 ≤ y)) (F (.int k (gshr k x y)))
    | op => match ksame k k' with | true => intVC op k x y F | false => False
  | .str x, .str y => strVC op x y F
  | .ptr p, .ptr none => match X.T t with | .ptr _ => nilVC op p.isNone F | _ => False
  | .slice s, .slice q => match isSliceTy (X.T t) && q.isNil with | true => nilVC op s.ptr.isNone F | false => False
  | a, b => eqVC X t op a b F

def unVC (op : UnOp) (a : SV) (F : SV → Prop) : Prop :=
  match op, a with
  | .not, .bool b => F (.bool (!b))
  | .neg, .int k n => F (.int k (wr k (0 - n)))
  | .xor, .int k n => F (.int k (ixor k (if k.signed then -1 else k.max) n))
  | _, _ => False

def deref (p : Option Addr) (F : Addr → Prop) : Prop := match p with | some a => F a | none => False

/-- bounds of a slice expression: low, high, max as they stand; cap and len of what is sliced -/
def sliceVC (lo hi mx : Option Int) (len cap : Nat) (F : Nat → Nat → Nat → Prop) : Prop :=
  match mx, hi, lo with
  | none, none, none => F 0 len cap
  | none, none, some l => Need (decide (0 ≤ l) && decide (l ≤ (len : Int))) (F l.toNat len cap)
  | none, some h, none => Need (decide (0 ≤ h) && decide (h ≤ (cap : Int))) (F 0 h.toNat cap)
  | none, some h, some l => Need (decide (0 ≤ h) && decide (h ≤ (cap : Int)) && (decide (0 ≤ l) && decide (l ≤ (h.toNat : Int)))) (F l.toNat h.toNat cap)
  | some m, some h, some l => Need (decide (0 ≤ m) && decide (m ≤ (cap : Int)) && (decide (0 ≤ h) && decide (h ≤ (m.toNat : Int))) && (decide (0 ≤ l) && decide (l ≤ (h.toNat : Int)))) (F l.toNat h.toNat m.toNat)
  | some m, some h, none => Need (decide (0 ≤ m) && decide (m ≤ (cap : Int)) && (decide (0 ≤ h) && decide (h ≤ (m.toNat : Int)))) (F 0 h.toNat m.toNat)
  | some _, none, _ => False

/-- an operand that may be missing: 'some none' where it is -/
def St.evInt (s : St) : Option Operand → Option (Option Int)
  | none => some none
  | some x => match s.ev x with | some (.int _ n) => some (some n) | _ => none

def St.evs (s : St) : List Operand → Option (List SV)
  | [] => some []
  | x :: r => match s.ev x, s.evs r with | some a, some l => some (a :: l) | _, _ => none
def St.evParts (s : St) : List (Nat × Operand) → Option (List (Nat × SV))
  | [] => some []
  | (i, x) :: r => match s.ev x, s.evParts r with | some a, some l => some ((i, a) :: l) | _, _ => none

def partTy (t : Ty) (i : Nat) : Option Ty :=
  match t with
  | .struct _ ts => nth ts i
  | .arr k n => match Nat.blt i n with | true => some (.int k) | false => none
  | _ => none
def fset (f : Nat → Int) (i : Nat) (v : Int) : Nat → Int := fun j => match Nat.beq j i with | true => v | false => f j
def setPart (c : SV) (i : Nat) (x : SV) : Option SV :=
  match c, x with
  | .struct l, x => some (.struct (setNth l i x))
  | .arr k n f, .int _ v => some (.arr k n (fset f i v))
  | _, _ => none
def buildSV (t : Ty) : SV → List (Nat × SV) → Option SV
  | c, [] => some c
  | c, (i, x) :: r => match partTy t i with
    | some u => match x.shape u with
      | true => match setPart c i x with | some c' => buildSV t c' r | none => none
      | false => none
    | none => none

def getPath : SV → List Nat → Option SV
  | c, [] => some c
  | .struct l, i :: p => match nth l i with | some x => getPath x p | none => none
  | .arr k _ f, [i] => some (.int k (f i))
  | _, _ => none
def setPath : SV → List Nat → SV → Option SV
  | _, [], x => some x
  | .struct l, i :: p, x => match nth l i with
    | some y => match setPath y p x with | some z => some (.struct (setNth l i z)) | none => none
    | none => none
  | .arr k n f, [i], .int _ v => some (.arr k n (fset f i v))
  | _, _, _ => none
def tyPath : Ty → List Nat → Option Ty
  | t, [] => some t
  | .struct _ ts, i :: p => match nth ts i with | some x => tyPath x p | none => none
  | .arr k _, [_] => some (.int k)
  | _, _ => none

/-- i is 0: x; i is 1: the next; .. -/
def pickVC : List SV → Nat → Nat → (SV → Prop) → Prop
  | [], _, _, _ => True
  | x :: r, b, j, F => (j = b → F x) ∧ pickVC r (b + 1) j F

/-- i is b: the first; the next; .. -/
def pickIx : List Ty → Nat → Int → (Nat → Prop) → Prop
  | [], _, _, _ => True
  | _ :: r, b, j, F => Br (decide (j = (b : Int))) (F b) (pickIx r (Nat.succ b) j F)

def isFull (t : Ty) : Bool := match t.zero with | some _ => isData t | none => false
def elemTy (t : Ty) : Ty := match t with | .arr k _ => .int k | .struct _ (t :: _) => t | _ => .other
def lenTy (t : Ty) : Nat := match t with | .arr _ n => n | .struct _ ts => ts.length | _ => 0
def isArrTy (t : Ty) : Bool := match t with | .arr _ _ => true | .struct b _ => b | _ => false

def sget (s : ByteArray) (i : Nat) : Int := (s.data.toList.getD i 0).toNat

def plain : SV → Bool
  | .lptr _ _ _ => false
  | .box _ _ _ => false
  | _ => true
def allPlain : List SV → Bool
  | [] => true
  | x :: r => plain x && allPlain r

/-- the type of what a pointer into a local struct points at -/
def lAt (X : Tab) (s : St) (id : Nat) (p : List Nat) : Option Ty := match s.bx id with | some (.box _ t _) => tyPath (X.T t) p | _ => none
/-- is it this type's? -/
def lIs (X : Tab) (s : St) (id : Nat) (p : List Nat) (t : Nat) : Bool := match lAt X s id p with | some u => u.same (X.T t) | none => false

/-- operations that look at no memory and change none -/
def pureVC (X : Tab) (s : St) (o : Oper) (F : SV → Prop) : Prop :=
  match o.op with
  | .move x | .assign x => ifSome (s.ev x) F
  | .pick c a b => match s.ev c with
    | some (.bool t) => Br t (ifSome (s.ev a) F) (ifSome (s.ev b) F)
    | _ => False
  | .binOp op t x y _ => match s.ev x, s.ev y with | some a, some b => binVC X op t a b F | _, _ => False
  | .unOp op _ x => ifSome (s.ev x) fun a => unVC op a F
  | .convert src dst x => match X.T src, X.T dst, s.ev x with
    | .int _, .int k, some (.int _ n) => F (.int k (wr k n))
    | .str, .str, some (.str t) => F (.str t)
    | _, _, _ => False
  | .extract x i => match s.ev x with | some (.tuple l) => ifSome (nth l i) fun v => (match plain v with | true => F v | false => False) | _ => False
  | .field t x f => match s.ev x with
    | some (.struct l) => match X.T t with
      | .struct false ts => match SV.shapes l ts with | true => ifSome (nth l f) F | false => False
      | _ => False
    | _ => False
  | .index t x i => match s.ev x, s.ev i with
    | some (.arr k n f), some (.int _ j) => match (SV.arr k n f).shape (X.T t) with
      | true => Need (decide (0 ≤ j) && decide (j < (n : Int))) (F (.int k (f j.toNat)))
      | false => False
    | some (.struct l), some (.int _ j) => match isArrTy (X.T t) && (SV.struct l).shape (X.T t) with
      | true => Need (decide (0 ≤ j) && decide (j < (l.length : Int))) (pickVC l 0 j.toNat F)
      | false => False
    | some (.str b), some (.int _ j) => match X.T t with
      | .str => Need (decide (0 ≤ j) && decide (j < (b.size : Int))) (F (.int .u8 (sget b j.toNat)))
      | _ => False
    | _, _ => False
  | .fieldAddr t x f => match X.T t with
    | .struct false ts => match nth ts f with
      | some u => match isData u && !Nat.beq u.size 0 with
        | false => False
        | true => match s.ev x with
          | some (.lptr id off p) => match lIs X s id p t with
            | true => F (.lptr id (off + Ty.off ts f) (p ++ [f]))
            | false => False
          | some (.ptr a) => deref a fun a => F (.ptr (some (ad a (Ty.off ts f))))
          | _ => False
      | none => False
    | _ => False
  | .indexAddr t x i => match X.T t, s.ev x, s.ev i with
    | .slice e, some (.slice q), some (.int _ j) => match isData (X.T e) with
      | true => Need (decide (0 ≤ j) && decide (j < (q.len : Int)) && q.ptr.isSome) (F (.ptr (some (q.at (X.T e).size j.toNat))))
      | false => False
    | ty, some (.lptr id off p), some (.int _ j) => match isArrTy ty && lIs X s id p t with
      | true => Need (decide (0 ≤ j) && decide (j < (lenTy ty : Int))) (match ty with
        | .struct _ ts => pickIx ts 0 j fun i => F (.lptr id (off + i * (elemTy ty).size) (p ++ [i]))
        | _ => F (.lptr id (off + j.toNat * (elemTy ty).size) (p ++ [j.toNat])))
      | false => False
    | ty, some (.ptr a), some (.int _ j) => match isArrTy ty with
      | true => deref a fun a => Need (decide (0 ≤ j) && decide (j < (lenTy ty : Int))) (F (.ptr (some (a.add (j.toNat * (elemTy ty).size)))))
      | false => False
    | _, _, _ => False
  | .slice t x lo hi mx => match s.evInt lo, s.evInt hi, s.evInt mx, s.ev x with
    | some l, some h, some m, some (.slice q) => match X.T t with
      | .slice e => match isData (X.T e) with
        | true => sliceVC l h m q.len q.cap fun l h m => F (.slice (q.sub (X.T e).size l h m))
        | false => False
      | _ => False
    | some l, some h, some none, some (.str b) => match X.T t with
      | .str => sliceVC l h none b.size b.size fun l h _ => F (.str (b.extract l h))
      | _ => False
    | some l, some h, some m, some (.ptr a) => match isArrTy (X.T t) && Nat.blt 0 (lenTy (X.T t)) with
      | true => deref a fun a => sliceVC l h m (lenTy (X.T t)) (lenTy (X.T t)) fun l h m => F (.slice (Sl.sub ⟨some a, lenTy (X.T t), lenTy (X.T t)⟩ (elemTy (X.T t)).size l h m))
      | false => False
    | _, _, _, _ => False
  | .sliceToArrayPointer t x => match isArrTy (X.T t), s.ev x with
    | true, some (.slice q) => Need (decide (lenTy (X.T t) ≤ q.len) && q.ptr.isSome) (F (.ptr (some (q.at 0 0))))
    | _, _ => False
  | .build t parts => match isAggTy (X.T t), (X.T t).zero, s.evParts parts.toList with
    | true, some z, some l => ifSome (buildSV (X.T t) z l) F
    | _, _, _ => False
  | .nilCheck x => match s.ev x with
    | some (.ptr p) => deref p fun a => F (.ptr (some a))
    | some (.lptr id off p) => match lAt X s id p with | some _ => F (.lptr id off p) | none => False
    | some (.clo f cs) => F (.clo f cs)
    | _ => False
  | .makeFunc (.func f) first cap => match first.toList, s.evs cap.toList with
    | [], some l => match allPlain l with | true => F (.clo f l) | false => False
    | _, _ => False
  | .makeInterface t x => match X.T t, s.ev x with
    | .struct false ts, some v => match v.shape (.struct false ts) with | true => F (.raw (.iface t v.enc)) | false => False
    | _, _ => False
  | .load t x => match s.ev x with
    | some (.lptr id _ p) => match lIs X s id p t with
      | true => match s.bx id with
        | some (.box _ _ c) => ifSome (getPath c p) F
        | _ => False
      | false => False
    | _ => False
  | .call c => match c.callee, c.argTypes.toList, c.args.toList with
    | .builtin .len, [t], [x] => match X.T t, s.ev x with
      | .slice _, some (.slice q) => F (.int .i64 (q.len : Int))
      | .str, some (.str b) => F (.int .i64 (b.size : Int))
      | .arr _ n, _ => F (.int .i64 (n : Int))
      | _, _ => False
    | .builtin .cap, [t], [x] => match X.T t, s.ev x with
      | .slice _, some (.slice q) => F (.int .i64 (q.cap : Int))
      | _, _ => False
    | .builtin .min, _, [x, y] => match s.ev x, s.ev y with
      | some (.int k a), some (.int _ b) => F (.int k (imin a b))
      | _, _ => False
    | .builtin .max, _, [x, y] => match s.ev x, s.ev y with
      | some (.int k a), some (.int _ b) => F (.int k (imax a b))
      | _, _ => False
    | _, _, _ => False
  | _ => False

/-- from w to w1 nothing that was there has changed but the blocks mods; news: new blocks -/
structure Upd (mods news : List Nat) (w w1 : World) : Prop where
  os : w1.os = w.os
  tape : w1.tape = w.tape
  output : w1.output = w.output
  size : w.heap.size ≤ w1.heap.size
  keep : ∀ k, k < w.heap.size → k ∉ mods → w1.heap[k]? = w.heap[k]?
  news : ∀ b ∈ news, w.heap.size ≤ b ∧ b < w1.heap.size

def Kept (bs : List Nat) (w w1 : World) : Prop := ∀ b ∈ bs, w1.heap[b]? = w.heap[b]?
def Keeps (bs : List Nat) (w w1 : World) : Prop := Upd [] [] w w1 ∨ Kept bs w w1
def keepsThen (bs : List Nat) (w w1 : World) (F : Prop) : Prop := match bs with | [] => F | b :: r => Keeps (b :: r) w w1 ∧ F

def upFrom : Nat → Nat → List Nat
  | _, 0 => []
  | a, n + 1 => a :: upFrom (Nat.succ a) n
def St.liveFrom (s : St) : List Nat → List Nat
  | [] => []
  | i :: r => match s.bx i with | some (.box b _ _) => b :: s.liveFrom r | _ => s.liveFrom r
def St.live (s : St) : List Nat := s.liveFrom (upFrom 0 s.nb)
def St.clean (s : St) : St := { s with nb0 := s.nb, ids := [], mods := [], news := [], dirty := false }

/-- the world as it stands: what has become of local structs since it was last looked at is told -/
def St.flush (s : St) (w : World) (F : St → World → Prop) : Prop :=
  match s.dirty with
  | false => F s.clean w
  | true => ∀ w1, Upd s.mods s.news w w1 → F s.clean w1
/-- .. for an operation that only reads -/
def St.look (s : St) (w : World) (F : St → World → Prop) : Prop :=
  match s.mods with
  | [] => F s w
  | _ => s.flush w F
/-- it is none of these blocks -/
def Off (b : Nat) (l : List Nat) : Prop := b ∉ l
def offThen (b : Nat) (l : List Nat) (F : Prop) : Prop := match l with | [] => F | x :: r => Off b (x :: r) → F
/-- a new row of cells -/
def St.newRow0 (s : St) (w : World) (cells : List Value) (e : Nat) (F : St → Nat → World → Prop) : Prop :=
  ∀ b w1, Upd s.mods (b :: s.news) w w1 → w1.heap[b]? = some (.cells cells.toArray e (0, 0)) → F s.clean b w1
/-- .. beside what is new already -/
def St.newRow (s : St) (w : World) (cells : List Value) (e : Nat) (F : St → Nat → World → Prop) : Prop :=
  match s.news with
  | [] => s.newRow0 w cells e F
  | _ => s.flush w fun s w => s.newRow0 w cells e F

def St.newBox (s : St) (b t : Nat) (c : SV) : St :=
  { (s.putB s.nb (some (.box b t c))) with nb := Nat.succ s.nb, news := b :: s.news, dirty := true }
def hasN : List Nat → Nat → Bool
  | [], _ => false
  | x :: r, n => match Nat.beq x n with | true => true | false => hasN r n
def St.touch (s : St) (id b : Nat) : St :=
  match Nat.ble s.nb0 id || hasN s.ids id with
  | true => { s with dirty := true }
  | false => { s with ids := id :: s.ids, mods := b :: s.mods, dirty := true }
/-- a local struct becomes memory -/
def St.free (s : St) (id b : Nat) : St :=
  { (s.putB id none) with env := fun u => match s.env u with
      | some (.lptr i off p) => match Nat.beq i id with | true => some (.ptr (some ⟨b, off, none⟩)) | false => some (.lptr i off p)
      | r => r }
def escs (s : St) (w : World) : List Nat → (St → Prop) → Prop
  | [], F => F s
  | id :: r, F => match s.bx id with
    | some (.box b t c) => w.heap[b]? = some (.cells c.cells.toArray t (0, 0)) → offThen b (s.free id b).live (escs (s.free id b) w r F)
    | _ => escs s w r F
def lptrs : List SV → List Nat
  | [] => []
  | .lptr id _ _ :: r => id :: lptrs r
  | _ :: r => lptrs r
def St.esc (s : St) (w : World) (xs : List SV) (F : St → World → Prop) : Prop :=
  match lptrs xs with
  | [] => F s w
  | ids => s.flush w fun s w => escs s w ids fun s => F s w

/-! ### loads -/
mutual
def loadVC (a : Addr) (w : World) : Ty → Nat → (SV → Prop) → Prop
  | .int k, off, F => ∃ n : Int, w.cell? (ad a off) = some (.int k n) ∧ F (.int k n)
  | .bool, off, F => ∃ b : Bool, w.cell? (ad a off) = some (.bool b) ∧ F (.bool b)
  | .str, off, F => ∃ s : ByteArray, w.cell? (ad a off) = some (.string s) ∧ F (.str s)
  | .ptr _, off, F => ∃ p : Option Addr, w.cell? (ad a off) = some (.pointer p) ∧ F (.ptr p)
  | .slice _, off, F => ∃ s : Sl, w.cell? (ad a off) = some s.val ∧ F (.slice s)
  | .map, off, F => ∃ r : Option Nat, w.cell? (ad a off) = some (.map r) ∧ F (.map r)
  | .arr k n, off, F => ∃ f : Nat → Int, (∀ i, i < n → w.cell? (a.add (off + i)) = some (.int k (f i))) ∧ F (.arr k n f)
  | .struct _ ts, off, F => loadsVC a w ts off fun l => F (.struct l)
  | _, _, _ => False
def loadsVC (a : Addr) (w : World) : List Ty → Nat → (List SV → Prop) → Prop
  | [], _, F => F []
  | t :: r, off, F => loadVC a w t off fun x => loadsVC a w r (off + t.size) fun l => F (x :: l)
end

/-! ### stores -/
/-- cells are written, one behind the other; bs: blocks that are not to be hit -/
def Store (w : World) (a : Addr) (vs : List Value) (bs : List Nat) (F : World → Prop) : Prop :=
  (∀ i, i < vs.length → (w.cell? (a.add i)).isSome = true ∧ w.frozen? (a.add i) = false) ∧ a.block ∉ bs ∧ F (w.setCells a.block a.off vs)

def RowAt (w : World) (p : Option Addr) (n : Nat) (l : List Value) : Prop :=
  match p with
  | none => l = []
  | some a => l.length = n ∧ (∀ i (h : i < l.length), w.cell? (a.add i) = some l[i]) ∧ ∀ v ∈ l, v.oneCell' = true

/-- append(s, new...): elements of type e, sz cells and by_ bytes each; new: the cells of n of them -/
def AppendN (e sz by_ : Nat) (s : Sl) (n : Nat) (new : List Value) (bs : List Nat) (w : World) (F : Sl → World → Prop) : Prop :=
    (s.len + n ≤ s.cap →
      match s.ptr with
      | none => F ⟨none, s.len + n, s.cap⟩ w
      | some a => Store w (a.add (s.len * sz)) new bs fun w1 => F ⟨some a, s.len + n, s.cap⟩ w1) ∧
    (s.cap < s.len + n → s.len + n ≤ 9223372036854775807 ∧ Builtin.nextslicecap (s.len + n) s.cap * by_ ≤ 281474976710656 ∧
      ∃ old : List Value, RowAt w s.ptr (s.len * sz) old ∧
        ∀ (cap b : Nat) (c : Array Value) (w1 : World), s.len + n ≤ cap → Upd [] [b] w w1 → w1.heap[b]? = some (.cells c e (0, 0)) →
          c.toList.take (old.length + new.length) = old ++ new → c.size = old.length + new.length + (cap - (s.len + n)) * sz →
          F ⟨some ⟨b, 0, none⟩, s.len + n, cap⟩ w1)
/-- append(s, x...) -/
def Append (e sz by_ : Nat) (s x : Sl) (bs : List Nat) (w : World) (F : Sl → World → Prop) : Prop :=
  ∃ new : List Value, RowAt w x.ptr (x.len * sz) new ∧ AppendN e sz by_ s x.len new bs w F

def Copy (sz : Nat) (d x : Sl) (bs : List Nat) (w : World) (F : World → Prop) : Prop :=
  ∃ new : List Value, RowAt w x.ptr (Nat.min x.len d.len * sz) new ∧
    match d.ptr with
    | none => F w
    | some a => Store w a new bs F

def BytesStr (w : World) (s : Sl) (F : ByteArray → Prop) : Prop :=
  ∃ l : List UInt8, l.length = s.len ∧ (s.ptr = none → l = []) ∧ (∀ i (h : i < l.length), w.cell? (s.at 1 i) = some (.int .u8 l[i].toNat)) ∧ F ⟨l.toArray⟩

/-- '[]byte("..")': the row gets a mark behind its end -/
def MarkStr (w : World) (s : Sl) (bs : List Nat) (F : World → Prop) : Prop :=
  deref s.ptr fun a => ∃ c e, w.heap[a.block]? = some (.cells c e (0, 0)) ∧ a.block ∉ bs ∧
    ∀ w1, Upd [a.block] [] w w1 → w1.heap[a.block]? = some (.cells c e (c.size, c.size + 1)) → F w1

def zerosOf (t : Ty) (n : Nat) : List Value := (List.replicate n ((match t.zero with | some z => z.cells | none => []))).flatten


/-! ### maps -/
def derefN (p : Option Nat) (F : Nat → Prop) : Prop := match p with | some a => F a | none => False
/-- a map's block: keys as they lie, values -/
def MapB (es : Array MapEntry) (c : Nat) (l : List (Value × SV)) : Prop := es.toList.map (fun e => (e.key, e.val)) = l.map (fun p => (p.1, p.2.enc)) ∧ es.toList.Pairwise (fun a b => a.born ≠ b.born) ∧ ∀ e ∈ es.toList, e.born < c
def MapL (w : World) (r : Nat) (l : List (Value × SV)) : Prop := ∃ es c, w.heap[r]? = some (.map es c) ∧ MapB es c l
/-- an iterator over a map that stands as it stood when the loop began; seen: the places that were handed out, the last one first -/
def IterL (w : World) (it r : Nat) (l : List (Value × SV)) (seen : List Nat) : Prop :=
  ∃ es c S, w.heap[it]? = some (.mapIter (some r) c S c) ∧ w.heap[r]? = some (.map es c) ∧ MapB es c l ∧ (∀ i ∈ seen, i < es.size) ∧ S.toList = seen.reverse.map fun i => (es.toList[i]?.map (·.born)).getD 0
/-- keys that may be compared -/
def KeysOk (P : Program) (k : Nat) (x : Value) (l : List (Value × SV)) : Prop := Go.WideMaps.KeyLaw P k ∧ (∃ lx, Go.keyOf P k x = some lx) ∧ ∀ p ∈ l, ∃ lp, Go.keyOf P k p.1 = some lp
/-- what is found under a key -/
def Found (l : List (Value × SV)) (x : Value) (z v : SV) (b : Bool) : Prop := (b = true ∧ ∃ p ∈ l, p.1 = x ∧ v = p.2) ∨ (b = false ∧ (∀ p ∈ l, p.1 ≠ x) ∧ v = z)
/-- a key that is written -/
def SetAt (l : List (Value × SV)) (x : Value) (v : SV) (l' : List (Value × SV)) : Prop := ((∀ p ∈ l, p.1 ≠ x) ∧ l' = l ++ [(x, v)]) ∨ ∃ i, ∃ h : i < l.length, l[i].1 = x ∧ l' = l.set i (x, v)
def AllShape (t : Ty) (l : List (Value × SV)) : Prop := ∀ p ∈ l, p.2.shape t = true
def St.newMap0 (s : St) (w : World) (F : St → Nat → World → Prop) : Prop :=
  ∀ b w1, Upd s.mods (b :: s.news) w w1 → MapL w1 b [] → F s.clean b w1
def St.newMap (s : St) (w : World) (F : St → Nat → World → Prop) : Prop :=
  match s.news with
  | [] => s.newMap0 w F
  | _ => s.flush w fun s w => s.newMap0 w F
/-- a value that lies in a map, looked for -/
def mapGet (X : Tab) (t : Nat) (r : Nat) (k z : SV) (w : World) (F : SV → Bool → Prop) : Prop :=
  X.P.underlying t = some (.map (X.M t).1 (X.M t).2) ∧ ∃ l, MapL w r l ∧ KeysOk X.P (X.M t).1 k.enc l ∧ AllShape (X.T (X.M t).2) l ∧
    (X.T (X.M t).2).all fun v => ∀ b, Found l k.enc z v b → F v b
/-- a key that is taken away -/
def DelAt (l : List (Value × SV)) (x : Value) (l' : List (Value × SV)) : Prop := ((∀ p ∈ l, p.1 ≠ x) ∧ l' = l) ∨ ∃ i, ∃ h : i < l.length, l[i].1 = x ∧ l' = l.eraseIdx i
def mapDel (X : Tab) (t : Nat) (r : Nat) (k : SV) (bs : List Nat) (w : World) (F : World → Prop) : Prop :=
  X.P.underlying t = some (.map (X.M t).1 (X.M t).2) ∧ r ∉ bs ∧ ∃ l, MapL w r l ∧ KeysOk X.P (X.M t).1 k.enc l ∧
    ∀ l' w1, DelAt l k.enc l' → Upd [r] [] w w1 → MapL w1 r l' → F w1
def mapLen (X : Tab) (t : Nat) (r : Nat) (w : World) (F : SV → Prop) : Prop :=
  X.P.underlying t = some (.map (X.M t).1 (X.M t).2) ∧ ∃ l, MapL w r l ∧ F (.int .i64 (l.length : Int))
def mapRange (X : Tab) (t : Nat) (r : Nat) (w : World) (F : Nat → World → Prop) : Prop :=
  X.P.underlying t = some (.map (X.M t).1 (X.M t).2) ∧ ∃ l, MapL w r l ∧ ∀ b w1, Upd [] [b] w w1 → IterL w1 b r l [] → F b w1
def mapNext (it : Nat) (bs : List Nat) (w : World) (F : SV → World → Prop) : Prop :=
  it ∉ bs ∧ ∃ r l seen, IterL w it r l seen ∧ ((∀ i, i < l.length → i ∈ seen) → F (.tuple [.bool false]) w) ∧
    ∀ i, i < l.length → i ∉ seen → ∀ w1, Upd [it] [] w w1 → IterL w1 it r l (i :: seen) → ∀ k v : Value, F (.tuple [.bool true, .raw k, .raw v]) w1
/-- what lies at a place of a map's list -/
def EntAt (l : List (Value × SV)) (i : Nat) (k : Value) (v : SV) : Prop := l[i]? = some (k, v)
def mapEntryVC (X : Tab) (it : Nat) (w : World) (F : SV → Prop) : Prop :=
  ∃ r l i seen k, IterL w it r l (i :: seen) ∧ X.En.ex fun v => EntAt l i k v ∧ F (.tuple [.raw k, v])
def mapPut (X : Tab) (t : Nat) (r : Nat) (k y : SV) (bs : List Nat) (w : World) (F : World → Prop) : Prop :=
  X.P.underlying t = some (.map (X.M t).1 (X.M t).2) ∧ r ∉ bs ∧ ∃ l, MapL w r l ∧ KeysOk X.P (X.M t).1 k.enc l ∧
    ∀ l' w1, SetAt l k.enc y l' → Upd [r] [] w w1 → MapL w1 r l' → F w1

def lookRes (c : Bool) (v : SV) (b : Bool) : SV := match c with | true => .tuple [v, .bool b] | false => v
/-- whose method is called, and with what receiver -/
def MethOf (P : Program) (d : Nat) (x : Value) (name : String) (f : Nat) (y : Value) : Prop := ∀ w : World, (Go.method (P.types.size + Made.depth) d x name).run P w = .ok (f, y) w

def opVC (X : Tab) (s : St) (w : World) (o : Oper) (K : St → World → Prop) : Prop :=
  match o.op with
  | .alloc t => ifSome ((X.T t).zero) fun z => ∀ b, K ((s.newBox b t z).putD o.dst (.lptr s.nb 0 [])) w
  | .box t x => ifSome (s.ev x) fun v => s.esc w [v] fun s w => ifSome (s.ev x) fun v =>
      match v.shape (X.T t) with
      | true => ∀ b, K ((s.newBox b t v).putD o.dst (.lptr s.nb 0 [])) w
      | false => False
  | .store t a x => match o.dst with
    | some _ => False
    | none => ifSome (s.ev x) fun v => s.esc w [v] fun s w => ifSome (s.ev x) fun v =>
      match v.shape (X.T t) with
      | true => match s.ev a with
        | some (.lptr id _ p) => match s.bx id with
          | some (.box b bt c) => match lIs X s id p t with
            | true => ifSome (setPath c p v) fun c' => K ((s.putB id (some (.box b bt c'))).touch id b) w
            | false => False
          | _ => False
        | some (.ptr p) => deref p fun a => s.flush w fun s w => Store w a v.cells s.live fun w1 => K s w1
        | _ => False
      | false => False
  | .load t x => match s.ev x with
    | some (.ptr p) => deref p fun a => s.look w fun s w => loadVC a w (X.T t) 0 fun v => K (s.putD o.dst v) w
    | _ => pureVC X s o fun v => K (s.putD o.dst v) w
  | .buildSlice t n parts => match X.T t, s.evParts parts.toList with
    | .slice e, some l => match isFull (X.T e) && Nat.ble (n * (X.T e).size) 16777216 with
      | false => False
      | true => s.esc w (l.map (·.2)) fun s w => match s.evParts parts.toList with
      | some l => match (Ty.struct true (List.replicate n (X.T e))).zero with
        | some z => ifSome (buildSV (.struct true (List.replicate n (X.T e))) z l) fun c => s.newRow w c.cells e fun s b w => K (s.putD o.dst (.slice ⟨some ⟨b, 0, none⟩, n, n⟩)) w
        | none => False
      | none => False
    | _, _ => False
  | .slice _ x _ _ _ => match s.ev x with
    | some (.lptr id off p) => s.esc w [.lptr id off p] fun s w => pureVC X s o fun v => K (s.putD o.dst v) w
    | _ => pureVC X s o fun v => K (s.putD o.dst v) w
  | .makeFunc _ _ cap => match s.evs cap.toList with
    | some l => s.esc w l fun s w => pureVC X s o fun v => K (s.putD o.dst v) w
    | none => False
  | .makeSlice t n c => match X.T t, s.ev n, s.ev c with
    | .slice e, some (.int .i64 l), some (.int .i64 m) =>
      match isFull (X.T e) with
      | false => False
      | true => Need (decide (0 ≤ l) && decide (l ≤ m) && decide (m ≤ 281474976710656) && decide ((X.B e : Int) * m ≤ 281474976710656)) (s.newRow w (zerosOf (X.T e) m.toNat) e fun s b w => K (s.putD o.dst (.slice ⟨some ⟨b, 0, none⟩, l.toNat, m.toNat⟩)) w)
    | _, _, _ => False
  | .convert src dst x => match X.T src, X.T dst, s.ev x with
    | .slice e, .str, some (.slice q) => match X.T e with
      | .int .u8 => s.look w fun s w => BytesStr w q fun b => K (s.putD o.dst (.str b)) w
      | _ => False
    | .slice _, .slice e, some (.slice q) => match X.T e, Nat.beq src dst with
      | .int .u8, true => s.flush w fun s w => MarkStr w q s.live fun w => K (s.putD o.dst (.slice q)) w
      | _, _ => False
    | _, _, _ => pureVC X s o fun v => K (s.putD o.dst v) w
  | .makeMap t r => match r, X.T t with
    | none, .map => s.newMap w fun s b w => K (s.putD o.dst (.map (some b))) w
    | _, _ => False
  | .lookup t m x c => match s.ev m, s.ev x, (X.T (X.M t).2).zero with
    | some (.map p), some k, some z => match plain k && isData (X.T (X.M t).2) with
      | true => derefN p fun r => s.flush w fun s w => mapGet X t r k z w fun v b => K (s.putD o.dst (lookRes c v b)) w
      | false => False
    | _, _, _ => False
  | .range t x => match s.ev x with
    | some (.map p) => derefN p fun r => s.flush w fun s w => mapRange X t r w fun b w => K (s.putD o.dst (.ptr (some ⟨b, 0, none⟩))) w
    | _ => False
  | .next x st => match st, s.ev x with
    | false, some (.ptr p) => deref p fun a => a.off = 0 ∧ s.flush w fun s w => mapNext a.block s.live w fun v w => K (s.putD o.dst v) w
    | _, _ => False
  | .entry x => match s.ev x with
    | some (.ptr p) => deref p fun a => a.off = 0 ∧ s.flush w fun s w => mapEntryVC X a.block w fun v => K (s.putD o.dst v) w
    | _ => False
  | .mapUpdate t m x v => match o.dst, s.ev m, s.ev x, s.ev v with
    | none, some (.map p), some k, some y => match plain k && plain y with
      | true => derefN p fun r => s.flush w fun s w => mapPut X t r k y s.live w fun w1 => K s w1
      | false => False
    | _, _, _, _ => False
  | .call c => match c.callee with
    | .value f => match s.evs c.args.toList with
      | some l => s.esc w l fun s w => match s.ev f, s.evs c.args.toList with
        | some (.clo f cs), some l => match X.C f && allPlain l with
          | true => s.flush w fun s w => Ret X.P f (l ++ cs) w fun r w1 => (X.T o.type).ex fun v => r = v ∧ keepsThen s.live w w1 (K (s.putD o.dst v) w1)
          | false => False
        | _, _ => False
      | none => False
    | .builtin .append => match c.argTypes.toList, c.args.toList with
      | [t, u], [x, y] => match X.T t, X.T u, s.ev x, s.ev y with
        | .slice e, .slice _, some (.slice p), some (.slice q) => match isFull (X.T e) with
          | false => False
          | true => s.flush w fun s w =>
            Append e (X.T e).size (X.B e) p q s.live w fun r w => K (s.putD o.dst (.slice r)) w
        | .slice e, .int .i64, some (.slice p), some (.int .i64 n) => match isFull (X.T e) with
          | false => False
          | true => s.flush w fun s w =>
            Need (decide (0 ≤ n) && decide (n ≤ 281474976710656) && decide (n * (X.B e : Int) ≤ 281474976710656)) (AppendN e (X.T e).size (X.B e) p n.toNat (zerosOf (X.T e) n.toNat) s.live w fun r w => K (s.putD o.dst (.slice r)) w)
        | _, _, _, _ => False
      | _, _ => False
    | .builtin .copy => match c.argTypes.toList, c.args.toList with
      | [t, u], [x, y] => match X.T t, X.T u, s.ev x, s.ev y with
        | .slice e, .slice _, some (.slice p), some (.slice q) => match isData (X.T e) with
          | false => False
          | true => s.flush w fun s w =>
            Copy (X.T e).size p q s.live w fun w => K (s.putD o.dst (.int .i64 (Nat.min q.len p.len : Nat))) w
        | _, _, _, _ => False
      | _, _ => False
    | .builtin .len => match c.argTypes.toList, c.args.toList with
      | [t], [x] => match X.T t, s.ev x with
        | .map, some (.map p) => derefN p fun r => s.flush w fun s w => mapLen X t r w fun v => K (s.putD o.dst v) w
        | _, _ => pureVC X s o fun v => K (s.putD o.dst v) w
      | _, _ => pureVC X s o fun v => K (s.putD o.dst v) w
    | .builtin .delete => match c.argTypes.toList, c.args.toList with
      | [t, _], [x, y] => match s.ev x, s.ev y with
        | some (.map p), some k => match plain k with
          | true => derefN p fun r => s.flush w fun s w => mapDel X t r k s.live w fun w => K (s.putD o.dst (.tuple [])) w
          | false => False
        | _, _ => False
      | _, _ => False
    | .invoke recv name => match s.evs c.args.toList with
      | some l => s.esc w l fun s w => match s.ev recv, s.evs c.args.toList with
        | some (.raw v), some l => match allPlain l with
          | true => s.flush w fun s w => ∃ d x f y, v = .iface d x ∧ MethOf X.P d x name f y ∧ X.C f = true ∧ Ret X.P f (.raw y :: l) w fun r w1 => (X.T o.type).ex fun v => r = v ∧ keepsThen s.live w w1 (K (s.putD o.dst v) w1)
          | false => False
        | _, _ => False
      | none => False
    | _ => pureVC X s o fun v => K (s.putD o.dst v) w
  | _ => pureVC X s o fun v => K (s.putD o.dst v) w

def dstOf (ops : List Oper) (j : Nat) : Option Nat := match nth ops j with | some g => g.dst | none => none
def St.drop (s : St) (d : Option Nat) : St := match d with | some t => s.put t (some (.tuple [])) | none => s

/-- an operation under its guard -/
def guardVC (ops : List Oper) (s : St) (o : Oper) (yes no : St → Prop) : Prop :=
  match o.guard with
  | none => yes s
  | some (j, want) => match dstOf ops j with
    | some d => match s.env d with
      | some (.bool c) => match want with
        | true => Br c (yes (s.put d (some (.bool true)))) (no ((s.put d (some (.bool false))).drop o.dst))
        | false => Br c (no ((s.put d (some (.bool true))).drop o.dst)) (yes (s.put d (some (.bool false))))
      | some (.tuple []) => no (s.drop o.dst)
      | _ => False
    | none => False

def opsVC (X : Tab) (ops : List Oper) : List Oper → St → World → (St → World → Prop) → Prop
  | [], s, w, k => k s w
  | o :: r, s, w, k => guardVC ops s o (fun s => opVC X s w o fun s w => opsVC X ops r s w k) (fun s => opsVC X ops r s w k)

/-! ### regions that draw their order -/
inductive Tree where
  | done
  | early (i : Nat) (t : Tree)
  | fork (l : List (Nat × Tree))

/-- in a drawn region: what loads rely on is all the memory that was there (none), or these blocks -/
def kin (K : Option (List Nat)) (b : Nat) (F : Prop) : Prop := match K with | none => F | some bs => b ∈ bs ∧ F
def knew (K : Option (List Nat)) (w0 w : World) (F : Prop) : Prop := match K with | none => Upd [] [] w0 w ∧ F | some bs => Kept bs w0 w ∧ F
/-- an operation that is carried out first, whatever the order: it looks at what was there when the region began (w0; boxes below n0), or at nothing -/
def earlyVC (K : Option (List Nat)) (X : Tab) (s : St) (w0 : World) (n0 : Nat) (o : Oper) (F : SV → Prop) : Prop :=
  match o.op with
  | .load t x => match s.ev x with
    | some (.ptr p) => deref p fun a => kin K a.block (loadVC a w0 (X.T t) 0 F)
    | some (.lptr id _ _) => match Nat.blt id n0 with | true => pureVC X s o F | false => False
    | _ => False
  | _ => pureVC X s o F
def isLoad (o : Oper) : Bool := match o.op with | .load _ _ => true | _ => false
def isStore (o : Oper) : Bool := match o.op with | .store _ _ _ => true | _ => false
/-- a store that is not plainly one of a plain value into memory -/
def lstore (s : St) (o : Oper) : Bool :=
  match o.op with
  | .store _ ad x => match s.ev ad with
    | some (.ptr _) => match s.ev x with
      | some v => !plain v
      | none => true
    | _ => true
  | _ => false
/-- does i wait for j, at once or through others? -/
def ancOf (ops : List Oper) : Nat → Nat → Nat → Bool
  | 0, _, _ => false
  | n + 1, i, j => match nth ops i with
    | some o => o.after.toList.any fun e => Region.binds .any e && (Nat.beq e.on j || ancOf ops n e.on j)
    | none => false
def racesFrom (all : List Oper) (i : Nat) : List Oper → Nat → Bool
  | [], _ => false
  | o :: r, j => (isLoad o && !Nat.beq i j && !ancOf all all.length i j) || racesFrom all i r (j + 1)
/-- is there a load for which i does not wait? -/
def racesWith (ops : List Oper) (i : Nat) : Bool := racesFrom ops i ops 0
/-- does it make memory of a local struct? -/
def escapes (s : St) (o : Oper) : Bool :=
  match o.op with
  | .box _ x => match s.ev x with | some v => !plain v | none => true
  | .buildSlice _ _ ps => match s.evParts ps.toList with | some l => !allPlain (l.map (·.2)) | none => true
  | .slice _ x _ _ _ => match s.ev x with | some v => !plain v | none => true
  | .makeFunc _ _ cap => match s.evs cap.toList with | some l => !allPlain l | none => true
  | .call c => match s.evs c.args.toList with | some l => !allPlain l | none => true
  | _ => false
/-- does it look at no memory and change none, whatever its operands? (loads are counted in) -/
def quiet (X : Tab) (o : Oper) : Bool :=
  match o.op with
  | .alloc _ => false
  | .box _ _ => false
  | .store _ _ _ => false
  | .buildSlice _ _ _ => false
  | .makeSlice _ _ _ => false
  | .makeMap _ _ => false
  | .lookup _ _ _ _ => false
  | .mapUpdate _ _ _ _ => false
  | .convert src _ _ => match X.T src with | .slice _ => false | _ => true
  | .slice t _ _ _ _ => match X.T t with | .slice _ => true | .str => true | _ => false
  | .call c => match c.callee with
    | .builtin .len => match c.argTypes.toList with
      | [t] => match X.T t with | .map => false | _ => true
      | _ => true
    | .builtin .cap => true
    | .builtin .min => true
    | .builtin .max => true
    | _ => false
  | _ => true
def strictVC (K : Option (List Nat)) (b : Bool) (s0 : St) (o : Oper) (s : St) (w0 w : World) (F : Prop) : Prop :=
  match b with
  | true => match lstore s0 o || escapes s0 o with
    | true => False
    | false => match s.mods with | [] => knew K w0 w F | _ => False
  | false => F
def oneAnd {α : Type} (r : List α) (A B : Prop) : Prop := match r with | [] => A | _ => A ∧ B
mutual
def treeVC (K : Option (List Nat)) (X : Tab) (ops : List Oper) (w0 : World) (n0 : Nat) : Tree → St → World → (St → World → Prop) → Prop
  | .done, s, w, k => k s w
  | .early i t, s, w, k => match nth ops i with
    | some o => match quiet X o with
      | true => guardVC ops s o (fun s => earlyVC K X s w0 n0 o fun v => treeVC K X ops w0 n0 t (s.putD o.dst v) w k) (fun s => treeVC K X ops w0 n0 t s w k)
      | false => False
    | none => False
  | .fork l, s, w, k => match l with
    | [] => False
    | p :: l => forkVC K X ops w0 n0 (p :: l) s w k
def forkVC (K : Option (List Nat)) (X : Tab) (ops : List Oper) (w0 : World) (n0 : Nat) : List (Nat × Tree) → St → World → (St → World → Prop) → Prop
  | [], _, _, _ => True
  | (i, t) :: r, s, w, k => oneAnd r (match nth ops i with
    | some o => guardVC ops s o (fun s1 => opVC X s1 w o fun s w => strictVC K (racesWith ops i || quiet X o) s1 o s w0 w (treeVC K X ops w0 n0 t s w k)) (fun s => treeVC K X ops w0 n0 t s w k)
    | none => False) (forkVC K X ops w0 n0 r s w k)
end

/- does the tree go through the region in every order that its edges allow, but for those that make no difference? -/
mutual
def okFrom (ops : Array Oper) : Tree → Nat → Array Bool → Bool
  | .done, n, listed => Nat.beq n 0 && (Region.ready .any ops listed).isEmpty
  | .early i t, n, listed => match n with
    | n + 1 => (Region.ready .any ops listed).contains i && Region.free .any ops listed i && okFrom ops t n (listed.setIfInBounds i true)
    | 0 => false
  | .fork l, n, listed => match n with
    | n + 1 => okFork ops l n listed (Region.ready .any ops listed)
    | 0 => false
def okFork (ops : Array Oper) : List (Nat × Tree) → Nat → Array Bool → List Nat → Bool
  | [], _, _, [] => true
  | (j, t) :: l, n, listed, i :: is => Nat.beq i j && okFrom ops t n (listed.setIfInBounds i true) && okFork ops l n listed is
  | _, _, _, _ => false
end
def okTree (ops : Array Oper) (t : Tree) : Bool := Region.noSelect ops && okFrom ops t ops.size (Array.replicate ops.size false)

/-! ### code -/
inductive Ann where
  | leaf
  | draw (t : Tree)
  | drawF (ids : List Nat) (t : Tree)
  | drawK (ids : List Nat) (t : Tree)
  | loopF (ids : List Nat) (ks : List (Key × Ty)) (bs : List Nat) (a : Ann)
  | seq (a b : Ann)
  | cut (ks : List (Key × Ty)) (bs : List Nat) (a b : Ann)
  | loop (ks : List (Key × Ty)) (bs : List Nat) (a : Ann)
  | cond (a b : Ann)
  | block (a : Ann)

def opsW : List Oper → List Nat
  | [] => []
  | o :: r => match o.dst with | some d => d :: opsW r | none => opsW r
/-- the temporaries that a piece of code may write (and the conditions' own) -/
def codeW : Code → List Nat
  | .region _ ops _ => opsW ops.toList
  | .seq a b => codeW a ++ codeW b
  | .cond _ a b => codeW a ++ codeW b
  | .block _ b => codeW b
  | .loop b => codeW b
  | .scope b => codeW b
  | _ => []

def tysOf : List (Key × Ty) → List Ty
  | [] => []
  | (_, t) :: r => t :: tysOf r
/-- the values of these places -/
def St.get (s : St) : List (Key × Ty) → Option (List SV)
  | [] => some []
  | (.t n, _) :: r => match s.env n, s.get r with | some x, some l => some (x :: l) | _, _ => none
  | (.b n, _) :: r => match s.bx n, s.get r with | some (.box _ _ c), some l => some (c :: l) | _, _ => none
def St.setAll (s : St) : List (Key × Ty) → List SV → St
  | (.t n, _) :: r, x :: l => (s.put n (some x)).setAll r l
  | (.b n, _) :: r, x :: l => match s.bx n with | some (.box b t _) => (s.putB n (some (.box b t x))).setAll r l | _ => s.setAll r l
  | _, _ => s
/-- behind a piece of code: what it may have written is forgotten; boxes: bs stay as they are -/
def St.forget (s : St) (W : List Nat) (ks : List (Key × Ty)) (bs : List Nat) : St :=
  { s.clean with
    env := fun u => match hasN W u with | true => none | false => s.env u
    bx := fun u => match hasN bs u with
      | true => s.bx u
      | false => match ks.any fun k => (match k.1 with | .b n => Nat.beq n u | _ => false) with
        | true => s.bx u
        | false => none }
def sameBoxes (s s0 : St) : List Nat → Prop → Prop
  | [], F => F
  | i :: r, F => s.bx i = s0.bx i ∧ sameBoxes s s0 r F
/-- the numbers of the boxes in ks are what they were -/
def boxBT : Option SV → Nat × Nat | some (.box b t _) => (b, t) | _ => (0, 0)
def sameNums (s s0 : St) : List (Key × Ty) → Prop → Prop
  | [], F => F
  | (.b n, _) :: r, F => boxBT (s.bx n) = boxBT (s0.bx n) ∧ sameNums s s0 r F
  | _ :: r, F => sameNums s s0 r F
def appJ (ks : List (Key × Ty)) (J : Ty.Fns (tysOf ks) (World → Prop)) (s : St) (w : World) : Prop :=
  match s.get ks with
  | some l => match Ty.apps (tysOf ks) J l with
    | some F => F w
    | none => False
  | none => False
def appM (ks : List (Key × Ty)) (M : Ty.Fns (tysOf ks) (World → Nat)) (s : St) (w : World) (n : Nat) : Prop :=
  match s.get ks with
  | some l => match Ty.apps (tysOf ks) M l with
    | some F => F w < n
    | none => False
  | none => False
def meas (ks : List (Key × Ty)) (M : Ty.Fns (tysOf ks) (World → Nat)) (l : List SV) (w : World) : Nat :=
  match Ty.apps (tysOf ks) M l with
  | some F => F w
  | none => 0
def allJ (ks : List (Key × Ty)) (F : List SV → Prop) : Prop := Ty.alls (tysOf ks) F
def appL (ks : List (Key × Ty)) (J : Ty.Fns (tysOf ks) (World → Prop)) (l : List SV) (w : World) : Prop :=
  match Ty.apps (tysOf ks) J l with
  | some F => F w
  | none => False

/-- a loop: what holds at its head, a measure -/
def loopVC (ks : List (Key × Ty)) (bs : List Nat) (W : List Nat) (body : St → World → (St → World → Prop) → Prop) (s : St) (w : World) : Prop :=
  ∃ I : Ty.Fns (tysOf ks) (World → Prop), ∃ M : Ty.Fns (tysOf ks) (World → Nat),
    (s.flush w fun s w => appJ ks I s w) ∧
    allJ ks fun l => ∀ w1, appL ks I l w1 →
      body ((s.forget W ks bs).setAll ks l) w1
        (fun s2 w2 => s2.flush w2 fun s2 w2 => sameBoxes s2 s bs (sameNums s2 s ks (appJ ks I s2 w2 ∧ appM ks M s2 w2 (meas ks M l w1))))

def vc (X : Tab) : Code → Ann → St → World → (St → World → Prop) → (Nat → St → World → Prop) → (St → World → Prop) → Prop
  | .skip, _, s, w, k, _, _ => k s w
  | .region _ ops false, _, s, w, k, _, _ => opsVC X ops.toList ops.toList s w k
  | .region _ ops true, .draw t, s, w, k, _, _ => match okTree ops t with
    | true => s.look w fun s w => treeVC none X ops.toList w s.nb t { s with dirty := true } w k
    | false => False
  | .region _ ops true, .drawF ids t, s, w, k, _, _ => match okTree ops t with
    | true => s.flush w fun s w => escs s w ids fun s => treeVC none X ops.toList w s.nb t { s with dirty := true } w k
    | false => False
  | .region _ ops true, .drawK ids t, s, w, k, _, _ => match okTree ops t with
    | true => s.flush w fun s w => escs s w ids fun s => ∃ bs : List Nat, (∀ b, b ∈ bs → b < w.heap.size) ∧ treeVC (some bs) X ops.toList w s.nb t { s with dirty := true } w k
    | false => False
  | .seq a b, .seq na nb, s, w, k, ex, ret => vc X a na s w (fun s w => vc X b nb s w k ex ret) ex ret
  | .seq a b, .cut ks bs na nb, s, w, k, ex, ret =>
    ∀ J : Ty.Fns (tysOf ks) (World → Prop),
      (allJ ks fun l => ∀ w1, vc X b nb ((s.forget (codeW a) ks bs).setAll ks l) w1 k ex ret → appL ks J l w1) →
      vc X a na s w (fun s1 w => s1.flush w fun s1 w => sameBoxes s1 s bs (sameNums s1 s ks (appJ ks J s1 w))) ex ret
  | .cond c a b, .cond na nb, s, w, k, ex, ret => match c with
    | .tmp t => match s.env t with
      | some (.bool v) => Br v (vc X a na (s.put t (some (.bool true))) w k ex ret) (vc X b nb (s.put t (some (.bool false))) w k ex ret)
      | _ => False
    | .const (.bool v) => Br v (vc X a na s w k ex ret) (vc X b nb s w k ex ret)
    | _ => False
  | .block id c, .block n, s, w, k, ex, ret => vc X c n s w k (fun i s w => match Nat.beq i id with | true => k s w | false => ex i s w) ret
  | .loop c, .loop ks bs n, s, w, _, ex, ret => loopVC ks bs (codeW c) (fun s w kk => vc X c n s w kk ex ret) s w
  | .loop c, .loopF ids ks bs n, s, w, _, ex, ret => s.flush w fun s w => escs s w ids fun s => loopVC ks bs (codeW c) (fun s w kk => vc X c n s w kk ex ret) s w
  | .scope c, n, s, w, k, ex, ret => vc X c n s w k ex ret
  | .label _, _, s, w, k, _, _ => k s w
  | .exit id, _, s, w, _, ex, _ => ex id s w
  | .ret, _, s, w, _, _, ret => ret s w
  | _, _, _, _, _, _, _ => False

/-! ### a function -/
def resSV (X : Tab) (s : St) : List ResultVar → Option (List SV)
  | [] => some []
  | .tmp t :: r => match s.env t, resSV X s r with | some x, some l => some (x :: l) | _, _ => none
  | .cell a t :: r => match s.env a, resSV X s r with
    | some (.lptr id _ p), some l => match lIs X s id p t with
      | true => match s.bx id with
        | some (.box _ _ c) => match getPath c p with | some x => some (x :: l) | none => none
        | _ => none
      | false => none
    | _, _ => none
def oneOf : List SV → SV
  | [x] => x
  | l => .tuple l
def argsEnv : List SV → Nat → Nat → Option SV
  | [], _, _ => none
  | x :: r, i, u => match Nat.beq u i with | true => some x | false => argsEnv r (i + 1) u
def start (args : List SV) : St := { env := argsEnv args 0, bx := fun _ => none, nb := 0, nb0 := 0, ids := [], mods := [], news := [], dirty := false }

def fnVC (X : Tab) (fn : Func) (n : Ann) (args : List SV) (w : World) (R : SV → World → Prop) : Prop :=
  let fin : St → World → Prop := fun s w => match resSV X s fn.results.toList with
    | some l => s.esc w l fun s w => s.flush w fun s w => match resSV X s fn.results.toList with
      | some l => (match allPlain l with | true => R (oneOf l) w | false => False)
      | none => False
    | none => False
  match fn.body with
  | some c => vc X c n (start args) w fin (fun _ _ _ => False) fin
  | none => False

/-! ### a function that defers one call -/
def finVC (X : Tab) (fn : Func) (R : SV → World → Prop) (s : St) (w : World) : Prop := match resSV X s fn.results.toList with
  | some l => s.esc w l fun s w => s.flush w fun s w => match resSV X s fn.results.toList with
    | some l => (match allPlain l with | true => R (oneOf l) w | false => False)
    | none => False
  | none => False
end Go.Vc
end

section
namespace Go.Vc
set_option linter.unusedSimpArgs false
set_option linter.unusedVariables false

theorem ksame_eq {a b : IntKind} (h : ksame a b = true) : a = b := by cases a <;> cases b <;> first | rfl | cases h
theorem ksame_refl (a : IntKind) : ksame a a = true := by cases a <;> rfl
theorem nbeq {a b : Nat} : (Nat.beq a b = true) ↔ a = b := by simp
theorem nbeq_false {a b : Nat} : (Nat.beq a b = false) ↔ a ≠ b := by
  rw [← Bool.not_eq_true, nbeq]

mutual
theorem Ty.same_eq : ∀ {a b : Ty}, a.same b = true → a = b
  | .int k, b, h => by cases b <;> simp [Ty.same] at h; rw [ksame_eq h]
  | .bool, b, h => by cases b <;> simp [Ty.same] at h; rfl
  | .str, b, h => by cases b <;> simp [Ty.same] at h; rfl
  | .ptr e, b, h => by cases b <;> simp [Ty.same] at h; rw [h]
  | .slice e, b, h => by cases b <;> simp [Ty.same] at h; rw [h]
  | .map, b, h => by cases b <;> simp [Ty.same] at h; rfl
  | .arr k n, b, h => by cases b <;> simp [Ty.same] at h; rw [ksame_eq h.1, h.2]
  | .struct c ts, b, h => by
    cases b <;> simp [Ty.same] at h
    rename_i c' ts'
    rw [Ty.sames_eq h.2]
    cases c <;> cases c' <;> simp_all
  | .tuple ts, b, h => by cases b <;> simp [Ty.same] at h
  | .other, b, h => by cases b <;> simp [Ty.same] at h
theorem Ty.sames_eq : ∀ {a b : List Ty}, Ty.sames a b = true → a = b
  | [], [], _ => rfl
  | [], _ :: _, h => by simp [Ty.sames] at h
  | _ :: _, [], h => by simp [Ty.sames] at h
  | t :: r, t' :: r', h => by
    simp [Ty.sames] at h
    rw [Ty.same_eq h.1, Ty.sames_eq h.2]
end

theorem Br_iff {c : Bool} {X Y : Prop} : Br c X Y ↔ (c = true → X) ∧ (c = false → Y) := by cases c <;> simp [Br]
theorem Need_iff {c : Bool} {X : Prop} : Need c X ↔ c = true ∧ X := by cases c <;> simp [Need]
theorem ifSome_iff {α : Type} {o : Option α} {F : α → Prop} : ifSome o F ↔ ∃ x, o = some x ∧ F x := by cases o <;> simp [ifSome]
theorem deref_iff {p : Option Addr} {F : Addr → Prop} : deref p F ↔ ∃ a, p = some a ∧ F a := by cases p <;> simp [deref]

theorem nth_eq {α : Type} : ∀ (l : List α) (n : Nat), nth l n = l[n]?
  | [], n => by simp [nth]
  | x :: r, 0 => by simp [nth]
  | x :: r, n + 1 => by simp [nth, nth_eq r n]
theorem hasN_iff {l : List Nat} {n : Nat} : hasN l n = true ↔ n ∈ l := by
  induction l with
  | nil => simp [hasN]
  | cons x r ih =>
    unfold hasN
    cases h : Nat.beq x n with
    | true => simp [nbeq.1 h]
    | false => simp [ih, (nbeq_false.1 h).symm]

theorem ad_eq (a : Addr) (n : Nat) : ad a n = a.add n := by
  cases n <;> simp [ad, Addr.add]
theorem add_add (a : Addr) (m n : Nat) : (a.add m).add n = a.add (m + n) := by
  unfold Addr.add
  by_cases h1 : m = 0 <;> by_cases h2 : n = 0 <;> simp [h1, h2, Nat.add_assoc]

/-! ### cells and shapes -/
theorem cellsL_eq (l : List SV) : SV.cellsL l = l.flatMap SV.cells := by
  induction l with
  | nil => simp [SV.cellsL]
  | cons x r ih => simp [SV.cellsL, ih]
theorem encL_eq (l : List SV) : SV.encL l = l.map SV.enc := by
  induction l with
  | nil => simp [SV.encL]
  | cons x r ih => simp [SV.encL, ih]

mutual
theorem shape_size : ∀ {v : SV} {t : Ty}, v.shape t = true → v.cells.length = t.size
  | .int _ _, t, h => by cases t <;> simp [SV.shape] at h; simp [SV.cells, Ty.size]
  | .bool _, t, h => by cases t <;> simp [SV.shape] at h; simp [SV.cells, Ty.size]
  | .str _, t, h => by cases t <;> simp [SV.shape] at h; simp [SV.cells, Ty.size]
  | .ptr _, t, h => by cases t <;> simp [SV.shape] at h; simp [SV.cells, Ty.size]
  | .slice _, t, h => by cases t <;> simp [SV.shape] at h; simp [SV.cells, Ty.size]
  | .map _, t, h => by cases t <;> simp [SV.shape] at h; simp [SV.cells, Ty.size]
  | .arr _ _ _, t, h => by cases t <;> simp [SV.shape] at h; simp [SV.cells, Ty.size, h.2]
  | .struct l, t, h => by
    cases t <;> simp [SV.shape] at h
    simp [SV.cells, Ty.size, shapes_size h]
  | .tuple _, t, h => by cases t <;> simp [SV.shape] at h
  | .clo _ _, t, h => by cases t <;> simp [SV.shape] at h
  | .lptr _ _ _, t, h => by cases t <;> simp [SV.shape] at h
  | .box _ _ _, t, h => by cases t <;> simp [SV.shape] at h
  | .raw _, t, h => by cases t <;> simp [SV.shape] at h
theorem shapes_size : ∀ {l : List SV} {ts : List Ty}, SV.shapes l ts = true → (SV.cellsL l).length = Ty.sizes ts
  | [], [], _ => rfl
  | [], _ :: _, h => by simp [SV.shapes] at h
  | _ :: _, [], h => by simp [SV.shapes] at h
  | x :: r, t :: s, h => by
    simp [SV.shapes] at h
    simp [SV.cellsL, Ty.sizes, shape_size h.1, shapes_size h.2]
end

theorem shape_plain {v : SV} {t : Ty} (h : v.shape t = true) : plain v = true := by
  cases v <;> first | rfl | (cases t <;> simp [SV.shape] at h)

theorem shapes_length : ∀ {l : List SV} {ts : List Ty}, SV.shapes l ts = true → l.length = ts.length
  | [], [], _ => rfl
  | [], _ :: _, h => by simp [SV.shapes] at h
  | _ :: _, [], h => by simp [SV.shapes] at h
  | x :: r, t :: s, h => by simp [SV.shapes] at h; simp [shapes_length h.2]

/-- a value of a shape as Go's value -/
theorem enc_cells {v : SV} {t : Ty} (h : v.shape t = true) : v.enc.cells = v.cells.toArray := by
  cases v <;> first
    | (simp [SV.enc, SV.cells, Value.cells, Sl.val]; done)
    | (cases t <;> simp [SV.shape] at h)
theorem enc_agg {v : SV} {t : Ty} (h : v.shape t = true) (ha : isAggTy t = true) : v.enc = .agg v.cells.toArray := by
  cases v <;> cases t <;> simp [SV.shape, isAggTy] at h ha <;> simp [SV.enc, SV.cells]
theorem enc_scalar {v : SV} {t : Ty} (h : v.shape t = true) (ha : isAggTy t = false) : v.cells = [v.enc] := by
  cases v <;> cases t <;> simp [SV.shape, isAggTy] at h ha <;> simp [SV.enc, SV.cells]

mutual
/-- the cells of a shaped value are one cell's values each -/
theorem cells_one : ∀ {v : SV} {t : Ty}, v.shape t = true → ∀ u ∈ v.cells, u.oneCell' = true
  | .int _ _, t, h => by simp [SV.cells, Value.oneCell']
  | .bool _, t, h => by simp [SV.cells, Value.oneCell']
  | .str _, t, h => by simp [SV.cells, Value.oneCell']
  | .ptr _, t, h => by simp [SV.cells, Value.oneCell']
  | .slice _, t, h => by simp [SV.cells, Value.oneCell', Sl.val]
  | .map _, t, h => by simp [SV.cells, Value.oneCell']
  | .arr _ _ _, t, h => by simp [SV.cells, Value.oneCell']
  | .struct l, t, h => by
    cases t <;> simp [SV.shape] at h
    simpa [SV.cells] using cellsL_one h
  | .tuple _, t, h => by cases t <;> simp [SV.shape] at h
  | .clo _ _, t, h => by cases t <;> simp [SV.shape] at h
  | .lptr _ _ _, t, h => by cases t <;> simp [SV.shape] at h
  | .box _ _ _, t, h => by cases t <;> simp [SV.shape] at h
  | .raw _, t, h => by cases t <;> simp [SV.shape] at h
theorem cellsL_one : ∀ {l : List SV} {ts : List Ty}, SV.shapes l ts = true → ∀ u ∈ SV.cellsL l, u.oneCell' = true
  | [], [], _ => by simp [SV.cellsL]
  | [], _ :: _, h => by simp [SV.shapes] at h
  | _ :: _, [], h => by simp [SV.shapes] at h
  | x :: r, t :: s, h => by
    simp [SV.shapes] at h
    intro u hu
    simp only [SV.cellsL, List.mem_append] at hu
    exact hu.elim (cells_one h.1 u) (cellsL_one h.2 u)
end

mutual
theorem zero_shape : ∀ {t : Ty} {z : SV}, t.zero = some z → z.shape t = true
  | .int k, z, h => by simp [Ty.zero] at h; subst h; simp [SV.shape, ksame_refl]
  | .bool, z, h => by simp [Ty.zero] at h; subst h; simp [SV.shape]
  | .str, z, h => by simp [Ty.zero] at h; subst h; simp [SV.shape]
  | .ptr e, z, h => by simp [Ty.zero] at h; subst h; simp [SV.shape]
  | .slice e, z, h => by simp [Ty.zero] at h; subst h; simp [SV.shape]
  | .map, z, h => by simp [Ty.zero] at h; subst h; simp [SV.shape]
  | .arr k n, z, h => by simp [Ty.zero] at h; subst h; simp [SV.shape, ksame_refl]
  | .struct b ts, z, h => by
    simp only [Ty.zero] at h
    cases hz : Ty.zeros ts with
    | none => simp [hz] at h
    | some l => simp [hz] at h; subst h; simp [SV.shape, zeros_shapes hz]
  | .tuple ts, z, h => by simp [Ty.zero] at h
  | .other, z, h => by simp [Ty.zero] at h
theorem zeros_shapes : ∀ {ts : List Ty} {l : List SV}, Ty.zeros ts = some l → SV.shapes l ts = true
  | [], l, h => by simp [Ty.zeros] at h; subst h; simp [SV.shapes]
  | t :: r, l, h => by
    simp only [Ty.zeros] at h
    cases h1 : t.zero with
    | none => simp [h1] at h
    | some x =>
      cases h2 : Ty.zeros r with
      | none => simp [h1, h2] at h
      | some l' => simp [h1, h2] at h; subst h; simp [SV.shapes, zero_shape h1, zeros_shapes h2]
end

/-! ### the table of types against the program -/
def fieldsOK (X : Tab) : List Field → List Ty → Nat → Prop
  | [], [], _ => True
  | f :: fr, t :: tr, off => f.offset = off ∧ X.T f.type = t ∧ (f.name == "_") = false ∧ fieldsOK X fr tr (off + t.size)
  | _, _, _ => False

def tyOK (X : Tab) (t : Nat) : Ty → Prop
  | .int k => X.P.underlying t = some (.int k)
  | .bool => X.P.underlying t = some .bool
  | .str => X.P.underlying t = some .string
  | .ptr e => X.P.underlying t = some (.pointer e)
  | .slice e => X.P.underlying t = some (.slice e)
  | .map => ∃ k e, X.P.underlying t = some (.map k e)
  | .arr k n => ∃ e, X.P.underlying t = some (.array n e) ∧ X.T e = .int k
  | .struct false ts => ∃ fs, X.P.underlying t = some (.struct fs) ∧ fieldsOK X fs.toList ts 0 ∧ X.P.stoodInHeld t = false
  | .struct true ts => ∃ n e, X.P.underlying t = some (.array n e) ∧ ts = List.replicate n (X.T e) ∧ isData (X.T e) = true
  | _ => True

structure TabOK (X : Tab) : Prop where
  ty : ∀ t, tyOK X t (X.T t)
  info : ∀ t, isData (X.T t) = true → ∃ i, X.P.info? t = some i ∧ i.size = (X.T t).size ∧ i.bytes = X.B t ∧ ∀ z, (X.T t).zero = some z → i.zero = some z.enc
  eqg : ∀ t, (X.T t).cmp = true → X.P.eqGuardType X.P.depth t = false
  call : ∀ f, X.C f = true → ∃ fn, X.P.funcs[f]? = some fn ∧ fn.body.isNone = false ∧ (fn.name == "runtime.NumGoroutine") = false
  mixed : X.P.follows .mixedOrders = true
end Go.Vc
end

section
namespace Go.Vc
set_option linter.unusedSimpArgs false
set_option linter.unusedVariables false
set_option autoImplicit false

theorem extract_mid (pre m post : List Value) : (pre ++ m ++ post).toArray.extract pre.length (pre.length + m.length) = m.toArray := by
  apply Array.ext'
  simp [List.extract_eq_take_drop, List.append_assoc]

section
variable {X : Tab} (ok : TabOK X)
include ok

theorem isAgg_run (t : Nat) (ht : isData (X.T t) = true) (w : World) : (isAgg t).run X.P w = .ok (isAggTy (X.T t)) w := by
  have h := ok.ty t
  unfold isAgg
  cases hT : X.T t <;> simp only [hT, tyOK, isData] at h ht
  case struct b ts =>
    cases b with
    | false => obtain ⟨fs, h, _⟩ := h; rw [Sem.run_bind, run_underlying h]; simp [isAggTy]
    | true => obtain ⟨n, e, h, _⟩ := h; rw [Sem.run_bind, run_underlying h]; simp [isAggTy]
  case arr k n => obtain ⟨e, h, _⟩ := h; rw [Sem.run_bind, run_underlying h]; simp [isAggTy]
  case map => obtain ⟨k, e, h⟩ := h; rw [Sem.run_bind, run_underlying h]; simp [isAggTy]
  case tuple => cases ht
  case other => cases ht
  all_goals (rw [Sem.run_bind, run_underlying h]; simp [isAggTy])

theorem sizeOf_run (t : Nat) (ht : isData (X.T t) = true) (w : World) : (sizeOf t).run X.P w = .ok (X.T t).size w := by
  obtain ⟨i, hi, hs, _⟩ := ok.info t ht
  simp [sizeOf, typeInfo, hi, hs]

/-- a part of a value of cells -/
theorem part_run (t : Nat) (ht : isData (X.T t) = true) (v : SV) (hv : v.shape (X.T t) = true) (pre post : List Value) (off : Nat) (ho : off = pre.length) (w : World) :
    (part t (pre ++ v.cells ++ post).toArray off).run X.P w = .ok v.enc w := by
  subst ho
  have hs := shape_size hv
  unfold part
  rw [Sem.run_bind, isAgg_run ok t ht]
  simp only [Result.andThen_ok]
  cases ha : isAggTy (X.T t) with
  | true =>
    simp only [if_true, Sem.run_bind, sizeOf_run ok t ht, Result.andThen_ok, Sem.run_pure]
    rw [enc_agg hv ha]
    rw [← hs, extract_mid]
  | false =>
    rw [enc_scalar hv ha] at *
    simp

/-- the fields of a struct against its cells -/
theorem eqFields_run (d : Nat) (ih : ∀ (t : Nat) (a b : SV), (X.T t).cmp = true → (X.T t).depth < d → a.shape (X.T t) = true → b.shape (X.T t) = true → isData (X.T t) = true → ∀ w, (Op.equalIn d t a.enc b.enc).run X.P w = .ok (eqSV a b) w) :
    ∀ (fs : List Field) (ts : List Ty) (l m : List SV) (pa pb : List Value) (off : Nat), fieldsOK X fs ts off → off = pa.length → off = pb.length → Ty.cmps ts = true → (∀ t ∈ ts, t.depth < d) →
      SV.shapes l ts = true → SV.shapes m ts = true → (∀ t ∈ ts, isData t = true) → ∀ w, (Op.eqFields d (pa ++ SV.cellsL l).toArray (pb ++ SV.cellsL m).toArray fs).run X.P w = .ok (eqL l m) w
  | [], [], [], [], _, _, _, _, _, _, _, _, _, _, _, w => by simp [Op.eqFields, eqL]
  | [], _ :: _, _, _, _, _, _, h, _, _, _, _, _, _, _, _ => by simp [fieldsOK] at h
  | _ :: _, [], _, _, _, _, _, h, _, _, _, _, _, _, _, _ => by simp [fieldsOK] at h
  | [], [], _ :: _, _, _, _, _, _, _, _, _, _, h, _, _, _ => by simp [SV.shapes] at h
  | [], [], [], _ :: _, _, _, _, _, _, _, _, _, _, h, _, _ => by simp [SV.shapes] at h
  | _ :: _, _ :: _, [], _, _, _, _, _, _, _, _, _, h, _, _, _ => by simp [SV.shapes] at h
  | _ :: _, _ :: _, _ :: _, [], _, _, _, _, _, _, _, _, _, h, _, _ => by simp [SV.shapes] at h
  | f :: fs, t :: ts, x :: l, y :: m, pa, pb, off, hf, ha, hb, hc, hd, hl, hm, hD, w => by
    simp only [fieldsOK] at hf
    obtain ⟨h1, h2, h3, h4⟩ := hf
    simp only [SV.shapes, Bool.and_eq_true] at hl hm
    simp only [Ty.cmps, Bool.and_eq_true] at hc
    have hdt : isData t = true := hD t (by simp)
    subst h2
    have hne : f.name ≠ "_" := by intro e; rw [e] at h3; simp at h3
    simp only [Op.eqFields, if_pos hne, Sem.run_bind]
    have e1 := part_run ok f.type hdt x hl.1 pa (SV.cellsL l) f.offset (by omega) w
    have e2 := part_run ok f.type hdt y hm.1 pb (SV.cellsL m) f.offset (by omega) w
    simp only [SV.cellsL, ← List.append_assoc]
    rw [e1]; simp only [Result.andThen_ok]
    rw [e2]; simp only [Result.andThen_ok]
    rw [ih f.type x y hc.1 (hd _ (by simp)) hl.1 hm.1 hdt w]
    simp only [Result.andThen_ok]
    have rest := eqFields_run d ih fs ts l m (pa ++ x.cells) (pb ++ y.cells) (off + (X.T f.type).size) h4 (by simp [ha, shape_size hl.1]) (by simp [hb, shape_size hm.1]) hc.2
      (fun u hu => hd u (by simp [hu])) hl.2 hm.2 (fun u hu => hD u (by simp [hu])) w
    have hsame : eqL (x :: l) (y :: m) = (eqSV x y && eqL l m) := by
      cases l <;> cases m <;> simp [eqL]
      all_goals (cases ts <;> simp_all [SV.shapes])
    cases hxy : eqSV x y with
    | false => simp [hsame, hxy]
    | true => simp only [Bool.not_true, Bool.false_eq_true, if_false, rest, hsame, hxy, Bool.true_and]

/-- the elements of an array -/
theorem eqElems_run (d e : Nat) (he : isData (X.T e) = true) (sz : Nat) (hsz : sz = (X.T e).size) (xs ys : List Value) (g : Nat → Bool) :
    ∀ (n k : Nat), (∀ i, k ≤ i → i < k + n → ∃ a b : SV, a.shape (X.T e) = true ∧ b.shape (X.T e) = true ∧ (xs.drop (i * sz)).take sz = a.cells ∧ i * sz + sz ≤ xs.length ∧ (ys.drop (i * sz)).take sz = b.cells ∧ i * sz + sz ≤ ys.length ∧
        ∀ w, (Op.equalIn d e a.enc b.enc).run X.P w = .ok (g i) w) →
      ∀ w, ((forIn (List.range' k n) ((none : Option Bool), ()) fun i (_ : Option Bool × Unit) => do
          if !(← Op.equalIn d e (← part e xs.toArray (i * sz)) (← part e ys.toArray (i * sz))) then pure (ForInStep.done (some false, ()))
          else pure (ForInStep.yield (none, ()))) : Sem (Option Bool × Unit)).run X.P w =
        .ok (if (List.range' k n).all g then (none, ()) else (some false, ())) w
  | 0, k, _, w => by simp
  | n + 1, k, h, w => by
    obtain ⟨a, b, ha, hb, hxa, hxl, hyb, hyl, hr⟩ := h k (Nat.le_refl _) (by omega)
    have e1 : xs = xs.take (k * sz) ++ a.cells ++ xs.drop (k * sz + sz) := by
      rw [← hxa, ← List.drop_drop, List.append_assoc, List.take_append_drop, List.take_append_drop]
    have e2 : ys = ys.take (k * sz) ++ b.cells ++ ys.drop (k * sz + sz) := by
      rw [← hyb, ← List.drop_drop, List.append_assoc, List.take_append_drop, List.take_append_drop]
    have p1 := part_run ok e he a ha (xs.take (k * sz)) (xs.drop (k * sz + sz)) (k * sz) (by simp; omega) w
    have p2 := part_run ok e he b hb (ys.take (k * sz)) (ys.drop (k * sz + sz)) (k * sz) (by simp; omega) w
    rw [← e1] at p1
    rw [← e2] at p2
    rw [List.range'_succ, List.forIn_cons]
    simp only [Sem.run_bind, p1, p2, hr, Result.andThen_ok]
    cases hg : g k with
    | false => simp [hg]
    | true =>
      have rest := eqElems_run d e he sz hsz xs ys g n (k + 1) (fun i h1 h2 => h i (by omega) (by omega)) w
      simp only [Bool.not_true, Bool.false_eq_true, if_false, Sem.run_pure, Result.andThen_ok, rest]
      simp only [List.all_cons, hg, Bool.true_and]

omit ok in
theorem fields_data : ∀ {fs : List Field} {ts : List Ty} {off : Nat}, fieldsOK X fs ts off → Ty.cmps ts = true → ∀ t ∈ ts, isData t = true ∧ t.cmp = true ∧ t.depth ≤ Ty.depths ts
  | _, [], _, _, _ => by simp
  | [], _ :: _, _, h, _ => by simp [fieldsOK] at h
  | f :: fs, t :: ts, off, h, hc => by
    simp only [fieldsOK] at h
    simp only [Ty.cmps, Bool.and_eq_true] at hc
    intro u hu
    rcases List.mem_cons.1 hu with rfl | hu
    · refine ⟨?_, hc.1, by simp [Ty.depths]⟩
      cases u <;> simp [Ty.cmp] at hc <;> rfl
    · have := fields_data h.2.2.2 hc.2 u hu
      exact ⟨this.1, this.2.1, by simp only [Ty.depths]; omega⟩

theorem eq_run : ∀ (d : Nat) (t : Nat) (a b : SV), (X.T t).cmp = true → (X.T t).depth < d → a.shape (X.T t) = true → b.shape (X.T t) = true → isData (X.T t) = true →
    ∀ w, (Op.equalIn d t a.enc b.enc).run X.P w = .ok (eqSV a b) w := by
  intro d
  induction d with
  | zero => intro t a b hc hd; omega
  | succ d ih =>
    intro t a b hc hd ha hb hD w
    have h := ok.ty t
    cases hT : X.T t <;> rw [hT] at h hc ha hb hd <;> simp only [tyOK] at h
    case int k =>
      cases a <;> simp [SV.shape] at ha
      cases b <;> simp [SV.shape] at hb
      have e1 := ksame_eq ha
      have e2 := ksame_eq hb
      subst e1; subst e2
      simp [SV.enc, Op.equalIn, run_underlying h, eqSV]
    case bool =>
      cases a <;> simp [SV.shape] at ha
      cases b <;> simp [SV.shape] at hb
      simp [SV.enc, Op.equalIn, run_underlying h, eqSV]
    case str =>
      cases a <;> simp [SV.shape] at ha
      cases b <;> simp [SV.shape] at hb
      simp [SV.enc, Op.equalIn, run_underlying h, eqSV]
    case arr k n =>
      obtain ⟨e, hu, he⟩ := h
      cases a <;> simp [SV.shape] at ha
      cases b <;> simp [SV.shape] at hb
      rename_i ka na f kb nb g
      obtain ⟨a1, rfl⟩ := ha
      obtain ⟨b1, rfl⟩ := hb
      obtain rfl := ksame_eq a1
      obtain rfl := ksame_eq b1
      have heD : isData (X.T e) = true := by rw [he]; rfl
      have hk := ok.ty e
      rw [he] at hk
      simp only [tyOK] at hk
      obtain ⟨d, rfl⟩ : ∃ m, d = m + 1 := ⟨d - 1, by simp [Ty.depth] at hd; omega⟩
      have hrow : ∀ (q : Nat → Int) (i : Nat), i < nb → (((List.range nb).map fun i => Value.int kb (q i)).drop (i * 1)).take 1 = (SV.int kb (q i)).cells := by
        intro q i hi
        rw [Nat.mul_one, List.drop_eq_getElem_cons (by simpa using hi)]
        simp [SV.cells]
      have hel := eqElems_run ok (d + 1) e heD 1 (by rw [he]; rfl) ((List.range nb).map fun i => Value.int kb (f i)) ((List.range nb).map fun i => Value.int kb (g i)) (fun i => f i == g i) nb 0
        (fun i _ hi => ⟨.int kb (f i), .int kb (g i), by rw [he]; simp [SV.shape, ksame_refl], by rw [he]; simp [SV.shape, ksame_refl], hrow f i (by omega), by simp; omega, hrow g i (by omega), by simp; omega,
          fun w => by simp [SV.enc, Op.equalIn, run_underlying hk]⟩) w
      have hsz := sizeOf_run ok e heD w
      rw [he] at hsz
      simp only [Ty.size] at hsz
      simp only [SV.enc]
      rw [Op.equalIn]
      simp only [Sem.run_bind, run_underlying hu, Result.andThen_ok, hsz]
      rw [Std.Legacy.Range.forIn_eq_forIn_range']
      have hr : List.range' [:nb].start [:nb].size [:nb].step = List.range' 0 nb := by simp [Std.Legacy.Range.size]
      rw [hr, hel]
      have hall : eqSV (SV.arr kb nb f) (SV.arr kb nb g) = (List.range' 0 nb).all fun i => f i == g i := by
        simp only [eqSV, eqArr, List.range_eq_range']
      rw [hall]
      cases (List.range' 0 nb).all fun i => f i == g i <;> simp
    case struct c ts =>
      cases c with
      | true => simp [Ty.cmp] at hc
      | false =>
        simp only [tyOK] at h
        obtain ⟨fs, hu, hf, hst⟩ := h
        cases a <;> simp [SV.shape] at ha
        cases b <;> simp [SV.shape] at hb
        rename_i l m
        simp only [Ty.cmp] at hc
        have hfo : X.P.fieldsOf t = fs := by simp [Program.fieldsOf, hu]
        have hall := fields_data hf hc
        simp only [SV.enc]
        rw [run_equalIn_struct w d t _ _ (by rw [hfo]; exact hu) hst, hfo]
        simp only [Ty.depth] at hd
        have := eqFields_run ok d (fun t a b h1 h2 h3 h4 h5 => ih t a b h1 h2 h3 h4 h5) fs.toList ts l m [] [] 0 hf rfl rfl hc (fun u hu => by have := (hall u hu).2.2; omega) ha hb (fun u hu => (hall u hu).1) w
        simpa [eqSV] using this
    all_goals (simp [Ty.cmp] at hc)
end
end Go.Vc
end

section
namespace Go.Vc
set_option linter.unusedSimpArgs false
set_option linter.unusedVariables false
set_option autoImplicit false

/-- where a path leads: the place's number among the cells, and its type -/
def PathAt : Ty → List Nat → Nat → Ty → Prop
  | t, [], off, u => off = 0 ∧ u = t
  | .struct _ ts, i :: p, off, u => ∃ t o, nth ts i = some t ∧ PathAt t p o u ∧ off = Ty.off ts i + o
  | .arr k n, [i], off, u => i < n ∧ off = i ∧ u = .int k
  | _, _, _, _ => False

def RelV (X : Tab) (s : St) (v : Value) : SV → Prop
  | .lptr id off p => ∀ b t c, s.bx id = some (.box b t c) → v = .pointer (some ⟨b, off, none⟩) ∧ ∃ u, PathAt (X.T t) p off u
  | .box _ _ _ => False
  | sv => v = sv.enc

theorem relv_plain {X : Tab} {s : St} {v : Value} {x : SV} (h : plain x = true) : RelV X s v x ↔ v = x.enc := by
  cases x <;> simp [plain] at h <;> simp [RelV]

theorem relv_shape {X : Tab} {s : St} {v : Value} {x : SV} {t : Ty} (h : x.shape t = true) : RelV X s v x ↔ v = x.enc := relv_plain (shape_plain h)

theorem path_ty : ∀ {t : Ty} {p : List Nat} {off : Nat} {u : Ty}, PathAt t p off u → tyPath t p = some u
  | t, [], off, u, h => by cases t <;> simp_all [PathAt, tyPath]
  | .struct b ts, i :: p, off, u, h => by
    simp only [PathAt] at h
    obtain ⟨t, o, h1, h2, _⟩ := h
    simp only [tyPath, h1]
    exact path_ty h2
  | .arr k n, [i], off, u, h => by simp only [PathAt] at h; simp [tyPath, h.2.2]
  | .arr k n, i :: j :: p, off, u, h => by simp [PathAt] at h
  | .int _, _ :: _, _, _, h => by simp [PathAt] at h
  | .bool, _ :: _, _, _, h => by simp [PathAt] at h
  | .str, _ :: _, _, _, h => by simp [PathAt] at h
  | .ptr _, _ :: _, _, _, h => by simp [PathAt] at h
  | .slice _, _ :: _, _, _, h => by simp [PathAt] at h
  | .map, _ :: _, _, _, h => by simp [PathAt] at h
  | .tuple _, _ :: _, _, _, h => by simp [PathAt] at h
  | .other, _ :: _, _, _, h => by simp [PathAt] at h

theorem path_snoc : ∀ {t : Ty} {p : List Nat} {off : Nat} {b : Bool} {ts : List Ty} {i : Nat} {u : Ty}, PathAt t p off (.struct b ts) → nth ts i = some u → PathAt t (p ++ [i]) (off + Ty.off ts i) u
  | t, [], off, b, ts, i, u, h, hu => by
    cases t <;> simp only [PathAt] at h <;> (obtain ⟨rfl, h⟩ := h) <;> cases h
    simp only [List.nil_append, PathAt]
    exact ⟨u, 0, hu, by cases u <;> simp [PathAt], by omega⟩
  | .struct c us, j :: p, off, b, ts, i, u, h, hu => by
    simp only [PathAt] at h
    obtain ⟨t, o, h1, h2, rfl⟩ := h
    simp only [List.cons_append, PathAt]
    exact ⟨t, o + Ty.off ts i, h1, path_snoc h2 hu, by omega⟩
  | .arr k n, [j], off, b, ts, i, u, h, hu => by simp [PathAt] at h
  | .arr k n, j :: l :: p, off, b, ts, i, u, h, hu => by simp [PathAt] at h
  | .int _, _ :: _, _, _, _, _, _, h, _ => by simp [PathAt] at h
  | .bool, _ :: _, _, _, _, _, _, h, _ => by simp [PathAt] at h
  | .str, _ :: _, _, _, _, _, _, h, _ => by simp [PathAt] at h
  | .ptr _, _ :: _, _, _, _, _, _, h, _ => by simp [PathAt] at h
  | .slice _, _ :: _, _, _, _, _, _, h, _ => by simp [PathAt] at h
  | .map, _ :: _, _, _, _, _, _, h, _ => by simp [PathAt] at h
  | .tuple _, _ :: _, _, _, _, _, _, h, _ => by simp [PathAt] at h
  | .other, _ :: _, _, _, _, _, _, h, _ => by simp [PathAt] at h

theorem path_snoc_arr : ∀ {t : Ty} {p : List Nat} {off : Nat} {k : IntKind} {n i : Nat}, PathAt t p off (.arr k n) → i < n → PathAt t (p ++ [i]) (off + i) (.int k)
  | t, [], off, k, n, i, h, hi => by
    cases t <;> simp only [PathAt] at h <;> (obtain ⟨rfl, h⟩ := h) <;> cases h
    simp only [List.nil_append, PathAt]
    exact ⟨hi, by omega, trivial⟩
  | .struct c us, j :: p, off, k, n, i, h, hi => by
    simp only [PathAt] at h
    obtain ⟨t, o, h1, h2, rfl⟩ := h
    simp only [List.cons_append, PathAt]
    exact ⟨t, o + i, h1, path_snoc_arr h2 hi, by omega⟩
  | .arr k' n', [j], off, k, n, i, h, hi => by simp [PathAt] at h
  | .arr k' n', j :: l :: p, off, k, n, i, h, hi => by simp [PathAt] at h
  | .int _, _ :: _, _, _, _, _, h, _ => by simp [PathAt] at h
  | .bool, _ :: _, _, _, _, _, h, _ => by simp [PathAt] at h
  | .str, _ :: _, _, _, _, _, h, _ => by simp [PathAt] at h
  | .ptr _, _ :: _, _, _, _, _, h, _ => by simp [PathAt] at h
  | .slice _, _ :: _, _, _, _, _, h, _ => by simp [PathAt] at h
  | .map, _ :: _, _, _, _, _, h, _ => by simp [PathAt] at h
  | .tuple _, _ :: _, _, _, _, _, h, _ => by simp [PathAt] at h
  | .other, _ :: _, _, _, _, _, h, _ => by simp [PathAt] at h

theorem off_replicate (t : Ty) : ∀ (n i : Nat), i ≤ n → Ty.off (List.replicate n t) i = i * t.size
  | 0, i, h => by obtain rfl : i = 0 := by omega
                  simp [Ty.off]
  | n + 1, 0, h => by simp [Ty.off]
  | n + 1, i + 1, h => by
    simp only [List.replicate_succ, Ty.off, off_replicate t n i (by omega)]
    rw [Nat.add_mul, Nat.one_mul, Nat.add_comm]
theorem nth_replicate {α : Type} (x : α) (n i : Nat) (h : i < n) : nth (List.replicate n x) i = some x := by simp [nth_eq, h]

/-- the cells of a part of a list of values -/
theorem nth_split : ∀ {l : List SV} {ts : List Ty} {i : Nat} {x : SV}, SV.shapes l ts = true → nth l i = some x →
    ∃ t, nth ts i = some t ∧ x.shape t = true ∧ ∃ pre post, SV.cellsL l = pre ++ x.cells ++ post ∧ pre.length = Ty.off ts i ∧ ∀ y : SV, SV.cellsL (setNth l i y) = pre ++ y.cells ++ post
  | [], _, i, x, _, h => by simp [nth] at h
  | _ :: _, [], _, _, h, _ => by simp [SV.shapes] at h
  | y :: r, t :: ts, 0, x, hs, h => by
    simp [nth] at h; subst h
    simp only [SV.shapes, Bool.and_eq_true] at hs
    exact ⟨t, rfl, hs.1, [], SV.cellsL r, by simp [SV.cellsL], by simp [Ty.off], fun z => by simp [setNth, SV.cellsL]⟩
  | y :: r, t :: ts, i + 1, x, hs, h => by
    simp only [nth] at h
    simp only [SV.shapes, Bool.and_eq_true] at hs
    obtain ⟨u, h1, h2, pre, post, h3, h4, h5⟩ := nth_split hs.2 h
    exact ⟨u, by simpa [nth] using h1, h2, y.cells ++ pre, post, by simp [SV.cellsL, h3], by simp [Ty.off, shape_size hs.1, h4], fun z => by simp [setNth, SV.cellsL, h5]⟩

theorem nth_some_of_shapes : ∀ {l : List SV} {ts : List Ty} {i : Nat} {t : Ty}, SV.shapes l ts = true → nth ts i = some t → ∃ x, nth l i = some x ∧ x.shape t = true
  | [], [], i, t, _, h => by simp [nth] at h
  | [], _ :: _, _, _, h, _ => by simp [SV.shapes] at h
  | _ :: _, [], _, _, h, _ => by simp [SV.shapes] at h
  | y :: r, u :: ts, 0, t, hs, h => by
    simp [nth] at h; subst h
    simp only [SV.shapes, Bool.and_eq_true] at hs
    exact ⟨y, rfl, hs.1⟩
  | y :: r, u :: ts, i + 1, t, hs, h => by
    simp only [nth] at h
    simp only [SV.shapes, Bool.and_eq_true] at hs
    simpa [nth] using nth_some_of_shapes hs.2 h

theorem shapes_set : ∀ {l : List SV} {ts : List Ty} {i : Nat} {t : Ty} {y : SV}, SV.shapes l ts = true → nth ts i = some t → y.shape t = true → SV.shapes (setNth l i y) ts = true
  | [], [], i, t, y, _, h, _ => by simp [nth] at h
  | [], _ :: _, _, _, _, h, _, _ => by simp [SV.shapes] at h
  | _ :: _, [], _, _, _, h, _, _ => by simp [SV.shapes] at h
  | z :: r, u :: ts, 0, t, y, hs, h, hy => by
    simp [nth] at h; subst h
    simp only [SV.shapes, Bool.and_eq_true] at hs
    simp [setNth, SV.shapes, hy, hs.2]
  | z :: r, u :: ts, i + 1, t, y, hs, h, hy => by
    simp only [nth] at h
    simp only [SV.shapes, Bool.and_eq_true] at hs
    simp [setNth, SV.shapes, hs.1, shapes_set hs.2 h hy]

/-- what lies at a path, and what a store there leaves -/
theorem path_get : ∀ {c : SV} {t : Ty} {p : List Nat} {off : Nat} {u : Ty}, c.shape t = true → PathAt t p off u →
    ∃ x, getPath c p = some x ∧ x.shape u = true ∧ ∃ pre post, c.cells = pre ++ x.cells ++ post ∧ pre.length = off ∧
      ∀ y c', y.shape u = true → setPath c p y = some c' → c'.shape t = true ∧ c'.cells = pre ++ y.cells ++ post
  | c, t, [], off, u, hc, h => by
    have : off = 0 ∧ u = t := by cases t <;> simpa [PathAt] using h
    obtain ⟨rfl, rfl⟩ := this
    refine ⟨c, by cases c <;> rfl, hc, [], [], by simp, rfl, fun y c' hy h => ?_⟩
    have : c' = y := by cases c <;> simpa [setPath, eq_comm] using h
    subst this
    exact ⟨hy, by simp⟩
  | c, .struct b ts, i :: p, off, u, hc, h => by
    simp only [PathAt] at h
    obtain ⟨t, o, h1, h2, rfl⟩ := h
    cases c <;> simp [SV.shape] at hc
    rename_i l
    obtain ⟨x, hx, hxs⟩ := nth_some_of_shapes hc h1
    obtain ⟨t', ht', _, pre, post, hcells, hlen, hset⟩ := nth_split hc hx
    rw [h1] at ht'
    obtain rfl : t = t' := by simpa using ht'
    obtain ⟨y, hy, hys, pre', post', hcells', hlen', hset'⟩ := path_get hxs h2
    refine ⟨y, by simp [getPath, hx, hy], hys, pre ++ pre', post' ++ post, by simp [SV.cells, hcells, hcells'], by simp [hlen, hlen'], fun z c' hz hs => ?_⟩
    simp only [setPath, hx] at hs
    cases hz' : setPath x p z with
    | none => simp [hz'] at hs
    | some w =>
      simp [hz'] at hs
      subst hs
      obtain ⟨g1, g2⟩ := hset' z w hz hz'
      exact ⟨by simp [SV.shape, shapes_set hc h1 g1], by simp [SV.cells, hset, g2]⟩
  | c, .arr k n, [i], off, u, hc, h => by
    simp only [PathAt] at h
    obtain ⟨h1, hoff, rfl⟩ := h
    rw [hoff]
    clear hoff
    cases c <;> simp [SV.shape] at hc
    rename_i k' n' f
    obtain ⟨hk, rfl⟩ := hc
    obtain rfl := ksame_eq hk
    have hsp : ∀ g : Nat → Int, (List.range n').map (fun j => Value.int k' (g j)) = ((List.range i).map fun j => Value.int k' (g j)) ++ [Value.int k' (g i)] ++ ((List.range' (i + 1) (n' - (i + 1))).map fun j => Value.int k' (g j)) := by
      intro g
      have : List.range n' = List.range i ++ [i] ++ List.range' (i + 1) (n' - (i + 1)) := by
        rw [List.range_eq_range', List.range_eq_range', ← List.range'_one (s := i), List.append_assoc]
        have h2 := List.range'_append_1 (s := i) (m := 1) (n := n' - (i + 1))
        rw [h2]
        have h3 := List.range'_append_1 (s := 0) (m := i) (n := 1 + (n' - (i + 1)))
        rw [Nat.zero_add] at h3
        rw [h3]
        congr 1; omega
      rw [this]; simp
    refine ⟨.int k' (f i), by simp [getPath], by simp [SV.shape, ksame_refl], (List.range i).map fun j => Value.int k' (f j), (List.range' (i + 1) (n' - (i + 1))).map fun j => Value.int k' (f j), ?_, by simp, fun y c' hy hs => ?_⟩
    · simpa [SV.cells] using hsp f
    · cases y <;> simp [SV.shape] at hy
      rename_i k2 v
      obtain rfl := ksame_eq hy
      simp [setPath] at hs
      subst hs
      refine ⟨by simp [SV.shape, ksame_refl], ?_⟩
      simp only [SV.cells]
      rw [hsp]
      congr 1
      · congr 1
        · apply List.map_congr_left
          intro j hj
          have : j ≠ i := by simp at hj; omega
          simp [fset, nbeq_false.2 this]
        · simp [fset]
      · apply List.map_congr_left
        intro j hj
        have : j ≠ i := by simp at hj; omega
        simp [fset, nbeq_false.2 this]
  | _, .arr k n, i :: j :: p, off, u, _, h => by simp [PathAt] at h
  | _, .int _, _ :: _, _, _, _, h => by simp [PathAt] at h
  | _, .bool, _ :: _, _, _, _, h => by simp [PathAt] at h
  | _, .str, _ :: _, _, _, _, h => by simp [PathAt] at h
  | _, .ptr _, _ :: _, _, _, _, h => by simp [PathAt] at h
  | _, .slice _, _ :: _, _, _, _, h => by simp [PathAt] at h
  | _, .map, _ :: _, _, _, _, h => by simp [PathAt] at h
  | _, .tuple _, _ :: _, _, _, _, h => by simp [PathAt] at h
  | _, .other, _ :: _, _, _, _, h => by simp [PathAt] at h
end Go.Vc
end

section
namespace Go.Vc
set_option linter.unusedSimpArgs false
set_option linter.unusedVariables false
set_option autoImplicit false

/-- what an operation yields in whatever world -/
def Yield (P : Program) (o : Oper) (ρ : Operand → Value) (v : Value) : Prop := ∀ w, (execOp ρ o).run P w = .ok (.value v) w

section
variable {X : Tab} (ok : TabOK X) {s : St} {o : Oper} {ρ : Operand → Value} (hρ : ∀ x v, s.ev x = some v → RelV X s (ρ x) v) {F : SV → Prop}

theorem intVC_sound {op : BinOp} {k : IntKind} {a b : Int} (h : intVC op k a b F) (hop : op ≠ .shl ∧ op ≠ .shr) :
    ∃ sv, plain sv = true ∧ F sv ∧ ∀ t P w, (binOp op t (.int k a) (.int k b)).run P w = .ok sv.enc w := by
  cases op <;> simp only [intVC, Need_iff] at h <;> simp only [ne_eq, not_true_eq_false, false_and, and_false] at hop
  case add => exact ⟨_, rfl, h, fun t P w => by simp [binOp, Op.intArith, SV.enc, wr]⟩
  case sub => exact ⟨_, rfl, h, fun t P w => by simp [binOp, Op.intArith, SV.enc, wr]⟩
  case mul => exact ⟨_, rfl, h, fun t P w => by simp [binOp, Op.intArith, SV.enc, wr]⟩
  case quo => exact ⟨_, rfl, h.2, fun t P w => by have := h.1; simp at this; simp [binOp, Op.intDiv, SV.enc, wr, this]⟩
  case rem => exact ⟨_, rfl, h.2, fun t P w => by have := h.1; simp at this; simp [binOp, Op.intDiv, SV.enc, wr, this]⟩
  case and => exact ⟨_, rfl, h, fun t P w => by simp [binOp, Op.intBits, SV.enc, iand, ibits]⟩
  case or => exact ⟨_, rfl, h, fun t P w => by simp [binOp, Op.intBits, SV.enc, ior, ibits]⟩
  case xor => exact ⟨_, rfl, h, fun t P w => by simp [binOp, Op.intBits, SV.enc, ixor, ibits]⟩
  case andNot => exact ⟨_, rfl, h, fun t P w => by simp [binOp, Op.intBits, SV.enc, iandnot, ibits]⟩
  case eql => exact ⟨_, rfl, h, fun t P w => by simp [binOp, Op.intCmp, SV.enc]⟩
  case neq => exact ⟨_, rfl, h, fun t P w => by simp [binOp, Op.intCmp, SV.enc]⟩
  case lss => exact ⟨_, rfl, h, fun t P w => by simp [binOp, Op.intCmp, SV.enc]⟩
  case leq => exact ⟨_, rfl, h, fun t P w => by simp [binOp, Op.intCmp, SV.enc]⟩
  case gtr => exact ⟨_, rfl, h, fun t P w => by simp [binOp, Op.intCmp, SV.enc]⟩
  case geq => exact ⟨_, rfl, h, fun t P w => by simp [binOp, Op.intCmp, SV.enc]⟩

theorem equalIn_bool (P : Program) (w : World) (d t : Nat) (a b : Bool) (h : P.underlying t = some .bool) : (Op.equalIn (d + 1) t (.bool a) (.bool b)).run P w = .ok (a == b) w := run_equalIn_bool w d t a b h
theorem equalIn_ptr_nil (P : Program) (w : World) (d t e : Nat) (p : Option Addr) (h : P.underlying t = some (.pointer e)) : (Op.equalIn (d + 1) t (.pointer p) (.pointer none)).run P w = .ok p.isNone w := by
  cases p <;> simp [Op.equalIn, run_underlying h]
theorem equalIn_slice_nil (P : Program) (w : World) (d t e : Nat) (p : Option Addr) (l c : Nat) (h : P.underlying t = some (.slice e)) : (Op.equalIn (d + 1) t (.slice p l c) (.slice none 0 0)).run P w = .ok p.isNone w := by
  cases p <;> simp [Op.equalIn, run_underlying h]
theorem eql_of (P : Program) (t : Nat) (x y : Value) (b : Bool) (hx : ∀ w, (Op.equalIn (9999 + 1) t x y).run P w = .ok b w)
    (h1 : binOp .eql t x y = (do pure (.bool (← Op.equal t x y)))) (h2 : binOp .neq t x y = (do pure (.bool (!(← Op.equal t x y))))) (w : World) :
    (binOp .eql t x y).run P w = .ok (.bool b) w ∧ (binOp .neq t x y).run P w = .ok (.bool (!b)) w := by
  have e : (Op.equal t x y).run P w = .ok b w := by unfold Op.equal Op.maxDepth; exact hx w
  rw [h1, h2]
  simp [e]
theorem eqGuard_int (op : BinOp) (t : Nat) (x y : Operand) (k k' : IntKind) (a b : Int) (P : Program) (w : World) : (eqGuard op t x y (.int k a) (.int k' b)).run P w = .ok () w := by
  cases op <;> simp [eqGuard]

include ok in
theorem eqVC_sound {op : BinOp} {t : Nat} {a b : SV} {x y : Operand} (h : eqVC X t op a b F) :
    ∃ sv, plain sv = true ∧ F sv ∧ ∀ w, ((do eqGuard op t x y a.enc b.enc; binOp op t a.enc b.enc : Sem Value)).run X.P w = .ok sv.enc w := by
  unfold eqVC at h
  cases hc : (X.T t).cmp && Nat.ble (X.T t).depth 50 && a.shape (X.T t) && b.shape (X.T t) with
  | false => simp [hc] at h
  | true =>
    rw [hc] at h
    simp only [Bool.and_eq_true] at hc
    obtain ⟨⟨⟨hcmp, hd⟩, ha⟩, hb⟩ := hc
    have hd' := Nat.le_of_ble_eq_true hd
    have hD : isData (X.T t) = true := by cases hT : X.T t <;> rw [hT] at hcmp <;> simp [Ty.cmp] at hcmp <;> rfl
    have he := eq_run ok 10000 t a b hcmp (by omega) ha hb hD
    have hg := ok.eqg t hcmp
    have key : (op = .eql ∨ op = .neq) → ∀ w, ((do eqGuard op t x y a.enc b.enc; binOp op t a.enc b.enc : Sem Value)).run X.P w =
        .ok (.bool (match op with | .eql => eqSV a b | _ => !eqSV a b)) w := by
      intro hop w
      have hT' := ok.ty t
      cases hT : X.T t <;> rw [hT] at ha hb hT' hcmp <;> simp only [tyOK] at hT'
      case int k =>
        cases a <;> simp [SV.shape] at ha
        cases b <;> simp [SV.shape] at hb
        obtain rfl := ksame_eq ha
        obtain rfl := ksame_eq hb
        rcases hop with rfl | rfl <;> simp [SV.enc, eqGuard, binOp, Op.intCmp, eqSV] <;> rfl
      case bool =>
        cases a <;> simp [SV.shape] at ha
        cases b <;> simp [SV.shape] at hb
        rename_i a b
        have he := eql_of X.P t (.bool a) (.bool b) (a == b) (fun w => equalIn_bool X.P w 9999 t a b hT') rfl rfl w
        rcases hop with rfl | rfl <;> simp [SV.enc, eqGuard, he.1, he.2, eqSV]
      case str =>
        cases a <;> simp [SV.shape] at ha
        cases b <;> simp [SV.shape] at hb
        rcases hop with rfl | rfl <;> simp [SV.enc, eqGuard, binOp, Op.stringOp, eqSV, beq_toListBytes]
      case arr k n =>
        have e1 := enc_agg (t := .arr k n) ha rfl
        have e2 := enc_agg (t := .arr k n) hb rfl
        have he' := he w
        rw [e1, e2] at *
        rcases hop with rfl | rfl
        · rw [Sem.run_bind, run_eqGuard_agg w _ _ _ _ _ _ hg]; simp only [Result.andThen_ok]; rw [run_eql_struct, he']; simp
        · rw [Sem.run_bind, run_eqGuard_agg w _ _ _ _ _ _ hg]; simp only [Result.andThen_ok]; rw [run_neq_struct, he']; simp
      case struct c ts =>
        have e1 := enc_agg (t := .struct c ts) ha rfl
        have e2 := enc_agg (t := .struct c ts) hb rfl
        have he' := he w
        rw [e1, e2] at *
        rcases hop with rfl | rfl
        · rw [Sem.run_bind, run_eqGuard_agg w _ _ _ _ _ _ hg]; simp only [Result.andThen_ok]; rw [run_eql_struct, he']; simp
        · rw [Sem.run_bind, run_eqGuard_agg w _ _ _ _ _ _ hg]; simp only [Result.andThen_ok]; rw [run_neq_struct, he']; simp
      all_goals (simp [Ty.cmp] at hcmp)
    cases op <;> simp only at h
    case eql => exact ⟨_, rfl, h, fun w => by simpa [SV.enc] using key (.inl rfl) w⟩
    case neq => exact ⟨_, rfl, h, fun w => by simpa [SV.enc] using key (.inr rfl) w⟩

theorem nilVC_sound {op : BinOp} {b : Bool} (h : nilVC op b F) : (op = .eql ∧ F (.bool b)) ∨ (op = .neq ∧ F (.bool (!b))) := by
  cases op <;> simp only [nilVC] at h <;> simp [h]

include ok in
theorem binVC_sound {op : BinOp} {t : Nat} {a b : SV} {x y : Operand} {va vb : Value} (h : binVC X op t a b F) (ha : RelV X s va a) (hb : RelV X s vb b) :
    ∃ sv, plain sv = true ∧ F sv ∧ ∀ w, ((do eqGuard op t x y va vb; binOp op t va vb : Sem Value)).run X.P w = .ok sv.enc w := by
  unfold binVC at h
  split at h
  · rename_i k m k' n
    simp only [RelV, SV.enc] at ha hb
    subst ha; subst hb
    simp only [Sem.run_bind, eqGuard_int, Result.andThen_ok]
    split at h
    · rw [Need_iff] at h
      exact ⟨_, rfl, h.2, fun w => by have := h.1; simp at this; simp [binOp, Op.shift, SV.enc, gshl, Int.not_lt.2 this]⟩
    · rw [Need_iff] at h
      exact ⟨_, rfl, h.2, fun w => by have := h.1; simp at this; simp [binOp, Op.shift, SV.enc, gshr, Int.not_lt.2 this]⟩
    · rename_i h1 h2
      split at h
      · rename_i hk
        obtain rfl := ksame_eq hk
        obtain ⟨sv, p, f, r⟩ := intVC_sound h ⟨h1, h2⟩
        exact ⟨sv, p, f, fun w => r t X.P w⟩
      · cases h
  · rename_i m n
    simp only [RelV, SV.enc] at ha hb
    subst ha; subst hb
    cases op <;> simp only [strVC] at h
    · exact ⟨_, rfl, h, fun w => by simp [eqGuard, binOp, Op.stringOp, SV.enc, beq_toListBytes]⟩
    · exact ⟨_, rfl, h, fun w => by simp [eqGuard, binOp, Op.stringOp, SV.enc, beq_toListBytes]⟩
  · rename_i p
    simp only [RelV, SV.enc] at ha hb
    subst ha; subst hb
    have hT := ok.ty t
    split at h
    · rename_i e he
      rw [he] at hT
      simp only [tyOK] at hT
      have he := eql_of X.P t (.pointer p) (.pointer none) p.isNone (fun w => equalIn_ptr_nil X.P w 9999 t e p hT) rfl rfl
      rcases nilVC_sound h with ⟨rfl, hF⟩ | ⟨rfl, hF⟩
      · exact ⟨_, rfl, hF, fun w => by simp [eqGuard, (he w).1, SV.enc]⟩
      · exact ⟨_, rfl, hF, fun w => by simp [eqGuard, (he w).2, SV.enc]⟩
    · cases h
  · rename_i q r
    simp only [RelV, SV.enc, Sl.val] at ha hb
    subst ha; subst hb
    have hT := ok.ty t
    split at h
    · rename_i hc
      simp only [Bool.and_eq_true] at hc
      obtain ⟨rp, rl, rc⟩ := r
      have hr : rp = none ∧ rl = 0 ∧ rc = 0 := by
        have := hc.2
        unfold Sl.isNil at this
        cases rp with
        | none => simp at this; exact ⟨rfl, this⟩
        | some _ => cases this
      obtain ⟨rfl, rfl, rfl⟩ := hr
      have hs := hc.1
      cases hTT : X.T t <;> rw [hTT] at hs hT <;> try (cases hs; done)
      rename_i e
      simp only [tyOK] at hT
      obtain ⟨p, l, c⟩ := q
      have he := eql_of X.P t (.slice p l c) (.slice none 0 0) p.isNone (fun w => equalIn_slice_nil X.P w 9999 t e p l c hT) rfl rfl
      rcases nilVC_sound h with ⟨rfl, hF⟩ | ⟨rfl, hF⟩
      · exact ⟨_, rfl, hF, fun w => by simp [eqGuard, (he w).1, SV.enc]⟩
      · exact ⟨_, rfl, hF, fun w => by simp [eqGuard, (he w).2, SV.enc]⟩
    · cases h
  · have hsh : a.shape (X.T t) = true ∧ b.shape (X.T t) = true := by
      unfold eqVC at h
      split at h
      · rename_i hc; simp only [Bool.and_eq_true] at hc; exact ⟨hc.1.2, hc.2⟩
      · cases h
    rw [relv_shape hsh.1] at ha
    rw [relv_shape hsh.2] at hb
    subst ha; subst hb
    exact eqVC_sound ok h
end
end Go.Vc
end

section
namespace Go.Vc
set_option linter.unusedSimpArgs false
set_option linter.unusedVariables false
set_option autoImplicit false

section
variable {X : Tab} (ok : TabOK X) {s : St} {o : Oper} {ρ : Operand → Value} (hρ : ∀ x v, s.ev x = some v → RelV X s (ρ x) v) {F : SV → Prop}

theorem evs_sound (hρ : ∀ x v, s.ev x = some v → RelV X s (ρ x) v) : ∀ {xs : List Operand} {l : List SV}, s.evs xs = some l → allPlain l = true → xs.map ρ = SV.encL l
  | [], l, h, _ => by simp [St.evs] at h; subst h; simp [SV.encL]
  | x :: r, l, h, hp => by
    simp only [St.evs] at h
    cases h1 : s.ev x with
    | none => simp [h1] at h
    | some a =>
      cases h2 : s.evs r with
      | none => simp [h1, h2] at h
      | some m =>
        simp [h1, h2] at h; subst h
        simp only [allPlain, Bool.and_eq_true] at hp
        have := hρ x a h1
        rw [relv_plain hp.1] at this
        simp [SV.encL, this, evs_sound hρ h2 hp.2]

theorem evParts_sound (hρ : ∀ x v, s.ev x = some v → RelV X s (ρ x) v) : ∀ {xs : List (Nat × Operand)} {l : List (Nat × SV)}, s.evParts xs = some l → (∀ p ∈ l, plain p.2 = true) → (xs.map fun (p : Nat × Operand) => (p.1, ρ p.2)) = l.map fun p => (p.1, p.2.enc)
  | [], l, h, _ => by simp [St.evParts] at h; subst h; simp
  | (i, x) :: r, l, h, hp => by
    simp only [St.evParts] at h
    cases h1 : s.ev x with
    | none => simp [h1] at h
    | some a =>
      cases h2 : s.evParts r with
      | none => simp [h1, h2] at h
      | some m =>
        simp [h1, h2] at h; subst h
        have := hρ x a h1
        rw [relv_plain (hp (i, a) (by simp))] at this
        simp [this, evParts_sound hρ h2 (fun p hm => hp p (by simp [hm]))]

theorem buildSV_plain : ∀ {t : Ty} {l : List (Nat × SV)} {c z : SV}, buildSV t z l = some c → ∀ p ∈ l, plain p.2 = true
  | t, [], c, z, h => by simp
  | t, (i, x) :: r, c, z, h => by
    simp only [buildSV] at h
    split at h
    · split at h
      · rename_i hs
        split at h
        · intro p hp
          rcases List.mem_cons.1 hp with rfl | hp
          · exact shape_plain hs
          · exact buildSV_plain h p hp
        · cases h
      · cases h
    · cases h

def placeOff (t : Ty) (i : Nat) : Nat := match t with | .struct _ ts => Ty.off ts i | _ => i

/-- what 'fill' does to the cells is what 'buildSV' does to the value -/
theorem fill_sound {place : Nat → Option (Nat × Nat)} {t : Ty} (hplace : ∀ i u, partTy t i = some u → place i = some (placeOff t i, u.size)) :
    ∀ {l : List (Nat × SV)} {z c : SV}, z.shape t = true → buildSV t z l = some c →
      c.shape t = true ∧ Instr.fill place z.cells.toArray (l.map fun p => (p.1, p.2.enc)) = some c.cells.toArray
  | [], z, c, hz, h => by simp [buildSV] at h; subst h; exact ⟨hz, by simp [Instr.fill]⟩
  | (i, x) :: r, z, c, hz, h => by
    simp only [buildSV] at h
    split at h
    · rename_i u hu
      split at h
      · rename_i hs
        split at h
        · rename_i c' hc'
          have hpl := hplace i u hu
          have key : c'.shape t = true ∧ ∃ pre old post, z.cells = pre ++ old ++ post ∧ old.length = x.cells.length ∧ pre.length = placeOff t i ∧ c'.cells = pre ++ x.cells ++ post := by
            cases t with
            | struct b ts =>
              cases z with
              | struct l0 =>
                simp [SV.shape] at hz
                simp only [partTy] at hu
                obtain ⟨y, hy, hys⟩ := nth_some_of_shapes hz hu
                obtain ⟨u', hu', _, pre, post, h1, h2, h3⟩ := nth_split hz hy
                rw [hu] at hu'; obtain rfl : u = u' := by simpa using hu'
                simp [setPart] at hc'
                subst hc'
                exact ⟨by simp [SV.shape, shapes_set hz hu hs], pre, y.cells, post, by simp [SV.cells, h1], by rw [shape_size hys, shape_size hs], h2, by simp [SV.cells, h3]⟩
              | _ => simp [SV.shape] at hz
            | arr k n =>
              cases z with
              | arr k' n' f =>
                simp [SV.shape] at hz
                obtain ⟨hk, rfl⟩ := hz
                obtain rfl := ksame_eq hk
                simp only [partTy] at hu
                split at hu
                · rename_i hlt
                  obtain rfl : Ty.int k' = u := by simpa using hu
                  cases x with
                  | int k2 v =>
                    simp [SV.shape] at hs
                    obtain rfl := ksame_eq hs
                    simp [setPart] at hc'
                    subst hc'
                    have hlt' : i < n' := by simpa [Nat.blt_eq] using hlt
                    obtain ⟨y, hy, hys, pre, post, g1, g2, g3⟩ := path_get (c := .arr k2 n' f) (t := .arr k2 n') (p := [i]) (off := i) (u := .int k2) (by simp [SV.shape, ksame_refl]) ⟨hlt', rfl, rfl⟩
                    obtain ⟨g4, g5⟩ := g3 (.int k2 v) _ (by simp [SV.shape, ksame_refl]) rfl
                    exact ⟨g4, pre, y.cells, post, g1, by rw [shape_size hys]; simp [SV.cells, Ty.size], g2, g5⟩
                  | _ => simp [SV.shape] at hs
                · cases hu
              | _ => simp [SV.shape] at hz
            | _ => simp [partTy] at hu
          obtain ⟨hc's, pre, old, post, e1, e2, e3, e4⟩ := key
          obtain ⟨ih1, ih2⟩ := fill_sound hplace hc's h
          refine ⟨ih1, ?_⟩
          simp only [List.map_cons, Instr.fill, hpl]
          have hxs : x.enc.cells.size = u.size := by rw [enc_cells hs]; simp [shape_size hs]
          rw [if_neg (by
            simp only [hxs, ne_eq, not_true_eq_false, decide_false, Bool.false_or, decide_eq_true_eq, decide_not, decide_true, Bool.not_true]
            have hu' := shape_size hs
            simp only [e1, List.size_toArray, List.length_append, e2, ← e3]
            omega)]
          rw [← ih2]
          congr 1
          rw [enc_cells hs, e1, e4, ← e3]
          -- writing the cells one by one
          have wr : ∀ (xs pre old post : List Value), old.length = xs.length → ∀ (k : Nat),
              (xs.zipIdx k).foldl (fun (cs : Array Value) (p : Value × Nat) => cs.setIfInBounds (pre.length + (p.2 - k)) p.1) (pre ++ old ++ post).toArray = (pre ++ xs ++ post).toArray := by
            intro xs
            induction xs with
            | nil => intro pre old post h k; simp at h; subst h; simp
            | cons v vs ih =>
              intro pre old post h k
              cases old with
              | nil => simp at h
              | cons w ws =>
                simp only [List.zipIdx_cons, List.foldl_cons]
                have e : ((pre ++ w :: ws ++ post).toArray).setIfInBounds (pre.length + (k - k)) v = (pre ++ [v] ++ ws ++ post).toArray := by
                  apply Array.ext'
                  simp
                rw [e]
                have := ih (pre ++ [v]) ws post (by simpa using h) (k + 1)
                rw [show pre ++ v :: vs ++ post = pre ++ [v] ++ vs ++ post by simp, ← this]
                have hall : ∀ p ∈ vs.zipIdx (k + 1), k + 1 ≤ p.2 := fun p hp => (List.mem_zipIdx hp).1
                generalize vs.zipIdx (k + 1) = ps at hall
                generalize (pre ++ [v] ++ ws ++ post).toArray = cs
                induction ps generalizing cs with
                | nil => rfl
                | cons p ps ihp =>
                  have hk := hall p (by simp)
                  have e : pre.length + (p.2 - k) = (pre ++ [v]).length + (p.2 - (k + 1)) := by simp; omega
                  simp only [List.foldl_cons, e]
                  exact ihp (fun q hq => hall q (by simp [hq])) _
          have := wr x.cells pre old post e2 0
          simp only [Nat.sub_zero] at this
          rw [← this]
          simp [List.foldl_toArray]
        · cases h
      · cases h
    · cases h
end
end Go.Vc
end

section
namespace Go.Vc
set_option linter.unusedSimpArgs false
set_option linter.unusedVariables false
set_option autoImplicit false

theorem sliceBound_run (P : Program) (w : World) (k : IntKind) (i : Int) (y : Nat) (code : BoundsCode) (h0 : 0 ≤ i) (h1 : i ≤ y) : (Instr.sliceBound (.int k i) y code).run P w = .ok i.toNat w := by
  simp [Instr.sliceBound, asIntOf, h0, h1]

theorem evInt_sound {X : Tab} {s : St} {ρ : Operand → Value} (hρ : ∀ x v, s.ev x = some v → RelV X s (ρ x) v) {x : Option Operand} {r : Option Int} (h : s.evInt x = some r) :
    (x.map ρ = none ∧ r = none) ∨ ∃ k n, x.map ρ = some (.int k n) ∧ r = some n := by
  cases x with
  | none => simp [St.evInt] at h; exact .inl ⟨rfl, h.symm⟩
  | some x =>
    simp only [St.evInt] at h
    split at h
    · rename_i k n hx
      have := hρ x _ hx
      simp only [RelV, SV.enc] at this
      right
      exact ⟨k, n, by simp [this], by simpa using h.symm⟩
    · cases h

theorem sliceBounds_run {F : Nat → Nat → Nat → Prop} (isSlice : Bool) (len cap : Nat) {lo hi mx : Option Value} {l h m : Option Int}
    (hl : (lo = none ∧ l = none) ∨ ∃ k n, lo = some (.int k n) ∧ l = some n) (hh : (hi = none ∧ h = none) ∨ ∃ k n, hi = some (.int k n) ∧ h = some n)
    (hm : (mx = none ∧ m = none) ∨ ∃ k n, mx = some (.int k n) ∧ m = some n) (hF : sliceVC l h m len cap F) :
    ∃ a b c, F a b c ∧ ∀ P w, (Instr.sliceBounds isSlice len cap lo hi mx).run P w = .ok (a, b, c) w := by
  rcases hm with ⟨rfl, rfl⟩ | ⟨km, nm, rfl, rfl⟩ <;> rcases hh with ⟨rfl, rfl⟩ | ⟨kh, nh, rfl, rfl⟩ <;> rcases hl with ⟨rfl, rfl⟩ | ⟨kl, nl, rfl, rfl⟩ <;>
    simp only [sliceVC, Need_iff, Bool.and_eq_true, decide_eq_true_eq] at hF
  · exact ⟨_, _, _, hF, fun P w => by simp [Instr.sliceBounds]⟩
  · exact ⟨_, _, _, hF.2, fun P w => by simp [Instr.sliceBounds, sliceBound_run P w kl nl len _ hF.1.1 hF.1.2]⟩
  · exact ⟨_, _, _, hF.2, fun P w => by simp [Instr.sliceBounds, sliceBound_run P w kh nh cap _ hF.1.1 hF.1.2]⟩
  · exact ⟨_, _, _, hF.2, fun P w => by simp [Instr.sliceBounds, sliceBound_run P w kh nh cap _ hF.1.1.1 hF.1.1.2, sliceBound_run P w kl nl nh.toNat _ hF.1.2.1 hF.1.2.2]⟩
  · exact ⟨_, _, _, hF.2, fun P w => by simp [Instr.sliceBounds, sliceBound_run P w km nm cap _ hF.1.1.1 hF.1.1.2, sliceBound_run P w kh nh nm.toNat _ hF.1.2.1 hF.1.2.2]⟩
  · exact ⟨_, _, _, hF.2, fun P w => by simp [Instr.sliceBounds, sliceBound_run P w km nm cap _ hF.1.1.1.1 hF.1.1.1.2, sliceBound_run P w kh nh nm.toNat _ hF.1.1.2.1 hF.1.1.2.2, sliceBound_run P w kl nl nh.toNat _ hF.1.2.1 hF.1.2.2]⟩

theorem pickVC_sound {F : SV → Prop} : ∀ {l : List SV} {b j : Nat}, pickVC l b j F → b ≤ j → j < b + l.length → ∃ x, nth l (j - b) = some x ∧ F x
  | [], b, j, _, h1, h2 => by simp at h2; omega
  | x :: r, b, j, h, h1, h2 => by
    simp only [pickVC] at h
    by_cases e : j = b
    · subst e; exact ⟨x, by simp [nth], h.1 rfl⟩
    · obtain ⟨y, h3, h4⟩ := pickVC_sound h.2 (show b + 1 ≤ j by omega) (by simp at h2; omega)
      refine ⟨y, ?_, h4⟩
      have : j - b = (j - (b + 1)) + 1 := by omega
      rw [this]; simpa [nth] using h3

theorem pickIx_sound {F : Nat → Prop} : ∀ {ts : List Ty} {b : Nat} {j : Int}, pickIx ts b j F → (b : Int) ≤ j → j < b + ts.length → F j.toNat
  | [], b, j, _, h1, h2 => by simp at h2; omega
  | _ :: r, b, j, h, h1, h2 => by
    simp only [pickIx, Br_iff, decide_eq_true_eq, decide_eq_false_iff_not] at h
    by_cases e : j = b
    · subst e; simpa using h.1 rfl
    · exact pickIx_sound (h.2 e) (by simp only [Nat.succ_eq_add_one]; omega) (by simp only [Nat.succ_eq_add_one]; simp only [List.length_cons] at h2; omega)

theorem fields_at {X : Tab} : ∀ {fs : List Field} {ts : List Ty} {off : Nat}, fieldsOK X fs ts off → ∀ {i : Nat} {t : Ty}, nth ts i = some t → ∃ f, fs[i]? = some f ∧ f.offset = off + Ty.off ts i ∧ X.T f.type = t
  | _, [], _, _, i, t, h => by simp [nth] at h
  | [], _ :: _, _, h, _, _, _ => by simp [fieldsOK] at h
  | f :: fs, u :: ts, off, h, 0, t, ht => by
    simp only [fieldsOK] at h
    simp [nth] at ht; subst ht
    exact ⟨f, rfl, by simp [Ty.off, h.1], h.2.1⟩
  | f :: fs, u :: ts, off, h, i + 1, t, ht => by
    simp only [fieldsOK] at h
    simp only [nth] at ht
    obtain ⟨g, h1, h2, h3⟩ := fields_at h.2.2.2 ht
    exact ⟨g, by simpa using h1, by simp only [Ty.off]; omega, h3⟩

/-- what an array's type is to the program -/
theorem arr_under {X : Tab} (ok : TabOK X) {t : Nat} (h : isArrTy (X.T t) = true) : ∃ e, X.P.underlying t = some (.array (lenTy (X.T t)) e) ∧ isData (X.T e) = true ∧ (0 < lenTy (X.T t) → elemTy (X.T t) = X.T e) := by
  have hT := ok.ty t
  cases h' : X.T t <;> rw [h'] at h hT <;> simp only [isArrTy] at h
  case arr k n =>
    simp only [tyOK] at hT
    obtain ⟨e, h1, h2⟩ := hT
    exact ⟨e, h1, by rw [h2]; rfl, fun _ => by rw [h2]; rfl⟩
  case struct b ts =>
    cases b with
    | false => simp at h
    | true =>
      simp only [tyOK] at hT
      obtain ⟨n, e, h1, h2, h3⟩ := hT
      subst h2
      refine ⟨e, by simpa [lenTy] using h1, h3, fun hp => ?_⟩
      cases n with
      | zero => simp [lenTy] at hp
      | succ n => simp [elemTy, List.replicate_succ]
  all_goals (simp at h)

theorem zeros_data : ∀ {ts : List Ty} {l : List SV}, Ty.zeros ts = some l → ∀ t ∈ ts, isData t = true
  | [], l, h => by simp
  | t :: r, l, h => by
    simp only [Ty.zeros] at h
    cases h1 : t.zero with
    | none => simp [h1] at h
    | some x =>
      cases h2 : Ty.zeros r with
      | none => simp [h1, h2] at h
      | some m =>
        intro u hu
        rcases List.mem_cons.1 hu with rfl | hu
        · cases u <;> first | rfl | simp [Ty.zero] at h1
        · exact zeros_data h2 u hu

theorem places_at {X : Tab} (ok : TabOK X) : ∀ {fs : List Field} {ts : List Ty} {off : Nat}, fieldsOK X fs ts off → (∀ t ∈ ts, isData t = true) →
    ∃ places, fs.mapM (fun f => (X.P.info? f.type).map fun i => (f.offset, i.size)) = some places ∧ ∀ i u, nth ts i = some u → places[i]? = some (off + Ty.off ts i, u.size)
  | [], [], off, _, _ => ⟨[], by simp, by simp [nth]⟩
  | [], _ :: _, _, h, _ => by simp [fieldsOK] at h
  | _ :: _, [], _, h, _ => by simp [fieldsOK] at h
  | f :: fs, t :: ts, off, h, hD => by
    simp only [fieldsOK] at h
    obtain ⟨h1, h2, h3, h4⟩ := h
    obtain ⟨ps, h5, h6⟩ := places_at ok h4 (fun u hu => hD u (by simp [hu]))
    obtain ⟨i, hi, hi1, _⟩ := ok.info f.type (by rw [h2]; exact hD t (by simp))
    refine ⟨(f.offset, i.size) :: ps, by simp [List.mapM_cons, hi, h5], ?_⟩
    intro j u hu
    cases j with
    | zero => simp [nth] at hu; subst hu; simp [Ty.off, h1, hi1, h2]
    | succ j =>
      simp only [nth] at hu
      have := h6 j u hu
      simp only [List.getElem?_cons_succ, this, Ty.off]
      congr 2; omega

section
variable {X : Tab} (ok : TabOK X) {s : St} {o : Oper} {ρ : Operand → Value} (hρ : ∀ x v, s.ev x = some v → RelV X s (ρ x) v) {F : SV → Prop}

/-- where a pointer into a local struct points -/
theorem lIs_path {id off : Nat} {p : List Nat} {t : Nat} {v : Value} (hv : RelV X s v (.lptr id off p)) (h : lIs X s id p t = true) :
    ∃ b bt c, s.bx id = some (.box b bt c) ∧ v = .pointer (some ⟨b, off, none⟩) ∧ PathAt (X.T bt) p off (X.T t) := by
  unfold lIs lAt at h
  split at h
  · rename_i u hu
    split at hu
    · rename_i b bt c hb
      obtain ⟨h1, u', h2⟩ := hv b bt c hb
      have e := path_ty h2
      rw [hu] at e
      obtain rfl : u = u' := by simpa using e
      have := Ty.same_eq h
      subst this
      exact ⟨b, bt, c, hb, h1, h2⟩
    · cases hu
  · cases h

/-- a pointer into a local struct comes from one -/
def LP (s : St) (sv : SV) : Prop := ∀ id off p, sv = .lptr id off p → ∃ x off' p', s.ev x = some (.lptr id off' p')

theorem fin (sv : SV) (hp : plain sv = true) (hF : F sv) (hr : ∀ w, (execOp ρ o).run X.P w = .ok (.value sv.enc) w) : ∃ v sv, RelV X s v sv ∧ F sv ∧ LP s sv ∧ ∀ w, (execOp ρ o).run X.P w = .ok (.value v) w :=
  ⟨sv.enc, sv, (relv_plain hp).2 rfl, hF, (fun id off p e => by subst e; simp [plain] at hp), hr⟩

include ok hρ in
theorem pure_sound (hl : isLoad o = false) (h : pureVC X s o F) : ∃ v sv, RelV X s v sv ∧ F sv ∧ LP s sv ∧ Yield X.P o ρ v := by
  unfold pureVC at h
  unfold Yield
  have ex := fun w => (rfl : (execOp ρ o).run X.P w = (execOp ρ o).run X.P w)
  cases hop : o.op <;> simp only [hop, isLoad] at h hl <;> try (cases hl) <;> try (cases h; done)
  case move x =>
    obtain ⟨v, h1, h2⟩ := ifSome_iff.1 h
    exact ⟨_, v, hρ x v h1, h2, (fun id off p e => ⟨x, off, p, by rw [h1, e]⟩), fun w => by simp [execOp, hop]⟩
  case assign x =>
    obtain ⟨v, h1, h2⟩ := ifSome_iff.1 h
    exact ⟨_, v, hρ x v h1, h2, (fun id off p e => ⟨x, off, p, by rw [h1, e]⟩), fun w => by simp [execOp, hop]⟩
  case pick c a b =>
    split at h
    · rename_i t hc
      have hc' := hρ c _ hc
      simp only [RelV, SV.enc] at hc'
      rw [Br_iff] at h
      cases t with
      | true =>
        obtain ⟨v, h1, h2⟩ := ifSome_iff.1 (h.1 rfl)
        exact ⟨_, v, hρ a v h1, h2, (fun id off p e => ⟨a, off, p, by rw [h1, e]⟩), fun w => by simp [execOp, hop, hc', asBool]⟩
      | false =>
        obtain ⟨v, h1, h2⟩ := ifSome_iff.1 (h.2 rfl)
        exact ⟨_, v, hρ b v h1, h2, (fun id off p e => ⟨b, off, p, by rw [h1, e]⟩), fun w => by simp [execOp, hop, hc', asBool]⟩
    · cases h
  case binOp op t x y yt =>
    split at h
    · rename_i a b ha hb
      obtain ⟨sv, hp, hF, hr⟩ := binVC_sound ok (x := x) (y := y) h (hρ x a ha) (hρ y b hb)
      exact fin sv hp hF (fun w => by simp only [execOp, hop]; rw [Sem.run_bind, hr w]; simp)
    · cases h
  case unOp op t x =>
    obtain ⟨a, ha, h⟩ := ifSome_iff.1 h
    have hx := hρ x a ha
    unfold unVC at h
    split at h
    · simp only [RelV, SV.enc] at hx
      exact fin _ rfl h (fun w => by simp [execOp, hop, hx, Op.unary, SV.enc])
    · simp only [RelV, SV.enc] at hx
      exact fin _ rfl h (fun w => by simp [execOp, hop, hx, Op.unary, Op.intArith, SV.enc, wr])
    · simp only [RelV, SV.enc] at hx
      exact fin _ rfl h (fun w => by simp [execOp, hop, hx, Op.unary, Op.intBits, SV.enc, ixor, ibits])
    · cases h
  case convert src dst x =>
    have h1 := ok.ty src
    have h2 := ok.ty dst
    split at h
    · rename_i k0 k k1 n e1 e2 e3
      rw [e1] at h1; rw [e2] at h2
      simp only [tyOK] at h1 h2
      have hx := hρ x _ e3
      simp only [RelV, SV.enc] at hx
      exact fin _ rfl h (fun w => by simp [execOp, hop, hx, convert, run_underlying h1, run_underlying h2, Conv.intToInt, SV.enc, wr])
    · rename_i b e1 e2 e3
      rw [e1] at h1; rw [e2] at h2
      simp only [tyOK] at h1 h2
      have hx := hρ x _ e3
      simp only [RelV, SV.enc] at hx
      exact fin _ rfl h (fun w => by simp [execOp, hop, hx, convert, run_underlying h1, run_underlying h2, SV.enc])
    · cases h
  case extract x i =>
    split at h
    · rename_i l hl
      obtain ⟨v, h1, h2⟩ := ifSome_iff.1 h
      split at h2
      · rename_i hp
        have hx := hρ x _ hl
        simp only [RelV, SV.enc] at hx
        rw [nth_eq] at h1
        exact fin v hp h2 (fun w => by simp [execOp, hop, hx, Instr.extract, encL_eq, h1])
      · cases h2
    · cases h
  case field t x f =>
    split at h
    · rename_i l hl
      have hx := hρ x _ hl
      simp only [RelV, SV.enc] at hx
      have hT := ok.ty t
      split at h
      · rename_i ts e1
        rw [e1] at hT
        simp only [tyOK] at hT
        obtain ⟨fs, h1, h2, _⟩ := hT
        split at h
        · rename_i hs
          obtain ⟨v, h3, h4⟩ := ifSome_iff.1 h
          obtain ⟨u, h5, h6, pre, post, h7, h8, _⟩ := nth_split hs h3
          obtain ⟨g, h9, h10, h11⟩ := fields_at h2 h5
          have hD : isData (X.T g.type) = true := by rw [h11]; cases u <;> first | rfl | (cases v <;> simp [SV.shape] at h6)
          refine fin v (shape_plain h6) h4 (fun w => ?_)
          have hg : fs[f]? = some g := by simpa using h9
          have := part_run ok g.type hD v (by rw [h11]; exact h6) pre post g.offset (by omega) w
          rw [← h7] at this
          simp [execOp, hop, hx, Instr.field, run_underlying h1, hg, asAgg, this]
        · cases h
      · cases h
    · cases h
  case index t x i =>
    split at h
    · rename_i k n f k' j e1 e2
      have hx := hρ x _ e1
      have hi := hρ i _ e2
      simp only [RelV, SV.enc] at hx hi
      split at h
      · rename_i hs
        simp only [Need_iff, Bool.and_eq_true, decide_eq_true_eq] at h
        obtain ⟨⟨h1, h2⟩, h3⟩ := h
        have hT := ok.ty t
        cases hT' : X.T t <;> rw [hT'] at hs hT <;> simp [SV.shape] at hs
        obtain ⟨hk, rfl⟩ := hs
        obtain rfl := ksame_eq hk
        simp only [tyOK] at hT
        obtain ⟨e, h4, h5⟩ := hT
        have hD : isData (X.T e) = true := by rw [h5]; rfl
        refine fin (.int k (f j.toNat)) rfl h3 (fun w => ?_)
        have hjn : j.toNat < n := by omega
        obtain ⟨y, hy, hys, pre, post, g1, g2, g3⟩ := path_get (c := .arr k n f) (t := .arr k n) (p := [j.toNat]) (off := j.toNat) (u := .int k) (by simp [SV.shape, ksame_refl]) ⟨hjn, rfl, rfl⟩
        simp [getPath] at hy
        subst hy
        have := part_run ok e hD (.int k (f j.toNat)) (by rw [h5]; simp [SV.shape, ksame_refl]) pre post j.toNat g2.symm w
        rw [← g1] at this
        simp only [SV.cells, SV.enc] at this
        simp [execOp, hop, hx, hi, Instr.index, asIntOf, run_underlying h4, h1, h2, sizeOf_run ok e hD, h5, Ty.size, this, SV.enc]
      · cases h
    · rename_i l k' j e1 e2
      have hx := hρ x _ e1
      have hi := hρ i _ e2
      simp only [RelV, SV.enc] at hx hi
      split at h
      · rename_i hs
        simp only [Bool.and_eq_true] at hs
        obtain ⟨e, h4, hD, h5⟩ := arr_under ok hs.1
        simp only [Need_iff, Bool.and_eq_true, decide_eq_true_eq] at h
        obtain ⟨⟨h1, h2⟩, h3⟩ := h
        obtain ⟨v, h6, h7⟩ := pickVC_sound h3 (Nat.zero_le _) (by omega)
        simp only [Nat.sub_zero] at h6
        have hsh := hs.2
        cases hT' : X.T t <;> rw [hT'] at hsh <;> simp [SV.shape] at hsh
        rename_i bb ts
        have hlen : lenTy (X.T t) = l.length := by rw [hT']; simp [lenTy, shapes_length hsh]
        obtain ⟨u, h8, h9, pre, post, h10, h11, _⟩ := nth_split hsh h6
        have hT := ok.ty t
        have hb : bb = true := by have := hs.1; rw [hT'] at this; simpa [isArrTy] using this
        subst hb
        rw [hT'] at hT
        simp only [tyOK] at hT
        obtain ⟨n', e', h12, h13, h14⟩ := hT
        rw [h4] at h12
        have hne : lenTy (X.T t) = n' ∧ e = e' := by simpa using h12
        obtain ⟨hn', rfl⟩ := hne
        have hj : j.toNat < n' := by omega
        rw [h13, nth_replicate _ _ _ hj] at h8
        obtain rfl : X.T e = u := by simpa using h8
        have hoff : pre.length = j.toNat * (X.T e).size := by rw [h11, h13, off_replicate _ _ _ (by omega)]
        refine fin v (shape_plain h9) h7 (fun w => ?_)
        have := part_run ok e hD v h9 pre post (j.toNat * (X.T e).size) hoff.symm w
        rw [← h10] at this
        have h2' : j < (lenTy (X.T t) : Int) := by rw [hlen]; exact h2
        simp [execOp, hop, hx, hi, Instr.index, asIntOf, run_underlying h4, h1, h2', sizeOf_run ok e hD, this]
      · cases h
    · rename_i b k' j e1 e2
      have hx := hρ x _ e1
      have hi := hρ i _ e2
      simp only [RelV, SV.enc] at hx hi
      split at h
      · rename_i e3
        have hT := ok.ty t
        rw [e3] at hT
        simp only [tyOK] at hT
        simp only [Need_iff, Bool.and_eq_true, decide_eq_true_eq] at h
        obtain ⟨⟨h1, h2⟩, h3⟩ := h
        refine fin _ rfl h3 (fun w => ?_)
        have hlt : j.toNat < b.size := by omega
        simp [execOp, hop, hx, hi, Instr.index, asIntOf, run_underlying hT, h1, SV.enc, sget, hlt, getElem?_pos b j.toNat hlt]
        rfl
      · cases h
    · cases h
  case fieldAddr t x f =>
    have hT := ok.ty t
    split at h
    · rename_i ts e1
      rw [e1] at hT
      simp only [tyOK] at hT
      obtain ⟨fs, h1, h2, _⟩ := hT
      split at h
      · rename_i u hu
        obtain ⟨g, h3, h4, h5⟩ := fields_at h2 hu
        have hg : fs[f]? = some g := by simpa using h3
        split at h
        · cases h
        · rename_i hz
          simp only [Bool.and_eq_true, Bool.not_eq_true'] at hz
          have hz' := nbeq_false.1 hz.2
          have hD : isData (X.T g.type) = true := by rw [h5]; exact hz.1
          split at h
          · rename_i id off p e2
            have hx := hρ x _ e2
            split at h
            · rename_i hl
              obtain ⟨b, bt, c, h6, h7, h8⟩ := lIs_path hx hl
              have hpath := path_snoc (by rw [e1] at h8; exact h8) hu
              refine ⟨.pointer (some ⟨b, off + Ty.off ts f, none⟩), _, ?_, h, (fun id' off' p' e => ⟨x, off, p, by cases e; exact e2⟩), fun w => ?_⟩
              · intro b' t' c' hb'
                rw [h6] at hb'
                cases hb'
                exact ⟨rfl, _, hpath⟩
              · simp [execOp, hop, h7, Instr.fieldAt, run_underlying h1, hg, Instr.sureAddr, fieldPlace, sizeOf_run ok g.type hD, h5, hz', h4, Addr.add]
                try (intro h0; simp [h0])
            · cases h
          · rename_i p e2
            have hx := hρ x _ e2
            simp only [RelV, SV.enc] at hx
            obtain ⟨a, rfl, h⟩ := deref_iff.1 h
            refine fin _ rfl h (fun w => ?_)
            simp [execOp, hop, hx, Instr.fieldAt, run_underlying h1, hg, Instr.sureAddr, fieldPlace, sizeOf_run ok g.type hD, h5, hz', h4, SV.enc, ad_eq]
          · cases h
      · cases h
    · cases h
  case indexAddr t x i =>
    split at h
    · rename_i e q k j e1 e2 e3
      split at h
      case h_2 => cases h
      rename_i hD
      have hT := ok.ty t
      rw [e1] at hT
      simp only [tyOK] at hT
      have hx := hρ x _ e2
      have hi := hρ i _ e3
      simp only [RelV, SV.enc, Sl.val] at hx hi
      simp only [Need_iff, Bool.and_eq_true, decide_eq_true_eq] at h
      obtain ⟨⟨⟨h1, h2⟩, h3⟩, h4⟩ := h
      obtain ⟨ptr, len, cap⟩ := q
      simp only at h2 h3 hx
      obtain ⟨a, rfl⟩ := Option.isSome_iff_exists.1 h3
      refine fin _ rfl h4 (fun w => ?_)
      simp [execOp, hop, hx, hi, Instr.indexAt, asIntOf, run_underlying hT, h1, h2, sizeOf_run ok e hD, SV.enc, Sl.at]
    · rename_i ty id off p k j e2 e3
      have hx := hρ x _ e2
      have hi := hρ i _ e3
      simp only [RelV, SV.enc] at hi
      split at h
      · rename_i hh
        simp only [Bool.and_eq_true] at hh
        obtain ⟨ha, hl⟩ := hh
        obtain ⟨b, bt, c, h6, h7, h8⟩ := lIs_path hx hl
        obtain ⟨e, h9, hD, h10⟩ := arr_under ok ha
        simp only [Need_iff, Bool.and_eq_true, decide_eq_true_eq] at h
        obtain ⟨⟨h1, h2⟩, h4⟩ := h
        have h4 : F (.lptr id (off + j.toNat * (elemTy (X.T t)).size) (p ++ [j.toNat])) := by
          split at h4
          · rename_i bb ts eT
            exact pickIx_sound (F := fun i => F (.lptr id (off + i * (elemTy (X.T t)).size) (p ++ [i]))) h4 (by omega) (by rw [eT] at h2; simp only [lenTy] at h2; omega)
          · exact h4
        have hlt : j.toNat < lenTy (X.T t) := by omega
        have hel := h10 (by omega)
        refine ⟨.pointer (some ⟨b, off + j.toNat * (elemTy (X.T t)).size, none⟩), _, ?_, h4, (fun id' off' p' e => ⟨x, off, p, by cases e; exact e2⟩), fun w => ?_⟩
        · intro b' t' c' hb'
          rw [h6] at hb'
          cases hb'
          refine ⟨rfl, ?_⟩
          have hT := ok.ty t
          cases hT' : X.T t <;> rw [hT'] at ha h8 hlt hT hel <;> simp only [isArrTy] at ha
          case arr k n => exact ⟨_, by simpa [elemTy, Ty.size] using path_snoc_arr h8 (by simpa [lenTy] using hlt)⟩
          case struct bb ts =>
            subst ha
            simp only [tyOK] at hT
            obtain ⟨n', e', h12, h13, h14⟩ := hT
            have hn : j.toNat < n' := by simpa [lenTy, h13] using hlt
            have := path_snoc h8 (i := j.toNat) (u := X.T e') (by rw [h13]; exact nth_replicate _ _ _ hn)
            have he : elemTy (Ty.struct true ts) = X.T e' := by
              rw [h13]; cases n' with
              | zero => omega
              | succ m => simp [List.replicate_succ, elemTy]
            rw [he]
            rw [h13, off_replicate _ _ _ (by omega)] at this
            exact ⟨_, this⟩
          all_goals (cases ha)
        · simp [execOp, hop, h7, hi, Instr.indexAt, asIntOf, run_underlying h9, Instr.sureAddr, h1, h2, sizeOf_run ok e hD, hel, Addr.add]
          try (intro h0; simp [h0])
      · cases h
    · rename_i ty p k j e2 e3
      have hx := hρ x _ e2
      have hi := hρ i _ e3
      simp only [RelV, SV.enc] at hi hx
      split at h
      · rename_i ha
        obtain ⟨a, rfl, h⟩ := deref_iff.1 h
        obtain ⟨e, h9, hD, h10⟩ := arr_under ok ha
        simp only [Need_iff, Bool.and_eq_true, decide_eq_true_eq] at h
        obtain ⟨⟨h1, h2⟩, h4⟩ := h
        have hel := h10 (by omega)
        refine fin _ rfl h4 (fun w => ?_)
        simp [execOp, hop, hx, hi, Instr.indexAt, asIntOf, run_underlying h9, Instr.sureAddr, h1, h2, sizeOf_run ok e hD, hel, SV.enc]
      · cases h
    · cases h
  case slice t x lo hi mx =>
    split at h
    · rename_i l hh m q e1 e2 e3 e4
      have hx := hρ x _ e4
      simp only [RelV, SV.enc, Sl.val] at hx
      split at h
      · rename_i e e5
        have hT := ok.ty t
        rw [e5] at hT
        simp only [tyOK] at hT
        split at h
        · rename_i hD
          obtain ⟨a, b, c, hF, hr⟩ := sliceBounds_run true q.len q.cap (evInt_sound hρ e1) (evInt_sound hρ e2) (evInt_sound hρ e3) h
          refine fin _ rfl hF (fun w => ?_)
          simp [execOp, hop, hx, Instr.sliceAt, Instr.slice, run_underlying hT, hr, sizeOf_run ok e hD, SV.enc, Sl.val, Sl.sub]
        · cases h
      · cases h
    · rename_i l hh b e1 e2 e3 e4
      have hx := hρ x _ e4
      simp only [RelV, SV.enc] at hx
      split at h
      · rename_i e5
        have hT := ok.ty t
        rw [e5] at hT
        simp only [tyOK] at hT
        obtain ⟨a, b', c, hF, hr⟩ := sliceBounds_run false b.size b.size (evInt_sound hρ e1) (evInt_sound hρ e2) (.inl ⟨rfl, rfl⟩) h
        have hmx : mx.map ρ = none := by
          rcases evInt_sound hρ e3 with ⟨h1, _⟩ | ⟨_, _, _, h2⟩
          · exact h1
          · cases h2
        refine fin _ rfl hF (fun w => ?_)
        simp [execOp, hop, hx, hmx, Instr.sliceAt, Instr.slice, run_underlying hT, hr, SV.enc]
      · cases h
    · rename_i l hh m p e1 e2 e3 e4
      have hx := hρ x _ e4
      simp only [RelV, SV.enc] at hx
      split at h
      · rename_i ha
        simp only [Bool.and_eq_true] at ha
        obtain ⟨a, rfl, hd⟩ := deref_iff.1 h
        obtain ⟨e, h9, hD, h10⟩ := arr_under ok ha.1
        have h0 : 0 < lenTy (X.T t) := by simpa [Nat.blt_eq] using ha.2
        obtain ⟨a', b, c, hF, hr⟩ := sliceBounds_run false (lenTy (X.T t)) (lenTy (X.T t)) (evInt_sound hρ e1) (evInt_sound hρ e2) (evInt_sound hρ e3) hd
        refine fin _ (by rfl) hF (fun w => ?_)
        simp [execOp, hop, hx, Instr.sliceAt, run_underlying h9, Instr.sureAddr, hr, sizeOf_run ok e hD, SV.enc, Sl.val, Sl.sub, h10 h0]
        split <;> simp
      · cases h
    · cases h
  case sliceToArrayPointer t x =>
    split at h
    · rename_i q ha hx
      have hx := hρ x _ hx
      simp only [RelV, SV.enc, Sl.val] at hx
      obtain ⟨e, h9, hD, h10⟩ := arr_under ok ha
      simp only [Need_iff, Bool.and_eq_true, decide_eq_true_eq] at h
      obtain ⟨⟨h1, h2⟩, h3⟩ := h
      obtain ⟨ptr, len, cap⟩ := q
      obtain ⟨a, rfl⟩ := Option.isSome_iff_exists.1 h2
      refine fin _ rfl h3 (fun w => ?_)
      simp [execOp, hop, hx, Instr.arrayAt, run_underlying h9, Nat.not_lt.2 h1, SV.enc, Sl.at, Addr.add]
    · cases h
  case build t parts =>
    split at h
    · rename_i z l hag hz hl
      obtain ⟨c, hc, hF⟩ := ifSome_iff.1 h
      have hzs := zero_shape hz
      have hpl := evParts_sound hρ hl (buildSV_plain hc)
      have hD : isData (X.T t) = true := by cases hT : X.T t <;> rw [hT] at hz <;> first | rfl | simp [Ty.zero] at hz
      obtain ⟨i, hi, hi1, hi2, hi3⟩ := ok.info t hD
      have hzero := hi3 z hz
      have hT := ok.ty t
      have built : ∀ c, c.shape (X.T t) = true → X.P.built t (l.map fun p => (p.1, p.2.enc)) = some c.cells.toArray → F c → ∃ v sv, RelV X s v sv ∧ F sv ∧ LP s sv ∧ ∀ w, (execOp ρ o).run X.P w = .ok (.value v) w := by
        intro c hcs hb hF
        refine fin c (shape_plain hcs) hF (fun w => ?_)
        have hm : (parts.map fun (p : Nat × Operand) => (p.1, ρ p.2)).toList = l.map fun p => (p.1, p.2.enc) := by rw [← hpl]; simp
        have := run_build (P := X.P) w t (parts.map fun (p : Nat × Operand) => (p.1, ρ p.2)) c.cells.toArray (by rw [hm]; exact hb)
        rw [enc_agg hcs hag]
        simp [execOp, hop, this]
      cases hT' : X.T t <;> rw [hT'] at hT hc hz hzs
      case arr k n =>
        simp only [tyOK] at hT
        obtain ⟨e, h1, h2⟩ := hT
        have hDe : isData (X.T e) = true := by rw [h2]; rfl
        obtain ⟨ie, hie, hie1, _⟩ := ok.info e hDe
        obtain ⟨hcs, hfill⟩ := fill_sound (place := fun i => some (i * ie.size, ie.size)) (t := .arr k n) (by
          intro i u hu
          simp only [partTy] at hu
          split at hu
          · obtain rfl : Ty.int k = u := by simpa using hu
            simp [placeOff, Ty.size, hie1, h2]
          · cases hu) hzs hc
        refine built c (by rw [hT']; exact hcs) ?_ hF
        simp only [Program.built, hi, h1, hzero, hie, enc_cells hzs, hfill]
      case struct b ts =>
        have hzd : ∀ u ∈ ts, isData u = true := by
          simp only [Ty.zero] at hz
          cases hzz : Ty.zeros ts with
          | none => simp [hzz] at hz
          | some l' => exact zeros_data hzz
        cases b with
        | true =>
          simp only [tyOK] at hT
          obtain ⟨n, e, h1, h2, h3⟩ := hT
          obtain ⟨ie, hie, hie1, _⟩ := ok.info e h3
          obtain ⟨hcs, hfill⟩ := fill_sound (place := fun i => some (i * ie.size, ie.size)) (t := .struct true ts) (by
            intro i u hu
            simp only [partTy, h2] at hu
            have hin : i < n := by
              rw [nth_eq] at hu
              have := (List.getElem?_eq_some_iff.1 hu).1
              simpa using this
            rw [nth_replicate _ _ _ hin] at hu
            obtain rfl : X.T e = u := by simpa using hu
            simp [placeOff, h2, off_replicate _ _ _ (Nat.le_of_lt hin), hie1]) hzs hc
          refine built c (by rw [hT']; exact hcs) ?_ hF
          simp only [Program.built, hi, h1, hzero, hie, enc_cells hzs, hfill]
        | false =>
          simp only [tyOK] at hT
          obtain ⟨fs, h1, h2, h3⟩ := hT
          obtain ⟨places, h4, h5⟩ := places_at ok h2 hzd
          obtain ⟨hcs, hfill⟩ := fill_sound (place := (places.toArray[·]?)) (t := .struct false ts) (by
            intro i u hu
            simp only [partTy] at hu
            have := h5 i u hu
            simpa [placeOff] using this) hzs hc
          refine built c (by rw [hT']; exact hcs) ?_ hF
          simp only [Program.built, hi, h1, hzero, h4, enc_cells hzs, hfill]
      all_goals (rw [hT'] at hag; cases hag)
    · cases h
  case nilCheck x =>
    split at h
    · rename_i p hp
      have hx := hρ x _ hp
      simp only [RelV, SV.enc] at hx
      obtain ⟨a, rfl, h⟩ := deref_iff.1 h
      exact fin _ rfl h (fun w => by simp [execOp, hop, hx, SV.enc])
    · rename_i id off p hp
      have hx := hρ x _ hp
      split at h
      · rename_i u hu
        unfold lAt at hu
        split at hu
        · rename_i b bt c hb
          have := (hx b bt c hb).1
          exact ⟨_, _, hx, h, (fun id' off' p' e => ⟨x, off, p, by cases e; exact hp⟩), fun w => by simp [execOp, hop, this]⟩
        · cases hu
      · cases h
    · rename_i f cs hp
      have hx := hρ x _ hp
      simp only [RelV, SV.enc] at hx
      exact fin _ rfl h (fun w => by simp [execOp, hop, hx, SV.enc])
    · cases h
  case makeFunc fn first cap =>
    cases fn <;> simp only at h
    rename_i f
    split at h
    · rename_i l h1 h2
      split at h
      · rename_i hp
        have hc := evs_sound hρ h2 hp
        have hf : first = #[] := by simpa using h1
        refine fin _ rfl h (fun w => ?_)
        have hcap : cap.map ρ = (SV.encL l).toArray := by rw [← hc]; apply Array.ext'; simp
        simp [execOp, hop, Instr.makeFunc, SV.enc, hf, hcap]
      · cases h
    · cases h
  case makeInterface t x =>
    split at h
    · rename_i ts v hty hx
      split at h
      · rename_i hsh
        have hp := shape_plain hsh
        have hxv := (relv_plain hp).1 (hρ x _ hx)
        have hT := ok.ty t
        rw [hty] at hT
        simp only [tyOK] at hT
        obtain ⟨fs, hu, _⟩ := hT
        exact fin _ rfl h (fun w => by simp [execOp, hop, Instr.makeInterface, run_underlying hu, hxv, SV.enc])
      · cases h
    · cases h
  case call c =>
    obtain ⟨callee, args, argTypes⟩ := c
    split at h
    · rename_i t x hc ht hx
      simp only at hc ht hx
      have ha : args = #[x] := by apply Array.ext'; simpa using hx
      have hb : argTypes = #[t] := by apply Array.ext'; simpa using ht
      subst hc; subst ha; subst hb
      have hT := ok.ty t
      split at h
      · rename_i e q e1 e2
        rw [e1] at hT
        simp only [tyOK] at hT
        have hx := hρ x _ e2
        simp only [RelV, SV.enc, Sl.val] at hx
        exact fin _ rfl h (fun w => by simp [execOp, hop, resolve, invoke, builtin, Builtin.len_, hx, run_underlying hT, goInt, SV.enc])
      · rename_i b e1 e2
        rw [e1] at hT
        simp only [tyOK] at hT
        have hx := hρ x _ e2
        simp only [RelV, SV.enc] at hx
        exact fin _ rfl h (fun w => by simp [execOp, hop, resolve, invoke, builtin, Builtin.len_, hx, run_underlying hT, goInt, SV.enc])
      · rename_i k n e1
        rw [e1] at hT
        simp only [tyOK] at hT
        obtain ⟨e, hT, _⟩ := hT
        exact fin _ rfl h (fun w => by simp [execOp, hop, resolve, invoke, builtin, Builtin.len_, run_underlying hT, goInt, SV.enc])
      · cases h
    · rename_i t x hc ht hx
      simp only at hc ht hx
      have ha : args = #[x] := by apply Array.ext'; simpa using hx
      have hb : argTypes = #[t] := by apply Array.ext'; simpa using ht
      subst hc; subst ha; subst hb
      have hT := ok.ty t
      split at h
      · rename_i e q e1 e2
        rw [e1] at hT
        simp only [tyOK] at hT
        have hx := hρ x _ e2
        simp only [RelV, SV.enc, Sl.val] at hx
        exact fin _ rfl h (fun w => by simp [execOp, hop, resolve, invoke, builtin, Builtin.cap_, hx, run_underlying hT, goInt, SV.enc])
      · cases h
    · rename_i x y hc hx
      simp only at hc hx
      have ha : args = #[x, y] := by apply Array.ext'; simpa using hx
      subst hc; subst ha
      split at h
      · rename_i k a k' b e1 e2
        have h1 := hρ x _ e1
        have h2 := hρ y _ e2
        simp only [RelV, SV.enc] at h1 h2
        exact fin _ rfl h (fun w => by simp [execOp, hop, resolve, invoke, builtin, Builtin.min_, Builtin.min2, h1, h2, SV.enc, imin])
      · cases h
    · rename_i x y hc hx
      simp only at hc hx
      have ha : args = #[x, y] := by apply Array.ext'; simpa using hx
      subst hc; subst ha
      split at h
      · rename_i k a k' b e1 e2
        have h1 := hρ x _ e1
        have h2 := hρ y _ e2
        simp only [RelV, SV.enc] at h1 h2
        exact fin _ rfl h (fun w => by simp [execOp, hop, resolve, invoke, builtin, Builtin.max_, Builtin.max2, h1, h2, SV.enc, imax])
      · cases h
    · cases h
end
end Go.Vc
end

section
namespace Go.Vc
open Go.RowKit (Below)
set_option linter.unusedSimpArgs false
set_option linter.unusedVariables false
set_option autoImplicit false

theorem Upd.refl (w : World) : Upd [] [] w w := ⟨rfl, rfl, rfl, Nat.le_refl _, fun _ _ _ => rfl, by simp⟩
theorem Upd.trans {m m' n n' : List Nat} {w w1 w2 : World} (h : Upd m n w w1) (k : Upd m' n' w1 w2) : Upd (m ++ m') (n ++ n') w w2 where
  os := k.os.trans h.os
  tape := k.tape.trans h.tape
  output := k.output.trans h.output
  size := Nat.le_trans h.size k.size
  keep := fun i hi hm => by
    simp only [List.mem_append, not_or] at hm
    rw [k.keep i (Nat.lt_of_lt_of_le hi h.size) hm.2, h.keep i hi hm.1]
  news := fun b hb => by
    have := h.size; have := k.size
    rcases List.mem_append.1 hb with hb | hb
    · have := h.news b hb; omega
    · have := k.news b hb; omega
theorem Upd.mono {m m' n n' : List Nat} {w w1 : World} (h : Upd m n w w1) (hm : ∀ x ∈ m, x ∈ m') (hn : ∀ x ∈ n', x ∈ n) : Upd m' n' w w1 :=
  ⟨h.os, h.tape, h.output, h.size, fun k hk hk' => h.keep k hk (fun e => hk' (hm k e)), fun b hb => h.news b (hn b hb)⟩
theorem Upd.drew {m n : List Nat} {w w1 : World} (h : Upd m n w w1) : Upd m n w { w1 with drawn := w1.drawn + 1 } := ⟨h.os, h.tape, h.output, h.size, h.keep, h.news⟩
/-- a cell that was there -/
theorem Upd.cell {m n : List Nat} {w w1 : World} (h : Upd m n w w1) {a : Addr} {v : Value} (hc : w.cell? a = some v) (hm : a.block ∉ m) : w1.cell? a = some v := by
  have hlt : a.block < w.heap.size := World.block_lt_of_cell? w a hc
  rw [World.cell?_of_block (h.keep a.block hlt hm)]
  exact hc

structure Rel (X : Tab) (N : Nat) (s : St) (w : World) (a : Act) (wa : World) : Prop where
  defers : a.defers = X.D
  size : a.tmps.size = N
  env : ∀ t v, s.env t = some v → RelV X s (a.tmps.getD t undef) v
  bx : ∀ i b t c, s.bx i = some (.box b t c) → i < s.nb ∧ wa.heap[b]? = some (.cells c.cells.toArray t (0, 0)) ∧ c.shape (X.T t) = true
  sep : ∀ i j b t c b' t' c', s.bx i = some (.box b t c) → s.bx j = some (.box b' t' c') → i ≠ j → b ≠ b'
  lp : ∀ t id off p, s.env t = some (.lptr id off p) → id < s.nb
  nb0 : s.nb0 ≤ s.nb
  newIn : ∀ i b t c, s.bx i = some (.box b t c) → s.nb0 ≤ i → b ∈ s.news
  modIn : ∀ i b t c, s.bx i = some (.box b t c) → i ∈ s.ids → b ∈ s.mods
  idlt : ∀ i ∈ s.ids, i < s.nb
  upd : Upd s.mods s.news w wa
  cln : s.dirty = false → wa = w

theorem relv_of_bx {X : Tab} {s s' : St} (h : s'.bx = s.bx) {v : Value} {x : SV} (hv : RelV X s v x) : RelV X s' v x := by
  cases x <;> simp only [RelV] at hv ⊢ <;> first | exact hv | (rw [h]; exact hv)

theorem Rel.ev {X : Tab} {N : Nat} {s : St} {w : World} {a : Act} {wa : World} (h : Rel X N s w a wa) : ∀ x v, s.ev x = some v → RelV X s (a.eval x) v := by
  intro x v hx
  cases x with
  | tmp t => exact h.env t v hx
  | const u =>
    simp only [St.ev] at hx
    unfold constSV at hx
    split at hx <;> first
      | (simp at hx; subst hx; simp [RelV, SV.enc, Act.eval]; done)
      | (split at hx <;> (try (simp at hx; done)); rename_i hc; simp at hx hc; subst hx; obtain ⟨rfl, rfl⟩ := hc; simp [RelV, SV.enc, Act.eval, Sl.val]; done)
      | (simp at hx; done)
  | global g => simp [St.ev] at hx; subst hx; simp [RelV, SV.enc, Act.eval]
  | func f => simp [St.ev] at hx; subst hx; simp [RelV, SV.enc, Act.eval, SV.encL]

/-- the same state, nothing pending -/
theorem Rel.clean {X : Tab} {N : Nat} {s : St} {w : World} {a : Act} {wa : World} (h : Rel X N s w a wa) : Rel X N s.clean wa a wa where
  defers := h.defers
  size := h.size
  env := fun t v hv => relv_of_bx (s := s) rfl (h.env t v hv)
  bx := h.bx
  sep := h.sep
  lp := h.lp
  nb0 := Nat.le_refl _
  newIn := fun i b t c hb hn => by have := (h.bx i b t c hb).1; simp [St.clean] at hn; omega
  modIn := fun i b t c hb hn => by simp [St.clean] at hn
  idlt := by simp [St.clean]
  upd := Upd.refl wa
  cln := fun _ => rfl

theorem flush_sound {X : Tab} {N : Nat} {s : St} {w : World} {a : Act} {wa : World} {F : St → World → Prop} (h : s.flush w F) (hr : Rel X N s w a wa) : F s.clean wa := by
  unfold St.flush at h
  cases hd : s.dirty with
  | false => rw [hd] at h; rw [hr.cln hd]; exact h
  | true => rw [hd] at h; exact h wa hr.upd

theorem look_sound {X : Tab} {N : Nat} {s : St} {w : World} {a : Act} {wa : World} {F : St → World → Prop} (h : s.look w F) (hr : Rel X N s w a wa) :
    ∃ s' w', F s' w' ∧ Rel X N s' w' a wa ∧ Upd [] [] w' wa ∧ s'.env = s.env ∧ s'.bx = s.bx ∧ s'.nb = s.nb ∧ s'.mods = [] := by
  unfold St.look at h
  cases hm : s.mods with
  | nil =>
    rw [hm] at h
    refine ⟨s, w, h, hr, ?_, rfl, rfl, rfl, hm⟩
    have := hr.upd
    rw [hm] at this
    exact this.mono (by simp) (by simp)
  | cons x r =>
    rw [hm] at h
    exact ⟨s.clean, wa, flush_sound h hr, hr.clean, Upd.refl _, rfl, rfl, rfl, rfl⟩

/-- a new box -/
theorem Rel.newBox {X : Tab} {N : Nat} {s : St} {w : World} {a : Act} {wa : World} (h : Rel X N s w a wa) (t : Nat) (c : SV) (hc : c.shape (X.T t) = true) :
    Rel X N (s.newBox wa.heap.size t c) w a (wa.alloc (.cells c.cells.toArray t)) where
  defers := h.defers
  size := h.size
  env := fun u v hv => by
    have hv' : s.env u = some v := hv
    have := h.env u v hv'
    cases v <;> simp only [RelV] at this ⊢ <;> try exact this
    rename_i id off p
    intro b t' c' hb
    have hid := h.lp u id off p hv'
    have hne : Nat.beq id s.nb = false := nbeq_false.2 (by omega)
    simp only [St.newBox, St.putB, hne] at hb
    exact this b t' c' hb
  bx := fun i b t' c' hb => by
    simp only [St.newBox, St.putB] at hb
    split at hb
    · rename_i hi
      have := nbeq.1 hi
      subst this
      simp at hb
      obtain ⟨rfl, rfl, rfl⟩ := hb
      exact ⟨by simp [St.newBox], by simpa using heap_alloc_new wa _, hc⟩
    · obtain ⟨h1, h2, h3⟩ := h.bx i b t' c' hb
      have hlt : b < wa.heap.size := (Array.getElem?_eq_some_iff.1 h2).1
      exact ⟨by simp [St.newBox]; omega, by rw [Below.heap_alloc wa _ b hlt]; exact h2, h3⟩
  sep := fun i j b t1 c1 b' t2 c2 hi hj hne => by
    simp only [St.newBox, St.putB] at hi hj
    split at hi <;> split at hj
    · rename_i _ e1 _ e2; exact absurd ((nbeq.1 e1).trans (nbeq.1 e2).symm) hne
    · simp at hi
      obtain ⟨rfl, rfl, rfl⟩ := hi
      have := (Array.getElem?_eq_some_iff.1 (h.bx j b' t2 c2 hj).2.1).1
      omega
    · simp at hj
      obtain ⟨rfl, rfl, rfl⟩ := hj
      have := (Array.getElem?_eq_some_iff.1 (h.bx i b t1 c1 hi).2.1).1
      omega
    · exact h.sep i j b t1 c1 b' t2 c2 hi hj hne
  lp := fun u id off p hv => by have := h.lp u id off p hv; simp [St.newBox]; omega
  nb0 := by have := h.nb0; simp [St.newBox, St.putB]; omega
  newIn := fun i b t' c' hb hn => by
    simp only [St.newBox, St.putB] at hb hn ⊢
    split at hb
    · simp at hb; simp [hb.1]
    · exact List.mem_cons_of_mem _ (h.newIn i b t' c' hb hn)
  modIn := fun i b t' c' hb hn => by
    simp only [St.newBox, St.putB] at hb hn ⊢
    split at hb
    · rename_i hi
      have := nbeq.1 hi
      have := h.idlt i hn
      omega
    · exact h.modIn i b t' c' hb hn
  idlt := fun i hi => by have := h.idlt i hi; simp [St.newBox]; omega
  upd := by
    have hu := h.upd
    have hsz := hu.size
    refine ⟨hu.os, hu.tape, hu.output, by simp; omega, ?_, ?_⟩
    · intro k hk hm
      rw [Below.heap_alloc wa _ k (by omega)]
      exact hu.keep k hk hm
    · intro b hb
      rcases List.mem_cons.1 hb with rfl | hb
      · simp; omega
      · have := hu.news b hb
        simp; omega
  cln := fun hd => by simp [St.newBox] at hd
end Go.Vc
end
