import Derived.WalkKit
import Derived.KernelRfl
import Derived.Still
import Derived.Defers
namespace Go.Vc

/-! ### values as the statements see them -/

structure Sl where
  ptr : Option Addr
  len : Nat
  cap : Nat

def Sl.val (s : Sl) : Value := .slice s.ptr s.len s.cap
/-- the address of element i (sz cells each) -/
def Sl.at (s : Sl) (sz i : Nat) : Addr := (s.ptr.getD ⟨0, 0, none⟩).add (i * sz)
def Sl.sub (s : Sl) (sz l h m : Nat) : Sl := ⟨if m = l then s.ptr else s.ptr.map (·.add (l * sz)), h - l, m - l⟩
def Sl.nil : Sl := ⟨none, 0, 0⟩

inductive Ty where
  | int (k : IntKind) | bool | str | ptr (e : Nat) | slice (e : Nat) | map | arr (k : IntKind) (n : Nat)
  | struct (isArr : Bool) (ts : List Ty) | tuple (ts : List Ty) | other

inductive SV where
  | int (k : IntKind) (n : Int) | bool (b : Bool) | str (s : ByteArray) | ptr (p : Option Addr) | slice (s : Sl) | map (r : Option Nat)
  | arr (k : IntKind) (n : Nat) (f : Nat → Int)
  | struct (fs : List SV) | tuple (fs : List SV)
  | clo (f : Nat) (cs : List SV)
  | lptr (id off : Nat) (path : List Nat)
  | box (b t : Nat) (c : SV)
  | raw (v : Value)

def ksame : IntKind → IntKind → Bool
  | .i8, .i8 => true | .i16, .i16 => true | .i32, .i32 => true | .i64, .i64 => true
  | .u8, .u8 => true | .u16, .u16 => true | .u32, .u32 => true | .u64, .u64 => true
  | _, _ => false

mutual
def Ty.same : Ty → Ty → Bool
  | .int k, .int k' => ksame k k'
  | .bool, .bool => true
  | .str, .str => true
  | .ptr e, .ptr e' => Nat.beq e e'
  | .slice e, .slice e' => Nat.beq e e'
  | .map, .map => true
  | .arr k n, .arr k' n' => ksame k k' && Nat.beq n n'
  | .struct b ts, .struct b' ts' => (match b, b' with | true, true => true | false, false => true | _, _ => false) && Ty.sames ts ts'
  | _, _ => false
def Ty.sames : List Ty → List Ty → Bool
  | [], [] => true
  | t :: r, t' :: r' => t.same t' && Ty.sames r r'
  | _, _ => false
end

def isAggTy : Ty → Bool | .arr _ _ => true | .struct _ _ => true | _ => false
def isData : Ty → Bool | .tuple _ => false | .other => false | _ => true

mutual
def Ty.size : Ty → Nat
  | .arr _ n => n
  | .struct _ ts => Ty.sizes ts
  | _ => 1
def Ty.sizes : List Ty → Nat
  | [] => 0
  | t :: r => t.size + Ty.sizes r
end

mutual
def SV.cells : SV → List Value
  | .int k n => [.int k n]
  | .bool b => [.bool b]
  | .str s => [.string s]
  | .ptr p => [.pointer p]
  | .slice s => [s.val]
  | .map r => [.map r]
  | .arr k n f => (List.range n).map fun i => .int k (f i)
  | .struct fs => SV.cellsL fs
  | .raw v => [v]
  | _ => []
def SV.cellsL : List SV → List Value
  | [] => []
  | x :: r => x.cells ++ SV.cellsL r
end

mutual
def SV.enc : SV → Value
  | .int k n => .int k n
  | .bool b => .bool b
  | .str s => .string s
  | .ptr p => .pointer p
  | .slice s => s.val
  | .map r => .map r
  | .arr k n f => .agg ((List.range n).map fun i => .int k (f i)).toArray
  | .struct fs => .agg (SV.cellsL fs).toArray
  | .tuple fs => .tuple (SV.encL fs).toArray
  | .clo f cs => .func (.func f) #[] (SV.encL cs).toArray
  | .raw v => v
  | .lptr _ _ _ => undef
  | .box _ _ _ => undef
def SV.encL : List SV → List Value
  | [] => []
  | x :: r => x.enc :: SV.encL r
end

/- has the value this type's shape? -/
mutual
def SV.shape : SV → Ty → Bool
  | .int k _, .int k' => ksame k k'
  | .bool _, .bool => true
  | .str _, .str => true
  | .ptr _, .ptr _ => true
  | .slice _, .slice _ => true
  | .map _, .map => true
  | .arr k n _, .arr k' n' => ksame k k' && Nat.beq n n'
  | .struct fs, .struct _ ts => SV.shapes fs ts
  | _, _ => false
def SV.shapes : List SV → List Ty → Bool
  | [], [] => true
  | x :: r, t :: s => x.shape t && SV.shapes r s
  | _, _ => false
end

mutual
def Ty.zero : Ty → Option SV
  | .int k => some (.int k 0)
  | .bool => some (.bool false)
  | .str => some (.str ⟨#[]⟩)
  | .ptr _ => some (.ptr none)
  | .slice _ => some (.slice ⟨none, 0, 0⟩)
  | .map => some (.map none)
  | .arr k n => some (.arr k n fun _ => 0)
  | .struct _ ts => match Ty.zeros ts with | some l => some (.struct l) | none => none
  | _ => none
def Ty.zeros : List Ty → Option (List SV)
  | [] => some []
  | t :: r => match t.zero, Ty.zeros r with | some x, some l => some (x :: l) | _, _ => none
end

/-! ### numbers -/
def wr (k : IntKind) (n : Int) : Int := k.wrap n
def ibits (k : IntKind) (r : BitVec k.bits) : Int := k.wrap r.toNat
def iand (k : IntKind) (a b : Int) : Int := ibits k (BitVec.ofInt k.bits a &&& BitVec.ofInt k.bits b)
def ior (k : IntKind) (a b : Int) : Int := ibits k (BitVec.ofInt k.bits a ||| BitVec.ofInt k.bits b)
def ixor (k : IntKind) (a b : Int) : Int := ibits k (BitVec.ofInt k.bits a ^^^ BitVec.ofInt k.bits b)
def iandnot (k : IntKind) (a b : Int) : Int := ibits k (BitVec.ofInt k.bits a &&& ~~~BitVec.ofInt k.bits b)
def gshl (k : IntKind) (a b : Int) : Int := k.wrap (a * 2 ^ (min b.toNat k.bits))
def gshr (k : IntKind) (a b : Int) : Int := a.fdiv (2 ^ (min b.toNat k.bits))
def imin (a b : Int) : Int := if b < a then b else a
def imax (a b : Int) : Int := if b > a then b else a
def eqArr (n : Nat) (f g : Nat → Int) : Bool := (List.range n).all fun i => f i == g i

/-! ### the statements' words -/
def Br (c : Bool) (X Y : Prop) : Prop := match c with | true => X | false => Y
def Need (c : Bool) (X : Prop) : Prop := match c with | true => X | false => False

def ifSome {α : Type} (o : Option α) (F : α → Prop) : Prop := match o with | some x => F x | none => False

structure Tab where
  P : Program
  T : Nat → Ty
  B : Nat → Nat
  C : Nat → Bool
  D : List Deferred

/-- a call that returns, in the words of 'SV' -/
def Ret (P : Program) (f : Nat) (args : List SV) (w : World) (R : SV → World → Prop) : Prop :=
  Calls P f (SV.encL args).toArray w fun e w' => ∃ r, e = .returned r.enc ∧ R r w'

/- some value of this type -/
mutual
def Ty.ex : Ty → (SV → Prop) → Prop
  | .int k, F => ∃ n : Int, F (.int k n)
  | .bool, F => ∃ b : Bool, F (.bool b)
  | .str, F => ∃ s : ByteArray, F (.str s)
  | .ptr _, F => ∃ p : Option Addr, F (.ptr p)
  | .slice _, F => ∃ s : Sl, F (.slice s)
  | .map, F => ∃ r : Option Nat, F (.map r)
  | .arr k n, F => ∃ f : Nat → Int, F (.arr k n f)
  | .struct _ ts, F => Ty.exs ts fun l => F (.struct l)
  | .tuple ts, F => Ty.exs ts fun l => F (.tuple l)
  | .other, F => ∃ v : Value, F (.raw v)
def Ty.exs : List Ty → (List SV → Prop) → Prop
  | [], F => F []
  | t :: r, F => t.ex fun x => Ty.exs r fun l => F (x :: l)
end

/- every value of this type -/
mutual
def Ty.all : Ty → (SV → Prop) → Prop
  | .int k, F => ∀ n : Int, F (.int k n)
  | .bool, F => ∀ b : Bool, F (.bool b)
  | .str, F => ∀ s : ByteArray, F (.str s)
  | .ptr _, F => ∀ p : Option Addr, F (.ptr p)
  | .slice _, F => ∀ s : Sl, F (.slice s)
  | .map, F => ∀ r : Option Nat, F (.map r)
  | .arr k n, F => ∀ f : Nat → Int, F (.arr k n f)
  | .struct _ ts, F => Ty.alls ts fun l => F (.struct l)
  | .tuple ts, F => Ty.alls ts fun l => F (.tuple l)
  | .other, F => ∀ v : Value, F (.raw v)
def Ty.alls : List Ty → (List SV → Prop) → Prop
  | [], F => F []
  | t :: r, F => t.all fun x => Ty.alls r fun l => F (x :: l)
end

/- a function of values of these types -/
mutual
def Ty.Fn : Ty → Type → Type
  | .int _, R => Int → R
  | .bool, R => Bool → R
  | .str, R => ByteArray → R
  | .ptr _, R => Option Addr → R
  | .slice _, R => Sl → R
  | .map, R => Option Nat → R
  | .arr _ _, R => (Nat → Int) → R
  | .struct _ ts, R => Ty.Fns ts R
  | .tuple ts, R => Ty.Fns ts R
  | .other, R => Value → R
def Ty.Fns : List Ty → Type → Type
  | [], R => R
  | t :: r, R => t.Fn (Ty.Fns r R)
end

mutual
def Ty.app {R : Type} : (t : Ty) → t.Fn R → SV → Option R
  | .int k, f, .int k' n => match ksame k k' with | true => some (f n) | false => none
  | .bool, f, .bool b => some (f b)
  | .str, f, .str s => some (f s)
  | .ptr _, f, .ptr p => some (f p)
  | .slice _, f, .slice s => some (f s)
  | .map, f, .map r => some (f r)
  | .arr k n, f, .arr k' n' g => match ksame k k' && Nat.beq n n' with | true => some (f g) | false => none
  | .struct _ ts, f, .struct l => Ty.apps ts f l
  | .tuple ts, f, .tuple l => Ty.apps ts f l
  | .other, f, .raw v => some (f v)
  | _, _, _ => none
def Ty.apps {R : Type} : (ts : List Ty) → Ty.Fns ts R → List SV → Option R
  | [], f, [] => some f
  | t :: r, f, x :: l => match t.app f x with | some g => Ty.apps r g l | none => none
  | _, _, _ => none
end

inductive Key where
  | t (n : Nat)
  | b (n : Nat)

structure St where
  env : Nat → Option SV
  bx : Nat → Option SV
  nb : Nat
  nb0 : Nat
  ids : List Nat
  mods : List Nat
  news : List Nat
  dirty : Bool

def St.put (s : St) (t : Nat) (v : Option SV) : St := { s with env := fun u => match Nat.beq u t with | true => v | false => s.env u }
def St.putB (s : St) (i : Nat) (v : Option SV) : St := { s with bx := fun u => match Nat.beq u i with | true => v | false => s.bx u }
def St.putD (s : St) (d : Option Nat) (v : SV) : St := match d with | some t => s.put t (some v) | none => s

def constSV : Value → Option SV
  | .int k n => some (.int k n)
  | .bool b => some (.bool b)
  | .string s => some (.str s)
  | .pointer none => some (.ptr none)
  | .slice none n c => match Nat.beq n 0 && Nat.beq c 0 with | true => some (.slice ⟨none, 0, 0⟩) | false => none
  | .map none => some (.map none)
  | .nilIface => some (.raw .nilIface)
  | .nilFunc => some (.raw .nilFunc)
  | _ => none

def St.ev (s : St) : Operand → Option SV
  | .tmp t => s.env t
  | .const v => constSV v
  | .global g => some (.ptr (some ⟨g, 0, none⟩))
  | .func f => some (.clo f [])

def nth {α : Type} : List α → Nat → Option α
  | [], _ => none
  | x :: _, 0 => some x
  | _ :: r, n + 1 => nth r n
def setNth {α : Type} : List α → Nat → α → List α
  | [], _, _ => []
  | _ :: r, 0, y => y :: r
  | x :: r, n + 1, y => x :: setNth r n y

def Ty.off : List Ty → Nat → Nat
  | t :: r, n + 1 => t.size + Ty.off r n
  | _, _ => 0

def ad (a : Addr) (n : Nat) : Addr := match n with | 0 => a | n + 1 => a.add (n + 1)

mutual
def eqSV : SV → SV → Bool
  | .int _ a, .int _ b => a == b
  | .bool a, .bool b => a == b
  | .str a, .str b => a == b
  | .arr _ n f, .arr _ _ g => eqArr n f g
  | .struct l, .struct m => eqL l m
  | _, _ => false
def eqL : List SV → List SV → Bool
  | [], [] => true
  | x :: r, y :: s => match r, s with
    | [], [] => eqSV x y
    | r, s => eqSV x y && eqL r s
  | _, _ => false
end
mutual
def Ty.cmp : Ty → Bool
  | .int _ => true | .bool => true | .str => true | .arr _ _ => true
  | .struct false ts => Ty.cmps ts
  | _ => false
def Ty.cmps : List Ty → Bool
  | [] => true
  | t :: r => t.cmp && Ty.cmps r
end

mutual
def Ty.depth : Ty → Nat
  | .struct _ ts => Ty.depths ts + 1
  | .arr _ _ => 1
  | _ => 0
def Ty.depths : List Ty → Nat
  | [] => 0
  | t :: r => t.depth + Ty.depths r
end

def intVC (op : BinOp) (k : IntKind) (a b : Int) (F : SV → Prop) : Prop :=
  match op with
  | .add => F (.int k (wr k (a + b)))
  | .sub => F (.int k (wr k (a - b)))
  | .mul => F (.int k (wr k (a * b)))
  | .quo => Need (b != 0) (F (.int k (wr k (a.tdiv b))))
  | .rem => Need (b != 0) (F (.int k (a.tmod b)))
  | .and => F (.int k (iand k a b))
  | .or => F (.int k (ior k a b))
  | .xor => F (.int k (ixor k a b))
  | .andNot => F (.int k (iandnot k a b))
  | .eql => F (.bool (a == b))
  | .neq => F (.bool (a != b))
  | .lss => F (.bool (decide (a < b)))
  | .leq => F (.bool (decide (a ≤ b)))
  | .gtr => F (.bool (decide (a > b)))
  | .geq => F (.bool (decide (a ≥ b)))
  | _ => False

def strVC (op : BinOp) (a b : ByteArray) (F : SV → Prop) : Prop :=
  match op with
  | .eql => F (.bool (a == b))
  | .neq => F (.bool (!(a == b)))
  | _ => False

def eqVC (X : Tab) (t : Nat) (op : BinOp) (a b : SV) (F : SV → Prop) : Prop :=
  match (X.T t).cmp && Nat.ble (X.T t).depth 50 && a.shape (X.T t) && b.shape (X.T t) with
  | true => match op with
    | .eql => F (.bool (eqSV a b))
    | .neq => F (.bool (!eqSV a b))
    | _ => False
  | false => False

def nilVC (op : BinOp) (isNil : Bool) (F : SV → Prop) : Prop :=
  match op with
  | .eql => F (.bool isNil)
  | .neq => F (.bool (!isNil))
  | _ => False

def isInt : SV → Bool | .int _ _ => true | _ => false

def isSliceTy : Ty → Bool | .slice _ => true | _ => false
def Sl.isNil (q : Sl) : Bool := match q.ptr with | none => Nat.beq q.len 0 && Nat.beq q.cap 0 | some _ => false
def binVC (X : Tab) (op : BinOp) (t : Nat) (a b : SV) (F : SV → Prop) : Prop :=
  match a, b with
  | .int k x, .int k' y => match op with
    | .shl => Need (decide (0 ≤ y)) (F (.int k (gshl k x y)))
    | .shr => Need (decide (0 ≤ y)) (F (.int k (gshr k x y)))
    | op => match ksame k k' with | true => intVC op k x y F | false => False
  | .str x, .str y => strVC op x y F
  | .ptr p, .ptr none => match X.T t with | .ptr _ => nilVC op p.isNone F | _ => False
  | .slice s, .slice q => match isSliceTy (X.T t) && q.isNil with | true => nilVC op s.ptr.isNone F | false => False
  | a, b => eqVC X t op a b F

def unVC (op : UnOp) (a : SV) (F : SV → Prop) : Prop :=
  match op, a with
  | .not, .bool b => F (.bool (!b))
  | .neg, .int k n => F (.int k (wr k (0 - n)))
  | .xor, .int k n => F (.int k (ixor k (if k.signed then -1 else k.max) n))
  | _, _ => False

def deref (p : Option Addr) (F : Addr → Prop) : Prop := match p with | some a => F a | none => False

def conds : List Bool → Bool
  | [] => true
  | [c] => c
  | c :: r => c && conds r

/-- bounds of a slice expression: low, high, max as they stand; cap and len of what is sliced -/
def sliceVC (lo hi mx : Option Int) (len cap : Nat) (F : Nat → Nat → Nat → Prop) : Prop :=
  match mx, hi, lo with
  | none, none, none => F 0 len cap
  | none, none, some l => Need (decide (0 ≤ l) && decide (l ≤ (len : Int))) (F l.toNat len cap)
  | none, some h, none => Need (decide (0 ≤ h) && decide (h ≤ (cap : Int))) (F 0 h.toNat cap)
  | none, some h, some l => Need (decide (0 ≤ h) && decide (h ≤ (cap : Int)) && (decide (0 ≤ l) && decide (l ≤ (h.toNat : Int)))) (F l.toNat h.toNat cap)
  | some m, some h, some l => Need (decide (0 ≤ m) && decide (m ≤ (cap : Int)) && (decide (0 ≤ h) && decide (h ≤ (m.toNat : Int))) && (decide (0 ≤ l) && decide (l ≤ (h.toNat : Int)))) (F l.toNat h.toNat m.toNat)
  | some m, some h, none => Need (decide (0 ≤ m) && decide (m ≤ (cap : Int)) && (decide (0 ≤ h) && decide (h ≤ (m.toNat : Int)))) (F 0 h.toNat m.toNat)
  | some _, none, _ => False

/-- an operand that may be missing: 'some none' where it is -/
def St.evInt (s : St) : Option Operand → Option (Option Int)
  | none => some none
  | some x => match s.ev x with | some (.int _ n) => some (some n) | _ => none

def St.evs (s : St) : List Operand → Option (List SV)
  | [] => some []
  | x :: r => match s.ev x, s.evs r with | some a, some l => some (a :: l) | _, _ => none
def St.evParts (s : St) : List (Nat × Operand) → Option (List (Nat × SV))
  | [] => some []
  | (i, x) :: r => match s.ev x, s.evParts r with | some a, some l => some ((i, a) :: l) | _, _ => none

def partTy (t : Ty) (i : Nat) : Option Ty :=
  match t with
  | .struct _ ts => nth ts i
  | .arr k n => match Nat.blt i n with | true => some (.int k) | false => none
  | _ => none
def fset (f : Nat → Int) (i : Nat) (v : Int) : Nat → Int := fun j => match Nat.beq j i with | true => v | false => f j
def setPart (c : SV) (i : Nat) (x : SV) : Option SV :=
  match c, x with
  | .struct l, x => some (.struct (setNth l i x))
  | .arr k n f, .int _ v => some (.arr k n (fset f i v))
  | _, _ => none
def buildSV (t : Ty) : SV → List (Nat × SV) → Option SV
  | c, [] => some c
  | c, (i, x) :: r => match partTy t i with
    | some u => match x.shape u with
      | true => match setPart c i x with | some c' => buildSV t c' r | none => none
      | false => none
    | none => none

def getPath : SV → List Nat → Option SV
  | c, [] => some c
  | .struct l, i :: p => match nth l i with | some x => getPath x p | none => none
  | .arr k _ f, [i] => some (.int k (f i))
  | _, _ => none
def setPath : SV → List Nat → SV → Option SV
  | _, [], x => some x
  | .struct l, i :: p, x => match nth l i with
    | some y => match setPath y p x with | some z => some (.struct (setNth l i z)) | none => none
    | none => none
  | .arr k n f, [i], .int _ v => some (.arr k n (fset f i v))
  | _, _, _ => none
def tyPath : Ty → List Nat → Option Ty
  | t, [] => some t
  | .struct _ ts, i :: p => match nth ts i with | some x => tyPath x p | none => none
  | .arr k _, [_] => some (.int k)
  | _, _ => none

/-- i is 0: x; i is 1: the next; .. -/
def pickVC : List SV → Nat → Nat → (SV → Prop) → Prop
  | [], _, _, _ => True
  | x :: r, b, j, F => (j = b → F x) ∧ pickVC r (b + 1) j F

def isFull (t : Ty) : Bool := match t.zero with | some _ => isData t | none => false
def elemTy (t : Ty) : Ty := match t with | .arr k _ => .int k | .struct _ (t :: _) => t | _ => .other
def lenTy (t : Ty) : Nat := match t with | .arr _ n => n | .struct _ ts => ts.length | _ => 0
def isArrTy (t : Ty) : Bool := match t with | .arr _ _ => true | .struct b _ => b | _ => false

def sget (s : ByteArray) (i : Nat) : Int := (s.data.toList.getD i 0).toNat

def plain : SV → Bool
  | .lptr _ _ _ => false
  | .box _ _ _ => false
  | _ => true
def allPlain : List SV → Bool
  | [] => true
  | x :: r => plain x && allPlain r

/-- the type of what a pointer into a local struct points at -/
def lAt (X : Tab) (s : St) (id : Nat) (p : List Nat) : Option Ty := match s.bx id with | some (.box _ t _) => tyPath (X.T t) p | _ => none
/-- is it this type's? -/
def lIs (X : Tab) (s : St) (id : Nat) (p : List Nat) (t : Nat) : Bool := match lAt X s id p with | some u => u.same (X.T t) | none => false

/-- operations that look at no memory and change none -/
def pureVC (X : Tab) (s : St) (o : Oper) (F : SV → Prop) : Prop :=
  match o.op with
  | .move x | .assign x => ifSome (s.ev x) F
  | .pick c a b => match s.ev c with
    | some (.bool t) => Br t (ifSome (s.ev a) F) (ifSome (s.ev b) F)
    | _ => False
  | .binOp op t x y _ => match s.ev x, s.ev y with | some a, some b => binVC X op t a b F | _, _ => False
  | .unOp op _ x => ifSome (s.ev x) fun a => unVC op a F
  | .convert src dst x => match X.T src, X.T dst, s.ev x with
    | .int _, .int k, some (.int _ n) => F (.int k (wr k n))
    | .str, .str, some (.str t) => F (.str t)
    | _, _, _ => False
  | .extract x i => match s.ev x with | some (.tuple l) => ifSome (nth l i) fun v => (match plain v with | true => F v | false => False) | _ => False
  | .field t x f => match s.ev x with
    | some (.struct l) => match X.T t with
      | .struct false ts => match SV.shapes l ts with | true => ifSome (nth l f) F | false => False
      | _ => False
    | _ => False
  | .index t x i => match s.ev x, s.ev i with
    | some (.arr k n f), some (.int _ j) => match (SV.arr k n f).shape (X.T t) with
      | true => Need (decide (0 ≤ j) && decide (j < (n : Int))) (F (.int k (f j.toNat)))
      | false => False
    | some (.struct l), some (.int _ j) => match isArrTy (X.T t) && (SV.struct l).shape (X.T t) with
      | true => Need (decide (0 ≤ j) && decide (j < (l.length : Int))) (pickVC l 0 j.toNat F)
      | false => False
    | some (.str b), some (.int _ j) => match X.T t with
      | .str => Need (decide (0 ≤ j) && decide (j < (b.size : Int))) (F (.int .u8 (sget b j.toNat)))
      | _ => False
    | _, _ => False
  | .fieldAddr t x f => match X.T t with
    | .struct false ts => match nth ts f with
      | some u => match isData u && !Nat.beq u.size 0 with
        | false => False
        | true => match s.ev x with
          | some (.lptr id off p) => match lIs X s id p t with
            | true => F (.lptr id (off + Ty.off ts f) (p ++ [f]))
            | false => False
          | some (.ptr a) => deref a fun a => F (.ptr (some (ad a (Ty.off ts f))))
          | _ => False
      | none => False
    | _ => False
  | .indexAddr t x i => match X.T t, s.ev x, s.ev i with
    | .slice e, some (.slice q), some (.int _ j) => match isData (X.T e) with
      | true => Need (decide (0 ≤ j) && decide (j < (q.len : Int)) && q.ptr.isSome) (F (.ptr (some (q.at (X.T e).size j.toNat))))
      | false => False
    | ty, some (.lptr id off p), some (.int _ j) => match isArrTy ty && lIs X s id p t with
      | true => Need (decide (0 ≤ j) && decide (j < (lenTy ty : Int))) (F (.lptr id (off + j.toNat * (elemTy ty).size) (p ++ [j.toNat])))
      | false => False
    | ty, some (.ptr a), some (.int _ j) => match isArrTy ty with
      | true => deref a fun a => Need (decide (0 ≤ j) && decide (j < (lenTy ty : Int))) (F (.ptr (some (a.add (j.toNat * (elemTy ty).size)))))
      | false => False
    | _, _, _ => False
  | .slice t x lo hi mx => match s.evInt lo, s.evInt hi, s.evInt mx, s.ev x with
    | some l, some h, some m, some (.slice q) => match X.T t with
      | .slice e => match isData (X.T e) with
        | true => sliceVC l h m q.len q.cap fun l h m => F (.slice (q.sub (X.T e).size l h m))
        | false => False
      | _ => False
    | some l, some h, some none, some (.str b) => match X.T t with
      | .str => sliceVC l h none b.size b.size fun l h _ => F (.str (b.extract l h))
      | _ => False
    | some l, some h, some m, some (.ptr a) => match isArrTy (X.T t) && Nat.blt 0 (lenTy (X.T t)) with
      | true => deref a fun a => sliceVC l h m (lenTy (X.T t)) (lenTy (X.T t)) fun l h m => F (.slice (Sl.sub ⟨some a, lenTy (X.T t), lenTy (X.T t)⟩ (elemTy (X.T t)).size l h m))
      | false => False
    | _, _, _, _ => False
  | .sliceToArrayPointer t x => match isArrTy (X.T t), s.ev x with
    | true, some (.slice q) => Need (decide (lenTy (X.T t) ≤ q.len) && q.ptr.isSome) (F (.ptr (some (q.at 0 0))))
    | _, _ => False
  | .build t parts => match isAggTy (X.T t), (X.T t).zero, s.evParts parts.toList with
    | true, some z, some l => ifSome (buildSV (X.T t) z l) F
    | _, _, _ => False
  | .nilCheck x => match s.ev x with
    | some (.ptr p) => deref p fun a => F (.ptr (some a))
    | some (.lptr id off p) => match lAt X s id p with | some _ => F (.lptr id off p) | none => False
    | some (.clo f cs) => F (.clo f cs)
    | _ => False
  | .makeFunc (.func f) first cap => match first.toList, s.evs cap.toList with
    | [], some l => match allPlain l with | true => F (.clo f l) | false => False
    | _, _ => False
  | .load t x => match s.ev x with
    | some (.lptr id _ p) => match lIs X s id p t with
      | true => match s.bx id with
        | some (.box _ _ c) => ifSome (getPath c p) F
        | _ => False
      | false => False
    | _ => False
  | .call c => match c.callee, c.argTypes.toList, c.args.toList with
    | .builtin .len, [t], [x] => match X.T t, s.ev x with
      | .slice _, some (.slice q) => F (.int .i64 (q.len : Int))
      | .str, some (.str b) => F (.int .i64 (b.size : Int))
      | .arr _ n, _ => F (.int .i64 (n : Int))
      | _, _ => False
    | .builtin .cap, [t], [x] => match X.T t, s.ev x with
      | .slice _, some (.slice q) => F (.int .i64 (q.cap : Int))
      | _, _ => False
    | .builtin .min, _, [x, y] => match s.ev x, s.ev y with
      | some (.int k a), some (.int _ b) => F (.int k (imin a b))
      | _, _ => False
    | .builtin .max, _, [x, y] => match s.ev x, s.ev y with
      | some (.int k a), some (.int _ b) => F (.int k (imax a b))
      | _, _ => False
    | _, _, _ => False
  | _ => False

/-- from w to w1 nothing that was there has changed but the blocks mods; news: new blocks -/
structure Upd (mods news : List Nat) (w w1 : World) : Prop where
  os : w1.os = w.os
  tape : w1.tape = w.tape
  output : w1.output = w.output
  size : w.heap.size ≤ w1.heap.size
  keep : ∀ k, k < w.heap.size → k ∉ mods → w1.heap[k]? = w.heap[k]?
  news : ∀ b ∈ news, w.heap.size ≤ b ∧ b < w1.heap.size

def Kept (bs : List Nat) (w w1 : World) : Prop := ∀ b ∈ bs, w1.heap[b]? = w.heap[b]?
def Keeps (bs : List Nat) (w w1 : World) : Prop := Upd [] [] w w1 ∨ Kept bs w w1
def keepsThen (bs : List Nat) (w w1 : World) (F : Prop) : Prop := match bs with | [] => F | b :: r => Keeps (b :: r) w w1 ∧ F

def upFrom : Nat → Nat → List Nat
  | _, 0 => []
  | a, n + 1 => a :: upFrom (Nat.succ a) n
def St.liveFrom (s : St) : List Nat → List Nat
  | [] => []
  | i :: r => match s.bx i with | some (.box b _ _) => b :: s.liveFrom r | _ => s.liveFrom r
def St.live (s : St) : List Nat := s.liveFrom (upFrom 0 s.nb)
def St.clean (s : St) : St := { s with nb0 := s.nb, ids := [], mods := [], news := [], dirty := false }

/-- the world as it stands: what has become of local structs since it was last looked at is told -/
def St.flush (s : St) (w : World) (F : St → World → Prop) : Prop :=
  match s.dirty with
  | false => F s.clean w
  | true => ∀ w1, Upd s.mods s.news w w1 → F s.clean w1
/-- .. for an operation that only reads -/
def St.look (s : St) (w : World) (F : St → World → Prop) : Prop :=
  match s.mods with
  | [] => F s w
  | _ => s.flush w F
/-- a new row of cells -/
def St.newRow (s : St) (w : World) (cells : List Value) (e : Nat) (F : St → Nat → World → Prop) : Prop :=
  ∀ b w1, Upd s.mods (b :: s.news) w w1 → w1.heap[b]? = some (.cells cells.toArray e (0, 0)) → F s.clean b w1

def St.newBox (s : St) (b t : Nat) (c : SV) : St :=
  { (s.putB s.nb (some (.box b t c))) with nb := Nat.succ s.nb, news := b :: s.news, dirty := true }
def hasN : List Nat → Nat → Bool
  | [], _ => false
  | x :: r, n => match Nat.beq x n with | true => true | false => hasN r n
def St.touch (s : St) (id b : Nat) : St :=
  match Nat.ble s.nb0 id || hasN s.ids id with
  | true => { s with dirty := true }
  | false => { s with ids := id :: s.ids, mods := b :: s.mods, dirty := true }
/-- a local struct becomes memory -/
def St.free (s : St) (id b : Nat) : St :=
  { (s.putB id none) with env := fun u => match s.env u with
      | some (.lptr i off p) => match Nat.beq i id with | true => some (.ptr (some ⟨b, off, none⟩)) | false => some (.lptr i off p)
      | r => r }
def escs (s : St) (w : World) : List Nat → (St → Prop) → Prop
  | [], F => F s
  | id :: r, F => match s.bx id with
    | some (.box b t c) => w.heap[b]? = some (.cells c.cells.toArray t (0, 0)) → escs (s.free id b) w r F
    | _ => escs s w r F
def lptrs : List SV → List Nat
  | [] => []
  | .lptr id _ _ :: r => id :: lptrs r
  | _ :: r => lptrs r
def St.esc (s : St) (w : World) (xs : List SV) (F : St → World → Prop) : Prop :=
  match lptrs xs with
  | [] => F s w
  | ids => s.flush w fun s w => escs s w ids fun s => F s w

/-! ### loads -/
mutual
def loadVC (a : Addr) (w : World) : Ty → Nat → (SV → Prop) → Prop
  | .int k, off, F => ∃ n : Int, w.cell? (ad a off) = some (.int k n) ∧ F (.int k n)
  | .bool, off, F => ∃ b : Bool, w.cell? (ad a off) = some (.bool b) ∧ F (.bool b)
  | .str, off, F => ∃ s : ByteArray, w.cell? (ad a off) = some (.string s) ∧ F (.str s)
  | .ptr _, off, F => ∃ p : Option Addr, w.cell? (ad a off) = some (.pointer p) ∧ F (.ptr p)
  | .slice _, off, F => ∃ s : Sl, w.cell? (ad a off) = some s.val ∧ F (.slice s)
  | .map, off, F => ∃ r : Option Nat, w.cell? (ad a off) = some (.map r) ∧ F (.map r)
  | .arr k n, off, F => ∃ f : Nat → Int, (∀ i, i < n → w.cell? (a.add (off + i)) = some (.int k (f i))) ∧ F (.arr k n f)
  | .struct _ ts, off, F => loadsVC a w ts off fun l => F (.struct l)
  | _, _, _ => False
def loadsVC (a : Addr) (w : World) : List Ty → Nat → (List SV → Prop) → Prop
  | [], _, F => F []
  | t :: r, off, F => loadVC a w t off fun x => loadsVC a w r (off + t.size) fun l => F (x :: l)
end

/-! ### stores -/
/-- cells are written, one behind the other; bs: blocks that are not to be hit -/
def Store (w : World) (a : Addr) (vs : List Value) (bs : List Nat) (F : World → Prop) : Prop :=
  (∀ i, i < vs.length → (w.cell? (a.add i)).isSome = true ∧ w.frozen? (a.add i) = false) ∧ a.block ∉ bs ∧ F (w.setCells a.block a.off vs)

def RowAt (w : World) (p : Option Addr) (n : Nat) (l : List Value) : Prop :=
  match p with
  | none => l = []
  | some a => l.length = n ∧ (∀ i (h : i < l.length), w.cell? (a.add i) = some l[i]) ∧ ∀ v ∈ l, v.oneCell' = true

/-- append(s, new...): elements of type e, sz cells and by_ bytes each; new: the cells of n of them -/
def AppendN (e sz by_ : Nat) (s : Sl) (n : Nat) (new : List Value) (bs : List Nat) (w : World) (F : Sl → World → Prop) : Prop :=
    (s.len + n ≤ s.cap →
      match s.ptr with
      | none => F ⟨none, s.len + n, s.cap⟩ w
      | some a => Store w (a.add (s.len * sz)) new bs fun w1 => F ⟨some a, s.len + n, s.cap⟩ w1) ∧
    (s.cap < s.len + n → s.len + n ≤ 9223372036854775807 ∧ Builtin.nextslicecap (s.len + n) s.cap * by_ ≤ 281474976710656 ∧
      ∃ old : List Value, RowAt w s.ptr (s.len * sz) old ∧
        ∀ (cap b : Nat) (c : Array Value) (w1 : World), s.len + n ≤ cap → Upd [] [b] w w1 → w1.heap[b]? = some (.cells c e (0, 0)) →
          c.toList.take (old.length + new.length) = old ++ new → c.size = old.length + new.length + (cap - (s.len + n)) * sz →
          F ⟨some ⟨b, 0, none⟩, s.len + n, cap⟩ w1)
/-- append(s, x...) -/
def Append (e sz by_ : Nat) (s x : Sl) (bs : List Nat) (w : World) (F : Sl → World → Prop) : Prop :=
  ∃ new : List Value, RowAt w x.ptr (x.len * sz) new ∧ AppendN e sz by_ s x.len new bs w F

def Copy (sz : Nat) (d x : Sl) (bs : List Nat) (w : World) (F : World → Prop) : Prop :=
  ∃ new : List Value, RowAt w x.ptr (Nat.min x.len d.len * sz) new ∧
    match d.ptr with
    | none => F w
    | some a => Store w a new bs F

def BytesStr (w : World) (s : Sl) (F : ByteArray → Prop) : Prop :=
  ∃ l : List UInt8, l.length = s.len ∧ (s.ptr = none → l = []) ∧ (∀ i (h : i < l.length), w.cell? (s.at 1 i) = some (.int .u8 l[i].toNat)) ∧ F ⟨l.toArray⟩

/-- '[]byte("..")': the row gets a mark behind its end -/
def MarkStr (w : World) (s : Sl) (bs : List Nat) (F : World → Prop) : Prop :=
  deref s.ptr fun a => ∃ c e, w.heap[a.block]? = some (.cells c e (0, 0)) ∧ a.block ∉ bs ∧
    ∀ w1, Upd [a.block] [] w w1 → w1.heap[a.block]? = some (.cells c e (c.size, c.size + 1)) → F w1

def zerosOf (t : Ty) (n : Nat) : List Value := (List.replicate n ((match t.zero with | some z => z.cells | none => []))).flatten


def opVC (X : Tab) (s : St) (w : World) (o : Oper) (K : St → World → Prop) : Prop :=
  match o.op with
  | .alloc t => ifSome ((X.T t).zero) fun z => ∀ b, K ((s.newBox b t z).putD o.dst (.lptr s.nb 0 [])) w
  | .box t x => ifSome (s.ev x) fun v => s.esc w [v] fun s w => ifSome (s.ev x) fun v =>
      match v.shape (X.T t) with
      | true => ∀ b, K ((s.newBox b t v).putD o.dst (.lptr s.nb 0 [])) w
      | false => False
  | .store t a x => match o.dst with
    | some _ => False
    | none => ifSome (s.ev x) fun v => s.esc w [v] fun s w => ifSome (s.ev x) fun v =>
      match v.shape (X.T t) with
      | true => match s.ev a with
        | some (.lptr id _ p) => match s.bx id with
          | some (.box b bt c) => match lIs X s id p t with
            | true => ifSome (setPath c p v) fun c' => K ((s.putB id (some (.box b bt c'))).touch id b) w
            | false => False
          | _ => False
        | some (.ptr p) => deref p fun a => s.flush w fun s w => Store w a v.cells s.live fun w1 => K s w1
        | _ => False
      | false => False
  | .load t x => match s.ev x with
    | some (.ptr p) => deref p fun a => s.look w fun s w => loadVC a w (X.T t) 0 fun v => K (s.putD o.dst v) w
    | _ => pureVC X s o fun v => K (s.putD o.dst v) w
  | .buildSlice t n parts => match X.T t, s.evParts parts.toList with
    | .slice e, some l => match isFull (X.T e) && Nat.ble (n * (X.T e).size) 16777216 with
      | false => False
      | true => s.esc w (l.map (·.2)) fun s w => match s.evParts parts.toList with
      | some l => match (Ty.struct true (List.replicate n (X.T e))).zero with
        | some z => ifSome (buildSV (.struct true (List.replicate n (X.T e))) z l) fun c => s.newRow w c.cells e fun s b w => K (s.putD o.dst (.slice ⟨some ⟨b, 0, none⟩, n, n⟩)) w
        | none => False
      | none => False
    | _, _ => False
  | .slice _ x _ _ _ => match s.ev x with
    | some (.lptr id off p) => s.esc w [.lptr id off p] fun s w => pureVC X s o fun v => K (s.putD o.dst v) w
    | _ => pureVC X s o fun v => K (s.putD o.dst v) w
  | .makeFunc _ _ cap => match s.evs cap.toList with
    | some l => s.esc w l fun s w => pureVC X s o fun v => K (s.putD o.dst v) w
    | none => False
  | .makeSlice t n c => match X.T t, s.ev n, s.ev c with
    | .slice e, some (.int .i64 l), some (.int .i64 m) =>
      match isFull (X.T e) with
      | false => False
      | true => Need (decide (0 ≤ l) && decide (l ≤ m) && decide (m ≤ 281474976710656) && decide ((X.B e : Int) * m ≤ 281474976710656)) (s.newRow w (zerosOf (X.T e) m.toNat) e fun s b w => K (s.putD o.dst (.slice ⟨some ⟨b, 0, none⟩, l.toNat, m.toNat⟩)) w)
    | _, _, _ => False
  | .convert src dst x => match X.T src, X.T dst, s.ev x with
    | .slice e, .str, some (.slice q) => match X.T e with
      | .int .u8 => s.look w fun s w => BytesStr w q fun b => K (s.putD o.dst (.str b)) w
      | _ => False
    | .slice _, .slice e, some (.slice q) => match X.T e, Nat.beq src dst with
      | .int .u8, true => s.flush w fun s w => MarkStr w q s.live fun w => K (s.putD o.dst (.slice q)) w
      | _, _ => False
    | _, _, _ => pureVC X s o fun v => K (s.putD o.dst v) w
  | .call c => match c.callee with
    | .value f => match s.evs c.args.toList with
      | some l => s.esc w l fun s w => match s.ev f, s.evs c.args.toList with
        | some (.clo f cs), some l => match X.C f && allPlain l with
          | true => s.flush w fun s w => Ret X.P f (l ++ cs) w fun r w1 => (X.T o.type).ex fun v => r = v ∧ keepsThen s.live w w1 (K (s.putD o.dst v) w1)
          | false => False
        | _, _ => False
      | none => False
    | .builtin .append => match c.argTypes.toList, c.args.toList with
      | [t, u], [x, y] => match X.T t, X.T u, s.ev x, s.ev y with
        | .slice e, .slice _, some (.slice p), some (.slice q) => match isFull (X.T e) with
          | false => False
          | true => s.flush w fun s w =>
            Append e (X.T e).size (X.B e) p q s.live w fun r w => K (s.putD o.dst (.slice r)) w
        | .slice e, .int .i64, some (.slice p), some (.int .i64 n) => match isFull (X.T e) with
          | false => False
          | true => s.flush w fun s w =>
            Need (decide (0 ≤ n) && decide (n ≤ 281474976710656) && decide (n * (X.B e : Int) ≤ 281474976710656)) (AppendN e (X.T e).size (X.B e) p n.toNat (zerosOf (X.T e) n.toNat) s.live w fun r w => K (s.putD o.dst (.slice r)) w)
        | _, _, _, _ => False
      | _, _ => False
    | .builtin .copy => match c.argTypes.toList, c.args.toList with
      | [t, u], [x, y] => match X.T t, X.T u, s.ev x, s.ev y with
        | .slice e, .slice _, some (.slice p), some (.slice q) => match isData (X.T e) with
          | false => False
          | true => s.flush w fun s w =>
            Copy (X.T e).size p q s.live w fun w => K (s.putD o.dst (.int .i64 (Nat.min q.len p.len : Nat))) w
        | _, _, _, _ => False
      | _, _ => False
    | _ => pureVC X s o fun v => K (s.putD o.dst v) w
  | _ => pureVC X s o fun v => K (s.putD o.dst v) w

def dstOf (ops : List Oper) (j : Nat) : Option Nat := match nth ops j with | some g => g.dst | none => none
def St.drop (s : St) (d : Option Nat) : St := match d with | some t => s.put t (some (.tuple [])) | none => s

/-- an operation under its guard -/
def guardVC (ops : List Oper) (s : St) (o : Oper) (yes no : St → Prop) : Prop :=
  match o.guard with
  | none => yes s
  | some (j, want) => match dstOf ops j with
    | some d => match s.env d with
      | some (.bool c) => match want with
        | true => Br c (yes (s.put d (some (.bool true)))) (no ((s.put d (some (.bool false))).drop o.dst))
        | false => Br c (no ((s.put d (some (.bool true))).drop o.dst)) (yes (s.put d (some (.bool false))))
      | some (.tuple []) => no (s.drop o.dst)
      | _ => False
    | none => False

def opsVC (X : Tab) (ops : List Oper) : List Oper → St → World → (St → World → Prop) → Prop
  | [], s, w, k => k s w
  | o :: r, s, w, k => guardVC ops s o (fun s => opVC X s w o fun s w => opsVC X ops r s w k) (fun s => opsVC X ops r s w k)

/-! ### regions that draw their order -/
inductive Tree where
  | done
  | early (i : Nat) (t : Tree)
  | fork (l : List (Nat × Tree))

/-- in a drawn region: what loads rely on is all the memory that was there (none), or these blocks -/
def kin (K : Option (List Nat)) (b : Nat) (F : Prop) : Prop := match K with | none => F | some bs => b ∈ bs ∧ F
def knew (K : Option (List Nat)) (w0 w : World) (F : Prop) : Prop := match K with | none => Upd [] [] w0 w ∧ F | some bs => Kept bs w0 w ∧ F
/-- an operation that is carried out first, whatever the order: it looks at what was there when the region began (w0; boxes below n0), or at nothing -/
def earlyVC (K : Option (List Nat)) (X : Tab) (s : St) (w0 : World) (n0 : Nat) (o : Oper) (F : SV → Prop) : Prop :=
  match o.op with
  | .load t x => match s.ev x with
    | some (.ptr p) => deref p fun a => kin K a.block (loadVC a w0 (X.T t) 0 F)
    | some (.lptr id _ _) => match Nat.blt id n0 with | true => pureVC X s o F | false => False
    | _ => False
  | _ => pureVC X s o F
def isLoad (o : Oper) : Bool := match o.op with | .load _ _ => true | _ => false
def isStore (o : Oper) : Bool := match o.op with | .store _ _ _ => true | _ => false
/-- does i wait for j, at once or through others? -/
def ancOf (ops : List Oper) : Nat → Nat → Nat → Bool
  | 0, _, _ => false
  | n + 1, i, j => match nth ops i with
    | some o => o.after.toList.any fun e => Region.binds .any e && (Nat.beq e.on j || ancOf ops n e.on j)
    | none => false
def racesFrom (all : List Oper) (i : Nat) : List Oper → Nat → Bool
  | [], _ => false
  | o :: r, j => (isLoad o && !Nat.beq i j && !ancOf all all.length i j) || racesFrom all i r (j + 1)
/-- is there a load for which i does not wait? -/
def racesWith (ops : List Oper) (i : Nat) : Bool := racesFrom ops i ops 0
/-- does it make memory of a local struct? -/
def escapes (s : St) (o : Oper) : Bool :=
  match o.op with
  | .box _ x => match s.ev x with | some v => !plain v | none => true
  | .buildSlice _ _ ps => match s.evParts ps.toList with | some l => !allPlain (l.map (·.2)) | none => true
  | .slice _ x _ _ _ => match s.ev x with | some v => !plain v | none => true
  | .makeFunc _ _ cap => match s.evs cap.toList with | some l => !allPlain l | none => true
  | .call c => match s.evs c.args.toList with | some l => !allPlain l | none => true
  | _ => false
/-- does it look at no memory and change none, whatever its operands? (loads are counted in) -/
def quiet (X : Tab) (o : Oper) : Bool :=
  match o.op with
  | .alloc _ => false
  | .box _ _ => false
  | .store _ _ _ => false
  | .buildSlice _ _ _ => false
  | .makeSlice _ _ _ => false
  | .convert src _ _ => match X.T src with | .slice _ => false | _ => true
  | .slice t _ _ _ _ => match X.T t with | .slice _ => true | .str => true | _ => false
  | .call c => match c.callee with
    | .builtin .len => true
    | .builtin .cap => true
    | .builtin .min => true
    | .builtin .max => true
    | _ => false
  | _ => true
def strictVC (K : Option (List Nat)) (b : Bool) (s0 : St) (o : Oper) (s : St) (w0 w : World) (F : Prop) : Prop :=
  match b with
  | true => match isStore o || escapes s0 o with
    | true => False
    | false => match s.mods with | [] => knew K w0 w F | _ => False
  | false => F
def oneAnd {α : Type} (r : List α) (A B : Prop) : Prop := match r with | [] => A | _ => A ∧ B
mutual
def treeVC (K : Option (List Nat)) (X : Tab) (ops : List Oper) (w0 : World) (n0 : Nat) : Tree → St → World → (St → World → Prop) → Prop
  | .done, s, w, k => k s w
  | .early i t, s, w, k => match nth ops i with
    | some o => match quiet X o with
      | true => guardVC ops s o (fun s => earlyVC K X s w0 n0 o fun v => treeVC K X ops w0 n0 t (s.putD o.dst v) w k) (fun s => treeVC K X ops w0 n0 t s w k)
      | false => False
    | none => False
  | .fork l, s, w, k => match l with
    | [] => False
    | p :: l => forkVC K X ops w0 n0 (p :: l) s w k
def forkVC (K : Option (List Nat)) (X : Tab) (ops : List Oper) (w0 : World) (n0 : Nat) : List (Nat × Tree) → St → World → (St → World → Prop) → Prop
  | [], _, _, _ => True
  | (i, t) :: r, s, w, k => oneAnd r (match nth ops i with
    | some o => guardVC ops s o (fun s1 => opVC X s1 w o fun s w => strictVC K (racesWith ops i || quiet X o) s1 o s w0 w (treeVC K X ops w0 n0 t s w k)) (fun s => treeVC K X ops w0 n0 t s w k)
    | none => False) (forkVC K X ops w0 n0 r s w k)
end

/- does the tree go through the region in every order that its edges allow, but for those that make no difference? -/
mutual
def okFrom (ops : Array Oper) : Tree → Nat → Array Bool → Bool
  | .done, n, listed => Nat.beq n 0 && (Region.ready .any ops listed).isEmpty
  | .early i t, n, listed => match n with
    | n + 1 => (Region.ready .any ops listed).contains i && Region.free .any ops listed i && okFrom ops t n (listed.setIfInBounds i true)
    | 0 => false
  | .fork l, n, listed => match n with
    | n + 1 => okFork ops l n listed (Region.ready .any ops listed)
    | 0 => false
def okFork (ops : Array Oper) : List (Nat × Tree) → Nat → Array Bool → List Nat → Bool
  | [], _, _, [] => true
  | (j, t) :: l, n, listed, i :: is => Nat.beq i j && okFrom ops t n (listed.setIfInBounds i true) && okFork ops l n listed is
  | _, _, _, _ => false
end
def okTree (ops : Array Oper) (t : Tree) : Bool := Region.noSelect ops && okFrom ops t ops.size (Array.replicate ops.size false)

/-! ### code -/
inductive Ann where
  | leaf
  | draw (t : Tree)
  | drawF (ids : List Nat) (t : Tree)
  | drawK (ids : List Nat) (t : Tree)
  | loopF (ids : List Nat) (ks : List (Key × Ty)) (bs : List Nat) (a : Ann)
  | seq (a b : Ann)
  | cut (ks : List (Key × Ty)) (bs : List Nat) (a b : Ann)
  | loop (ks : List (Key × Ty)) (bs : List Nat) (a : Ann)
  | cond (a b : Ann)
  | block (a : Ann)

def opsW : List Oper → List Nat
  | [] => []
  | o :: r => match o.dst with | some d => d :: opsW r | none => opsW r
/-- the temporaries that a piece of code may write (and the conditions' own) -/
def codeW : Code → List Nat
  | .region _ ops _ => opsW ops.toList
  | .seq a b => codeW a ++ codeW b
  | .cond _ a b => codeW a ++ codeW b
  | .block _ b => codeW b
  | .loop b => codeW b
  | .scope b => codeW b
  | _ => []

def tysOf : List (Key × Ty) → List Ty
  | [] => []
  | (_, t) :: r => t :: tysOf r
/-- the values of these places -/
def St.get (s : St) : List (Key × Ty) → Option (List SV)
  | [] => some []
  | (.t n, _) :: r => match s.env n, s.get r with | some x, some l => some (x :: l) | _, _ => none
  | (.b n, _) :: r => match s.bx n, s.get r with | some (.box _ _ c), some l => some (c :: l) | _, _ => none
def St.setAll (s : St) : List (Key × Ty) → List SV → St
  | (.t n, _) :: r, x :: l => (s.put n (some x)).setAll r l
  | (.b n, _) :: r, x :: l => match s.bx n with | some (.box b t _) => (s.putB n (some (.box b t x))).setAll r l | _ => s.setAll r l
  | _, _ => s
/-- behind a piece of code: what it may have written is forgotten; boxes: bs stay as they are -/
def St.forget (s : St) (W : List Nat) (ks : List (Key × Ty)) (bs : List Nat) : St :=
  { s.clean with
    env := fun u => match hasN W u with | true => none | false => s.env u
    bx := fun u => match hasN bs u with
      | true => s.bx u
      | false => match ks.any fun k => (match k.1 with | .b n => Nat.beq n u | _ => false) with
        | true => s.bx u
        | false => none }
def sameBoxes (s s0 : St) : List Nat → Prop → Prop
  | [], F => F
  | i :: r, F => s.bx i = s0.bx i ∧ sameBoxes s s0 r F
/-- the numbers of the boxes in ks are what they were -/
def boxBT : Option SV → Nat × Nat | some (.box b t _) => (b, t) | _ => (0, 0)
def sameNums (s s0 : St) : List (Key × Ty) → Prop → Prop
  | [], F => F
  | (.b n, _) :: r, F => boxBT (s.bx n) = boxBT (s0.bx n) ∧ sameNums s s0 r F
  | _ :: r, F => sameNums s s0 r F
def appJ (ks : List (Key × Ty)) (J : Ty.Fns (tysOf ks) (World → Prop)) (s : St) (w : World) : Prop :=
  match s.get ks with
  | some l => match Ty.apps (tysOf ks) J l with
    | some F => F w
    | none => False
  | none => False
def appM (ks : List (Key × Ty)) (M : Ty.Fns (tysOf ks) (World → Nat)) (s : St) (w : World) (n : Nat) : Prop :=
  match s.get ks with
  | some l => match Ty.apps (tysOf ks) M l with
    | some F => F w < n
    | none => False
  | none => False
def meas (ks : List (Key × Ty)) (M : Ty.Fns (tysOf ks) (World → Nat)) (l : List SV) (w : World) : Nat :=
  match Ty.apps (tysOf ks) M l with
  | some F => F w
  | none => 0
def allJ (ks : List (Key × Ty)) (F : List SV → Prop) : Prop := Ty.alls (tysOf ks) F
def appL (ks : List (Key × Ty)) (J : Ty.Fns (tysOf ks) (World → Prop)) (l : List SV) (w : World) : Prop :=
  match Ty.apps (tysOf ks) J l with
  | some F => F w
  | none => False

/-- a loop: what holds at its head, a measure -/
def loopVC (ks : List (Key × Ty)) (bs : List Nat) (W : List Nat) (body : St → World → (St → World → Prop) → Prop) (s : St) (w : World) : Prop :=
  ∃ I : Ty.Fns (tysOf ks) (World → Prop), ∃ M : Ty.Fns (tysOf ks) (World → Nat),
    (s.flush w fun s w => appJ ks I s w) ∧
    allJ ks fun l => ∀ w1, appL ks I l w1 →
      body ((s.forget W ks bs).setAll ks l) w1
        (fun s2 w2 => s2.flush w2 fun s2 w2 => sameBoxes s2 s bs (sameNums s2 s ks (appJ ks I s2 w2 ∧ appM ks M s2 w2 (meas ks M l w1))))

def vc (X : Tab) : Code → Ann → St → World → (St → World → Prop) → (Nat → St → World → Prop) → (St → World → Prop) → Prop
  | .skip, _, s, w, k, _, _ => k s w
  | .region _ ops false, _, s, w, k, _, _ => opsVC X ops.toList ops.toList s w k
  | .region _ ops true, .draw t, s, w, k, _, _ => match okTree ops t with
    | true => s.look w fun s w => treeVC none X ops.toList w s.nb t { s with dirty := true } w k
    | false => False
  | .region _ ops true, .drawF ids t, s, w, k, _, _ => match okTree ops t with
    | true => s.flush w fun s w => escs s w ids fun s => treeVC none X ops.toList w s.nb t { s with dirty := true } w k
    | false => False
  | .region _ ops true, .drawK ids t, s, w, k, _, _ => match okTree ops t with
    | true => s.flush w fun s w => escs s w ids fun s => ∃ bs : List Nat, (∀ b, b ∈ bs → b < w.heap.size) ∧ treeVC (some bs) X ops.toList w s.nb t { s with dirty := true } w k
    | false => False
  | .seq a b, .seq na nb, s, w, k, ex, ret => vc X a na s w (fun s w => vc X b nb s w k ex ret) ex ret
  | .seq a b, .cut ks bs na nb, s, w, k, ex, ret =>
    ∀ J : Ty.Fns (tysOf ks) (World → Prop),
      (allJ ks fun l => ∀ w1, vc X b nb ((s.forget (codeW a) ks bs).setAll ks l) w1 k ex ret → appL ks J l w1) →
      vc X a na s w (fun s1 w => s1.flush w fun s1 w => sameBoxes s1 s bs (sameNums s1 s ks (appJ ks J s1 w))) ex ret
  | .cond c a b, .cond na nb, s, w, k, ex, ret => match c with
    | .tmp t => match s.env t with
      | some (.bool v) => Br v (vc X a na (s.put t (some (.bool true))) w k ex ret) (vc X b nb (s.put t (some (.bool false))) w k ex ret)
      | _ => False
    | .const (.bool v) => Br v (vc X a na s w k ex ret) (vc X b nb s w k ex ret)
    | _ => False
  | .block id c, .block n, s, w, k, ex, ret => vc X c n s w k (fun i s w => match Nat.beq i id with | true => k s w | false => ex i s w) ret
  | .loop c, .loop ks bs n, s, w, _, ex, ret => loopVC ks bs (codeW c) (fun s w kk => vc X c n s w kk ex ret) s w
  | .loop c, .loopF ids ks bs n, s, w, _, ex, ret => s.flush w fun s w => escs s w ids fun s => loopVC ks bs (codeW c) (fun s w kk => vc X c n s w kk ex ret) s w
  | .scope c, n, s, w, k, ex, ret => vc X c n s w k ex ret
  | .label _, _, s, w, k, _, _ => k s w
  | .exit id, _, s, w, _, ex, _ => ex id s w
  | .ret, _, s, w, _, _, ret => ret s w
  | _, _, _, _, _, _, _ => False

/-! ### a function -/
def resSV (X : Tab) (s : St) : List ResultVar → Option (List SV)
  | [] => some []
  | .tmp t :: r => match s.env t, resSV X s r with | some x, some l => some (x :: l) | _, _ => none
  | .cell a t :: r => match s.env a, resSV X s r with
    | some (.lptr id _ p), some l => match lIs X s id p t with
      | true => match s.bx id with
        | some (.box _ _ c) => match getPath c p with | some x => some (x :: l) | none => none
        | _ => none
      | false => none
    | _, _ => none
def oneOf : List SV → SV
  | [x] => x
  | l => .tuple l
def argsEnv : List SV → Nat → Nat → Option SV
  | [], _, _ => none
  | x :: r, i, u => match Nat.beq u i with | true => some x | false => argsEnv r (i + 1) u
def start (args : List SV) : St := { env := argsEnv args 0, bx := fun _ => none, nb := 0, nb0 := 0, ids := [], mods := [], news := [], dirty := false }

def fnVC (X : Tab) (fn : Func) (n : Ann) (args : List SV) (w : World) (R : SV → World → Prop) : Prop :=
  let fin : St → World → Prop := fun s w => match resSV X s fn.results.toList with
    | some l => s.esc w l fun s w => s.flush w fun s w => match resSV X s fn.results.toList with
      | some l => (match allPlain l with | true => R (oneOf l) w | false => False)
      | none => False
    | none => False
  match fn.body with
  | some c => vc X c n (start args) w fin (fun _ _ _ => False) fin
  | none => False

/-! ### a function that defers one call -/
/-- a deferred call, made behind a return: it returns -/
def RetD (P : Program) (f : Nat) (args : List SV) (w : World) (Q : World → Prop) : Prop :=
  CallsD P f (SV.encL args).toArray .returning w fun e u w' => (∃ v, e = .returned v) ∧ u = .returning ∧ Q w'
def deferOf (g : Nat) (cs : List SV) : Deferred := { target := .fn (.func g) (SV.encL cs).toArray, args := #[] }
def finVC (X : Tab) (fn : Func) (R : SV → World → Prop) (s : St) (w : World) : Prop := match resSV X s fn.results.toList with
  | some l => s.esc w l fun s w => s.flush w fun s w => match resSV X s fn.results.toList with
    | some l => (match allPlain l with | true => R (oneOf l) w | false => False)
    | none => False
  | none => False
def resVC (X : Tab) (s : St) (w : World) : List ResultVar → (List SV → Prop) → Prop
  | [], F => F []
  | .tmp t :: r, F => ifSome (s.env t) fun x => resVC X s w r fun l => F (x :: l)
  | .cell a t :: r, F => match s.env a with
    | some (.ptr p) => deref p fun a => loadVC a w (X.T t) 0 fun x => resVC X s w r fun l => F (x :: l)
    | _ => False
/-- the end behind a deferred call: the results lie in memory -/
def finVCD (X : Tab) (fn : Func) (R : SV → World → Prop) (s : St) (w : World) : Prop :=
  s.flush w fun s w => resVC X s w fn.results.toList fun l => match allPlain l with | true => R (oneOf l) w | false => False
def lastOf {α : Type} : List α → Option α
  | [] => none
  | x :: r => match r with | [] => some x | _ => lastOf r
def initOf {α : Type} : List α → List α
  | [] => []
  | x :: r => match r with | [] => [] | _ => x :: initOf r
def isDefer (o : Oper) : Bool := match o.op with | .defer _ => true | _ => false
def endsDefer : Code → Bool
  | .region _ ops false => match lastOf ops.toList with | some o => isDefer o | none => false
  | _ => false
def deferVC (X : Tab) (s : St) (w : World) (o : Oper) (k : Nat → List SV → St → World → Prop) : Prop :=
  match o.guard, o.op with
  | none, .defer c => match o.dst with
   | some _ => False
   | none => match c.callee, c.args.toList with
    | .value f, [] => match s.ev f with
      | some (.clo g cs) => match X.C g && allPlain cs with | true => s.flush w fun s w => k g cs s w | false => False
      | _ => False
    | _, _ => False
  | _, _ => False
/-- the body's spine: the call is deferred at the end of a region -/
def spineVC (X : Tab) (fe : St → World → Prop) (fl : Nat → List SV → St → World → Prop) : Code → Ann → St → World → Prop
  | .seq a b, .seq na nb, s, w => match endsDefer a with
    | false => vc X a na s w (fun s w => spineVC X fe fl b nb s w) (fun _ _ _ => False) fe
    | true => match a with
      | .region _ ops false => match lastOf ops.toList with
        | some o => opsVC X ops.toList (initOf ops.toList) s w fun s w => deferVC X s w o fun g cs s w => vc { X with D := [deferOf g cs] } b nb s w (fl g cs) (fun _ _ _ => False) (fl g cs)
        | none => False
      | _ => False
  | _, _, _, _ => False
def fnVCD (X : Tab) (fn : Func) (n : Ann) (args : List SV) (w : World) (R : SV → World → Prop) : Prop :=
  match fn.body with
  | some c => spineVC X (finVC X fn R) (fun g cs s w => s.flush w fun s w => RetD X.P g cs w fun w1 => keepsThen s.live w w1 (finVCD X fn R s w1)) c n (start args) w
  | none => False
end Go.Vc
