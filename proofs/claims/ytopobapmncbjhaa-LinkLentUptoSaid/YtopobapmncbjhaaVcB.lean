import Derived.Test.YtopobapmncbjhaaVcA
namespace Go.Vc
set_option linter.unusedSimpArgs false
set_option linter.unusedVariables false

theorem ksame_eq {a b : IntKind} (h : ksame a b = true) : a = b := by cases a <;> cases b <;> first | rfl | cases h
theorem ksame_refl (a : IntKind) : ksame a a = true := by cases a <;> rfl
theorem nbeq {a b : Nat} : (Nat.beq a b = true) ↔ a = b := by simp
theorem nbeq_false {a b : Nat} : (Nat.beq a b = false) ↔ a ≠ b := by
  rw [← Bool.not_eq_true, nbeq]

mutual
theorem Ty.same_eq : ∀ {a b : Ty}, a.same b = true → a = b
  | .int k, b, h => by cases b <;> simp [Ty.same] at h; rw [ksame_eq h]
  | .bool, b, h => by cases b <;> simp [Ty.same] at h; rfl
  | .str, b, h => by cases b <;> simp [Ty.same] at h; rfl
  | .ptr e, b, h => by cases b <;> simp [Ty.same] at h; rw [h]
  | .slice e, b, h => by cases b <;> simp [Ty.same] at h; rw [h]
  | .map, b, h => by cases b <;> simp [Ty.same] at h; rfl
  | .arr k n, b, h => by cases b <;> simp [Ty.same] at h; rw [ksame_eq h.1, h.2]
  | .struct c ts, b, h => by
    cases b <;> simp [Ty.same] at h
    rename_i c' ts'
    rw [Ty.sames_eq h.2]
    cases c <;> cases c' <;> simp_all
  | .tuple ts, b, h => by cases b <;> simp [Ty.same] at h
  | .other, b, h => by cases b <;> simp [Ty.same] at h
theorem Ty.sames_eq : ∀ {a b : List Ty}, Ty.sames a b = true → a = b
  | [], [], _ => rfl
  | [], _ :: _, h => by simp [Ty.sames] at h
  | _ :: _, [], h => by simp [Ty.sames] at h
  | t :: r, t' :: r', h => by
    simp [Ty.sames] at h
    rw [Ty.same_eq h.1, Ty.sames_eq h.2]
end

theorem Br_iff {c : Bool} {X Y : Prop} : Br c X Y ↔ (c = true → X) ∧ (c = false → Y) := by cases c <;> simp [Br]
theorem Need_iff {c : Bool} {X : Prop} : Need c X ↔ c = true ∧ X := by cases c <;> simp [Need]
theorem ifSome_iff {α : Type} {o : Option α} {F : α → Prop} : ifSome o F ↔ ∃ x, o = some x ∧ F x := by cases o <;> simp [ifSome]
theorem deref_iff {p : Option Addr} {F : Addr → Prop} : deref p F ↔ ∃ a, p = some a ∧ F a := by cases p <;> simp [deref]

theorem nth_eq {α : Type} : ∀ (l : List α) (n : Nat), nth l n = l[n]?
  | [], n => by simp [nth]
  | x :: r, 0 => by simp [nth]
  | x :: r, n + 1 => by simp [nth, nth_eq r n]
theorem setNth_eq {α : Type} : ∀ (l : List α) (n : Nat) (x : α), setNth l n x = l.set n x
  | [], n, x => by simp [setNth]
  | y :: r, 0, x => by simp [setNth]
  | y :: r, n + 1, x => by simp [setNth, setNth_eq r n x]
theorem hasN_iff {l : List Nat} {n : Nat} : hasN l n = true ↔ n ∈ l := by
  induction l with
  | nil => simp [hasN]
  | cons x r ih =>
    unfold hasN
    cases h : Nat.beq x n with
    | true => simp [nbeq.1 h]
    | false => simp [ih, (nbeq_false.1 h).symm]

theorem ad_eq (a : Addr) (n : Nat) : ad a n = a.add n := by
  cases n <;> simp [ad, Addr.add]
theorem add_add (a : Addr) (m n : Nat) : (a.add m).add n = a.add (m + n) := by
  unfold Addr.add
  by_cases h1 : m = 0 <;> by_cases h2 : n = 0 <;> simp [h1, h2, Nat.add_assoc]

/-! ### cells and shapes -/
theorem cellsL_eq (l : List SV) : SV.cellsL l = l.flatMap SV.cells := by
  induction l with
  | nil => simp [SV.cellsL]
  | cons x r ih => simp [SV.cellsL, ih]
theorem encL_eq (l : List SV) : SV.encL l = l.map SV.enc := by
  induction l with
  | nil => simp [SV.encL]
  | cons x r ih => simp [SV.encL, ih]

def isAggSV : SV → Bool | .arr _ _ _ => true | .struct _ => true | _ => false

mutual
theorem shape_size : ∀ {v : SV} {t : Ty}, v.shape t = true → v.cells.length = t.size
  | .int _ _, t, h => by cases t <;> simp [SV.shape] at h; simp [SV.cells, Ty.size]
  | .bool _, t, h => by cases t <;> simp [SV.shape] at h; simp [SV.cells, Ty.size]
  | .str _, t, h => by cases t <;> simp [SV.shape] at h; simp [SV.cells, Ty.size]
  | .ptr _, t, h => by cases t <;> simp [SV.shape] at h; simp [SV.cells, Ty.size]
  | .slice _, t, h => by cases t <;> simp [SV.shape] at h; simp [SV.cells, Ty.size]
  | .map _, t, h => by cases t <;> simp [SV.shape] at h; simp [SV.cells, Ty.size]
  | .arr _ _ _, t, h => by cases t <;> simp [SV.shape] at h; simp [SV.cells, Ty.size, h.2]
  | .struct l, t, h => by
    cases t <;> simp [SV.shape] at h
    simp [SV.cells, Ty.size, shapes_size h]
  | .tuple _, t, h => by cases t <;> simp [SV.shape] at h
  | .clo _ _, t, h => by cases t <;> simp [SV.shape] at h
  | .lptr _ _ _, t, h => by cases t <;> simp [SV.shape] at h
  | .box _ _ _, t, h => by cases t <;> simp [SV.shape] at h
  | .raw _, t, h => by cases t <;> simp [SV.shape] at h
theorem shapes_size : ∀ {l : List SV} {ts : List Ty}, SV.shapes l ts = true → (SV.cellsL l).length = Ty.sizes ts
  | [], [], _ => rfl
  | [], _ :: _, h => by simp [SV.shapes] at h
  | _ :: _, [], h => by simp [SV.shapes] at h
  | x :: r, t :: s, h => by
    simp [SV.shapes] at h
    simp [SV.cellsL, Ty.sizes, shape_size h.1, shapes_size h.2]
end

theorem shape_plain {v : SV} {t : Ty} (h : v.shape t = true) : plain v = true := by
  cases v <;> first | rfl | (cases t <;> simp [SV.shape] at h)

theorem shapes_length : ∀ {l : List SV} {ts : List Ty}, SV.shapes l ts = true → l.length = ts.length
  | [], [], _ => rfl
  | [], _ :: _, h => by simp [SV.shapes] at h
  | _ :: _, [], h => by simp [SV.shapes] at h
  | x :: r, t :: s, h => by simp [SV.shapes] at h; simp [shapes_length h.2]

/-- a value of a shape as Go's value -/
theorem enc_cells {v : SV} {t : Ty} (h : v.shape t = true) : v.enc.cells = v.cells.toArray := by
  cases v <;> first
    | (simp [SV.enc, SV.cells, Value.cells, Sl.val]; done)
    | (cases t <;> simp [SV.shape] at h)
theorem enc_agg {v : SV} {t : Ty} (h : v.shape t = true) (ha : isAggTy t = true) : v.enc = .agg v.cells.toArray := by
  cases v <;> cases t <;> simp [SV.shape, isAggTy] at h ha <;> simp [SV.enc, SV.cells]
theorem enc_scalar {v : SV} {t : Ty} (h : v.shape t = true) (ha : isAggTy t = false) : v.cells = [v.enc] := by
  cases v <;> cases t <;> simp [SV.shape, isAggTy] at h ha <;> simp [SV.enc, SV.cells]

mutual
/-- the cells of a shaped value are one cell's values each -/
theorem cells_one : ∀ {v : SV} {t : Ty}, v.shape t = true → ∀ u ∈ v.cells, u.oneCell' = true
  | .int _ _, t, h => by simp [SV.cells, Value.oneCell']
  | .bool _, t, h => by simp [SV.cells, Value.oneCell']
  | .str _, t, h => by simp [SV.cells, Value.oneCell']
  | .ptr _, t, h => by simp [SV.cells, Value.oneCell']
  | .slice _, t, h => by simp [SV.cells, Value.oneCell', Sl.val]
  | .map _, t, h => by simp [SV.cells, Value.oneCell']
  | .arr _ _ _, t, h => by simp [SV.cells, Value.oneCell']
  | .struct l, t, h => by
    cases t <;> simp [SV.shape] at h
    simpa [SV.cells] using cellsL_one h
  | .tuple _, t, h => by cases t <;> simp [SV.shape] at h
  | .clo _ _, t, h => by cases t <;> simp [SV.shape] at h
  | .lptr _ _ _, t, h => by cases t <;> simp [SV.shape] at h
  | .box _ _ _, t, h => by cases t <;> simp [SV.shape] at h
  | .raw _, t, h => by cases t <;> simp [SV.shape] at h
theorem cellsL_one : ∀ {l : List SV} {ts : List Ty}, SV.shapes l ts = true → ∀ u ∈ SV.cellsL l, u.oneCell' = true
  | [], [], _ => by simp [SV.cellsL]
  | [], _ :: _, h => by simp [SV.shapes] at h
  | _ :: _, [], h => by simp [SV.shapes] at h
  | x :: r, t :: s, h => by
    simp [SV.shapes] at h
    intro u hu
    simp only [SV.cellsL, List.mem_append] at hu
    exact hu.elim (cells_one h.1 u) (cellsL_one h.2 u)
end

mutual
theorem zero_shape : ∀ {t : Ty} {z : SV}, t.zero = some z → z.shape t = true
  | .int k, z, h => by simp [Ty.zero] at h; subst h; simp [SV.shape, ksame_refl]
  | .bool, z, h => by simp [Ty.zero] at h; subst h; simp [SV.shape]
  | .str, z, h => by simp [Ty.zero] at h; subst h; simp [SV.shape]
  | .ptr e, z, h => by simp [Ty.zero] at h; subst h; simp [SV.shape]
  | .slice e, z, h => by simp [Ty.zero] at h; subst h; simp [SV.shape]
  | .map, z, h => by simp [Ty.zero] at h; subst h; simp [SV.shape]
  | .arr k n, z, h => by simp [Ty.zero] at h; subst h; simp [SV.shape, ksame_refl]
  | .struct b ts, z, h => by
    simp only [Ty.zero] at h
    cases hz : Ty.zeros ts with
    | none => simp [hz] at h
    | some l => simp [hz] at h; subst h; simp [SV.shape, zeros_shapes hz]
  | .tuple ts, z, h => by simp [Ty.zero] at h
  | .other, z, h => by simp [Ty.zero] at h
theorem zeros_shapes : ∀ {ts : List Ty} {l : List SV}, Ty.zeros ts = some l → SV.shapes l ts = true
  | [], l, h => by simp [Ty.zeros] at h; subst h; simp [SV.shapes]
  | t :: r, l, h => by
    simp only [Ty.zeros] at h
    cases h1 : t.zero with
    | none => simp [h1] at h
    | some x =>
      cases h2 : Ty.zeros r with
      | none => simp [h1, h2] at h
      | some l' => simp [h1, h2] at h; subst h; simp [SV.shapes, zero_shape h1, zeros_shapes h2]
end

/-! ### the table of types against the program -/
def fieldsOK (X : Tab) : List Field → List Ty → Nat → Prop
  | [], [], _ => True
  | f :: fr, t :: tr, off => f.offset = off ∧ X.T f.type = t ∧ (f.name == "_") = false ∧ fieldsOK X fr tr (off + t.size)
  | _, _, _ => False

def tyOK (X : Tab) (t : Nat) : Ty → Prop
  | .int k => X.P.underlying t = some (.int k)
  | .bool => X.P.underlying t = some .bool
  | .str => X.P.underlying t = some .string
  | .ptr e => X.P.underlying t = some (.pointer e)
  | .slice e => X.P.underlying t = some (.slice e)
  | .map => ∃ k e, X.P.underlying t = some (.map k e)
  | .arr k n => ∃ e, X.P.underlying t = some (.array n e) ∧ X.T e = .int k
  | .struct false ts => ∃ fs, X.P.underlying t = some (.struct fs) ∧ fieldsOK X fs.toList ts 0 ∧ X.P.stoodInHeld t = false
  | .struct true ts => ∃ n e, X.P.underlying t = some (.array n e) ∧ ts = List.replicate n (X.T e) ∧ isData (X.T e) = true
  | _ => True

structure TabOK (X : Tab) : Prop where
  ty : ∀ t, tyOK X t (X.T t)
  info : ∀ t, isData (X.T t) = true → ∃ i, X.P.info? t = some i ∧ i.size = (X.T t).size ∧ i.bytes = X.B t ∧ ∀ z, (X.T t).zero = some z → i.zero = some z.enc
  eqg : ∀ t, (X.T t).cmp = true → X.P.eqGuardType X.P.depth t = false
  call : ∀ f, X.C f = true → ∃ fn, X.P.funcs[f]? = some fn ∧ fn.body.isNone = false ∧ (fn.name == "runtime.NumGoroutine") = false
  mixed : X.P.follows .mixedOrders = true
end Go.Vc
