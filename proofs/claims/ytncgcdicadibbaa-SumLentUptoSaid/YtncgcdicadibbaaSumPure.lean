namespace Go.Vc
set_option autoImplicit false
set_option linter.unusedVariables false

/-- a number folded -/
def fd (n : Int) : Int := if n = 0 then 0 else (n - 1) % 65535 + 1
theorem fd_range {n : Int} (h : 0 ≤ n) : 0 ≤ fd n ∧ fd n ≤ 65535 := by unfold fd; split <;> omega
theorem fd_id {n : Int} (h : 0 ≤ n) (h1 : n ≤ 65535) : fd n = n := by unfold fd; split <;> omega
theorem fd_step {n : Int} (h : 65535 < n) : fd (n % 65536 + n / 65536) = fd n := by unfold fd; split <;> split <;> omega
theorem fd_add {a b : Int} (ha : 0 ≤ a) (hb : 0 ≤ b) : fd (a + fd b) = fd (a + b) := by unfold fd; repeat' split <;> omega
theorem fd_add' {a b : Int} (ha : 0 ≤ a) (hb : 0 ≤ b) : fd (fd a + b) = fd (a + b) := by rw [Int.add_comm, fd_add hb ha, Int.add_comm]
theorem fd_eq {a b : Int} (ha : 0 ≤ a) (hb : 0 ≤ b) (h : a % 65535 = b % 65535) (hz : a = 0 ↔ b = 0) : fd a = fd b := by unfold fd; split <;> split <;> omega
theorem fd_most {a : Int} (ha : 0 ≤ a) : fd a = 65535 ↔ a ≠ 0 ∧ a % 65535 = 0 := by unfold fd; split <;> omega
theorem fd_zero {a : Int} (ha : 0 ≤ a) : fd a = 0 ↔ a = 0 := by unfold fd; split <;> omega

/-- the weighted sum of bytes; h: the first one is a word's higher half -/
def ws : Bool → List Int → Int
  | _, [] => 0
  | h, b :: r => (if h then b * 256 else b) + ws (!h) r
def par (h : Bool) (n : Nat) : Bool := if n % 2 = 0 then h else !h
theorem par_succ (h : Bool) (n : Nat) : par (!h) n = par h (n + 1) := by
  unfold par
  cases h <;> (split <;> split <;> first | rfl | omega)
theorem par_par (h : Bool) (n m : Nat) : par (par h n) m = par h (n + m) := by
  simp only [par]
  cases h <;> by_cases h1 : n % 2 = 0 <;> by_cases h2 : m % 2 = 0 <;> by_cases h3 : (n + m) % 2 = 0 <;> simp [h1, h2, h3] <;> omega
theorem ws_app : ∀ (a b : List Int) (h : Bool), ws h (a ++ b) = ws h a + ws (par h a.length) b
  | [], b, h => by simp [ws, par]
  | x :: a, b, h => by
    simp only [List.cons_append, ws, ws_app a b (!h), List.length_cons, par_succ]
    omega
theorem ws_snoc (a : List Int) (x : Int) (h : Bool) : ws h (a ++ [x]) = ws h a + (if par h a.length then x * 256 else x) := by
  rw [ws_app]; simp [ws]
theorem ws_nonneg : ∀ {l : List Int} (h : Bool), (∀ x ∈ l, 0 ≤ x ∧ x < 256) → 0 ≤ ws h l ∧ ws h l ≤ 65280 * l.length
  | [], h, _ => by simp [ws]
  | x :: l, h, hb => by
    have ih := ws_nonneg (l := l) (!h) (fun y hy => hb y (by simp [hy]))
    have hx := hb x (by simp)
    simp only [ws, List.length_cons]
    split <;> omega
theorem ws_zero : ∀ {l : List Int} (h : Bool), (∀ x ∈ l, 0 ≤ x ∧ x < 256) → (ws h l = 0 ↔ ∀ x ∈ l, x = 0)
  | [], h, _ => by simp [ws]
  | x :: l, h, hb => by
    have ih := ws_zero (l := l) (!h) (fun y hy => hb y (by simp [hy]))
    have ih2 := ws_nonneg (l := l) (!h) (fun y hy => hb y (by simp [hy]))
    have hx := hb x (by simp)
    simp only [ws, List.mem_cons, forall_eq_or_imp]
    rw [← ih]
    split <;> omega
/-- the document's sum -/
def sumOf (l : List Int) : Int := fd (ws true l)
/-- what a byte weighs -/
def wt (h : Bool) (i : Nat) (x : Int) : Int := if par h i then x * 256 else x
theorem wt_even {q : Nat} (h : q % 2 = 0) (x : Int) : wt true q x = x * 256 := by
  have : par true q = true := by unfold par; rw [if_pos h]
  unfold wt; rw [if_pos this]
theorem wt_odd {q : Nat} (h : q % 2 = 1) (x : Int) : wt true q x = x := by
  have : par true q = false := by unfold par; rw [if_neg (by omega)]; rfl
  unfold wt; rw [if_neg (by rw [this]; decide)]
theorem ws_set : ∀ (l : List Int) (i : Nat) (v : Int) (h : Bool) (hi : i < l.length), ws h (l.set i v) = ws h l - wt h i l[i] + wt h i v
  | x :: l, 0, v, h, _ => by
    simp only [List.set_cons_zero, ws, List.getElem_cons_zero, wt, par]
    cases h <;> simp <;> omega
  | x :: l, i + 1, v, h, hi => by
    have ih := ws_set l i v (!h) (by simpa using hi)
    simp only [List.set_cons_succ, ws, List.getElem_cons_succ, ih]
    simp only [wt, par_succ]
    omega
theorem xor_bit : ∀ b : Fin 256, ∀ k : Fin 8, (b.val ^^^ 2 ^ k.val = b.val + 2 ^ k.val) ∨ (b.val ^^^ 2 ^ k.val) + 2 ^ k.val = b.val := by decide +kernel
/-- no power of two below 2^16 is a multiple of 65535 -/
theorem pow_mod : ∀ k : Fin 8, (2 ^ k.val % 65535 ≠ 0) ∧ (2 ^ k.val * 256 % 65535 ≠ 0) := by decide
end Go.Vc
