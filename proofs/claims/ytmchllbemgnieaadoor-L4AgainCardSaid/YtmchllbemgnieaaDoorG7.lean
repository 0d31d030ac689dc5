import Derived.Test.YtmchllbemgnieaaDoorG6
import Derived.Test.YtmchllbemgnieaaDoorG5
import Derived.Test.YtmchllbemgnieaaDoorG2
import Derived.Test.YtmchllbemgnieaaDoorG3
import Derived.KernelRfl
section
namespace Go.Vc
set_option autoImplicit false
set_option linter.unusedVariables false

/-- a number folded -/
def fd (n : Int) : Int := if n = 0 then 0 else (n - 1) % 65535 + 1
theorem fd_range {n : Int} (h : 0 ≤ n) : 0 ≤ fd n ∧ fd n ≤ 65535 := by unfold fd; split <;> omega
theorem fd_id {n : Int} (h : 0 ≤ n) (h1 : n ≤ 65535) : fd n = n := by unfold fd; split <;> omega
theorem fd_step {n : Int} (h : 65535 < n) : fd (n % 65536 + n / 65536) = fd n := by unfold fd; split <;> split <;> omega
theorem fd_add {a b : Int} (ha : 0 ≤ a) (hb : 0 ≤ b) : fd (a + fd b) = fd (a + b) := by unfold fd; repeat' split <;> omega
theorem fd_add' {a b : Int} (ha : 0 ≤ a) (hb : 0 ≤ b) : fd (fd a + b) = fd (a + b) := by rw [Int.add_comm, fd_add hb ha, Int.add_comm]
theorem fd_eq {a b : Int} (ha : 0 ≤ a) (hb : 0 ≤ b) (h : a % 65535 = b % 65535) (hz : a = 0 ↔ b = 0) : fd a = fd b := by unfold fd; split <;> split <;> omega
theorem fd_most {a : Int} (ha : 0 ≤ a) : fd a = 65535 ↔ a ≠ 0 ∧ a % 65535 = 0 := by unfold fd; split <;> omega
theorem fd_zero {a : Int} (ha : 0 ≤ a) : fd a = 0 ↔ a = 0 := by unfold fd; split <;> omega

/-- the weighted sum of bytes; h: the first one is a word's higher half -/
def ws : Bool → List Int → Int
  | _, [] => 0
  | h, b :: r => (if h then b * 256 else b) + ws (!h) r
def par (h : Bool) (n : Nat) : Bool := if n % 2 = 0 then h else !h
theorem par_succ (h : Bool) (n : Nat) : par (!h) n = par h (n + 1) := by
  unfold par
  cases h <;> (split <;> split <;> first | rfl | omega)
theorem par_par (h : Bool) (n m : Nat) : par (par h n) m = par h (n + m) := by
  simp only [par]
  cases h <;> by_cases h1 : n % 2 = 0 <;> by_cases h2 : m % 2 = 0 <;> by_cases h3 : (n + m) % 2 = 0 <;> simp [h1, h2, h3] <;> omega
theorem ws_app : ∀ (a b : List Int) (h : Bool), ws h (a ++ b) = ws h a + ws (par h a.length) b
  | [], b, h => by simp [ws, par]
  | x :: a, b, h => by
    simp only [List.cons_append, ws, ws_app a b (!h), List.length_cons, par_succ]
    omega
theorem ws_snoc (a : List Int) (x : Int) (h : Bool) : ws h (a ++ [x]) = ws h a + (if par h a.length then x * 256 else x) := by
  rw [ws_app]; simp [ws]
theorem ws_nonneg : ∀ {l : List Int} (h : Bool), (∀ x ∈ l, 0 ≤ x ∧ x < 256) → 0 ≤ ws h l ∧ ws h l ≤ 65280 * l.length
  | [], h, _ => by simp [ws]
  | x :: l, h, hb => by
    have ih := ws_nonneg (l := l) (!h) (fun y hy => hb y (by simp [hy]))
    have hx := hb x (by simp)
    simp only [ws, List.length_cons]
    split <;> omega
theorem ws_zero : ∀ {l : List Int} (h : Bool), (∀ x ∈ l, 0 ≤ x ∧ x < 256) → (ws h l = 0 ↔ ∀ x ∈ l, x = 0)
  | [], h, _ => by simp [ws]
  | x :: l, h, hb => by
    have ih := ws_zero (l := l) (!h) (fun y hy => hb y (by simp [hy]))
    have ih2 := ws_nonneg (l := l) (!h) (fun y hy => hb y (by simp [hy]))
    have hx := hb x (by simp)
    simp only [ws, List.mem_cons, forall_eq_or_imp]
    rw [← ih]
    split <;> omega
/-- the document's sum -/
def sumOf (l : List Int) : Int := fd (ws true l)
/-- what a byte weighs -/
def wt (h : Bool) (i : Nat) (x : Int) : Int := if par h i then x * 256 else x
theorem wt_even {q : Nat} (h : q % 2 = 0) (x : Int) : wt true q x = x * 256 := by
  have : par true q = true := by unfold par; rw [if_pos h]
  unfold wt; rw [if_pos this]
theorem wt_odd {q : Nat} (h : q % 2 = 1) (x : Int) : wt true q x = x := by
  have : par true q = false := by unfold par; rw [if_neg (by omega)]; rfl
  unfold wt; rw [if_neg (by rw [this]; decide)]
theorem ws_set : ∀ (l : List Int) (i : Nat) (v : Int) (h : Bool) (hi : i < l.length), ws h (l.set i v) = ws h l - wt h i l[i] + wt h i v
  | x :: l, 0, v, h, _ => by
    simp only [List.set_cons_zero, ws, List.getElem_cons_zero, wt, par]
    cases h <;> simp <;> omega
  | x :: l, i + 1, v, h, hi => by
    have ih := ws_set l i v (!h) (by simpa using hi)
    simp only [List.set_cons_succ, ws, List.getElem_cons_succ, ih]
    simp only [wt, par_succ]
    omega
theorem xor_bit : ∀ b : Fin 256, ∀ k : Fin 8, (b.val ^^^ 2 ^ k.val = b.val + 2 ^ k.val) ∨ (b.val ^^^ 2 ^ k.val) + 2 ^ k.val = b.val := by decide +kernel
/-- no power of two below 2^16 is a multiple of 65535 -/
theorem pow_mod : ∀ k : Fin 8, (2 ^ k.val % 65535 ≠ 0) ∧ (2 ^ k.val * 256 % 65535 ≠ 0) := by decide
end Go.Vc
end

section
namespace Go.Vc
set_option linter.unusedVariables false
set_option linter.unusedSimpArgs false
set_option autoImplicit false
theorem sum_flip {l : List Int} {q k : Nat} (hb : Byt l) (hq : q < l.length) (hk : k < 8) (h : sumOf l = 65535) :
    sumOf (l.set q ((l[q].toNat ^^^ 2 ^ k : Nat) : Int)) ≠ 65535 := by
  have hx := hb _ (List.getElem_mem hq)
  have hb1 : Byt (l.set q ((l[q].toNat ^^^ 2 ^ k : Nat) : Int)) := hb.set _ ⟨by omega, by
    have : l[q].toNat ^^^ 2 ^ k < 2 ^ 8 := Nat.xor_lt_two_pow (by omega) (Nat.pow_lt_pow_right (by omega) hk)
    omega⟩
  have hw := ws_nonneg true hb
  have hw1 := ws_nonneg true hb1
  have e := ws_set l q ((l[q].toNat ^^^ 2 ^ k : Nat) : Int) true hq
  have hx2 := xor_bit ⟨l[q].toNat, by omega⟩ ⟨k, hk⟩
  have hp := pow_mod ⟨k, hk⟩
  simp only at hx2 hp
  unfold sumOf at h ⊢
  rw [fd_most hw.1] at h
  intro h2
  rw [fd_most hw1.1] at h2
  generalize hv : l[q].toNat ^^^ 2 ^ k = v at *
  generalize hy : (2 : Nat) ^ k = y at *
  unfold wt at e
  split at e <;> rcases hx2 with hx2 | hx2 <;> omega
theorem sumOf_r {l : List Int} (hb : Byt l) : 0 ≤ sumOf l ∧ sumOf l ≤ 65535 := fd_range (ws_nonneg true hb).1
/-- a number of two bytes -/
def W16 (l : List Int) (i : Nat) : Int := bt l (i : Int) * 256 + bt l ((i + 1 : Nat) : Int)
theorem W16_r {l : List Int} (h : Byt l) (i : Nat) : 0 ≤ W16 l i ∧ W16 l i ≤ 65535 := by
  have := h.bt (i : Int)
  have := h.bt ((i + 1 : Nat) : Int)
  unfold W16; omega
theorem bt_out {l : List Int} {i : Nat} (h : l.length ≤ i) : bt l (i : Int) = 0 := by
  simp only [bt, Int.toNat_natCast, List.getD_eq_getElem?_getD]
  rw [List.getElem?_eq_none h]; rfl
theorem bt_take {l : List Int} {n i : Nat} (h : i < n) : bt (l.take n) (i : Int) = bt l (i : Int) := by
  simp only [bt, Int.toNat_natCast, List.getD_eq_getElem?_getD]
  rw [List.getElem?_take_of_lt h]
theorem bt_drop (l : List Int) (n i : Nat) : bt (l.drop n) (i : Int) = bt l ((n + i : Nat) : Int) := by
  simp only [bt, Int.toNat_natCast, List.getD_eq_getElem?_getD]
  rw [List.getElem?_drop]
theorem bt_set {l : List Int} {n i : Nat} {v : Int} (h : n < l.length) : bt (l.set n v) (i : Int) = if i = n then v else bt l (i : Int) := by
  simp only [bt, Int.toNat_natCast, List.getD_eq_getElem?_getD]
  by_cases e : i = n
  · subst e; rw [if_pos rfl, List.getElem?_set_self h]; rfl
  · rw [if_neg e, List.getElem?_set_ne (by omega)]
theorem bt_ext {a b : List Int} (hl : a.length = b.length) (h : ∀ i, i < a.length → bt a (i : Int) = bt b (i : Int)) : a = b :=
  List.ext_getElem hl fun i h1 h2 => by have := h i h1; rwa [bt_nat h1, bt_nat h2] at this
end Go.Vc
end

section
namespace Go.Vc
set_option linter.unusedVariables false
set_option linter.unusedSimpArgs false
set_option autoImplicit false

/-! ### two addresses, and the header that is summed with them -/
open Classical in
/-- an address's version, 0 of none -/
noncomputable def verOf (v : Int) (a : Nat → Int) : Int := if v = 6 then 6 else if v = 4 ∧ ∀ i, i < 16 → 4 ≤ i → a i = 0 then 4 else 0
theorem verOf_cases (v : Int) (a : Nat → Int) : (verOf v a = 6 ∧ v = 6) ∨ (verOf v a = 4 ∧ v = 4) ∨ verOf v a = 0 := by
  unfold verOf
  split
  · exact .inl ⟨rfl, by assumption⟩
  · split
    · rename_i h; exact .inr (.inl ⟨rfl, h.1⟩)
    · exact .inr (.inr rfl)
structure Ends where
  sv : Int
  sa : Nat → Int
  dv : Int
  da : Nat → Int
def Ends.fit (e : Ends) : Prop := verOf e.sv e.sa ≠ 0 ∧ verOf e.dv e.da = verOf e.sv e.sa
noncomputable instance (e : Ends) : Decidable e.fit := Classical.propDecidable _
structure Ends.Ok (e : Ends) : Prop where
  sa : ∀ i, i < 16 → 0 ≤ e.sa i ∧ e.sa i < 256
  da : ∀ i, i < 16 → 0 ≤ e.da i ∧ e.da i < 256
theorem Ends.fit_v {e : Ends} (h : e.fit) : e.sv = 4 ∨ e.sv = 6 := by
  rcases verOf_cases e.sv e.sa with q | q | q
  · exact .inr q.2
  · exact .inl q.2
  · exact absurd q h.1
/-- the pseudo header -/
def psB (e : Ends) (p n : Int) : List Int :=
  if e.sv = 6 then arrL 16 e.sa ++ arrL 16 e.da ++ [0, 0, n / 256 % 256, n % 256, 0, 0, 0, p % 256]
  else arrL 4 e.sa ++ arrL 4 e.da ++ [0, p % 256, n / 256 % 256, n % 256]
theorem psB_len (e : Ends) (p n : Int) : (psB e p n).length % 2 = 0 ∧ (psB e p n).length ≤ 40 ∧ 12 ≤ (psB e p n).length := by
  unfold psB; split <;> simp [arrL_len]
theorem psB_byt {e : Ends} (o : e.Ok) {p n : Int} : Byt (psB e p n) := by
  unfold psB
  split
  · refine Byt.app (Byt.app (arrL_byt o.sa) (arrL_byt o.da)) ?_
    intro x hx
    simp at hx
    omega
  · refine Byt.app (Byt.app (arrL_byt fun i hi => o.sa i (by omega)) (arrL_byt fun i hi => o.da i (by omega))) ?_
    intro x hx
    simp at hx
    omega
/-- bytes summed with the pseudo header -/
def psum (e : Ends) (p : Int) (l : List Int) : Int := sumOf (psB e p (l.length : Int) ++ l)
theorem psum_r {e : Ends} (o : e.Ok) {p : Int} {l : List Int} (h : Byt l) : 0 ≤ psum e p l ∧ psum e p l ≤ 65535 := sumOf_r (psB_byt o |>.app h)
/-- the weighted sum of both is no zero: the protocol is none -/
theorem psB_pos {e : Ends} (o : e.Ok) {p n : Int} (hp : 0 < p ∧ p < 256) {l : List Int} (h : Byt l) : 0 < ws true (psB e p n ++ l) := by
  have hb := (psB_byt o (p := p) (n := n)).app h
  have hw := ws_nonneg true hb
  have : ws true (psB e p n ++ l) ≠ 0 := fun e0 => by
    have := (ws_zero true hb).1 e0 p (by
      rw [List.mem_append]
      left
      unfold psB
      have : p % 256 = p := by omega
      split <;> simp [this])
    omega
  omega
theorem ws_ps (e : Ends) (p n : Int) (l : List Int) : ws true (psB e p n ++ l) = ws true (psB e p n) + ws true l := by
  rw [ws_app]
  have : par true (psB e p n).length = true := by unfold par; rw [if_pos (psB_len e p n).1]
  rw [this]

def outN9 (n hi : Int) : Prop := n < 0 ∨ hi < n
instance (n hi : Int) : Decidable (outN9 n hi) := by unfold outN9; infer_instance

/-! ### UDP -/
structure UdV where
  sp : Int
  dp : Int
  ns : Bool
  data : List Int
def udZ : UdV := ⟨0, 0, false, []⟩
def udLen (l : List Int) : Nat := (W16 l 4).toNat
noncomputable def udErr (e : Ends) (l : List Int) : Int :=
  if 65535 < l.length then 2 else if ¬ e.fit then 20 else if l.length < 8 then 91
  else if udLen l < 8 ∨ l.length < udLen l then 92
  else if W16 l 6 = 0 then (if e.sv = 6 then 93 else 0)
  else if psum e 17 (l.take (udLen l)) ≠ 65535 then 93 else 0
def udRaw (l : List Int) : UdV := ⟨W16 l 0, W16 l 2, W16 l 6 == 0, (l.take (udLen l)).drop 8⟩
noncomputable def udOf (e : Ends) (l : List Int) : UdV := if udErr e l = 0 then udRaw l else udZ
noncomputable def udChk (v : Int) (u : UdV) : Int :=
  if v ≠ 4 ∧ v ≠ 6 then 20 else if outN9 u.sp 65535 ∨ outN9 u.dp 65535 ∨ (u.ns = true ∧ v = 6) then 98
  else if 65527 < u.data.length then 2 else 0
noncomputable def udPE (e : Ends) (u : UdV) : Int := if ¬ e.fit then 20 else udChk e.sv u
/-- the datagram, with this sum -/
def udHd (u : UdV) (c : Int) : List Int :=
  [u.sp / 256 % 256, u.sp % 256, u.dp / 256 % 256, u.dp % 256, (8 + (u.data.length : Int)) / 256 % 256, (8 + (u.data.length : Int)) % 256, c / 256 % 256, c % 256]
def udCk0 (e : Ends) (u : UdV) : Int := 65535 - psum e 17 (udHd u 0 ++ u.data)
def udCk (e : Ends) (u : UdV) : Int := if u.ns then 0 else if udCk0 e u = 0 then 65535 else udCk0 e u
def udSer (e : Ends) (u : UdV) : List Int := udHd u (udCk e u) ++ u.data
noncomputable def udSerL (e : Ends) (u : UdV) : List Int := if udPE e u = 0 then udSer e u else []

/-! ### TCP -/
structure TcV where
  sp : Int
  dp : Int
  seq : Int
  ack : Int
  fl : Int
  win : Int
  urg : Int
  opts : List Opt
  data : List Int
def tcZ : TcV := ⟨0, 0, 0, 0, 0, 0, 0, [], []⟩
def W32 (l : List Int) (i : Nat) : Int := W16 l i * 65536 + W16 l (i + 2)
/-- may an option of that kind have that length? -/
def ok9 (k n : Int) : Bool := decide (2 ≤ n) && (if k = 2 then n == 4 else if k = 3 then n == 3 else if k = 4 then n == 2 else if k = 5 then (n == 10 || n == 18 || n == 26 || n == 34) else if k = 8 then n == 10 else true)
theorem ok9_two : ∀ k n, ok9 k n = true → 2 ≤ n := fun k n h => by
  unfold ok9 at h
  rw [Bool.and_eq_true] at h
  exact of_decide_eq_true h.1
def tcHd (l : List Int) : Nat := 4 * (bt l 12 / 16).toNat
def tob (l : List Int) : List Int := (l.take (tcHd l)).drop 20
def tps (l : List Int) : List (Nat × Nat) := (optsP ok9 (tob l)).getD []
noncomputable def tcErr (e : Ends) (l : List Int) : Int :=
  if 65535 < l.length then 2 else if ¬ e.fit then 20 else if l.length < 20 then 94
  else if tcHd l < 20 ∨ l.length < tcHd l then 95
  else if psum e 6 l ≠ 65535 then 96
  else if optsP ok9 (tob l) = none then 97 else 0
def tcRaw (l : List Int) : TcV := ⟨W16 l 0, W16 l 2, W32 l 4, W32 l 8, bt l 13, W16 l 14, W16 l 18, (tps l).map (optAt (tob l)), l.drop (tcHd l)⟩
noncomputable def tcOf (e : Ends) (l : List Int) : TcV := if tcErr e l = 0 then tcRaw l else tcZ
def putOk9 (l : List Opt) : Prop := putOk l ∧ ∀ o ∈ l, ok9 o.kind ((2 + o.data.length : Nat) : Int) = true
instance (l : List Opt) : Decidable (putOk9 l) := by unfold putOk9; infer_instance
def badT (t : TcV) : Prop := outN9 t.sp 65535 ∨ outN9 t.dp 65535 ∨ outN9 t.win 65535 ∨ outN9 t.urg 65535 ∨ outN9 t.seq 4294967295 ∨ outN9 t.ack 4294967295 ∨ outN9 t.fl 255
instance (t : TcV) : Decidable (badT t) := by unfold badT; infer_instance
def tcChk (t : TcV) : Int :=
  if badT t then 98 else if ¬ putOk9 t.opts then 97 else if 65535 < 20 + (putO t.opts).length + t.data.length then 2 else 0
noncomputable def tcPE (e : Ends) (t : TcV) : Int := if ¬ e.fit then 20 else tcChk t
def thL (t : TcV) : Nat := 20 + (putO t.opts).length
def tcHead (t : TcV) (c : Int) : List Int :=
  t.sp / 256 % 256 :: t.sp % 256 :: t.dp / 256 % 256 :: t.dp % 256 :: t.seq / 16777216 % 256 :: t.seq / 65536 % 256 :: t.seq / 256 % 256 :: t.seq % 256 ::
  t.ack / 16777216 % 256 :: t.ack / 65536 % 256 :: t.ack / 256 % 256 :: t.ack % 256 :: ((thL t : Int) / 4 * 16) :: t.fl :: t.win / 256 % 256 :: t.win % 256 ::
  c / 256 % 256 :: c % 256 :: t.urg / 256 % 256 :: t.urg % 256 :: putO t.opts
def tcCk (e : Ends) (t : TcV) : Int := 65535 - psum e 6 (tcHead t 0 ++ t.data)
def tcSer (e : Ends) (t : TcV) : List Int := tcHead t (tcCk e t) ++ t.data
noncomputable def tcSerL (e : Ends) (t : TcV) : List Int := if tcPE e t = 0 then tcSer e t else []

structure UFit (u : UdV) : Prop where
  data : Byt u.data
structure TFit (t : TcV) : Prop where
  opts : ∀ o ∈ t.opts, Byt o.data
  data : Byt t.data

/-! ### written datagrams are read -/
theorem udChk_ok {v : Int} {u : UdV} (h : udChk v u = 0) : (v = 4 ∨ v = 6) ∧ (0 ≤ u.sp ∧ u.sp ≤ 65535) ∧ (0 ≤ u.dp ∧ u.dp ≤ 65535) ∧ (u.ns = true → v ≠ 6) ∧ u.data.length ≤ 65527 := by
  unfold udChk at h
  split at h; · cases h
  split at h; · cases h
  split at h; · cases h
  rename_i h1 h2 h3
  unfold outN9 at h2
  refine ⟨by omega, by omega, by omega, fun a b => h2 (.inr (.inr ⟨a, b⟩)), by omega⟩
theorem udPE_ok {e : Ends} {u : UdV} (h : udPE e u = 0) : e.fit ∧ udChk e.sv u = 0 := by
  unfold udPE at h
  split at h; · cases h
  rename_i h1
  exact ⟨Classical.not_not.1 h1, h⟩
theorem udHd_len (u : UdV) (c : Int) : (udHd u c).length = 8 := rfl
theorem udHd_byt (u : UdV) (c : Int) : Byt (udHd u c) := by
  intro x hx
  simp only [udHd, List.mem_cons, List.mem_singleton, List.not_mem_nil, or_false] at hx
  rcases hx with rfl | rfl | rfl | rfl | rfl | rfl | rfl | rfl <;> omega
theorem ws_udHd (u : UdV) {c : Int} (h0 : 0 ≤ c) (h1 : c ≤ 65535) : ws true (udHd u c) = ws true (udHd u 0) + c := by
  simp only [udHd, ws]
  simp
  omega
theorem ws_app8 {a b : List Int} (h : a.length % 2 = 0) : ws true (a ++ b) = ws true a + ws true b := by
  rw [ws_app]
  have : par true a.length = true := by unfold par; rw [if_pos h]
  rw [this]
theorem udCk0_r {e : Ends} (o : e.Ok) {u : UdV} (f : UFit u) : 0 ≤ udCk0 e u ∧ udCk0 e u ≤ 65534 := by
  have hb : Byt (udHd u 0 ++ u.data) := (udHd_byt u 0).app f.data
  have h1 := psum_r o (p := 17) hb
  have hw := psB_pos o (p := 17) (n := ((udHd u 0 ++ u.data).length : Int)) (by omega) hb
  have hz : psum e 17 (udHd u 0 ++ u.data) ≠ 0 := fun e0 => by
    unfold psum sumOf at e0
    have := (fd_zero (by omega)).1 e0
    omega
  unfold udCk0
  omega
theorem udCk_r {e : Ends} (o : e.Ok) {u : UdV} (f : UFit u) : 0 ≤ udCk e u ∧ udCk e u ≤ 65535 ∧ (udCk e u = 0 ↔ u.ns = true) := by
  have := udCk0_r o f
  unfold udCk
  cases u.ns
  · rw [if_neg (by decide)]
    split <;> simp <;> omega
  · simp
theorem psum_ud {e : Ends} (o : e.Ok) {u : UdV} (f : UFit u) (hn : u.ns = false) : psum e 17 (udSer e u) = 65535 := by
  have hc := udCk_r o f
  have h0 := udCk0_r o f
  have hb : Byt (udHd u 0 ++ u.data) := (udHd_byt u 0).app f.data
  have hpos := psB_pos o (p := 17) (n := ((udHd u 0 ++ u.data).length : Int)) (by omega) hb
  have hl : (udSer e u).length = (udHd u 0 ++ u.data).length := by simp [udSer, udHd_len]
  have e1 : ws true (psB e 17 ((udSer e u).length : Int) ++ udSer e u) = ws true (psB e 17 ((udHd u 0 ++ u.data).length : Int) ++ (udHd u 0 ++ u.data)) + udCk e u := by
    rw [hl, ws_ps, ws_ps]
    unfold udSer
    rw [ws_app8 (by rw [udHd_len]), ws_app8 (by rw [udHd_len]), ws_udHd u hc.1 hc.2.1]
    omega
  have e2 : udCk0 e u = 65535 - fd (ws true (psB e 17 ((udHd u 0 ++ u.data).length : Int) ++ (udHd u 0 ++ u.data))) := rfl
  unfold psum sumOf
  rw [e1]
  generalize ws true (psB e 17 ((udHd u 0 ++ u.data).length : Int) ++ (udHd u 0 ++ u.data)) = W at *
  rw [fd_most (by omega)]
  have e3 : udCk e u = if udCk0 e u = 0 then 65535 else udCk0 e u := by unfold udCk; rw [hn]; simp
  rw [e3]
  unfold fd at e2
  split at e2 <;> split <;> omega
theorem ud_bts (u : UdV) (c : Int) (d : List Int) (l : List Int) (hl : l = udHd u c ++ d) :
    W16 l 0 = u.sp / 256 % 256 * 256 + u.sp % 256 ∧ W16 l 2 = u.dp / 256 % 256 * 256 + u.dp % 256 ∧ W16 l 4 = (8 + (u.data.length : Int)) / 256 % 256 * 256 + (8 + (u.data.length : Int)) % 256 ∧ W16 l 6 = c / 256 % 256 * 256 + c % 256 := by
  subst hl
  exact ⟨rfl, rfl, rfl, rfl⟩
theorem ud_back {e : Ends} (o : e.Ok) {u : UdV} (f : UFit u) (h : udPE e u = 0) : udErr e (udSer e u) = 0 ∧ udOf e (udSer e u) = u := by
  obtain ⟨hf, hc⟩ := udPE_ok h
  obtain ⟨h1, h2, h3, h4, h5⟩ := udChk_ok hc
  have hk := udCk_r o f
  obtain ⟨b0, b2, b4, b6⟩ := ud_bts u (udCk e u) u.data _ (rfl : udSer e u = _)
  have hl : (udSer e u).length = 8 + u.data.length := by simp [udSer, udHd_len]
  have hul : udLen (udSer e u) = 8 + u.data.length := by unfold udLen; rw [b4]; omega
  have h6 : W16 (udSer e u) 6 = udCk e u := by rw [b6]; omega
  have ht : (udSer e u).take (udLen (udSer e u)) = udSer e u := List.take_of_length_le (by omega)
  have he : udErr e (udSer e u) = 0 := by
    unfold udErr
    rw [if_neg (by omega), if_neg (Classical.not_not.2 hf), if_neg (by omega), if_neg (by omega), h6, ht]
    by_cases hn : u.ns = true
    · rw [if_pos (hk.2.2.2 hn), if_neg (h4 hn)]
    · rw [if_neg (fun x => hn (hk.2.2.1 x)), if_neg (by rw [psum_ud o f (by simpa using hn)]; decide)]
  refine ⟨he, ?_⟩
  unfold udOf
  rw [if_pos he]
  unfold udRaw
  rw [ht, b0, b2, h6]
  have e1 : u.sp / 256 % 256 * 256 + u.sp % 256 = u.sp := by omega
  have e2 : u.dp / 256 % 256 * 256 + u.dp % 256 = u.dp := by omega
  have e3 : (udCk e u == 0) = u.ns := by
    rw [Bool.eq_iff_iff, beq_iff_eq]; exact hk.2.2
  have e4 : (udSer e u).drop 8 = u.data := rfl
  rw [e1, e2, e3, e4]
theorem udErr_ok {e : Ends} {l : List Int} (h : udErr e l = 0) : l.length ≤ 65535 ∧ e.fit ∧ 8 ≤ udLen l ∧ udLen l ≤ l.length ∧ (W16 l 6 = 0 → e.sv ≠ 6) ∧ (W16 l 6 ≠ 0 → psum e 17 (l.take (udLen l)) = 65535) := by
  unfold udErr at h
  split at h; · cases h
  split at h; · cases h
  split at h; · cases h
  split at h; · cases h
  rename_i h1 h2 h3 h4
  split at h
  · rename_i h5
    split at h; · cases h
    rename_i h6
    exact ⟨by omega, Classical.not_not.1 h2, by omega, by omega, fun _ => h6, fun x => absurd h5 x⟩
  · rename_i h5
    split at h; · cases h
    rename_i h6
    exact ⟨by omega, Classical.not_not.1 h2, by omega, by omega, fun x => absurd x h5, fun _ => Classical.not_not.1 h6⟩
theorem udOf_fit {e : Ends} {l : List Int} (hb : Byt l) : UFit (udOf e l) := by
  unfold udOf
  split
  · exact ⟨(hb.take _).drop _⟩
  · exact ⟨by simp [udZ, Byt]⟩
/-- what is read may be written, no longer -/
theorem ud_form {e : Ends} {l : List Int} (hb : Byt l) (h : udErr e l = 0) : udPE e (udOf e l) = 0 ∧ (udSer e (udOf e l)).length ≤ l.length := by
  obtain ⟨h1, h2, h3, h4, h5, h6⟩ := udErr_ok h
  have r0 := W16_r hb 0
  have r2 := W16_r hb 2
  have hd : ((l.take (udLen l)).drop 8).length = udLen l - 8 := by simp; omega
  unfold udOf
  rw [if_pos h]
  constructor
  · unfold udPE
    rw [if_neg (Classical.not_not.2 h2)]
    unfold udChk
    have := Ends.fit_v h2
    rw [if_neg (by omega), if_neg, if_neg (by show ¬ 65527 < ((l.take (udLen l)).drop 8).length; omega)]
    rintro (x | x | ⟨x, y⟩)
    · have : W16 l 0 < 0 ∨ 65535 < W16 l 0 := x
      omega
    · have : W16 l 2 < 0 ∨ 65535 < W16 l 2 := x
      omega
    · exact h5 (by simpa [udRaw] using x) y
  · show (udHd _ _ ++ (l.take (udLen l)).drop 8).length ≤ _
    rw [List.length_append, udHd_len]
    omega
end Go.Vc
end

section
open Go Go.Vc Go.Proofs
set_option linter.unusedVariables false
set_option linter.unusedSimpArgs false
set_option autoImplicit false
namespace Go.Vc.S9

theorem c75 {v : Int} {a : Nat → Int} {w : World} {R : SV → World → Prop} (k : ∀ w1, Upd [] [] w w1 → R (.int .i64 (verOf v a)) w1) : Ret Tryd.prog 75 [.struct [.int .i64 v, .arr .u8 16 a]] w R := by
  refine f75_of _ _ _ _ ?_
  unfold vc75
  intro b
  refine bre (fun h w1 u => ?_) (fun h => bre' (fun h2 w1 u => ?_) (fun h2 b1 => ?_))
  · have e : verOf v a = 6 := by unfold verOf; rw [if_pos h]
    rw [e] at k; exact k _ u.forget
  · have e : verOf v a = 0 := by unfold verOf; rw [if_neg h, if_neg (by omega)]
    rw [e] at k; exact k _ u.forget
  · refine brn (fun h3 w1 u => ?_) (fun h3 w1 u => ?_)
    · have e : verOf v a = 0 := by
        unfold verOf
        rw [if_neg h, if_neg]
        intro hh
        have : eqArr 16 a (fset (fset (fset (fset (fun (x : Nat) => 0) 0 (a 0)) 1 (a 1)) 2 (a 2)) 3 (a 3)) = true := by
          rw [eqArr_iff]
          intro i hi
          by_cases h4 : 4 ≤ i
          · rw [hh.2 i hi h4]
            simp only [fset]
            rw [nbeq_false.2 (by omega), nbeq_false.2 (by omega), nbeq_false.2 (by omega), nbeq_false.2 (by omega)]
          · have : i = 0 ∨ i = 1 ∨ i = 2 ∨ i = 3 := by omega
            rcases this with rfl | rfl | rfl | rfl <;> rfl
        rw [this] at h3
        cases h3
      rw [e] at k; exact k _ u.forget
    · have e : verOf v a = 4 := by
        unfold verOf
        rw [if_neg h, if_pos]
        refine ⟨h2, fun i hi h4 => ?_⟩
        rw [eqArr_iff] at h3
        rw [h3 i hi]
        simp only [fset]
        rw [nbeq_false.2 (by omega), nbeq_false.2 (by omega), nbeq_false.2 (by omega), nbeq_false.2 (by omega)]
      rw [e] at k; exact k _ u.forget
theorem c105 {v : Int} {a : Nat → Int} {w : World} {R : SV → World → Prop} (k : ∀ w1, Upd [] [] w w1 → R (.int .i64 (verOf v a)) w1) : Ret Tryd.prog 105 [.struct [.int .i64 v, .arr .u8 16 a]] w R := by
  refine f105_of _ _ _ _ ?_
  unfold vc105
  intro b
  refine bre (fun h w1 u => ?_) (fun h => ?_)
  · have e : verOf v a = 6 := by unfold verOf; rw [if_pos h]
    rw [e] at k; exact k _ u.forget
  · refine ⟨fun i w1 => Upd [] [] w w1 ∧ ∃ t : Nat, i = t ∧ 4 ≤ t ∧ t ≤ 16 ∧ ∀ j, 4 ≤ j → j < t → a j = 0, fun i _ => (16 - i).toNat, fun w1 u => ⟨u.forget, 4, rfl, by omega, by omega, fun j h1 h2 => by omega⟩, ?_⟩
    rintro i w1 ⟨u, t, rfl, h4, ht, hz⟩
    refine brd (fun hlt => ?_) (fun hge => ?_)
    · refine needIx2 (by omega) hlt (bre' (fun hne => ?_) (fun he => ⟨rfl, ⟨u, t + 1, wr_succ (by omega), by omega, by omega, fun j h1 h2 => ?_⟩, ?_⟩))
      · have e : verOf v a = 0 := by
          unfold verOf
          rw [if_neg h, if_neg]
          intro hh
          exact hne (hh.2 t (by omega) h4)
        rw [e] at k; exact k _ u
      · by_cases hj : j = t
        · subst hj; simpa using he
        · exact hz j h1 (by omega)
      · rw [wr_succ (by omega)]; (try dsimp only); omega
    · have : t = 16 := by omega
      subst this
      refine bre (fun h5 => ?_) (fun h5 => ?_)
      · have e : verOf v a = 4 := by unfold verOf; rw [if_neg h, if_pos ⟨h5, fun i h1 h2 => hz i h2 h1⟩]
        rw [e] at k; exact k _ u
      · have e : verOf v a = 0 := by unfold verOf; rw [if_neg h, if_neg (fun hh => h5 hh.1)]
        rw [e] at k; exact k _ u


/-- the pseudo header and the error -/
noncomputable def psE (e : Ends) (proto n : Int) : Int :=
  if verOf e.sv e.sa = 0 ∨ verOf e.dv e.da ≠ verOf e.sv e.sa then 20 else if proto < 0 ∨ proto > 255 ∨ n < 0 ∨ n > 65535 then 1 else 0
noncomputable def psP (e : Ends) (proto n : Int) : List Int :=
  if psE e proto n ≠ 0 then []
  else if verOf e.sv e.sa = 4 then arrL 4 e.sa ++ arrL 4 e.da ++ [0, proto % 256, n / 256 % 256, n % 256]
  else arrL 16 e.sa ++ arrL 16 e.da ++ [0, 0, n / 256 % 256, n % 256, 0, 0, 0, proto % 256]
theorem c22 {e : Ends} {proto n : Int} {w : World} {R : SV → World → Prop}
    (k : ∀ s w1, Upd [] [] w w1 → SeesB w1 s (psP e proto n) → Own w.heap.size 1 w1 s → R (.tuple [.slice s, .int .i64 (psE e proto n)]) w1) :
    Ret Tryd.prog 22 [.struct [.int .i64 e.sv, .arr .u8 16 e.sa], .struct [.int .i64 e.dv, .arr .u8 16 e.da], .int .i64 proto, .int .i64 n] w R := by
  refine f22_of _ _ _ _ _ _ _ _ ?_
  unfold vc22
  intro b b1 w1 u1
  refine c75 fun w2 u2 => ⟨_, rfl, kp u2, ?_⟩
  have v2 := u1.then u2
  intro J hJ
  have none : ∀ w3, Upd [] [] w w3 → ∀ x, psE e proto n = x → x ≠ 0 → R (.tuple [.slice ⟨.none, 0, 0⟩, .int .i64 x]) w3 := by
    intro w3 u3 x he hne
    rw [he] at k
    refine k _ w3 u3 ?_ (Own.none _ _ _)
    have : psP e proto n = [] := by unfold psP; rw [if_pos (by rw [he]; exact hne)]
    rw [this]; exact Sees.nil _ _ _ _
  refine bre (fun h => none _ v2 20 (by unfold psE; rw [if_pos (.inl h)]) (by decide)) (fun h => ?_)
  refine c75 fun w3 u3 => ⟨_, rfl, kp u3, ?_⟩
  have v3 := v2.then u3
  refine bre' (fun h2 => none _ v3 20 (by unfold psE; rw [if_pos (.inr h2)]) (by decide)) (fun h2 => ?_)
  have hE : ∀ c : Prop, (proto < 0 ∨ proto > 255 ∨ n < 0 ∨ n > 65535) → psE e proto n = 1 := fun _ hc => by unfold psE; rw [if_neg (by omega), if_pos hc]
  refine brd (fun h3 => none _ v3 1 (hE True (by omega)) (by decide)) (fun h3 => brd (fun h4 => none _ v3 1 (hE True (by omega)) (by decide)) (fun h4 => brd (fun h5 => none _ v3 1 (hE True (by omega)) (by decide)) (fun h5 => brd (fun h6 => none _ v3 1 (hE True (by omega)) (by decide)) (fun h6 => ⟨rfl, rfl, hJ _ ?_⟩))))
  clear hJ none hE
  have he : psE e proto n = 0 := by unfold psE; rw [if_neg (by omega), if_neg (by omega)]
  rw [he] at k
  have hb1 : b1 < w3.heap.size := by have := u1.new (b := b1) (by simp); have := u2.size; have := u3.size; omega
  have hb : b < w3.heap.size := by have := u1.new (b := b) (by simp); have := u2.size; have := u3.size; omega
  have core : ∀ (q : Nat) (hq : q ≤ 16) (tl : List Int) (w4 : World) (K : Sl → World → Prop), w4.heap[b]? = some (.cells (SV.cells (.struct [.int .i64 e.sv, .arr .u8 16 e.sa])).toArray 27 (0, 0)) → w4 = w3 →
      (∀ s w5, Upd [] [] w w5 → SeesB w5 s (arrL q e.sa ++ arrL q e.da) → Own w.heap.size 1 w5 s → K s w5) →
      Vc.Append 5 1 1 ⟨.none, 0, 0⟩ (Sl.sub ⟨some ⟨b, 1, .none⟩, 16, 16⟩ 1 0 q 16) [b1] w4 fun r w =>
        w.heap[b1]? = some (.cells (SV.cells (.struct [.int .i64 e.dv, .arr .u8 16 e.da])).toArray 27 (0, 0)) → Vc.Append 5 1 1 r (Sl.sub ⟨some ⟨b1, 1, .none⟩, 16, 16⟩ 1 0 q 16) [] w K := by
    intro q hq tl w4 K hr e4 hK
    subst e4
    have hs := rowMid (o := 1) (cap := 16) hr [.int .i64 e.sv] [] (arrL 16 e.sa) (by simp [SV.cells, SV.cellsL, ← arrL_cells]) rfl (arrL_len _ _).symm
    have hs2 := hs.subB (lo := 0) (hi := q) (mx := 16) (by omega) (by rw [arrL_len]; exact hq) hq
    have e1 : ∀ f : Nat → Int, ((arrL 16 f).take q).drop 0 = arrL q f := by
      intro f
      simp only [arrL, List.drop_zero, ← List.map_take, List.take_range, Nat.min_eq_left hq]
    rw [e1] at hs2
    refine append_own (c := cU8) (Sees.nil _ _ _ _) (Own.none w.heap.size _ _) hs2 v3.size (by simp [Sl.blk]) (by omega) (by simp [arrL_len]; omega) fun r w5 hr5 ho5 u5 hnew => ?_
    intro hrow
    have hd := rowMid (o := 1) (cap := 16) hrow [.int .i64 e.dv] [] (arrL 16 e.da) (by simp [SV.cells, SV.cellsL, ← arrL_cells]) rfl (arrL_len _ _).symm
    have hd2 := hd.subB (lo := 0) (hi := q) (mx := 16) (by omega) (by rw [arrL_len]; exact hq) hq
    rw [e1] at hd2
    simp only [List.nil_append] at hr5
    have v5 := v3.step0 u5 (by simp [Sl.blk])
    refine append_own (c := cU8) hr5 ho5 hd2 v5.size (by simp) (by omega) (by simp [arrL_len]; omega) fun r2 w6 hr6 ho6 u6 _ => ?_
    exact hK _ _ (v5.step0 u6 (fun b hb => (ho5.blk b hb).1)) hr6 ho6
  refine bre (fun h7 hrow _ => core 4 (by omega) [] _ _ hrow rfl ?_) (fun h7 hrow _ => core 16 (by omega) [] _ _ hrow rfl ?_)
  · intro s w5 u5 hs5 ho5 b4 w6 u6 hr6
    have v6 := u5.then u6
    refine append_own (c := cU8) (new := [0, proto % 256, n / 256 % 256, n % 256]) (hs5.old u6) (ho5.old u6) (rowB hr6 _ (by rw [gshr8, wr_u8, wr_u8, wr_u8]; rfl) rfl) v6.size (by simp) (by omega) (by simp [arrL_len]) fun r w7 hr7 ho7 u7 _ => ?_
    refine k _ _ (v6.step0 u7 (fun b hb => ((ho5.old u6).blk b hb).1)) ?_ ho7
    unfold psP
    rw [if_neg (by omega), if_pos h7]
    exact hr7
  · intro s w5 u5 hs5 ho5 b4 w6 u6 hr6
    have v6 := u5.then u6
    refine append_own (c := cU8) (new := [0, 0, n / 256 % 256, n % 256, 0, 0, 0, proto % 256]) (hs5.old u6) (ho5.old u6) (rowB hr6 _ (by rw [gshr8, wr_u8, wr_u8, wr_u8]; rfl) rfl) v6.size (by simp) (by omega) (by simp [arrL_len]) fun r w7 hr7 ho7 u7 _ => ?_
    refine k _ _ (v6.step0 u7 (fun b hb => ((ho5.old u6).blk b hb).1)) ?_ ho7
    unfold psP
    rw [if_neg (by omega), if_neg h7]
    exact hr7
theorem c102 {e : Ends} {proto n : Int} {w : World} {R : SV → World → Prop}
    (k : ∀ s w1, Upd [] [] w w1 → SeesB w1 s (psP e proto n) → Own w.heap.size 1 w1 s → R (.tuple [.slice s, .int .i64 (psE e proto n)]) w1) :
    Ret Tryd.prog 102 [.struct [.int .i64 e.sv, .arr .u8 16 e.sa], .struct [.int .i64 e.dv, .arr .u8 16 e.da], .int .i64 proto, .int .i64 n] w R := by
  refine f102_of _ _ _ _ _ _ _ _ ?_
  unfold vc102
  intro b b1 w1 u1
  refine c105 fun w2 u2 => ⟨_, rfl, kp u2, ?_⟩
  have v2 := u1.then u2
  intro J hJ
  have none : ∀ w3, Upd [] [] w w3 → ∀ x, psE e proto n = x → x ≠ 0 → R (.tuple [.slice ⟨.none, 0, 0⟩, .int .i64 x]) w3 := by
    intro w3 u3 x he hne
    rw [he] at k
    refine k _ w3 u3 ?_ (Own.none _ _ _)
    have : psP e proto n = [] := by unfold psP; rw [if_pos (by rw [he]; exact hne)]
    rw [this]; exact Sees.nil _ _ _ _
  refine bre (fun h => none _ v2 20 (by unfold psE; rw [if_pos (.inl h)]) (by decide)) (fun h => ?_)
  refine c105 fun w3 u3 => ⟨_, rfl, kp u3, ?_⟩
  have v3 := v2.then u3
  refine bre' (fun h2 => none _ v3 20 (by unfold psE; rw [if_pos (.inr h2)]) (by decide)) (fun h2 => ⟨rfl, rfl, hJ _ ?_⟩)
  clear hJ
  intro J hJ
  have hE : ∀ c : Prop, (proto < 0 ∨ proto > 255 ∨ n < 0 ∨ n > 65535) → psE e proto n = 1 := fun _ hc => by unfold psE; rw [if_neg (by omega), if_pos hc]
  refine brd (fun h3 => none _ v3 1 (hE True (by omega)) (by decide)) (fun h3 => brd (fun h4 => none _ v3 1 (hE True (by omega)) (by decide)) (fun h4 => brd (fun h5 => none _ v3 1 (hE True (by omega)) (by decide)) (fun h5 => brd (fun h6 => none _ v3 1 (hE True (by omega)) (by decide)) (fun h6 => ⟨rfl, rfl, hJ _ ?_⟩))))
  clear hJ none hE
  have he : psE e proto n = 0 := by unfold psE; rw [if_neg (by omega), if_neg (by omega)]
  rw [he] at k
  have hb1 : b1 < w3.heap.size := by have := u1.new (b := b1) (by simp); have := u2.size; have := u3.size; omega
  have hb : b < w3.heap.size := by have := u1.new (b := b) (by simp); have := u2.size; have := u3.size; omega
  -- what is made lies above the boxes
  have out : ∀ s w4, Upd [] [] w3 w4 → SeesB w4 s (psP e proto n) → Own w3.heap.size 1 w4 s → R (.tuple [.slice s, .int .i64 0]) w4 := fun s w4 u4 hs ho => k s w4 (v3.then u4) hs (ho.mono v3.size)
  have hbs : ∀ x ∈ [b, b1], x < w3.heap.size := by simp; omega
  have hn1 : wr .u8 (wr .i64 (Int.tdiv n 256)) = n / 256 % 256 := by rw [tdiv_pos (by omega), wr_i64 (by omega) (by omega), wr_u8]
  have hn2 : wr .u8 (Int.tmod n 256) = n % 256 := by rw [tmod_pos (by omega), wr_u8]; omega
  rw [hn1, hn2, wr_u8]
  have hout : ∀ {N : Nat} {w : World} {s : Sl}, Own w3.heap.size 1 w s → ∀ b' ∈ s.blk, b' ∉ [b, b1] := by
    intro N w s ho b' hb' hm
    have := (ho.blk b' hb').1
    have := hbs b' hm
    omega
  refine bre (fun h7 => ?_) (fun h7 => ?_)
  · intro b4 w4 u4 hr4
    refine append_own (c := cU8) (N := w3.heap.size) (new := arrL 4 e.sa ++ arrL 4 e.da) (Sees.nil _ _ _ _) (Own.none _ _ _) (rowB hr4 _ rfl rfl) u4.size (by simp [Sl.blk]) (by omega) (by simp [arrL_len]) fun r w5 hr5 ho5 u5 _ => ?_
    have v5 := u4.step0 (m' := Sl.blk ⟨.none, 0, 0⟩) (n' := []) (w0 := w3) u5 (by simp [Sl.blk])
    intro b6 w6 u6 hr6
    have v6 := v5.then u6
    refine append_own (c := cU8) (new := [0, proto % 256, n / 256 % 256, n % 256]) (hr5.old u6) (ho5.old u6) (rowB hr6 _ rfl rfl) v6.size (hout (N := 0) (ho5.old u6)) (by omega) (by simp [arrL_len]) fun r w7 hr7 ho7 u7 _ => ?_
    refine out _ _ (v6.step0 u7 (fun b hb => ((ho5.old u6).blk b hb).1)) ?_ ho7
    unfold psP
    rw [if_neg (by omega), if_pos h7]
    exact hr7
  · refine app_loop (m := 16) (f := e.sa) rfl (Upd.refl w3) (Sees.nil _ _ _ _) (Own.none _ _ _) (by simp) (fun t ht => by simp [SV.cells, SV.cellsL]) hbs (fun I M s n w r w' h1 h2 => ⟨rfl, rfl, h1, h2⟩) fun s w4 u4 hs4 ho4 => ?_
    refine app_loop (m := 16) (f := e.da) rfl u4 hs4 ho4 (by simp [arrL_len]) (fun t ht => by simp [SV.cells, SV.cellsL]) hbs (fun I M s n w r w' h1 h2 => ⟨rfl, rfl, h1, h2⟩) fun s w5 u5 hs5 ho5 => ?_
    intro b6 w6 u6 hr6
    have v6 := u5.then u6
    refine append_own (c := cU8) (new := [0, 0, n / 256 % 256, n % 256, 0, 0, 0, proto % 256]) (hs5.old u6) (ho5.old u6) (rowB hr6 _ rfl rfl) v6.size (hout (N := 0) (ho5.old u6)) (by omega) (by simp [arrL_len]) fun r w7 hr7 ho7 u7 _ => ?_
    refine out _ _ (v6.step0 u7 (fun b hb => ((ho5.old u6).blk b hb).1)) ?_ ho7
    unfold psP
    rw [if_neg (by omega), if_neg h7]
    simpa using hr7

theorem psE_fit {e : Ends} {p n : Int} (h : e.fit) (hp : 0 ≤ p ∧ p ≤ 255) (hn : 0 ≤ n ∧ n ≤ 65535) : psE e p n = 0 ∧ psP e p n = psB e p n := by
  obtain ⟨h1, h2⟩ := h
  have e0 : psE e p n = 0 := by unfold psE; rw [if_neg (by rintro (x | x); exact h1 x; exact x h2), if_neg (by omega)]
  refine ⟨e0, ?_⟩
  unfold psP psB
  rw [if_neg (by omega)]
  rcases verOf_cases e.sv e.sa with q | q | q
  · rw [if_neg (by omega), if_pos q.2]
  · rw [if_pos q.1, if_neg (by omega)]
  · exact absurd q h1
theorem psE_no {e : Ends} {p n : Int} (h : ¬ e.fit) : psE e p n = 20 ∧ psP e p n = [] := by
  have e0 : psE e p n = 20 := by
    unfold psE; rw [if_pos]
    refine Classical.byContradiction fun hn => h ⟨fun x => hn (.inl x), Classical.byContradiction fun x => hn (.inr x)⟩
  exact ⟨e0, by unfold psP; rw [if_pos (by omega)]⟩
end Go.Vc.S9
end

section
section
open Go Go.Vc Go.Proofs
set_option linter.unusedVariables false
set_option linter.unusedSimpArgs false
set_option autoImplicit false
namespace Go.Vc.S9

theorem c101 {n : Int} {w : World} {R : SV → World → Prop} (h0 : 0 ≤ n) (h1 : n < 9223372036854775808) (k : R (.int .i64 (fd n)) w) : Ret Tryd.prog 101 [.int .i64 n] w R := by
  refine f101_of _ _ _ ?_
  unfold vc101
  refine ⟨fun m w1 => w1 = w ∧ 0 ≤ m ∧ m < 9223372036854775808 ∧ fd m = fd n, fun m _ => m.toNat, ⟨rfl, h0, h1, rfl⟩, ?_⟩
  rintro m w1 ⟨rfl, a, b, c⟩
  refine brd (fun h => ?_) (fun h => ?_)
  · rw [and_65535, gshr16, wr_i64 (by omega) (by omega)]
    exact ⟨⟨rfl, by omega, by omega, by rw [fd_step h]; exact c⟩, by dsimp only; omega⟩
  · rw [fd_id a (by omega)] at c
    rw [c]; exact k

theorem c76 {parts : Sl} {ls : List (List Int)} {ss : List Sl} {w : World} {R : SV → World → Prop} (h : Parts w parts ls ss) (hb : ∀ l ∈ ls, Byt l) (hn : ls.length < 9223372036854775807) (hl : ∀ l ∈ ls, l.length ≤ 140737488355328)
    (k : R (.int .i64 (sumOf ls.flatten)) w) : Ret Tryd.prog 76 [.slice parts] w R := by
  refine f76_of _ _ _ ?_
  unfold vc76
  refine ⟨fun n b i w1 => w1 = w ∧ ∃ q : Nat, i = q ∧ q ≤ ls.length ∧ n = fd (ws true (ls.take q).flatten) ∧ b = par true (ls.take q).flatten.length, fun _ _ i _ => (ls.length - i).toNat, ⟨rfl, 0, rfl, by omega, by simp [ws, fd], by simp [par]⟩, ?_⟩
  rintro n b i w1 ⟨rfl, q, rfl, hq, rfl, rfl⟩
  have hw0 := ws_nonneg true (byt_flat_take hb q)
  have hf0 := fd_range hw0.1
  refine brd (fun hlt => ?_) (fun hge => ?_)
  · rw [h.slen] at hlt
    refine needP h (by omega) hlt ?_
    obtain ⟨h1, h2, hc, hs, hp⟩ := h.get (i := (q : Int)) (by omega) hlt
    refine ⟨_, hc, ?_⟩
    simp only [Int.toNat_natCast] at hs h1 h2 ⊢
    have hbp : Byt ls[q] := hb _ (List.getElem_mem _)
    have hlp := hl _ (List.getElem_mem h2)
    refine ⟨fun n b j w2 => w2 = w1 ∧ ∃ t : Nat, j = t ∧ t ≤ ls[q].length ∧ n = fd (ws true (ls.take q).flatten) + ws (par true (ls.take q).flatten.length) (ls[q].take t) ∧ b = par (par true (ls.take q).flatten.length) t,
      fun _ _ j _ => (ls[q].length - j).toNat, ⟨rfl, 0, rfl, by omega, by simp [ws], by simp [par]⟩, ?_⟩
    rintro n b j w2 ⟨rfl, t, rfl, ht, rfl, rfl⟩
    have hw1 := ws_nonneg (par true (ls.take q).flatten.length) (hbp.take t)
    have hlt1 : ((ls[q].take t).length : Int) ≤ 140737488355328 := by rw [List.length_take]; omega
    refine brd (fun hlt2 => ?_) (fun hge2 => ?_)
    · rw [hs.len] at hlt2
      refine needB hs (by omega) hlt2 ?_
      refine ⟨_, hs.byte (by omega) hlt2, ?_⟩
      have hbb := hbp.bt (t : Int)
      have hls : ((ls[q].take t).length : Int) = t := by rw [List.length_take]; omega
      have hsn := ws_snoc (ls[q].take t) ls[q][t] (par true (ls.take q).flatten.length)
      rw [← take_snoc (by omega), ← bt_nat (by omega)] at hsn
      have hbt : par (par true (ls.take q).flatten.length) (ls[q].take t).length = par (par true (ls.take q).flatten.length) t := by congr 1; rw [List.length_take]; omega
      rw [hbt] at hsn
      rw [wr_i64 (x := bt ls[q] t) (by omega) (by omega), gshl8, wr_i64 (x := bt ls[q] t * 256) (by omega) (by omega), wr_i64 (x := (t : Int) + 1) (by omega) (by omega)]
      refine fun J hJ => brb (fun e => ?_) (fun e => ?_)
      · rw [e] at hsn
        refine hJ _ _ ⟨⟨rfl, t + 1, by push_cast; rfl, by omega, ?_, ?_⟩, by dsimp only; omega⟩
        · rw [hsn, wr_i64 (by omega) (by omega)]; simp; omega
        · rw [← par_succ]; simp only [par]; split <;> rfl
      · rw [e] at hsn
        refine hJ _ _ ⟨⟨rfl, t + 1, by push_cast; rfl, by omega, ?_, ?_⟩, by dsimp only; omega⟩
        · rw [hsn, wr_i64 (by omega) (by omega)]; simp; omega
        · rw [← par_succ]; simp only [par]; split <;> rfl
    · have ht' : t = ls[q].length := by rw [hs.len] at hge2; omega
      subst ht'
      rw [List.take_length] at hw1 ⊢
      refine c101 (by omega) (by omega) ⟨_, rfl, ⟨rfl, q + 1, ?_, by omega, ?_, ?_⟩, ?_⟩
      · rw [wr_i64 (by omega) (by omega)]; push_cast; rfl
      · rw [flat_snoc h2, ws_app, fd_add' hw0.1 hw1.1]
      · rw [flat_snoc h2, List.length_append]
        rw [par_par]
      · rw [wr_i64 (by omega) (by omega)]; omega
  · rw [h.slen] at hge
    have : q = ls.length := by omega
    subst this
    rw [List.take_length]
    exact k

theorem c72 {parts : Sl} {ls : List (List Int)} {ss : List Sl} {w : World} {R : SV → World → Prop} (h : Parts w parts ls ss) (hb : ∀ l ∈ ls, Byt l) (hn : ls.length < 9223372036854775807) (hl : ∀ l ∈ ls, l.length ≤ 140737488355328)
    (k : R (.int .i64 (65535 - sumOf ls.flatten)) w) : Ret Tryd.prog 72 [.slice parts] w R := by
  refine f72_of _ _ _ ?_
  unfold vc72
  refine c76 h hb hn hl ⟨_, rfl, ?_⟩
  have := fd_range (ws_nonneg true (byt_flat hb)).1
  rw [wr_i64 (by unfold sumOf; omega) (by unfold sumOf; omega)]
  exact k
theorem c24 {parts : Sl} {ls : List (List Int)} {ss : List Sl} {w : World} {R : SV → World → Prop} (h : Parts w parts ls ss) (hb : ∀ l ∈ ls, Byt l) (hn : ls.length < 9223372036854775807) (hl : ∀ l ∈ ls, l.length ≤ 140737488355328)
    (k : R (.bool (sumOf ls.flatten == 65535)) w) : Ret Tryd.prog 24 [.slice parts] w R := by
  refine f24_of _ _ _ ?_
  unfold vc24
  exact c76 h hb hn hl ⟨_, rfl, k⟩
end Go.Vc.S9
end
section
open Go Go.Vc Go.Proofs
set_option linter.unusedVariables false
set_option linter.unusedSimpArgs false
set_option autoImplicit false
namespace Go.Vc.S9

theorem c107 {n : Int} {w : World} {R : SV → World → Prop} (h0 : 0 ≤ n) (h1 : n < 9223372036854775808) (k : R (.int .i64 (fd n)) w) : Ret Tryd.prog 107 [.int .i64 n] w R := by
  refine f107_of _ _ _ ?_
  unfold vc107
  refine bre (fun h => ?_) (fun h => ?_)
  · subst h; exact k
  · rw [wr_i64 (x := n - 1) (by omega) (by omega), tmod_pos (by omega), wr_i64 (by omega) (by omega)]
    unfold fd at k
    rw [if_neg h] at k
    exact k

theorem c106 {parts : Sl} {ls : List (List Int)} {ss : List Sl} {w : World} {R : SV → World → Prop} (h : Parts w parts ls ss) (hb : ∀ l ∈ ls, Byt l) (hn : ls.length < 9223372036854775807) (hl : ls.flatten.length ≤ 140737488355328)
    (k : R (.int .i64 (sumOf ls.flatten)) w) : Ret Tryd.prog 106 [.slice parts] w R := by
  refine f106_of _ _ _ ?_
  unfold vc106
  refine ⟨fun at_ n i w1 => w1 = w ∧ ∃ q : Nat, i = q ∧ q ≤ ls.length ∧ at_ = ((ls.take q).flatten.length : Nat) ∧ n = ws true (ls.take q).flatten, fun _ _ i _ => (ls.length - i).toNat, ⟨rfl, 0, rfl, by omega, by simp, by simp [ws]⟩, ?_⟩
  rintro at_ n i w1 ⟨rfl, q, rfl, hq, rfl, rfl⟩
  have hw0 := ws_nonneg true (byt_flat_take hb q)
  have hf := flat_le ls q
  refine brd (fun hlt => ?_) (fun hge => ?_)
  · rw [h.slen] at hlt
    obtain ⟨h1, h2, hc, hs, hp⟩ := h.get (i := (q : Int)) (by omega) hlt
    simp only [Int.toNat_natCast] at hs h1 h2 hc
    have hfs := flat_snoc h2
    have hf1 := flat_le ls (q + 1)
    rw [hfs, List.length_append] at hf1
    have hbp : Byt ls[q] := hb _ (List.getElem_mem _)
    refine ⟨fun at_ n j w2 => w2 = w1 ∧ ∃ t : Nat, j = t ∧ t ≤ ls[q].length ∧ at_ = ((ls.take q).flatten.length + t : Nat) ∧ n = ws true (ls.take q).flatten + ws (par true (ls.take q).flatten.length) (ls[q].take t),
      fun _ _ j _ => (ls[q].length - j).toNat, ⟨rfl, 0, rfl, by omega, by simp, by simp [ws]⟩, ?_⟩
    rintro at_ n j w2 ⟨rfl, t, rfl, ht, rfl, rfl⟩
    refine needP h (by omega) hlt ⟨_, (by rw [Int.toNat_natCast]; exact hc), ?_⟩
    have hw1 := ws_nonneg (par true (ls.take q).flatten.length) (hbp.take t)
    have hls : ((ls[q].take t).length : Int) = t := by rw [List.length_take]; omega
    refine brd (fun hlt2 => ?_) (fun hge2 => ?_)
    · refine fun J hJ => needP h (by omega) hlt ⟨_, (by rw [Int.toNat_natCast]; exact hc), ?_⟩
      rw [hs.len] at hlt2
      refine needB hs (by omega) hlt2 ⟨_, hs.byte (by omega) hlt2, ?_⟩
      have hbb := hbp.bt (t : Int)
      have hsn := ws_snoc (ls[q].take t) ls[q][t] (par true (ls.take q).flatten.length)
      rw [← take_snoc (by omega), ← bt_nat (by omega)] at hsn
      have hbt : par (par true (ls.take q).flatten.length) (ls[q].take t).length = decide (((ls.take q).flatten.length + t) % 2 = 0) := by
        rw [par_par, List.length_take, Nat.min_eq_left ht]; unfold par; split <;> simp_all
      rw [hbt] at hsn
      refine fun J1 hJ1 => bre (fun e => ?_) (fun e => ?_)
      all_goals
        rw [tmod_pos (by omega)] at e
        refine hJ1 _ _ (hJ _ _ _ ⟨⟨rfl, t + 1, ?_, by omega, ?_, ?_⟩, ?_⟩)
        · rw [wr_i64 (by omega) (by omega)]; push_cast; rfl
        · rw [wr_i64 (by omega) (by omega)]; push_cast; omega
        · first
            | rw [if_pos (decide_eq_true (by omega))] at hsn
            | rw [if_neg (by rw [decide_eq_true_eq]; omega)] at hsn
          first
            | rw [wr_i64 (x := bt ls[q] t) (by omega) (by omega), wr_i64 (x := bt ls[q] t * 256) (by omega) (by omega), wr_i64 (by omega) (by omega)]; omega
            | rw [wr_i64 (x := bt ls[q] t) (by omega) (by omega), wr_i64 (by omega) (by omega)]; omega
        · rw [wr_i64 (x := (t : Int) + 1) (by omega) (by omega)]; (try dsimp only); omega
    · have ht' : t = ls[q].length := by rw [hs.len] at hge2; omega
      subst ht'
      rw [List.take_length]
      refine ⟨⟨rfl, q + 1, ?_, by omega, ?_, ?_⟩, ?_⟩
      · rw [wr_i64 (by omega) (by omega)]; push_cast; rfl
      · rw [hfs, List.length_append]
      · rw [hfs, ws_app]
      · rw [wr_i64 (by omega) (by omega)]; (try dsimp only); omega
  · rw [h.slen] at hge
    have : q = ls.length := by omega
    subst this
    rw [List.take_length] at hw0 ⊢
    exact c107 (by omega) (by omega) ⟨_, rfl, k⟩
theorem c104 {parts : Sl} {ls : List (List Int)} {ss : List Sl} {w : World} {R : SV → World → Prop} (h : Parts w parts ls ss) (hb : ∀ l ∈ ls, Byt l) (hn : ls.length < 9223372036854775807) (hl : ls.flatten.length ≤ 140737488355328)
    (k : R (.int .i64 (65535 - sumOf ls.flatten)) w) : Ret Tryd.prog 104 [.slice parts] w R := by
  refine f104_of _ _ _ ?_
  unfold vc104
  refine c106 h hb hn hl ⟨_, rfl, ?_⟩
  have := fd_range (ws_nonneg true (byt_flat hb)).1
  rw [wr_i64 (by unfold sumOf; omega) (by unfold sumOf; omega)]
  exact k
theorem c103 {parts : Sl} {ls : List (List Int)} {ss : List Sl} {w : World} {R : SV → World → Prop} (h : Parts w parts ls ss) (hb : ∀ l ∈ ls, Byt l) (hn : ls.length < 9223372036854775807) (hl : ls.flatten.length ≤ 140737488355328)
    (k : R (.bool (sumOf ls.flatten == 65535)) w) : Ret Tryd.prog 103 [.slice parts] w R := by
  refine f103_of _ _ _ ?_
  unfold vc103
  exact c106 h hb hn hl ⟨_, rfl, k⟩

end Go.Vc.S9
end
end

section
open Go Go.Vc Go.Vc.S9 Go.Proofs
set_option maxRecDepth 100000
set_option linter.unusedVariables false
namespace Go.Vc.S9
def vc40 (b : Sl) (w : World) (R : SV → World → Prop) : Prop :=
  Vc.Append 5 1 1 { ptr := none, len := 0, cap := 0 } b [] w fun (r : Sl) (w : World) => R (SV.slice r) w
theorem f40_of (b : Sl) (w : World) (R : SV → World → Prop) (h : vc40 b w R) : Ret Tryd.prog 40 [.slice b] w R :=
  have e : vc40 b w R = fnVC X Tryd.f40 a40 [.slice b] w R := by kernel_rfl
  fnVC_sound X_ok (n := a40) (e ▸ h) (by kernel_rfl) (by kernel_rfl) rfl rfl

def vc30 (a : Sl) (b : Sl) (w : World) (R : SV → World → Prop) : Prop :=
  BytesStr w a fun (b_1 : ByteArray) => BytesStr w b fun (b : ByteArray) => R (SV.bool (b_1 == b)) w
theorem f30_of (a : Sl) (b : Sl) (w : World) (R : SV → World → Prop) (h : vc30 a b w R) : Ret Tryd.prog 30 [.slice a, .slice b] w R :=
  have e : vc30 a b w R = fnVC X Tryd.f30 a30 [.slice a, .slice b] w R := by kernel_rfl
  fnVC_sound X_ok (n := a30) (e ▸ h) (by kernel_rfl) (by kernel_rfl) rfl rfl

def vc47 (a : Sl) (b : Sl) (w : World) (R : SV → World → Prop) : Prop :=
  Br ((↑a.2 : Int) != (↑b.2 : Int)) (R (SV.bool false) w)
    (∃ (I : Int → World → Prop),
      ∃ (M : Int → World → Nat),
        I 0 w ∧
          ∀ (n : Int) (w1 : World),
            I n w1 →
              Br (decide (n < (↑a.2 : Int)))
                (∀ (J : World → Prop),
                  (∀ (w1_1 : World), I (wr IntKind.i64 (n + 1)) w1_1 ∧ M (wr IntKind.i64 (n + 1)) w1_1 < M n w1 → J w1_1) →
                    Need (decide (0 ≤ n) && decide (n < (↑a.2 : Int)) && Option.isSome a.1)
                      (∃ (s : Sl),
                        World.cell? w1 (Addr.add (Sl.at a 2 (Int.toNat n)) 1) = some (Sl.val s) ∧
                          Need (decide (0 ≤ n) && decide (n < (↑b.2 : Int)) && Option.isSome b.1)
                            (∃ (s_1 : Sl),
                              World.cell? w1 (Addr.add (Sl.at b 2 (Int.toNat n)) 1) = some (Sl.val s_1) ∧
                                ∀ (w1_1 : World),
                                  Upd [] [] w1 w1_1 →
                                    Ret Tryd.prog 30 [SV.slice s, SV.slice s_1] w1_1 fun (r : SV) (w1 : World) =>
                                      ∃ (b_1 : Bool),
                                        r = SV.bool b_1 ∧
                                          Need (decide (0 ≤ n) && decide (n < (↑a.2 : Int)) && Option.isSome a.1)
                                            (∃ (n_1 : Int),
                                              World.cell? w1 (Sl.at a 2 (Int.toNat n)) = some (Value.int IntKind.i64 n_1) ∧
                                                Need (decide (0 ≤ n) && decide (n < (↑b.2 : Int)) && Option.isSome b.1)
                                                  (∃ (n_2 : Int),
                                                    World.cell? w1 (Sl.at b 2 (Int.toNat n)) = some (Value.int IntKind.i64 n_2) ∧
                                                      Br (n_1 != n_2) (∀ (w1_2 : World), Upd [] [] w1 w1_2 → R (SV.bool false) w1_2)
                                                        (Br (!b_1) (∀ (w1_2 : World), Upd [] [] w1 w1_2 → R (SV.bool false) w1_2) (∀ (w1_2 : World), Upd [] [] w1 w1_2 → J w1_2)))))))
                (R (SV.bool true) w1))
theorem f47_of (a : Sl) (b : Sl) (w : World) (R : SV → World → Prop) (h : vc47 a b w R) : Ret Tryd.prog 47 [.slice a, .slice b] w R :=
  have e : vc47 a b w R = fnVC X Tryd.f47 a47 [.slice a, .slice b] w R := by kernel_rfl
  fnVC_sound X_ok (n := a47) (e ▸ h) (by kernel_rfl) (by kernel_rfl) rfl rfl

def vc80 (l : Sl) (w : World) (R : SV → World → Prop) : Prop :=
  ∃ (I : Sl → Int → World → Prop),
    ∃ (M : Sl → Int → World → Nat),
      I { ptr := none, len := 0, cap := 0 } 0 w ∧
        ∀ (s : Sl) (n : Int) (w1 : World),
          I s n w1 →
            Br (decide (n < (↑l.2 : Int)))
              (Need (decide (0 ≤ n) && decide (n < (↑l.2 : Int)) && Option.isSome l.1)
                (∃ (n_1 : Int),
                  World.cell? w1 (Sl.at l 2 (Int.toNat n)) = some (Value.int IntKind.i64 n_1) ∧
                    Need (decide (0 ≤ n) && decide (n < (↑l.2 : Int)) && Option.isSome l.1)
                      (∃ (s_1 : Sl),
                        World.cell? w1 (Addr.add (Sl.at l 2 (Int.toNat n)) 1) = some (Sl.val s_1) ∧
                          ∀ (w1_1 : World),
                            Upd [] [] w1 w1_1 →
                              Ret Tryd.prog 40 [SV.slice s_1] w1_1 fun (r : SV) (w1_2 : World) =>
                                ∃ (s_2 : Sl),
                                  r = SV.slice s_2 ∧
                                    Upd [] [] w1 w1_2 ∧
                                      ∀ (b : Nat) (w1_3 : World),
                                        Upd [] [b] w1_2 w1_3 →
                                          (World.heap w1_3)[b]? = some (Obj.cells { toList := SV.cells (SV.struct [SV.struct [SV.int IntKind.i64 n_1, SV.slice s_2]]) } 60) →
                                            Vc.Append 60 2 32 s { ptr := some { block := b, off := 0 }, len := 1, cap := 1 } [] w1_3 fun (r : Sl) (w : World) =>
                                              I r (wr IntKind.i64 (n + 1)) w ∧ M r (wr IntKind.i64 (n + 1)) w < M s n w1)))
              (R (SV.slice s) w1)
theorem f80_of (l : Sl) (w : World) (R : SV → World → Prop) (h : vc80 l w R) : Ret Tryd.prog 80 [.slice l] w R :=
  have e : vc80 l w R = fnVC X Tryd.f80 a80 [.slice l] w R := by kernel_rfl
  fnVC_sound X_ok (n := a80) (e ▸ h) (by kernel_rfl) (by kernel_rfl) rfl rfl

def vc39 (l : Sl) (w : World) (R : SV → World → Prop) : Prop :=
  ∃ (I : Sl → Int → World → Prop),
    ∃ (M : Sl → Int → World → Nat),
      I { ptr := none, len := 0, cap := 0 } 0 w ∧
        ∀ (s : Sl) (n : Int) (w1 : World),
          I s n w1 →
            Br (decide (n < (↑l.2 : Int)))
              (Need (decide (0 ≤ n) && decide (n < (↑l.2 : Int)) && Option.isSome l.1)
                (∃ (n_1 : Int),
                  World.cell? w1 (Sl.at l 2 (Int.toNat n)) = some (Value.int IntKind.i64 n_1) ∧
                    ∃ (s_1 : Sl),
                      World.cell? w1 (Addr.add (Sl.at l 2 (Int.toNat n)) 1) = some (Sl.val s_1) ∧
                        ∀ (b : Nat) (J : World → Prop),
                          (∀ (w1_1 : World),
                              (∀ (b_1 : Nat) (w1_2 : World),
                                  Upd [] [b_1] w1_1 w1_2 →
                                    (World.heap w1_2)[b_1]? =
                                        some
                                          (Obj.cells
                                            {
                                              toList :=
                                                SV.cells
                                                  (SV.struct [SV.int IntKind.u8 (wr IntKind.u8 n_1), SV.int IntKind.u8 (wr IntKind.u8 (wr IntKind.i64 (2 + (↑s_1.2 : Int))))]) }
                                            5) →
                                      Vc.Append 5 1 1 s { ptr := some { block := b_1, off := 0 }, len := 2, cap := 2 } [b] w1_2 fun (r : Sl) (w : World) =>
                                        Vc.Append 5 1 1 r s_1 [b] w fun (r : Sl) (w : World) => I r (wr IntKind.i64 (n + 1)) w ∧ M r (wr IntKind.i64 (n + 1)) w < M s n w1) →
                                J w1_1) →
                            Br (decide (n_1 < 2)) (∀ (w1_1 : World), Upd [] [b] w1 w1_1 → R (SV.tuple [SV.slice { ptr := none, len := 0, cap := 0 }, SV.int IntKind.i64 97]) w1_1)
                              (Br (decide (n_1 > 255))
                                (∀ (w1_1 : World), Upd [] [b] w1 w1_1 → R (SV.tuple [SV.slice { ptr := none, len := 0, cap := 0 }, SV.int IntKind.i64 97]) w1_1)
                                (Br (decide (wr IntKind.i64 (2 + (↑s_1.2 : Int)) > 40))
                                  (∀ (w1_1 : World), Upd [] [b] w1 w1_1 → R (SV.tuple [SV.slice { ptr := none, len := 0, cap := 0 }, SV.int IntKind.i64 97]) w1_1)
                                  (∀ (w1_1 : World),
                                    Upd [] [b] w1 w1_1 →
                                      Ret Tryd.prog 78 [SV.int IntKind.i64 n_1, SV.int IntKind.i64 (wr IntKind.i64 (2 + (↑s_1.2 : Int)))] w1_1 fun (r : SV) (w1 : World) =>
                                        ∃ (b_1 : Bool),
                                          r = SV.bool b_1 ∧
                                            Keeps [b] w1_1 w1 ∧
                                              Br (!b_1) (R (SV.tuple [SV.slice { ptr := none, len := 0, cap := 0 }, SV.int IntKind.i64 97]) w1)
                                                (Br (decide (wr IntKind.i64 ((↑s.2 : Int) + wr IntKind.i64 (2 + (↑s_1.2 : Int))) > 40))
                                                  (R (SV.tuple [SV.slice { ptr := none, len := 0, cap := 0 }, SV.int IntKind.i64 97]) w1)
                                                  (some (SV.box b 60 (SV.struct [SV.int IntKind.i64 n_1, SV.slice s_1])) =
                                                      some (SV.box b 60 (SV.struct [SV.int IntKind.i64 n_1, SV.slice s_1])) ∧
                                                    J w1)))))))
              (∃ (I : Sl → World → Prop),
                ∃ (M : Sl → World → Nat),
                  I s w1 ∧
                    ∀ (s : Sl) (w1 : World),
                      I s w1 →
                        Br (decide (Int.tmod (↑s.2 : Int) 4 > 0))
                          (∀ (b : Nat) (w1_1 : World),
                            Upd [] [b] w1 w1_1 →
                              (World.heap w1_1)[b]? = some (Obj.cells { toList := SV.cells (SV.struct [SV.int IntKind.u8 0]) } 5) →
                                Vc.Append 5 1 1 s { ptr := some { block := b, off := 0 }, len := 1, cap := 1 } [] w1_1 fun (r : Sl) (w : World) => I r w ∧ M r w < M s w1)
                          (R (SV.tuple [SV.slice s, SV.int IntKind.i64 0]) w1))
theorem f39_of (l : Sl) (w : World) (R : SV → World → Prop) (h : vc39 l w R) : Ret Tryd.prog 39 [.slice l] w R :=
  have e : vc39 l w R = fnVC X Tryd.f39 a39 [.slice l] w R := by kernel_rfl
  fnVC_sound X_ok (n := a39) (e ▸ h) (by kernel_rfl) (by kernel_rfl) rfl rfl

def vc91 (l : Sl) (w : World) (R : SV → World → Prop) : Prop :=
  ∃ (I : Sl → Int → World → Prop),
    ∃ (M : Sl → Int → World → Nat),
      I { ptr := none, len := 0, cap := 0 } 0 w ∧
        ∀ (s : Sl) (n : Int) (w1 : World),
          I s n w1 →
            Br (decide (n < (↑l.2 : Int)))
              (∀ (J : Sl → World → Prop),
                (∀ (s_1 : Sl) (w1_1 : World), I s_1 (wr IntKind.i64 (n + 1)) w1_1 ∧ M s_1 (wr IntKind.i64 (n + 1)) w1_1 < M s n w1 → J s_1 w1_1) →
                  Need (decide (0 ≤ n) && decide (n < (↑l.2 : Int)) && Option.isSome l.1)
                    (∃ (s_1 : Sl),
                      World.cell? w1 (Addr.add (Sl.at l 2 (Int.toNat n)) 1) = some (Sl.val s_1) ∧
                        ∀ (J_1 : World → Prop),
                          (∀ (w1 : World),
                              Need (decide (0 ≤ n) && decide (n < (↑l.2 : Int)) && Option.isSome l.1)
                                  (∃ (n_1 : Int),
                                    World.cell? w1 (Sl.at l 2 (Int.toNat n)) = some (Value.int IntKind.i64 n_1) ∧
                                      ∀ (b : Nat) (w1_1 : World),
                                        Upd [] [b] w1 w1_1 →
                                          (World.heap w1_1)[b]? =
                                              some
                                                (Obj.cells
                                                  {
                                                    toList :=
                                                      SV.cells
                                                        (SV.struct [SV.int IntKind.u8 (wr IntKind.u8 n_1), SV.int IntKind.u8 (wr IntKind.u8 (wr IntKind.i64 ((↑s_1.2 : Int) + 2)))]) }
                                                  5) →
                                            Vc.Append 5 1 1 s { ptr := some { block := b, off := 0 }, len := 2, cap := 2 } [] w1_1 fun (r : Sl) (w : World) =>
                                              Need (decide (0 ≤ n) && decide (n < (↑l.2 : Int)) && Option.isSome l.1)
                                                (∃ (s : Sl),
                                                  World.cell? w (Addr.add (Sl.at l 2 (Int.toNat n)) 1) = some (Sl.val s) ∧
                                                    Vc.Append 5 1 1 r s [] w fun (r : Sl) (w : World) => J r w)) →
                                J_1 w1) →
                            Need (decide (0 ≤ n) && decide (n < (↑l.2 : Int)) && Option.isSome l.1)
                              (∃ (n_1 : Int),
                                World.cell? w1 (Sl.at l 2 (Int.toNat n)) = some (Value.int IntKind.i64 n_1) ∧
                                  Br (decide (n_1 < 2)) (R (SV.tuple [SV.slice { ptr := none, len := 0, cap := 0 }, SV.int IntKind.i64 65]) w1)
                                    (Need (decide (0 ≤ n) && decide (n < (↑l.2 : Int)) && Option.isSome l.1)
                                      (∃ (n_2 : Int),
                                        World.cell? w1 (Sl.at l 2 (Int.toNat n)) = some (Value.int IntKind.i64 n_2) ∧
                                          Br (decide (n_2 > 255)) (R (SV.tuple [SV.slice { ptr := none, len := 0, cap := 0 }, SV.int IntKind.i64 65]) w1)
                                            (Br (decide ((↑s_1.2 : Int) > 38)) (R (SV.tuple [SV.slice { ptr := none, len := 0, cap := 0 }, SV.int IntKind.i64 65]) w1) (J_1 w1)))))))
              (∃ (I : Sl → World → Prop),
                ∃ (M : Sl → World → Nat),
                  I s w1 ∧
                    ∀ (s : Sl) (w1 : World),
                      I s w1 →
                        Br (Int.tmod (↑s.2 : Int) 4 != 0)
                          (∀ (b : Nat) (w1_1 : World),
                            Upd [] [b] w1 w1_1 →
                              (World.heap w1_1)[b]? = some (Obj.cells { toList := SV.cells (SV.struct [SV.int IntKind.u8 0]) } 5) →
                                Vc.Append 5 1 1 s { ptr := some { block := b, off := 0 }, len := 1, cap := 1 } [] w1_1 fun (r : Sl) (w : World) => I r w ∧ M r w < M s w1)
                          (Br (decide ((↑s.2 : Int) > 40)) (R (SV.tuple [SV.slice { ptr := none, len := 0, cap := 0 }, SV.int IntKind.i64 65]) w1)
                            (R (SV.tuple [SV.slice s, SV.int IntKind.i64 0]) w1)))
theorem f91_of (l : Sl) (w : World) (R : SV → World → Prop) (h : vc91 l w R) : Ret Tryd.prog 91 [.slice l] w R :=
  have e : vc91 l w R = fnVC X Tryd.f91 a91 [.slice l] w R := by kernel_rfl
  fnVC_sound X_ok (n := a91) (e ▸ h) (by kernel_rfl) (by kernel_rfl) rfl rfl

def vc56 (l : Sl) (w : World) (R : SV → World → Prop) : Prop :=
  ∃ (I : Int → World → Prop),
    ∃ (M : Int → World → Nat),
      I 0 w ∧
        ∀ (n : Int) (w1 : World),
          I n w1 →
            Br (decide (n < (↑l.2 : Int)))
              (Need (decide (0 ≤ n) && decide (n < (↑l.2 : Int)) && Option.isSome l.1)
                (∃ (n_1 : Int),
                  World.cell? w1 (Sl.at l 2 (Int.toNat n)) = some (Value.int IntKind.i64 n_1) ∧
                    Need (decide (0 ≤ n) && decide (n < (↑l.2 : Int)) && Option.isSome l.1)
                      (∃ (s : Sl),
                        World.cell? w1 (Addr.add (Sl.at l 2 (Int.toNat n)) 1) = some (Sl.val s) ∧
                          ∀ (w1_1 : World),
                            Upd [] [] w1 w1_1 →
                              Ret Tryd.prog 86 [SV.int IntKind.i64 n_1, SV.int IntKind.i64 (wr IntKind.i64 ((↑s.2 : Int) + 2))] w1_1 fun (r : SV) (w1_2 : World) =>
                                ∃ (b : Bool),
                                  r = SV.bool b ∧
                                    Br (!b) (R (SV.tuple [SV.slice { ptr := none, len := 0, cap := 0 }, SV.int IntKind.i64 97]) w1_2)
                                      (I (wr IntKind.i64 (n + 1)) w1_2 ∧ M (wr IntKind.i64 (n + 1)) w1_2 < M n w1))))
              (Ret Tryd.prog 91 [SV.slice l] w1 fun (r : SV) (w1 : World) =>
                ∃ (s : Sl),
                  ∃ (n : Int),
                    r = SV.tuple [SV.slice s, SV.int IntKind.i64 n] ∧
                      Br (n != 0) (R (SV.tuple [SV.slice { ptr := none, len := 0, cap := 0 }, SV.int IntKind.i64 97]) w1) (R (SV.tuple [SV.slice s, SV.int IntKind.i64 0]) w1))
theorem f56_of (l : Sl) (w : World) (R : SV → World → Prop) (h : vc56 l w R) : Ret Tryd.prog 56 [.slice l] w R :=
  have e : vc56 l w R = fnVC X Tryd.f56 a56 [.slice l] w R := by kernel_rfl
  fnVC_sound X_ok (n := a56) (e ▸ h) (by kernel_rfl) (by kernel_rfl) rfl rfl

def vc33 (b : Sl) (w : World) (R : SV → World → Prop) : Prop :=
  Br (decide ((↑b.2 : Int) > 40)) (R (SV.tuple [SV.slice { ptr := none, len := 0, cap := 0 }, SV.int IntKind.i64 97]) w)
    (∀ (J : Sl → World → Prop),
      (∀ (s : Sl) (w1 : World), R (SV.tuple [SV.slice s, SV.int IntKind.i64 0]) w1 → J s w1) →
        ∃ (I : Sl → Int → World → Prop),
          ∃ (M : Sl → Int → World → Nat),
            I { ptr := none, len := 0, cap := 0 } 0 w ∧
              ∀ (s : Sl) (n : Int) (w1 : World),
                I s n w1 →
                  Br (decide (n < (↑b.2 : Int)))
                    (Need (decide (0 ≤ n) && decide (n < (↑b.2 : Int)) && Option.isSome b.1)
                      (∃ (n_1 : Int),
                        World.cell? w1 (Sl.at b 1 (Int.toNat n)) = some (Value.int IntKind.u8 n_1) ∧
                          Br (wr IntKind.i64 n_1 == 0) (J s w1)
                            (Br (wr IntKind.i64 n_1 == 1) (I s (wr IntKind.i64 (n + 1)) w1 ∧ M s (wr IntKind.i64 (n + 1)) w1 < M s n w1)
                              (Br (wr IntKind.i64 (n + 1) == (↑b.2 : Int)) (R (SV.tuple [SV.slice { ptr := none, len := 0, cap := 0 }, SV.int IntKind.i64 97]) w1)
                                (Need (decide (0 ≤ wr IntKind.i64 (n + 1)) && decide (wr IntKind.i64 (n + 1) < (↑b.2 : Int)) && Option.isSome b.1)
                                  (∃ (n_2 : Int),
                                    World.cell? w1 (Sl.at b 1 (Int.toNat (wr IntKind.i64 (n + 1)))) = some (Value.int IntKind.u8 n_2) ∧
                                      ∀ (J : World → Prop),
                                        (∀ (w1_1 : World),
                                            Need
                                                (decide (0 ≤ wr IntKind.i64 (n + wr IntKind.i64 n_2)) && decide (wr IntKind.i64 (n + wr IntKind.i64 n_2) ≤ (↑b.3 : Int)) &&
                                                    (decide (0 ≤ wr IntKind.i64 (n + wr IntKind.i64 n_2)) &&
                                                      decide (wr IntKind.i64 (n + wr IntKind.i64 n_2) ≤ (↑(Int.toNat (wr IntKind.i64 (n + wr IntKind.i64 n_2))) : Int))) &&
                                                  (decide (0 ≤ wr IntKind.i64 (n + 2)) &&
                                                    decide (wr IntKind.i64 (n + 2) ≤ (↑(Int.toNat (wr IntKind.i64 (n + wr IntKind.i64 n_2))) : Int))))
                                                (∀ (b_1 : Nat) (w1_2 : World),
                                                  Upd [] [b_1] w1_1 w1_2 →
                                                    (World.heap w1_2)[b_1]? =
                                                        some
                                                          (Obj.cells
                                                            {
                                                              toList :=
                                                                SV.cells
                                                                  (SV.struct
                                                                    [SV.struct
                                                                        [SV.int IntKind.i64 (wr IntKind.i64 n_1),
                                                                          SV.slice
                                                                            (Sl.sub b 1 (Int.toNat (wr IntKind.i64 (n + 2))) (Int.toNat (wr IntKind.i64 (n + wr IntKind.i64 n_2)))
                                                                              (Int.toNat (wr IntKind.i64 (n + wr IntKind.i64 n_2))))]]) }
                                                            60) →
                                                      Vc.Append 60 2 32 s { ptr := some { block := b_1, off := 0 }, len := 1, cap := 1 } [] w1_2 fun (r : Sl) (w : World) =>
                                                        I r (wr IntKind.i64 (n + wr IntKind.i64 n_2)) w ∧ M r (wr IntKind.i64 (n + wr IntKind.i64 n_2)) w < M s n w1) →
                                              J w1_1) →
                                          Br (decide (wr IntKind.i64 n_2 < 2)) (R (SV.tuple [SV.slice { ptr := none, len := 0, cap := 0 }, SV.int IntKind.i64 97]) w1)
                                            (Br (decide (wr IntKind.i64 (n + wr IntKind.i64 n_2) > (↑b.2 : Int)))
                                              (R (SV.tuple [SV.slice { ptr := none, len := 0, cap := 0 }, SV.int IntKind.i64 97]) w1)
                                              (Ret Tryd.prog 78 [SV.int IntKind.i64 (wr IntKind.i64 n_1), SV.int IntKind.i64 (wr IntKind.i64 n_2)] w1 fun (r : SV) (w1 : World) =>
                                                ∃ (b : Bool),
                                                  r = SV.bool b ∧ Br (!b) (R (SV.tuple [SV.slice { ptr := none, len := 0, cap := 0 }, SV.int IntKind.i64 97]) w1) (J w1)))))))))
                    (J s w1))
theorem f33_of (b : Sl) (w : World) (R : SV → World → Prop) (h : vc33 b w R) : Ret Tryd.prog 33 [.slice b] w R :=
  have e : vc33 b w R = fnVC X Tryd.f33 a33 [.slice b] w R := by kernel_rfl
  fnVC_sound X_ok (n := a33) (e ▸ h) (by kernel_rfl) (by kernel_rfl) rfl rfl

def vc46 (b : Sl) (w : World) (R : SV → World → Prop) : Prop :=
  Br (decide ((↑b.2 : Int) > 40)) (R (SV.tuple [SV.slice { ptr := none, len := 0, cap := 0 }, SV.int IntKind.i64 97]) w)
    (∀ (J : Sl → World → Prop),
      (∀ (s : Sl) (w1 : World), R (SV.tuple [SV.slice s, SV.int IntKind.i64 0]) w1 → J s w1) →
        ∃ (I : Sl → Int → World → Prop),
          ∃ (M : Sl → Int → World → Nat),
            I { ptr := none, len := 0, cap := 0 } 0 w ∧
              ∀ (s : Sl) (n : Int) (w1 : World),
                I s n w1 →
                  ∀ (J_1 : World → Prop),
                    (∀ (w1_1 : World),
                        Need (decide (0 ≤ n) && decide (n < (↑b.2 : Int)) && Option.isSome b.1)
                            (∃ (n_1 : Int),
                              World.cell? w1_1 (Sl.at b 1 (Int.toNat n)) = some (Value.int IntKind.u8 n_1) ∧
                                Br (n_1 == 1) (I s (wr IntKind.i64 (n + 1)) w1_1 ∧ M s (wr IntKind.i64 (n + 1)) w1_1 < M s n w1)
                                  (Br (decide (wr IntKind.i64 (n + 1) ≥ (↑b.2 : Int))) (R (SV.tuple [SV.slice { ptr := none, len := 0, cap := 0 }, SV.int IntKind.i64 97]) w1_1)
                                    (Need (decide (0 ≤ wr IntKind.i64 (n + 1)) && decide (wr IntKind.i64 (n + 1) < (↑b.2 : Int)) && Option.isSome b.1)
                                      (∃ (n_2 : Int),
                                        World.cell? w1_1 (Sl.at b 1 (Int.toNat (wr IntKind.i64 (n + 1)))) = some (Value.int IntKind.u8 n_2) ∧
                                          Need (decide (0 ≤ n) && decide (n < (↑b.2 : Int)) && Option.isSome b.1)
                                            (∃ (n_3 : Int),
                                              World.cell? w1_1 (Sl.at b 1 (Int.toNat n)) = some (Value.int IntKind.u8 n_3) ∧
                                                Ret Tryd.prog 86 [SV.int IntKind.i64 (wr IntKind.i64 n_3), SV.int IntKind.i64 (wr IntKind.i64 n_2)] w1_1
                                                  fun (r : SV) (w1_2 : World) =>
                                                  ∃ (b_1 : Bool),
                                                    r = SV.bool b_1 ∧
                                                      ∀ (J : World → Prop),
                                                        (∀ (w1_3 : World),
                                                            Need (decide (0 ≤ n) && decide (n < (↑b.2 : Int)) && Option.isSome b.1)
                                                                (∃ (n_4 : Int),
                                                                  World.cell? w1_3 (Sl.at b 1 (Int.toNat n)) = some (Value.int IntKind.u8 n_4) ∧
                                                                    Need
                                                                      (decide (0 ≤ wr IntKind.i64 (n + wr IntKind.i64 n_2)) &&
                                                                          decide (wr IntKind.i64 (n + wr IntKind.i64 n_2) ≤ (↑b.3 : Int)) &&
                                                                        (decide (0 ≤ wr IntKind.i64 (n + 2)) &&
                                                                          decide (wr IntKind.i64 (n + 2) ≤ (↑(Int.toNat (wr IntKind.i64 (n + wr IntKind.i64 n_2))) : Int))))
                                                                      (∀ (w1_4 : World),
                                                                        Upd [] [] w1_3 w1_4 →
                                                                          Ret Tryd.prog 40
                                                                            [SV.slice
                                                                                (Sl.sub b 1 (Int.toNat (wr IntKind.i64 (n + 2))) (Int.toNat (wr IntKind.i64 (n + wr IntKind.i64 n_2)))
                                                                                  b.3)]
                                                                            w1_4 fun (r : SV) (w1_5 : World) =>
                                                                            ∃ (s_1 : Sl),
                                                                              r = SV.slice s_1 ∧
                                                                                Upd [] [] w1_3 w1_5 ∧
                                                                                  ∀ (b : Nat) (w1_6 : World),
                                                                                    Upd [] [b] w1_5 w1_6 →
                                                                                      (World.heap w1_6)[b]? =
                                                                                          some
                                                                                            (Obj.cells
                                                                                              {
                                                                                                toList :=
                                                                                                  SV.cells
                                                                                                    (SV.struct [SV.struct [SV.int IntKind.i64 (wr IntKind.i64 n_4), SV.slice s_1]]) }
                                                                                              60) →
                                                                                        Vc.Append 60 2 32 s { ptr := some { block := b, off := 0 }, len := 1, cap := 1 } [] w1_6
                                                                                          fun (r : Sl) (w : World) =>
                                                                                          I r (wr IntKind.i64 (n + wr IntKind.i64 n_2)) w ∧
                                                                                            M r (wr IntKind.i64 (n + wr IntKind.i64 n_2)) w < M s n w1)) →
                                                              J w1_3) →
                                                          Br (!b_1) (R (SV.tuple [SV.slice { ptr := none, len := 0, cap := 0 }, SV.int IntKind.i64 97]) w1_2)
                                                            (Br (decide (wr IntKind.i64 (n + wr IntKind.i64 n_2) > (↑b.2 : Int)))
                                                              (R (SV.tuple [SV.slice { ptr := none, len := 0, cap := 0 }, SV.int IntKind.i64 97]) w1_2) (J w1_2))))))) →
                          J_1 w1_1) →
                      Br (decide (n < (↑b.2 : Int)))
                        (Need (decide (0 ≤ n) && decide (n < (↑b.2 : Int)) && Option.isSome b.1)
                          (∃ (n_1 : Int), World.cell? w1 (Sl.at b 1 (Int.toNat n)) = some (Value.int IntKind.u8 n_1) ∧ Br (n_1 != 0) (J_1 w1) (J s w1)))
                        (J s w1))
theorem f46_of (b : Sl) (w : World) (R : SV → World → Prop) (h : vc46 b w R) : Ret Tryd.prog 46 [.slice b] w R :=
  have e : vc46 b w R = fnVC X Tryd.f46 a46 [.slice b] w R := by kernel_rfl
  fnVC_sound X_ok (n := a46) (e ▸ h) (by kernel_rfl) (by kernel_rfl) rfl rfl

end Go.Vc.S9
end

section
namespace Go.Vc
set_option linter.unusedVariables false
set_option linter.unusedSimpArgs false
set_option autoImplicit false

/-! ### bits of bytes -/
theorem par2 (y : Int) (n : Nat) : y % 2 ^ (n + 1) = y / 2 % 2 ^ n * 2 + y % 2 := by
  have hp : (2 : Int) ^ (n + 1) = 2 * 2 ^ n := by rw [Int.pow_succ, Int.mul_comm]
  have h0 : (0 : Int) < 2 ^ n := Int.pow_pos (by decide)
  have e1 : y = y / 2 * 2 + y % 2 := by omega
  have e2 : y / 2 = 2 ^ n * (y / 2 / 2 ^ n) + y / 2 % 2 ^ n := by have := Int.mul_ediv_add_emod (y / 2) (2 ^ n); omega
  have h1 := Int.emod_nonneg (y / 2) (Int.ne_of_gt h0)
  have h2 := Int.emod_lt_of_pos (y / 2) h0
  have e3 : y = 2 ^ (n + 1) * (y / 2 / 2 ^ n) + (y / 2 % 2 ^ n * 2 + y % 2) := by
    rw [hp, Int.mul_assoc]
    have : 2 * (2 ^ n * (y / 2 / 2 ^ n)) = 2 * (y / 2) - 2 * (y / 2 % 2 ^ n) := by omega
    omega
  have h3 : 0 ≤ y / 2 % 2 ^ n * 2 + y % 2 ∧ y / 2 % 2 ^ n * 2 + y % 2 < 2 ^ (n + 1) := by omega
  calc y % 2 ^ (n + 1) = (2 ^ (n + 1) * (y / 2 / 2 ^ n) + (y / 2 % 2 ^ n * 2 + y % 2)) % 2 ^ (n + 1) := by rw [← e3]
    _ = (y / 2 % 2 ^ n * 2 + y % 2) % 2 ^ (n + 1) := by rw [Int.add_comm, Int.add_mul_emod_self_left]
    _ = _ := Int.emod_eq_of_lt h3.1 h3.2

def bitAt (l : List Int) (j : Nat) : Int := bt l ((j / 8 : Nat) : Int) / 2 ^ (7 - j % 8) % 2
/-- n bits from o on, as a number -/
def bitsN (l : List Int) (o : Nat) : Nat → Int
  | 0 => 0
  | n + 1 => bitsN l o n * 2 + bitAt l (o + n)
theorem bitAt_r (l : List Int) (j : Nat) : 0 ≤ bitAt l j ∧ bitAt l j ≤ 1 := by unfold bitAt; omega
theorem bitsN_r (l : List Int) (o : Nat) : ∀ n, 0 ≤ bitsN l o n ∧ bitsN l o n < 2 ^ n
  | 0 => by simp [bitsN]
  | n + 1 => by
    have := bitsN_r l o n
    have := bitAt_r l (o + n)
    rw [Int.pow_succ]
    unfold bitsN
    omega
theorem bitsN_add (l : List Int) (o n : Nat) : ∀ m, bitsN l o (n + m) = bitsN l o n * 2 ^ m + bitsN l (o + n) m
  | 0 => by simp [bitsN]
  | m + 1 => by
    rw [← Nat.add_assoc, bitsN, bitsN_add l o n m, bitsN, Int.pow_succ, Nat.add_assoc, Int.add_mul, Int.mul_assoc]
    omega
/-- bits within one byte -/
theorem bitsN_in (l : List Int) (o q r : Nat) (ho : o = 8 * q + r) : ∀ n, r + n ≤ 8 → bitsN l o n = bt l (q : Int) / 2 ^ (8 - r - n) % 2 ^ n
  | 0, _ => by simp only [bitsN]; omega
  | n + 1, h => by
    subst ho
    have ih := bitsN_in l _ q r rfl n (by omega)
    have e1 : (8 * q + r + n) / 8 = q := by omega
    have e2 : 7 - (8 * q + r + n) % 8 = 8 - r - (n + 1) := by omega
    rw [bitsN, ih, bitAt, e1, e2, par2]
    have e3 : bt l (q : Int) / 2 ^ (8 - r - (n + 1)) / 2 = bt l (q : Int) / 2 ^ (8 - r - n) := by
      rw [show 8 - r - n = (8 - r - (n + 1)) + 1 by omega, Int.pow_succ]
      rw [Int.ediv_ediv_of_nonneg (by exact Int.le_of_lt (Int.pow_pos (by decide)))]
    rw [e3]
theorem bitsN_byte {l : List Int} (hb : Byt l) (q : Nat) : bitsN l (8 * q) 8 = bt l (q : Int) := by
  have := bitsN_in l (8 * q) q 0 (by omega) 8 (by omega)
  have := hb.bt (q : Int)
  simp at *
  omega
theorem bitsN_two {l : List Int} (hb : Byt l) (q : Nat) : bitsN l (8 * q) 16 = bt l (q : Int) * 256 + bt l ((q + 1 : Nat) : Int) := by
  have := bitsN_add l (8 * q) 8 8
  rw [bitsN_byte hb, show 8 * q + 8 = 8 * (q + 1) by omega, bitsN_byte hb] at this
  simpa using this
theorem bitsN_four {l : List Int} (hb : Byt l) (q : Nat) : bitsN l (8 * q) 32 = ((bt l (q : Int) * 256 + bt l ((q + 1 : Nat) : Int)) * 256 + bt l ((q + 2 : Nat) : Int)) * 256 + bt l ((q + 3 : Nat) : Int) := by
  have := bitsN_add l (8 * q) 16 16
  rw [bitsN_two hb, show 8 * q + 16 = 8 * (q + 2) by omega, bitsN_two hb] at this
  have e : ((q + 2 + 1 : Nat) : Int) = ((q + 3 : Nat) : Int) := rfl
  rw [show (2 : Int) ^ 16 = 65536 from rfl] at this
  show bitsN l (8 * q) (16 + 16) = _
  rw [this, e]
  omega

/-- the widths' sum -/
def wsum : List Int → Nat
  | [] => 0
  | w :: r => w.toNat + wsum r
theorem wsum_app : ∀ (a b : List Int), wsum (a ++ b) = wsum a + wsum b
  | [], b => by simp [wsum]
  | x :: a, b => by simp [wsum, wsum_app a b]; omega
theorem wsum_take_succ {l : List Int} {k : Nat} (h : k < l.length) : wsum (l.take (k + 1)) = wsum (l.take k) + (l[k]).toNat := by
  rw [take_snoc h, wsum_app]; simp [wsum]
theorem wsum_take_le (l : List Int) (k : Nat) : wsum (l.take k) ≤ wsum l := by
  have := congrArg wsum (List.take_append_drop k l)
  rw [wsum_app] at this
  omega
/-- the fields of these widths from bit o on -/
def fieldsOf (l : List Int) : Nat → List Int → List Int
  | _, [] => []
  | o, w :: r => bitsN l o w.toNat :: fieldsOf l (o + w.toNat) r
theorem fieldsOf_len (l : List Int) : ∀ (o : Nat) (ws : List Int), (fieldsOf l o ws).length = ws.length
  | _, [] => rfl
  | o, w :: r => by simp [fieldsOf, fieldsOf_len l _ r]
theorem fieldsOf_app (l : List Int) : ∀ (a b : List Int) (o : Nat), fieldsOf l o (a ++ b) = fieldsOf l o a ++ fieldsOf l (o + wsum a) b
  | [], b, o => by simp [fieldsOf, wsum]
  | x :: a, b, o => by simp [fieldsOf, wsum, fieldsOf_app l a b, Nat.add_assoc]
theorem fieldsOf_snoc (l : List Int) {ws : List Int} {k : Nat} (h : k < ws.length) : fieldsOf l 0 (ws.take (k + 1)) = fieldsOf l 0 (ws.take k) ++ [bitsN l (wsum (ws.take k)) (ws[k]).toNat] := by
  rw [take_snoc h, fieldsOf_app]; simp [fieldsOf]

/-! ### fields put together -/
/-- bit j of the fields that are written -/
def strm : List Int → List Int → Nat → Int
  | w :: ws, v :: vs, j => if j < w.toNat then v / 2 ^ (w.toNat - 1 - j) % 2 else strm ws vs (j - w.toNat)
  | _, _, _ => 0
theorem strm_r : ∀ (ws vs : List Int) (j : Nat), 0 ≤ strm ws vs j ∧ strm ws vs j ≤ 1
  | [], _, _ => by simp [strm]
  | _ :: _, [], _ => by simp [strm]
  | w :: ws, v :: vs, j => by
    unfold strm
    split
    · omega
    · exact strm_r ws vs _
theorem strm_at : ∀ (ws vs : List Int) (i m : Nat) (h : i < ws.length) (h2 : i < vs.length), m < (ws[i]).toNat → strm ws vs (wsum (ws.take i) + m) = vs[i] / 2 ^ ((ws[i]).toNat - 1 - m) % 2
  | w :: ws, v :: vs, 0, m, _, _, hm => by
    simp at hm
    simp [strm, wsum]
    intro h; omega
  | w :: ws, v :: vs, i + 1, m, h, h2, hm => by
    have := strm_at ws vs i m (by simpa using h) (by simpa using h2) (by simpa using hm)
    simp only [List.take_succ_cons, wsum, strm]
    rw [if_neg (by omega), show w.toNat + wsum (List.take i ws) + m - w.toNat = wsum (ws.take i) + m by omega, this]
    simp
/-- byte i, of which t bits are written -/
def byteT (S : Nat → Int) (t i : Nat) : Int :=
  let g := fun k : Nat => if 8 * i + k < t then S (8 * i + k) else 0
  g 0 * 128 + g 1 * 64 + g 2 * 32 + g 3 * 16 + g 4 * 8 + g 5 * 4 + g 6 * 2 + g 7
def bytesT (S : Nat → Int) (n t : Nat) : List Int := (List.range n).map (byteT S t)
theorem bytesT_len (S : Nat → Int) (n t : Nat) : (bytesT S n t).length = n := by simp [bytesT]
theorem byteT_r {S : Nat → Int} (hS : ∀ j, 0 ≤ S j ∧ S j ≤ 1) (t i : Nat) : 0 ≤ byteT S t i ∧ byteT S t i < 256 := by
  have g : ∀ k : Nat, 0 ≤ (if 8 * i + k < t then S (8 * i + k) else 0) ∧ (if 8 * i + k < t then S (8 * i + k) else 0) ≤ 1 := fun k => by
    split
    · exact hS _
    · omega
  have := g 0; have := g 1; have := g 2; have := g 3; have := g 4; have := g 5; have := g 6; have := g 7
  simp only [byteT]
  omega
theorem bytesT_byt {S : Nat → Int} (hS : ∀ j, 0 ≤ S j ∧ S j ≤ 1) (n t : Nat) : Byt (bytesT S n t) := fun x hx => by
  obtain ⟨i, _, rfl⟩ := List.mem_map.1 hx
  exact byteT_r hS t i
theorem bytesT_zero (S : Nat → Int) (n : Nat) : bytesT S n 0 = List.replicate n 0 := by
  refine List.ext_getElem (by simp [bytesT]) fun i h1 h2 => ?_
  simp [bytesT, byteT]
/-- one more bit -/
theorem byteT_step {S : Nat → Int} (hS : ∀ j, 0 ≤ S j ∧ S j ≤ 1) (t : Nat) : byteT S (t + 1) (t / 8) = byteT S t (t / 8) + S t * 2 ^ (7 - t % 8) ∧ byteT S t (t / 8) % 2 ^ (8 - t % 8) = 0 := by
  obtain ⟨q, r, hr, rfl⟩ : ∃ q r, r < 8 ∧ t = 8 * q + r := ⟨t / 8, t % 8, by omega, by omega⟩
  have e1 : (8 * q + r) / 8 = q := by omega
  have e2 : (8 * q + r) % 8 = r := by omega
  rw [e1, e2]
  have d : ∀ a b : Nat, (8 * q + a < 8 * q + b) = (a < b) := fun a b => by apply propext; omega
  have d2 : ∀ a b : Nat, (8 * q + a < 8 * q + b + 1) = (a < b + 1) := fun a b => by apply propext; omega
  simp only [byteT, d, d2]
  rcases (by omega : r = 0 ∨ r = 1 ∨ r = 2 ∨ r = 3 ∨ r = 4 ∨ r = 5 ∨ r = 6 ∨ r = 7) with rfl | rfl | rfl | rfl | rfl | rfl | rfl | rfl <;> simp <;> omega
theorem byteT_off (S : Nat → Int) (t i : Nat) (h : i ≠ t / 8) : byteT S (t + 1) i = byteT S t i := by
  have d : ∀ k : Nat, k < 8 → ((8 * i + k < t + 1) = (8 * i + k < t)) := fun k hk => by apply propext; omega
  simp only [byteT, d 0 (by omega), d 1 (by omega), d 2 (by omega), d 3 (by omega), d 4 (by omega), d 5 (by omega), d 6 (by omega), d 7 (by omega)]
theorem bytesT_set {S : Nat → Int} (hS : ∀ j, 0 ≤ S j ∧ S j ≤ 1) (n t : Nat) : (bytesT S n t).set (t / 8) (byteT S t (t / 8) + S t * 2 ^ (7 - t % 8)) = bytesT S n (t + 1) := by
  refine List.ext_getElem (by simp [bytesT]) fun i h1 h2 => ?_
  rw [List.getElem_set]
  split
  · rename_i h
    subst h
    simp only [bytesT, List.getElem_map, List.getElem_range]
    exact (byteT_step hS t).1.symm
  · rename_i h
    simp only [bytesT, List.getElem_map, List.getElem_range]
    exact (byteT_off S t i (fun e => h e.symm)).symm
/-- the fields' bytes -/
def packB (ws vs : List Int) (n : Nat) : List Int := bytesT (strm ws vs) n (8 * n)
theorem packB_len (ws vs : List Int) (n : Nat) : (packB ws vs n).length = n := bytesT_len _ _ _
theorem packB_byt (ws vs : List Int) (n : Nat) : Byt (packB ws vs n) := bytesT_byt (strm_r ws vs) _ _
end Go.Vc
end

section
namespace Go.Vc
set_option linter.unusedVariables false
set_option linter.unusedSimpArgs false
set_option autoImplicit false

/-! ### boxes: slices of one element -/
abbrev bxS (b : Nat) : Sl := ⟨some ⟨b, 0, none⟩, 1, 1⟩
section
variable {α : Type} {c : Cod α} {w w1 : World} {b N : Nat} {x y : α}
structure Box (c : Cod α) (w : World) (b : Nat) (x : α) : Prop where
  sees : Sees c w (bxS b) [x]
  own : Own 0 c.sz w (bxS b)
theorem Box.mk' {e : Nat} {cs : List Value} (h : w.heap[b]? = some (.cells cs.toArray e (0, 0))) (hc : cs = c.enc x) : Box c w b x :=
  ⟨sees_row h [x] (by rw [hc]; simp [Cod.cells]) rfl, own_row h (Nat.zero_le _) (by rw [hc, c.len, Nat.one_mul]) (Nat.le_refl _)⟩
theorem Box.upd {m n : List Nat} (h : Box c w b x) (u : Upd m n w w1) (hm : b ∉ m) : Box c w1 b x := ⟨h.sees.upd u (by simpa [Sl.blk] using hm), h.own.upd u (by simpa [Sl.blk] using hm)⟩
theorem Box.old {n : List Nat} (h : Box c w b x) (u : Upd [] n w w1) : Box c w1 b x := h.upd u (by simp)
theorem Box.lt (h : Box c w b x) : b < w.heap.size := (h.own.blk b (by simp [Sl.blk])).2
theorem Box.at_ : (bxS b).at c.sz 0 = ⟨b, 0, none⟩ := by simp [Sl.at]
theorem Box.get (h : Box c w b x) (j : Nat) (hj : j < (c.enc x).length) : w.cell? ((⟨b, 0, none⟩ : Addr).add j) = some (c.enc x)[j] := by
  have := h.sees.elem (i := 0) (by simp) j (by simpa using hj)
  rw [Box.at_] at this
  simpa using this
theorem Box.set {bs : List Nat} {vs : List Value} {F : World → Prop} (h : Box c w b x) (hz : 0 < c.sz) (hv : vs = c.enc y) (hbs : b ∉ bs) (k : ∀ w1, Box c w1 b y → Upd [b] [] w w1 → F w1) : Store w ⟨b, 0, none⟩ vs bs F := by
  have := own_set (i := 0) (x := y) (vs := vs) (bs := bs) (F := F) h.sees h.own hz (by simp) hv (by simpa [Sl.blk] using hbs) fun w1 h1 o1 u1 => k w1 ⟨by simpa using h1, o1⟩ (by simpa [Sl.blk] using u1)
  rwa [Box.at_] at this
end
theorem Box.sl {w : World} {b : Nat} {s : Sl} (h : Box cSl w b s) : w.cell? ⟨b, 0, none⟩ = some s.val := by
  have := h.get 0 (by simp [cSl])
  rwa [add_zero] at this
theorem Box.i64 {w : World} {b : Nat} {n : Int} (h : Box cI64 w b n) : w.cell? ⟨b, 0, none⟩ = some (.int .i64 n) := by
  have := h.get 0 (by simp [cI64])
  rwa [add_zero] at this
theorem intAt {w : World} {s : Sl} {l : List Int} (h : Sees cI64 w s l) (i : Nat) (hi : i < l.length) : w.cell? (s.at 1 i) = some (.int .i64 l[i]) := by
  have := h.elem (i := i) hi 0 (by simp [cI64])
  rwa [add_zero] at this
theorem needI {X : Prop} {w : World} {s : Sl} {l : List Int} (h : Sees cI64 w s l) {i : Int} (h0 : 0 ≤ i) (h1 : i < l.length) (x : X) : Need (decide (0 ≤ i) && decide (i < (s.len : Int)) && s.ptr.isSome) X :=
  needIx h0 (by rw [h.len]; exact h1) (h.isSome (by decide) (by omega)) x
theorem row_ne {w : World} {a b e f : Nat} {x y : Array Value} {g g' : Nat × Nat} (h : w.heap[a]? = some (.cells x e g)) (k : w.heap[b]? = some (.cells y f g')) (hn : e ≠ f) : a ≠ b := by
  rintro rfl
  rw [h] at k
  injection k with k
  injection k with k1 k2 k3
  exact hn k2

/-! ### one bit more -/
theorem u64_id {n : Int} (h : 0 ≤ n) (h1 : n < 64) : wr .u64 n = n := wr_u64 h (by omega)
theorem bit_of {x : Int} {t : Nat} (hx : 0 ≤ x ∧ x < 256) : wr .i64 (iand .u8 (gshr .u8 x (wr .u64 (7 - wr .u64 (Int.tmod (t : Int) 8)))) 1) = x / 2 ^ (7 - t % 8) % 2 := by
  rw [tmod_pos (by omega), u64_id (n := (t : Int) % 8) (by omega) (by omega), u64_id (by omega) (by omega)]
  have e1 : gshr .u8 x (7 - (t : Int) % 8) = x / 2 ^ (7 - t % 8) := by
    unfold gshr
    rw [Int.fdiv_eq_ediv_of_nonneg _ (Int.le_of_lt (Int.pow_pos (by decide)))]
    congr 2
    simp only [IntKind.bits]
    omega
  have h1 : 0 ≤ x / 2 ^ (7 - t % 8) := Int.ediv_nonneg hx.1 (Int.le_of_lt (Int.pow_pos (by decide)))
  have h2 : x / 2 ^ (7 - t % 8) ≤ x := Int.ediv_le_self _ hx.1
  rw [e1, iand_u8 h1 (by omega) (by omega) (by omega)]
  have e2 : ((x / 2 ^ (7 - t % 8)).toNat &&& (1 : Int).toNat : Nat) = (x / 2 ^ (7 - t % 8)).toNat % 2 := Nat.and_one_is_mod _
  rw [e2, wr_i64 (by omega) (by omega)]
  omega
theorem bit_step {x v : Int} {t : Nat} (hx : 0 ≤ x ∧ x < 256) (hv : 0 ≤ v ∧ v < 4294967296) :
    ior .i64 (gshl .i64 v 1) (wr .i64 (iand .u8 (gshr .u8 x (wr .u64 (7 - wr .u64 (Int.tmod (t : Int) 8)))) 1)) = v * 2 + x / 2 ^ (7 - t % 8) % 2 := by
  rw [bit_of hx, gshl_i64 _ _ (by omega)]
  rw [show (2 : Int) ^ (1 : Int).toNat = 2 from rfl, wr_i64 (by omega) (by omega)]
  have : 0 ≤ x / 2 ^ (7 - t % 8) % 2 ∧ x / 2 ^ (7 - t % 8) % 2 < 2 := by omega
  rw [ior_add 1 (by omega) (by omega) (by omega) (by omega) (by omega) (by omega)]
theorem wsum_le {l : List Int} {m : Nat} (h : ∀ x ∈ l, x ≤ m) : wsum l ≤ m * l.length := by
  induction l with
  | nil => simp [wsum]
  | cons x l ih =>
    have := h x (by simp)
    have := ih fun y hy => h y (by simp [hy])
    simp only [wsum, List.length_cons, Nat.mul_add]
    omega
/-- a bit is laid in -/
theorem bit_put {x v : Int} {t : Nat} (hx : 0 ≤ x ∧ x < 256) (hd : x % 2 ^ (8 - t % 8) = 0) {m : Nat} (hm : m < 63) :
    ior .u8 x (gshl .u8 (wr .u8 (iand .i64 (gshr .i64 v (wr .u64 (m : Int))) 1)) (wr .u64 (7 - wr .u64 (Int.tmod (t : Int) 8)))) = x + v / 2 ^ m % 2 * 2 ^ (7 - t % 8) := by
  rw [tmod_pos (by omega), u64_id (n := (t : Int) % 8) (by omega) (by omega), u64_id (n := (m : Int)) (by omega) (by omega), u64_id (n := 7 - (t : Int) % 8) (by omega) (by omega), and_1]
  have e1 : gshr .i64 v (m : Int) = v / 2 ^ m := by
    rw [gshr_i64 _ _ (by omega), Int.fdiv_eq_ediv_of_nonneg _ (Int.le_of_lt (Int.pow_pos (by decide))), Int.toNat_natCast]
  rw [e1]
  have hb : 0 ≤ v / 2 ^ m % 2 ∧ v / 2 ^ m % 2 < 2 := by omega
  generalize v / 2 ^ m % 2 = y at *
  have e2 : wr .u8 y = y := by rw [wr_u8]; omega
  rw [e2]
  have e3 : gshl .u8 y (7 - (t : Int) % 8) = y * 2 ^ (7 - t % 8) := by
    unfold gshl
    have : min (7 - (t : Int) % 8).toNat (IntKind.u8).bits = 7 - t % 8 := by simp only [IntKind.bits]; omega
    rw [this]
    have hr : t % 8 < 8 := by omega
    have : 0 ≤ y * 2 ^ (7 - t % 8) ∧ y * 2 ^ (7 - t % 8) < 256 := by
      generalize t % 8 = r at hr
      rcases (by omega : r = 0 ∨ r = 1 ∨ r = 2 ∨ r = 3 ∨ r = 4 ∨ r = 5 ∨ r = 6 ∨ r = 7) with rfl | rfl | rfl | rfl | rfl | rfl | rfl | rfl <;> simp <;> omega
    have h2 := wr_u8 (y * 2 ^ (7 - t % 8))
    unfold wr at h2
    rw [h2]; omega
  rw [e3]
  have hr : t % 8 < 8 := by omega
  generalize t % 8 = r at *
  have fin : ∀ a b : Int, ∀ k : Nat, k < 8 → 0 ≤ a → a < 256 → a % 2 ^ (k + 1) = 0 → (b = 0 ∨ b = 2 ^ k) → ior .u8 a b = a + b := by
    intro a b k hk ha ha1 hm hb
    have key : ∀ a : Fin 256, ∀ k : Fin 8, a.val % 2 ^ (k.val + 1) = 0 → (a.val ||| 2 ^ k.val) = a.val + 2 ^ k.val := by decide +kernel
    have hp : (2 : Int) ^ k = ((2 ^ k : Nat) : Int) := by push_cast; rfl
    have hlt : (2 : Nat) ^ k < 256 := Nat.lt_of_lt_of_le (Nat.pow_lt_pow_right (by omega) hk) (by decide)
    rcases hb with rfl | rfl
    · rw [ior_u8 ha ha1 (by omega) (by omega)]
      simp; omega
    · rw [hp, ior_u8 ha ha1 (by omega) (by omega)]
      have := key ⟨a.toNat, by omega⟩ ⟨k, hk⟩ (by
        simp only
        have : ((a.toNat % 2 ^ (k + 1) : Nat) : Int) = 0 := by push_cast; rw [Int.toNat_of_nonneg ha]; exact hm
        omega)
      simp only at this
      rw [Int.toNat_natCast, this]
      omega
  refine fin x _ (7 - r) (by omega) hx.1 hx.2 (by rw [show 7 - r + 1 = 8 - r by omega]; exact hd) ?_
  rcases (by omega : y = 0 ∨ y = 1) with rfl | rfl
  · left; simp
  · right; simp
end Go.Vc
end
