import Derived.Test.YtkkdnnpnbmpifaaG4
import Derived.Test.YtkkdnnpnbmpifaaG3
section
namespace Go.Vc
set_option linter.unusedVariables false
set_option linter.unusedSimpArgs false
set_option autoImplicit false

theorem bt_app_r (a b : List Int) (i : Nat) : bt (a ++ b) ((a.length + i : Nat) : Int) = bt b (i : Int) := by
  simp only [bt, Int.toNat_natCast, List.getD_eq_getElem?_getD]
  rw [List.getElem?_append_right (by omega), Nat.add_sub_cancel_left]
theorem bt_app_l {a b : List Int} {i : Nat} (h : i < a.length) : bt (a ++ b) (i : Int) = bt a (i : Int) := by
  simp only [bt, Int.toNat_natCast, List.getD_eq_getElem?_getD]
  rw [List.getElem?_append_left h]
theorem bt_zeros {z : List Int} (hz : ∀ x ∈ z, x = 0) (i : Int) : bt z i = 0 := by
  simp only [bt, List.getD_eq_getElem?_getD]
  by_cases h : i.toNat < z.length
  · rw [List.getElem?_eq_getElem h]; exact hz _ (List.getElem_mem h)
  · rw [List.getElem?_eq_none (by omega)]; rfl

def optPs : Nat → List Opt → List (Nat × Nat)
  | _, [] => []
  | t, o :: r => (t, t + (2 + o.data.length)) :: optPs (t + (2 + o.data.length)) r
theorem opos_put {ok : Int → Int → Bool} {z : List Int} (hz : ∀ x ∈ z, x = 0) : ∀ (rest : List Opt) (pre : List Int) (f : Nat) (acc : List (Nat × Nat)), rest.length + 1 ≤ f →
    (∀ o ∈ rest, okO o ∧ ok o.kind ((2 + o.data.length : Nat) : Int) = true) → opos ok (pre ++ (rest.flatMap optB ++ z)) f pre.length acc = some (acc ++ optPs pre.length rest)
  | [], pre, f, acc, hf, _ => by
    obtain ⟨f, rfl⟩ : ∃ g, f = g + 1 := ⟨f - 1, by omega⟩
    unfold opos
    by_cases h : (pre ++ (([] : List Opt).flatMap optB ++ z)).length ≤ pre.length
    · rw [if_pos h]; simp [optPs]
    · rw [if_neg h, if_pos]
      · simp [optPs]
      · have := bt_app_r pre (([] : List Opt).flatMap optB ++ z) 0
        rw [Nat.add_zero] at this
        rw [this]
        exact bt_zeros (by simpa using hz) _
  | o :: r, pre, f, acc, hf, ho => by
    obtain ⟨f, rfl⟩ : ∃ g, f = g + 1 := ⟨f - 1, by omega⟩
    have hf' : r.length + 1 ≤ f := by simp at hf; omega
    obtain ⟨⟨h1, h2, h3⟩, hk⟩ := ho o (by simp)
    have e0 : (o :: r).flatMap optB ++ z = o.kind % 256 :: (((2 + o.data.length : Nat) : Int) % 256) :: (o.data ++ (r.flatMap optB ++ z)) := by simp [optB]
    have b0 : bt (pre ++ ((o :: r).flatMap optB ++ z)) (pre.length : Int) = o.kind := by
      have := bt_app_r pre ((o :: r).flatMap optB ++ z) 0
      rw [Nat.add_zero] at this
      rw [this, e0]
      simp [bt]
      omega
    have b1 : bt (pre ++ ((o :: r).flatMap optB ++ z)) ((pre.length + 1 : Nat) : Int) = ((2 + o.data.length : Nat) : Int) := by
      rw [bt_app_r, e0]
      simp [bt]
      omega
    have ih := opos_put hz r (pre ++ optB o) f (acc ++ [(pre.length, pre.length + (2 + o.data.length))]) hf' (fun x hx => ho x (by simp [hx]))
    have e1 : pre ++ optB o ++ (r.flatMap optB ++ z) = pre ++ ((o :: r).flatMap optB ++ z) := by simp
    have e2 : (pre ++ optB o).length = pre.length + (2 + o.data.length) := by rw [List.length_append, optB_len]
    rw [e1, e2] at ih
    have hlen : (pre ++ ((o :: r).flatMap optB ++ z)).length = pre.length + (2 + o.data.length) + (r.flatMap optB ++ z).length := by rw [← e1, List.length_append, e2]
    unfold opos
    rw [b0, b1, if_neg (by omega), if_neg (by omega), if_neg (by omega), if_neg (by omega), hk, if_neg (by simp), Int.toNat_natCast, if_neg (by omega), ih]
    simp [optPs]
theorem optAt_put (pre tail : List Int) (o : Opt) (h : okO o) : optAt (pre ++ (optB o ++ tail)) (pre.length, pre.length + (2 + o.data.length)) = o := by
  obtain ⟨h1, h2, h3⟩ := h
  have b0 : bt (pre ++ (optB o ++ tail)) (pre.length : Int) = o.kind := by
    have := bt_app_r pre (optB o ++ tail) 0
    rw [Nat.add_zero] at this
    rw [this]
    simp [optB, bt]
    omega
  have e : ((pre ++ (optB o ++ tail)).take (pre.length + (2 + o.data.length))).drop (pre.length + 2) = o.data := by
    have e1 : pre ++ (optB o ++ tail) = (pre ++ [o.kind % 256, ((2 + o.data.length : Nat) : Int) % 256]) ++ o.data ++ tail := by simp [optB]
    have e2 : pre.length + (2 + o.data.length) = ((pre ++ [o.kind % 256, ((2 + o.data.length : Nat) : Int) % 256]) ++ o.data).length := by simp; omega
    have e3 : pre.length + 2 = (pre ++ [o.kind % 256, ((2 + o.data.length : Nat) : Int) % 256]).length := by simp
    rw [e1, e2, List.take_left, e3, List.drop_left]
  unfold optAt
  rw [b0, e]
theorem optPs_map (z : List Int) : ∀ (rest : List Opt) (pre : List Int), (∀ o ∈ rest, okO o) → (optPs pre.length rest).map (optAt (pre ++ (rest.flatMap optB ++ z))) = rest
  | [], _, _ => rfl
  | o :: r, pre, h => by
    have ih := optPs_map z r (pre ++ optB o) (fun x hx => h x (by simp [hx]))
    have e1 : pre ++ optB o ++ (r.flatMap optB ++ z) = pre ++ (optB o ++ (r.flatMap optB ++ z)) := by simp
    have e2 : (pre ++ optB o).length = pre.length + (2 + o.data.length) := by rw [List.length_append, optB_len]
    rw [e1, e2] at ih
    simp only [optPs, List.map_cons, List.flatMap_cons, List.append_assoc]
    rw [optAt_put _ _ _ (h o (by simp)), ih]
theorem flat_ge (l : List Opt) : l.length ≤ (l.flatMap optB).length := by
  induction l with
  | nil => simp
  | cons o r ih => simp only [List.flatMap_cons, List.length_append, optB_len, List.length_cons]; omega
/-- what is written is read as it was -/
theorem optsP_put {ok : Int → Int → Bool} {l : List Opt} (h : putOk l) (hk : ∀ o ∈ l, ok o.kind ((2 + o.data.length : Nat) : Int) = true) : ∃ ps, optsP ok (putO l) = some ps ∧ ps.map (optAt (putO l)) = l := by
  have hl := putO_len h
  refine ⟨optPs 0 l, ?_, ?_⟩
  · unfold optsP
    rw [if_neg (by omega)]
    have := opos_put (ok := ok) (z := List.replicate ((4 - (l.flatMap optB).length % 4) % 4) 0) (fun x hx => List.eq_of_mem_replicate hx) l [] ((putO l).length + 1) [] (by
      have := flat_ge l
      have := (pad4_len (l.flatMap optB)).2.1
      unfold putO
      omega) (fun o ho => ⟨h.1 o ho, hk o ho⟩)
    simpa [putO, pad4] using this
  · have := optPs_map (List.replicate ((4 - (l.flatMap optB).length % 4) % 4) 0) l [] h.1
    simpa [putO, pad4] using this

def psLen (ps : List (Nat × Nat)) : Nat := (ps.map fun p => p.2 - p.1).sum
theorem opos_len {ok : Int → Int → Bool} {l : List Int} : ∀ (f t : Nat) (acc ps : List (Nat × Nat)), psLen acc ≤ t → t ≤ l.length → opos ok l f t acc = some ps → psLen ps ≤ l.length
  | 0, t, acc, ps, _, _, h => by simp [opos] at h
  | f + 1, t, acc, ps, ha, ht, h => by
    unfold opos at h
    split at h
    · injection h with h; subst h; omega
    split at h
    · injection h with h; subst h; omega
    split at h
    · exact opos_len f _ _ _ (by omega) (by omega) h
    split at h
    · cases h
    split at h
    · cases h
    split at h
    · cases h
    refine opos_len f _ _ _ ?_ (by omega) h
    simp [psLen] at ha ⊢
    omega
theorem flat_psLen {l : List Int} : ∀ {ps : List (Nat × Nat)}, Places l ps → ((ps.map (optAt l)).flatMap optB).length = psLen ps
  | [], _ => rfl
  | p :: ps, h => by
    have ih := flat_psLen (l := l) (ps := ps) (fun x hx => h x (by simp [hx]))
    have hp := h p (by simp)
    simp only [List.map_cons, List.flatMap_cons, List.length_append, optB_len, ih, psLen, List.sum_cons, optAt, List.length_drop, List.length_take]
    omega
/-- what is read may be written, and is no longer -/
theorem optsP_ok {ok : Int → Int → Bool} (hok : ∀ k n, ok k n = true → 2 ≤ n) {l : List Int} (hb : Byt l) {ps : List (Nat × Nat)} (h : optsP ok l = some ps) :
    putOk (ps.map (optAt l)) ∧ ((ps.map (optAt l)).flatMap optB).length ≤ l.length := by
  obtain ⟨hp, hl⟩ := optsP_places hok hb h
  unfold optsP at h
  rw [if_neg (by omega)] at h
  have h1 := opos_len _ _ _ _ (by simp [psLen]) (by omega) h
  have h2 := flat_psLen hp
  refine ⟨⟨fun o ho => ?_, by omega⟩, by omega⟩
  obtain ⟨p, hpm, rfl⟩ := List.mem_map.1 ho
  have := hp p hpm
  have := hb.bt (p.1 : Int)
  unfold okO optAt
  simp only [List.length_drop, List.length_take]
  omega
theorem putO_le {ok : Int → Int → Bool} (hok : ∀ k n, ok k n = true → 2 ≤ n) {l : List Int} (hb : Byt l) (h4 : l.length % 4 = 0) {ps : List (Nat × Nat)} (h : optsP ok l = some ps) : (putO (ps.map (optAt l))).length ≤ l.length := by
  have := (optsP_ok hok hb h).2
  have := pad4_len ((ps.map (optAt l)).flatMap optB)
  unfold putO
  omega
/-- an option's kind and length were let by -/
theorem opos_ok {ok : Int → Int → Bool} (hok : ∀ k n, ok k n = true → 2 ≤ n) {l : List Int} : ∀ (f t : Nat) (acc ps : List (Nat × Nat)), (∀ p ∈ acc, ok (bt l (p.1 : Int)) ((p.2 - p.1 : Nat) : Int) = true) → opos ok l f t acc = some ps → ∀ p ∈ ps, ok (bt l (p.1 : Int)) ((p.2 - p.1 : Nat) : Int) = true
  | 0, t, acc, ps, _, h => by simp [opos] at h
  | f + 1, t, acc, ps, ha, h => by
    unfold opos at h
    split at h
    · injection h with h; subst h; exact ha
    split at h
    · injection h with h; subst h; exact ha
    split at h
    · exact opos_ok hok f _ _ _ ha h
    split at h
    · cases h
    split at h
    · cases h
    rename_i h5
    split at h
    · cases h
    refine opos_ok hok f _ _ _ (fun p hp => ?_) h
    rcases List.mem_append.1 hp with hp | hp
    · exact ha p hp
    · rw [List.mem_singleton] at hp
      subst hp
      have h5' : ok (bt l (t : Int)) (bt l ((t + 1 : Nat) : Int)) = true := by simpa using h5
      have := hok _ _ h5'
      rw [show ((t + (bt l ((t + 1 : Nat) : Int)).toNat - t : Nat) : Int) = bt l ((t + 1 : Nat) : Int) by omega]
      exact h5'
end Go.Vc
end

section
namespace Go.Vc
set_option autoImplicit false
set_option linter.unusedVariables false

/-- a number folded -/
def fd (n : Int) : Int := if n = 0 then 0 else (n - 1) % 65535 + 1
theorem fd_range {n : Int} (h : 0 ≤ n) : 0 ≤ fd n ∧ fd n ≤ 65535 := by unfold fd; split <;> omega
theorem fd_id {n : Int} (h : 0 ≤ n) (h1 : n ≤ 65535) : fd n = n := by unfold fd; split <;> omega
theorem fd_step {n : Int} (h : 65535 < n) : fd (n % 65536 + n / 65536) = fd n := by unfold fd; split <;> split <;> omega
theorem fd_add {a b : Int} (ha : 0 ≤ a) (hb : 0 ≤ b) : fd (a + fd b) = fd (a + b) := by unfold fd; repeat' split <;> omega
theorem fd_add' {a b : Int} (ha : 0 ≤ a) (hb : 0 ≤ b) : fd (fd a + b) = fd (a + b) := by rw [Int.add_comm, fd_add hb ha, Int.add_comm]
theorem fd_eq {a b : Int} (ha : 0 ≤ a) (hb : 0 ≤ b) (h : a % 65535 = b % 65535) (hz : a = 0 ↔ b = 0) : fd a = fd b := by unfold fd; split <;> split <;> omega
theorem fd_most {a : Int} (ha : 0 ≤ a) : fd a = 65535 ↔ a ≠ 0 ∧ a % 65535 = 0 := by unfold fd; split <;> omega
theorem fd_zero {a : Int} (ha : 0 ≤ a) : fd a = 0 ↔ a = 0 := by unfold fd; split <;> omega

/-- the weighted sum of bytes; h: the first one is a word's higher half -/
def ws : Bool → List Int → Int
  | _, [] => 0
  | h, b :: r => (if h then b * 256 else b) + ws (!h) r
def par (h : Bool) (n : Nat) : Bool := if n % 2 = 0 then h else !h
theorem par_succ (h : Bool) (n : Nat) : par (!h) n = par h (n + 1) := by
  unfold par
  cases h <;> (split <;> split <;> first | rfl | omega)
theorem par_par (h : Bool) (n m : Nat) : par (par h n) m = par h (n + m) := by
  simp only [par]
  cases h <;> by_cases h1 : n % 2 = 0 <;> by_cases h2 : m % 2 = 0 <;> by_cases h3 : (n + m) % 2 = 0 <;> simp [h1, h2, h3] <;> omega
theorem ws_app : ∀ (a b : List Int) (h : Bool), ws h (a ++ b) = ws h a + ws (par h a.length) b
  | [], b, h => by simp [ws, par]
  | x :: a, b, h => by
    simp only [List.cons_append, ws, ws_app a b (!h), List.length_cons, par_succ]
    omega
theorem ws_snoc (a : List Int) (x : Int) (h : Bool) : ws h (a ++ [x]) = ws h a + (if par h a.length then x * 256 else x) := by
  rw [ws_app]; simp [ws]
theorem ws_nonneg : ∀ {l : List Int} (h : Bool), (∀ x ∈ l, 0 ≤ x ∧ x < 256) → 0 ≤ ws h l ∧ ws h l ≤ 65280 * l.length
  | [], h, _ => by simp [ws]
  | x :: l, h, hb => by
    have ih := ws_nonneg (l := l) (!h) (fun y hy => hb y (by simp [hy]))
    have hx := hb x (by simp)
    simp only [ws, List.length_cons]
    split <;> omega
theorem ws_zero : ∀ {l : List Int} (h : Bool), (∀ x ∈ l, 0 ≤ x ∧ x < 256) → (ws h l = 0 ↔ ∀ x ∈ l, x = 0)
  | [], h, _ => by simp [ws]
  | x :: l, h, hb => by
    have ih := ws_zero (l := l) (!h) (fun y hy => hb y (by simp [hy]))
    have ih2 := ws_nonneg (l := l) (!h) (fun y hy => hb y (by simp [hy]))
    have hx := hb x (by simp)
    simp only [ws, List.mem_cons, forall_eq_or_imp]
    rw [← ih]
    split <;> omega
/-- the document's sum -/
def sumOf (l : List Int) : Int := fd (ws true l)
/-- what a byte weighs -/
def wt (h : Bool) (i : Nat) (x : Int) : Int := if par h i then x * 256 else x
theorem wt_even {q : Nat} (h : q % 2 = 0) (x : Int) : wt true q x = x * 256 := by
  have : par true q = true := by unfold par; rw [if_pos h]
  unfold wt; rw [if_pos this]
theorem wt_odd {q : Nat} (h : q % 2 = 1) (x : Int) : wt true q x = x := by
  have : par true q = false := by unfold par; rw [if_neg (by omega)]; rfl
  unfold wt; rw [if_neg (by rw [this]; decide)]
theorem ws_set : ∀ (l : List Int) (i : Nat) (v : Int) (h : Bool) (hi : i < l.length), ws h (l.set i v) = ws h l - wt h i l[i] + wt h i v
  | x :: l, 0, v, h, _ => by
    simp only [List.set_cons_zero, ws, List.getElem_cons_zero, wt, par]
    cases h <;> simp <;> omega
  | x :: l, i + 1, v, h, hi => by
    have ih := ws_set l i v (!h) (by simpa using hi)
    simp only [List.set_cons_succ, ws, List.getElem_cons_succ, ih]
    simp only [wt, par_succ]
    omega
theorem xor_bit : ∀ b : Fin 256, ∀ k : Fin 8, (b.val ^^^ 2 ^ k.val = b.val + 2 ^ k.val) ∨ (b.val ^^^ 2 ^ k.val) + 2 ^ k.val = b.val := by decide +kernel
/-- no power of two below 2^16 is a multiple of 65535 -/
theorem pow_mod : ∀ k : Fin 8, (2 ^ k.val % 65535 ≠ 0) ∧ (2 ^ k.val * 256 % 65535 ≠ 0) := by decide
end Go.Vc
end

section
namespace Go.Vc
set_option linter.unusedVariables false
set_option linter.unusedSimpArgs false
set_option autoImplicit false
theorem sum_flip {l : List Int} {q k : Nat} (hb : Byt l) (hq : q < l.length) (hk : k < 8) (h : sumOf l = 65535) :
    sumOf (l.set q ((l[q].toNat ^^^ 2 ^ k : Nat) : Int)) ≠ 65535 := by
  have hx := hb _ (List.getElem_mem hq)
  have hb1 : Byt (l.set q ((l[q].toNat ^^^ 2 ^ k : Nat) : Int)) := hb.set _ ⟨by omega, by
    have : l[q].toNat ^^^ 2 ^ k < 2 ^ 8 := Nat.xor_lt_two_pow (by omega) (Nat.pow_lt_pow_right (by omega) hk)
    omega⟩
  have hw := ws_nonneg true hb
  have hw1 := ws_nonneg true hb1
  have e := ws_set l q ((l[q].toNat ^^^ 2 ^ k : Nat) : Int) true hq
  have hx2 := xor_bit ⟨l[q].toNat, by omega⟩ ⟨k, hk⟩
  have hp := pow_mod ⟨k, hk⟩
  simp only at hx2 hp
  unfold sumOf at h ⊢
  rw [fd_most hw.1] at h
  intro h2
  rw [fd_most hw1.1] at h2
  generalize hv : l[q].toNat ^^^ 2 ^ k = v at *
  generalize hy : (2 : Nat) ^ k = y at *
  unfold wt at e
  split at e <;> rcases hx2 with hx2 | hx2 <;> omega
theorem sumOf_r {l : List Int} (hb : Byt l) : 0 ≤ sumOf l ∧ sumOf l ≤ 65535 := fd_range (ws_nonneg true hb).1
/-- a number of two bytes -/
def W16 (l : List Int) (i : Nat) : Int := bt l (i : Int) * 256 + bt l ((i + 1 : Nat) : Int)
theorem W16_r {l : List Int} (h : Byt l) (i : Nat) : 0 ≤ W16 l i ∧ W16 l i ≤ 65535 := by
  have := h.bt (i : Int)
  have := h.bt ((i + 1 : Nat) : Int)
  unfold W16; omega
theorem bt_out {l : List Int} {i : Nat} (h : l.length ≤ i) : bt l (i : Int) = 0 := by
  simp only [bt, Int.toNat_natCast, List.getD_eq_getElem?_getD]
  rw [List.getElem?_eq_none h]; rfl
theorem bt_take {l : List Int} {n i : Nat} (h : i < n) : bt (l.take n) (i : Int) = bt l (i : Int) := by
  simp only [bt, Int.toNat_natCast, List.getD_eq_getElem?_getD]
  rw [List.getElem?_take_of_lt h]
theorem bt_drop (l : List Int) (n i : Nat) : bt (l.drop n) (i : Int) = bt l ((n + i : Nat) : Int) := by
  simp only [bt, Int.toNat_natCast, List.getD_eq_getElem?_getD]
  rw [List.getElem?_drop]
theorem bt_set {l : List Int} {n i : Nat} {v : Int} (h : n < l.length) : bt (l.set n v) (i : Int) = if i = n then v else bt l (i : Int) := by
  simp only [bt, Int.toNat_natCast, List.getD_eq_getElem?_getD]
  by_cases e : i = n
  · subst e; rw [if_pos rfl, List.getElem?_set_self h]; rfl
  · rw [if_neg e, List.getElem?_set_ne (by omega)]
theorem bt_ext {a b : List Int} (hl : a.length = b.length) (h : ∀ i, i < a.length → bt a (i : Int) = bt b (i : Int)) : a = b :=
  List.ext_getElem hl fun i h1 h2 => by have := h i h1; rwa [bt_nat h1, bt_nat h2] at this
end Go.Vc
end

section
open Go Go.Vc
set_option linter.unusedVariables false
set_option linter.unusedSimpArgs false
set_option autoImplicit false
namespace Go.Vc
theorem cells_each {α : Type} {c : Cod α} {w : World} : ∀ {l : List α} {a : Addr}, (∀ i (hi : i < l.length), Cells w (some (a.add (i * c.sz))) (c.enc l[i])) → Cells w (some a) (c.cells l)
  | [], a, _ => by intro i hi; simp [Cod.cells] at hi
  | x :: r, a, h => by
    rw [Cod.cells_cons]
    refine Cells.mk ?_ (cells_each fun i hi => ?_)
    · have := h 0 (by simp)
      rw [Nat.zero_mul, add_zero] at this
      exact this
    · have h1 := h (i + 1) (by simp; omega)
      rw [c.len, add_add, show c.sz + i * c.sz = (i + 1) * c.sz by rw [Nat.add_mul, Nat.one_mul, Nat.add_comm]]
      exact h1
section
open Go.ChangeShapes Go.WideShapes Go.ChangeAt Go.RowKit
variable {H : Type} {X : Tab} {w : World}
/-- a slice of structs of plain values -/
theorem dp_slice {α : Type} {c : Cod α} {P : α → Prop} {m e : Nat} {x : SV} {d : DataW H} (hsz : (X.T e).size = c.sz)
    (hE : ∀ (m : Nat) (x : SV) (d : DataW H), Deep X w m (X.T e) x d → ∃ a : α, x.cells = c.enc a ∧ P a) (h : Deep X w m (.slice e) x d) :
    ∃ (s : Sl) (l : List α), x = .slice s ∧ Sees c w s l ∧ (∀ a ∈ l, P a) ∧ s.len ≤ s.cap ∧ (d = .nil ∧ l = [] ∨ ∃ els sp, d = .slice els sp ∧ els.length = l.length) := by
  cases m with
  | zero => exact h.elim
  | succ m =>
    simp only [Deep] at h
    rcases h with ⟨rfl, rfl⟩ | ⟨a, len, cap, vs, ds, rfl, rfl, hl, hm, hv, hd, h⟩
    · exact ⟨⟨none, 0, 0⟩, [], rfl, Sees.nil _ _ _ _, by simp, Nat.le_refl _, .inl ⟨rfl, rfl⟩⟩
    · have each : ∀ i (hi : i < cap), ∃ t : α, Cells w (some (a.add (i * c.sz))) (c.enc t) ∧ P t := by
        intro i hi
        obtain ⟨h1, h2, h3⟩ := h i _ _ (List.getElem?_eq_getElem (by omega)) (List.getElem?_eq_getElem (by omega))
        obtain ⟨t, g1, g2⟩ := hE _ _ _ h3
        rw [hsz, g1] at h2
        exact ⟨t, h2, g2⟩
      let F : Fin len → α := fun i => Classical.choose (each i (by omega))
      have hF : ∀ i : Fin len, Cells w (some (a.add (i * c.sz))) (c.enc (F i)) ∧ P (F i) := fun i => Classical.choose_spec (each i (by omega))
      refine ⟨⟨some a, len, cap⟩, List.ofFn F, rfl, ⟨by simp, cells_each fun i hi => ?_⟩, fun y hy => ?_, hl, .inr ⟨_, _, rfl, by simp; omega⟩⟩
      · rw [List.getElem_ofFn]
        exact (hF ⟨i, by simpa using hi⟩).1
      · obtain ⟨i, rfl⟩ := List.mem_ofFn.1 hy
        exact (hF i).2
end
end Go.Vc
end

section
namespace Go.Vc
set_option linter.unusedVariables false
set_option linter.unusedSimpArgs false
set_option autoImplicit false

/-! ### bits of bytes -/
theorem par2 (y : Int) (n : Nat) : y % 2 ^ (n + 1) = y / 2 % 2 ^ n * 2 + y % 2 := by
  have hp : (2 : Int) ^ (n + 1) = 2 * 2 ^ n := by rw [Int.pow_succ, Int.mul_comm]
  have h0 : (0 : Int) < 2 ^ n := Int.pow_pos (by decide)
  have e1 : y = y / 2 * 2 + y % 2 := by omega
  have e2 : y / 2 = 2 ^ n * (y / 2 / 2 ^ n) + y / 2 % 2 ^ n := by have := Int.mul_ediv_add_emod (y / 2) (2 ^ n); omega
  have h1 := Int.emod_nonneg (y / 2) (Int.ne_of_gt h0)
  have h2 := Int.emod_lt_of_pos (y / 2) h0
  have e3 : y = 2 ^ (n + 1) * (y / 2 / 2 ^ n) + (y / 2 % 2 ^ n * 2 + y % 2) := by
    rw [hp, Int.mul_assoc]
    have : 2 * (2 ^ n * (y / 2 / 2 ^ n)) = 2 * (y / 2) - 2 * (y / 2 % 2 ^ n) := by omega
    omega
  have h3 : 0 ≤ y / 2 % 2 ^ n * 2 + y % 2 ∧ y / 2 % 2 ^ n * 2 + y % 2 < 2 ^ (n + 1) := by omega
  calc y % 2 ^ (n + 1) = (2 ^ (n + 1) * (y / 2 / 2 ^ n) + (y / 2 % 2 ^ n * 2 + y % 2)) % 2 ^ (n + 1) := by rw [← e3]
    _ = (y / 2 % 2 ^ n * 2 + y % 2) % 2 ^ (n + 1) := by rw [Int.add_comm, Int.add_mul_emod_self_left]
    _ = _ := Int.emod_eq_of_lt h3.1 h3.2

def bitAt (l : List Int) (j : Nat) : Int := bt l ((j / 8 : Nat) : Int) / 2 ^ (7 - j % 8) % 2
/-- n bits from o on, as a number -/
def bitsN (l : List Int) (o : Nat) : Nat → Int
  | 0 => 0
  | n + 1 => bitsN l o n * 2 + bitAt l (o + n)
theorem bitAt_r (l : List Int) (j : Nat) : 0 ≤ bitAt l j ∧ bitAt l j ≤ 1 := by unfold bitAt; omega
theorem bitsN_r (l : List Int) (o : Nat) : ∀ n, 0 ≤ bitsN l o n ∧ bitsN l o n < 2 ^ n
  | 0 => by simp [bitsN]
  | n + 1 => by
    have := bitsN_r l o n
    have := bitAt_r l (o + n)
    rw [Int.pow_succ]
    unfold bitsN
    omega
theorem bitsN_add (l : List Int) (o n : Nat) : ∀ m, bitsN l o (n + m) = bitsN l o n * 2 ^ m + bitsN l (o + n) m
  | 0 => by simp [bitsN]
  | m + 1 => by
    rw [← Nat.add_assoc, bitsN, bitsN_add l o n m, bitsN, Int.pow_succ, Nat.add_assoc, Int.add_mul, Int.mul_assoc]
    omega
/-- bits within one byte -/
theorem bitsN_in (l : List Int) (o q r : Nat) (ho : o = 8 * q + r) : ∀ n, r + n ≤ 8 → bitsN l o n = bt l (q : Int) / 2 ^ (8 - r - n) % 2 ^ n
  | 0, _ => by simp only [bitsN]; omega
  | n + 1, h => by
    subst ho
    have ih := bitsN_in l _ q r rfl n (by omega)
    have e1 : (8 * q + r + n) / 8 = q := by omega
    have e2 : 7 - (8 * q + r + n) % 8 = 8 - r - (n + 1) := by omega
    rw [bitsN, ih, bitAt, e1, e2, par2]
    have e3 : bt l (q : Int) / 2 ^ (8 - r - (n + 1)) / 2 = bt l (q : Int) / 2 ^ (8 - r - n) := by
      rw [show 8 - r - n = (8 - r - (n + 1)) + 1 by omega, Int.pow_succ]
      rw [Int.ediv_ediv_of_nonneg (by exact Int.le_of_lt (Int.pow_pos (by decide)))]
    rw [e3]
theorem bitsN_byte {l : List Int} (hb : Byt l) (q : Nat) : bitsN l (8 * q) 8 = bt l (q : Int) := by
  have := bitsN_in l (8 * q) q 0 (by omega) 8 (by omega)
  have := hb.bt (q : Int)
  simp at *
  omega
theorem bitsN_two {l : List Int} (hb : Byt l) (q : Nat) : bitsN l (8 * q) 16 = bt l (q : Int) * 256 + bt l ((q + 1 : Nat) : Int) := by
  have := bitsN_add l (8 * q) 8 8
  rw [bitsN_byte hb, show 8 * q + 8 = 8 * (q + 1) by omega, bitsN_byte hb] at this
  simpa using this
theorem bitsN_four {l : List Int} (hb : Byt l) (q : Nat) : bitsN l (8 * q) 32 = ((bt l (q : Int) * 256 + bt l ((q + 1 : Nat) : Int)) * 256 + bt l ((q + 2 : Nat) : Int)) * 256 + bt l ((q + 3 : Nat) : Int) := by
  have := bitsN_add l (8 * q) 16 16
  rw [bitsN_two hb, show 8 * q + 16 = 8 * (q + 2) by omega, bitsN_two hb] at this
  have e : ((q + 2 + 1 : Nat) : Int) = ((q + 3 : Nat) : Int) := rfl
  rw [show (2 : Int) ^ 16 = 65536 from rfl] at this
  show bitsN l (8 * q) (16 + 16) = _
  rw [this, e]
  omega

/-- the widths' sum -/
def wsum : List Int → Nat
  | [] => 0
  | w :: r => w.toNat + wsum r
theorem wsum_app : ∀ (a b : List Int), wsum (a ++ b) = wsum a + wsum b
  | [], b => by simp [wsum]
  | x :: a, b => by simp [wsum, wsum_app a b]; omega
theorem wsum_take_succ {l : List Int} {k : Nat} (h : k < l.length) : wsum (l.take (k + 1)) = wsum (l.take k) + (l[k]).toNat := by
  rw [take_snoc h, wsum_app]; simp [wsum]
theorem wsum_take_le (l : List Int) (k : Nat) : wsum (l.take k) ≤ wsum l := by
  have := congrArg wsum (List.take_append_drop k l)
  rw [wsum_app] at this
  omega
/-- the fields of these widths from bit o on -/
def fieldsOf (l : List Int) : Nat → List Int → List Int
  | _, [] => []
  | o, w :: r => bitsN l o w.toNat :: fieldsOf l (o + w.toNat) r
theorem fieldsOf_len (l : List Int) : ∀ (o : Nat) (ws : List Int), (fieldsOf l o ws).length = ws.length
  | _, [] => rfl
  | o, w :: r => by simp [fieldsOf, fieldsOf_len l _ r]
theorem fieldsOf_app (l : List Int) : ∀ (a b : List Int) (o : Nat), fieldsOf l o (a ++ b) = fieldsOf l o a ++ fieldsOf l (o + wsum a) b
  | [], b, o => by simp [fieldsOf, wsum]
  | x :: a, b, o => by simp [fieldsOf, wsum, fieldsOf_app l a b, Nat.add_assoc]
theorem fieldsOf_snoc (l : List Int) {ws : List Int} {k : Nat} (h : k < ws.length) : fieldsOf l 0 (ws.take (k + 1)) = fieldsOf l 0 (ws.take k) ++ [bitsN l (wsum (ws.take k)) (ws[k]).toNat] := by
  rw [take_snoc h, fieldsOf_app]; simp [fieldsOf]

/-! ### fields put together -/
/-- bit j of the fields that are written -/
def strm : List Int → List Int → Nat → Int
  | w :: ws, v :: vs, j => if j < w.toNat then v / 2 ^ (w.toNat - 1 - j) % 2 else strm ws vs (j - w.toNat)
  | _, _, _ => 0
theorem strm_r : ∀ (ws vs : List Int) (j : Nat), 0 ≤ strm ws vs j ∧ strm ws vs j ≤ 1
  | [], _, _ => by simp [strm]
  | _ :: _, [], _ => by simp [strm]
  | w :: ws, v :: vs, j => by
    unfold strm
    split
    · omega
    · exact strm_r ws vs _
theorem strm_at : ∀ (ws vs : List Int) (i m : Nat) (h : i < ws.length) (h2 : i < vs.length), m < (ws[i]).toNat → strm ws vs (wsum (ws.take i) + m) = vs[i] / 2 ^ ((ws[i]).toNat - 1 - m) % 2
  | w :: ws, v :: vs, 0, m, _, _, hm => by
    simp at hm
    simp [strm, wsum]
    intro h; omega
  | w :: ws, v :: vs, i + 1, m, h, h2, hm => by
    have := strm_at ws vs i m (by simpa using h) (by simpa using h2) (by simpa using hm)
    simp only [List.take_succ_cons, wsum, strm]
    rw [if_neg (by omega), show w.toNat + wsum (List.take i ws) + m - w.toNat = wsum (ws.take i) + m by omega, this]
    simp
/-- byte i, of which t bits are written -/
def byteT (S : Nat → Int) (t i : Nat) : Int :=
  let g := fun k : Nat => if 8 * i + k < t then S (8 * i + k) else 0
  g 0 * 128 + g 1 * 64 + g 2 * 32 + g 3 * 16 + g 4 * 8 + g 5 * 4 + g 6 * 2 + g 7
def bytesT (S : Nat → Int) (n t : Nat) : List Int := (List.range n).map (byteT S t)
theorem bytesT_len (S : Nat → Int) (n t : Nat) : (bytesT S n t).length = n := by simp [bytesT]
theorem byteT_r {S : Nat → Int} (hS : ∀ j, 0 ≤ S j ∧ S j ≤ 1) (t i : Nat) : 0 ≤ byteT S t i ∧ byteT S t i < 256 := by
  have g : ∀ k : Nat, 0 ≤ (if 8 * i + k < t then S (8 * i + k) else 0) ∧ (if 8 * i + k < t then S (8 * i + k) else 0) ≤ 1 := fun k => by
    split
    · exact hS _
    · omega
  have := g 0; have := g 1; have := g 2; have := g 3; have := g 4; have := g 5; have := g 6; have := g 7
  simp only [byteT]
  omega
theorem bytesT_byt {S : Nat → Int} (hS : ∀ j, 0 ≤ S j ∧ S j ≤ 1) (n t : Nat) : Byt (bytesT S n t) := fun x hx => by
  obtain ⟨i, _, rfl⟩ := List.mem_map.1 hx
  exact byteT_r hS t i
theorem bytesT_zero (S : Nat → Int) (n : Nat) : bytesT S n 0 = List.replicate n 0 := by
  refine List.ext_getElem (by simp [bytesT]) fun i h1 h2 => ?_
  simp [bytesT, byteT]
/-- one more bit -/
theorem byteT_step {S : Nat → Int} (hS : ∀ j, 0 ≤ S j ∧ S j ≤ 1) (t : Nat) : byteT S (t + 1) (t / 8) = byteT S t (t / 8) + S t * 2 ^ (7 - t % 8) ∧ byteT S t (t / 8) % 2 ^ (8 - t % 8) = 0 := by
  obtain ⟨q, r, hr, rfl⟩ : ∃ q r, r < 8 ∧ t = 8 * q + r := ⟨t / 8, t % 8, by omega, by omega⟩
  have e1 : (8 * q + r) / 8 = q := by omega
  have e2 : (8 * q + r) % 8 = r := by omega
  rw [e1, e2]
  have d : ∀ a b : Nat, (8 * q + a < 8 * q + b) = (a < b) := fun a b => by apply propext; omega
  have d2 : ∀ a b : Nat, (8 * q + a < 8 * q + b + 1) = (a < b + 1) := fun a b => by apply propext; omega
  simp only [byteT, d, d2]
  rcases (by omega : r = 0 ∨ r = 1 ∨ r = 2 ∨ r = 3 ∨ r = 4 ∨ r = 5 ∨ r = 6 ∨ r = 7) with rfl | rfl | rfl | rfl | rfl | rfl | rfl | rfl <;> simp <;> omega
theorem byteT_off (S : Nat → Int) (t i : Nat) (h : i ≠ t / 8) : byteT S (t + 1) i = byteT S t i := by
  have d : ∀ k : Nat, k < 8 → ((8 * i + k < t + 1) = (8 * i + k < t)) := fun k hk => by apply propext; omega
  simp only [byteT, d 0 (by omega), d 1 (by omega), d 2 (by omega), d 3 (by omega), d 4 (by omega), d 5 (by omega), d 6 (by omega), d 7 (by omega)]
theorem bytesT_set {S : Nat → Int} (hS : ∀ j, 0 ≤ S j ∧ S j ≤ 1) (n t : Nat) : (bytesT S n t).set (t / 8) (byteT S t (t / 8) + S t * 2 ^ (7 - t % 8)) = bytesT S n (t + 1) := by
  refine List.ext_getElem (by simp [bytesT]) fun i h1 h2 => ?_
  rw [List.getElem_set]
  split
  · rename_i h
    subst h
    simp only [bytesT, List.getElem_map, List.getElem_range]
    exact (byteT_step hS t).1.symm
  · rename_i h
    simp only [bytesT, List.getElem_map, List.getElem_range]
    exact (byteT_off S t i (fun e => h e.symm)).symm
/-- the fields' bytes -/
def packB (ws vs : List Int) (n : Nat) : List Int := bytesT (strm ws vs) n (8 * n)
theorem packB_len (ws vs : List Int) (n : Nat) : (packB ws vs n).length = n := bytesT_len _ _ _
theorem packB_byt (ws vs : List Int) (n : Nat) : Byt (packB ws vs n) := bytesT_byt (strm_r ws vs) _ _
end Go.Vc
end

section
namespace Go.Vc
set_option linter.unusedVariables false
set_option linter.unusedSimpArgs false
set_option autoImplicit false

/-! ### boxes: slices of one element -/
abbrev bxS (b : Nat) : Sl := ⟨some ⟨b, 0, none⟩, 1, 1⟩
section
variable {α : Type} {c : Cod α} {w w1 : World} {b N : Nat} {x y : α}
structure Box (c : Cod α) (w : World) (b : Nat) (x : α) : Prop where
  sees : Sees c w (bxS b) [x]
  own : Own 0 c.sz w (bxS b)
theorem Box.mk' {e : Nat} {cs : List Value} (h : w.heap[b]? = some (.cells cs.toArray e (0, 0))) (hc : cs = c.enc x) : Box c w b x :=
  ⟨sees_row h [x] (by rw [hc]; simp [Cod.cells]) rfl, own_row h (Nat.zero_le _) (by rw [hc, c.len, Nat.one_mul]) (Nat.le_refl _)⟩
theorem Box.upd {m n : List Nat} (h : Box c w b x) (u : Upd m n w w1) (hm : b ∉ m) : Box c w1 b x := ⟨h.sees.upd u (by simpa [Sl.blk] using hm), h.own.upd u (by simpa [Sl.blk] using hm)⟩
theorem Box.old {n : List Nat} (h : Box c w b x) (u : Upd [] n w w1) : Box c w1 b x := h.upd u (by simp)
theorem Box.lt (h : Box c w b x) : b < w.heap.size := (h.own.blk b (by simp [Sl.blk])).2
theorem Box.at_ : (bxS b).at c.sz 0 = ⟨b, 0, none⟩ := by simp [Sl.at]
theorem Box.get (h : Box c w b x) (j : Nat) (hj : j < (c.enc x).length) : w.cell? ((⟨b, 0, none⟩ : Addr).add j) = some (c.enc x)[j] := by
  have := h.sees.elem (i := 0) (by simp) j (by simpa using hj)
  rw [Box.at_] at this
  simpa using this
theorem Box.set {bs : List Nat} {vs : List Value} {F : World → Prop} (h : Box c w b x) (hz : 0 < c.sz) (hv : vs = c.enc y) (hbs : b ∉ bs) (k : ∀ w1, Box c w1 b y → Upd [b] [] w w1 → F w1) : Store w ⟨b, 0, none⟩ vs bs F := by
  have := own_set (i := 0) (x := y) (vs := vs) (bs := bs) (F := F) h.sees h.own hz (by simp) hv (by simpa [Sl.blk] using hbs) fun w1 h1 o1 u1 => k w1 ⟨by simpa using h1, o1⟩ (by simpa [Sl.blk] using u1)
  rwa [Box.at_] at this
end
theorem Box.sl {w : World} {b : Nat} {s : Sl} (h : Box cSl w b s) : w.cell? ⟨b, 0, none⟩ = some s.val := by
  have := h.get 0 (by simp [cSl])
  rwa [add_zero] at this
theorem Box.i64 {w : World} {b : Nat} {n : Int} (h : Box cI64 w b n) : w.cell? ⟨b, 0, none⟩ = some (.int .i64 n) := by
  have := h.get 0 (by simp [cI64])
  rwa [add_zero] at this
theorem intAt {w : World} {s : Sl} {l : List Int} (h : Sees cI64 w s l) (i : Nat) (hi : i < l.length) : w.cell? (s.at 1 i) = some (.int .i64 l[i]) := by
  have := h.elem (i := i) hi 0 (by simp [cI64])
  rwa [add_zero] at this
theorem needI {X : Prop} {w : World} {s : Sl} {l : List Int} (h : Sees cI64 w s l) {i : Int} (h0 : 0 ≤ i) (h1 : i < l.length) (x : X) : Need (decide (0 ≤ i) && decide (i < (s.len : Int)) && s.ptr.isSome) X :=
  needIx h0 (by rw [h.len]; exact h1) (h.isSome (by decide) (by omega)) x
theorem row_ne {w : World} {a b e f : Nat} {x y : Array Value} {g g' : Nat × Nat} (h : w.heap[a]? = some (.cells x e g)) (k : w.heap[b]? = some (.cells y f g')) (hn : e ≠ f) : a ≠ b := by
  rintro rfl
  rw [h] at k
  injection k with k
  injection k with k1 k2 k3
  exact hn k2

/-! ### one bit more -/
theorem u64_id {n : Int} (h : 0 ≤ n) (h1 : n < 64) : wr .u64 n = n := wr_u64 h (by omega)
theorem bit_of {x : Int} {t : Nat} (hx : 0 ≤ x ∧ x < 256) : wr .i64 (iand .u8 (gshr .u8 x (wr .u64 (7 - wr .u64 (Int.tmod (t : Int) 8)))) 1) = x / 2 ^ (7 - t % 8) % 2 := by
  rw [tmod_pos (by omega), u64_id (n := (t : Int) % 8) (by omega) (by omega), u64_id (by omega) (by omega)]
  have e1 : gshr .u8 x (7 - (t : Int) % 8) = x / 2 ^ (7 - t % 8) := by
    unfold gshr
    rw [Int.fdiv_eq_ediv_of_nonneg _ (Int.le_of_lt (Int.pow_pos (by decide)))]
    congr 2
    simp only [IntKind.bits]
    omega
  have h1 : 0 ≤ x / 2 ^ (7 - t % 8) := Int.ediv_nonneg hx.1 (Int.le_of_lt (Int.pow_pos (by decide)))
  have h2 : x / 2 ^ (7 - t % 8) ≤ x := Int.ediv_le_self _ hx.1
  rw [e1, iand_u8 h1 (by omega) (by omega) (by omega)]
  have e2 : ((x / 2 ^ (7 - t % 8)).toNat &&& (1 : Int).toNat : Nat) = (x / 2 ^ (7 - t % 8)).toNat % 2 := Nat.and_one_is_mod _
  rw [e2, wr_i64 (by omega) (by omega)]
  omega
theorem bit_step {x v : Int} {t : Nat} (hx : 0 ≤ x ∧ x < 256) (hv : 0 ≤ v ∧ v < 4294967296) :
    ior .i64 (gshl .i64 v 1) (wr .i64 (iand .u8 (gshr .u8 x (wr .u64 (7 - wr .u64 (Int.tmod (t : Int) 8)))) 1)) = v * 2 + x / 2 ^ (7 - t % 8) % 2 := by
  rw [bit_of hx, gshl_i64 _ _ (by omega)]
  rw [show (2 : Int) ^ (1 : Int).toNat = 2 from rfl, wr_i64 (by omega) (by omega)]
  have : 0 ≤ x / 2 ^ (7 - t % 8) % 2 ∧ x / 2 ^ (7 - t % 8) % 2 < 2 := by omega
  rw [ior_add 1 (by omega) (by omega) (by omega) (by omega) (by omega) (by omega)]
theorem wsum_le {l : List Int} {m : Nat} (h : ∀ x ∈ l, x ≤ m) : wsum l ≤ m * l.length := by
  induction l with
  | nil => simp [wsum]
  | cons x l ih =>
    have := h x (by simp)
    have := ih fun y hy => h y (by simp [hy])
    simp only [wsum, List.length_cons, Nat.mul_add]
    omega
/-- a bit is laid in -/
theorem bit_put {x v : Int} {t : Nat} (hx : 0 ≤ x ∧ x < 256) (hd : x % 2 ^ (8 - t % 8) = 0) {m : Nat} (hm : m < 63) :
    ior .u8 x (gshl .u8 (wr .u8 (iand .i64 (gshr .i64 v (wr .u64 (m : Int))) 1)) (wr .u64 (7 - wr .u64 (Int.tmod (t : Int) 8)))) = x + v / 2 ^ m % 2 * 2 ^ (7 - t % 8) := by
  rw [tmod_pos (by omega), u64_id (n := (t : Int) % 8) (by omega) (by omega), u64_id (n := (m : Int)) (by omega) (by omega), u64_id (n := 7 - (t : Int) % 8) (by omega) (by omega), and_1]
  have e1 : gshr .i64 v (m : Int) = v / 2 ^ m := by
    rw [gshr_i64 _ _ (by omega), Int.fdiv_eq_ediv_of_nonneg _ (Int.le_of_lt (Int.pow_pos (by decide))), Int.toNat_natCast]
  rw [e1]
  have hb : 0 ≤ v / 2 ^ m % 2 ∧ v / 2 ^ m % 2 < 2 := by omega
  generalize v / 2 ^ m % 2 = y at *
  have e2 : wr .u8 y = y := by rw [wr_u8]; omega
  rw [e2]
  have e3 : gshl .u8 y (7 - (t : Int) % 8) = y * 2 ^ (7 - t % 8) := by
    unfold gshl
    have : min (7 - (t : Int) % 8).toNat (IntKind.u8).bits = 7 - t % 8 := by simp only [IntKind.bits]; omega
    rw [this]
    have hr : t % 8 < 8 := by omega
    have : 0 ≤ y * 2 ^ (7 - t % 8) ∧ y * 2 ^ (7 - t % 8) < 256 := by
      generalize t % 8 = r at hr
      rcases (by omega : r = 0 ∨ r = 1 ∨ r = 2 ∨ r = 3 ∨ r = 4 ∨ r = 5 ∨ r = 6 ∨ r = 7) with rfl | rfl | rfl | rfl | rfl | rfl | rfl | rfl <;> simp <;> omega
    have h2 := wr_u8 (y * 2 ^ (7 - t % 8))
    unfold wr at h2
    rw [h2]; omega
  rw [e3]
  have hr : t % 8 < 8 := by omega
  generalize t % 8 = r at *
  have fin : ∀ a b : Int, ∀ k : Nat, k < 8 → 0 ≤ a → a < 256 → a % 2 ^ (k + 1) = 0 → (b = 0 ∨ b = 2 ^ k) → ior .u8 a b = a + b := by
    intro a b k hk ha ha1 hm hb
    have key : ∀ a : Fin 256, ∀ k : Fin 8, a.val % 2 ^ (k.val + 1) = 0 → (a.val ||| 2 ^ k.val) = a.val + 2 ^ k.val := by decide +kernel
    have hp : (2 : Int) ^ k = ((2 ^ k : Nat) : Int) := by push_cast; rfl
    have hlt : (2 : Nat) ^ k < 256 := Nat.lt_of_lt_of_le (Nat.pow_lt_pow_right (by omega) hk) (by decide)
    rcases hb with rfl | rfl
    · rw [ior_u8 ha ha1 (by omega) (by omega)]
      simp; omega
    · rw [hp, ior_u8 ha ha1 (by omega) (by omega)]
      have := key ⟨a.toNat, by omega⟩ ⟨k, hk⟩ (by
        simp only
        have : ((a.toNat % 2 ^ (k + 1) : Nat) : Int) = 0 := by push_cast; rw [Int.toNat_of_nonneg ha]; exact hm
        omega)
      simp only at this
      rw [Int.toNat_natCast, this]
      omega
  refine fin x _ (7 - r) (by omega) hx.1 hx.2 (by rw [show 7 - r + 1 = 8 - r by omega]; exact hd) ?_
  rcases (by omega : y = 0 ∨ y = 1) with rfl | rfl
  · left; simp
  · right; simp
end Go.Vc
end

section
namespace Go.Vc
set_option linter.unusedVariables false
set_option linter.unusedSimpArgs false
set_option autoImplicit false
/-- bytes as a string -/
def baOf (l : List Int) : ByteArray := ⟨(l.map fun x => UInt8.ofNat x.toNat).toArray⟩
theorem baOf_list (l : List Int) : (baOf l).data.toList = l.map fun x => UInt8.ofNat x.toNat := rfl
theorem strOf {w : World} {s : Sl} {l : List Int} {F : ByteArray → Prop} (h : SeesB w s l) (hb : Byt l) (k : F (baOf l)) : BytesStr w s F := by
  refine ⟨(l.map fun (x : Int) => UInt8.ofNat x.toNat), by rw [List.length_map, h.len], fun hn => ?_, fun i hi => ?_, k⟩
  · by_cases hl : 0 < l.length
    · have := h.isSome (by decide) hl
      rw [hn] at this; cases this
    · rw [List.length_eq_zero_iff.1 (show l.length = 0 by omega)]; rfl
  · rw [List.length_map] at hi
    rw [byteC h i hi, bt_nat hi, List.getElem_map]
    have := hb l[i] (List.getElem_mem hi)
    congr 2
    rw [UInt8.toNat_ofNat', Nat.mod_eq_of_lt (by omega)]
    omega
theorem baOf_back {l : List Int} (hb : Byt l) : (baOf l).data.toList.map (fun u => ((u.toNat : Nat) : Int)) = l := by
  simp only [baOf, List.map_map]
  refine (List.map_congr_left fun x hx => ?_).trans (List.map_id l)
  have := hb x hx
  simp only [Function.comp, UInt8.toNat_ofNat', id]
  rw [Nat.mod_eq_of_lt (by omega)]
  omega
theorem baOf_eq {l m : List Int} (hl : Byt l) (hm : Byt m) : (baOf l == baOf m) = decide (l = m) := by
  by_cases h : l = m
  · subst h
    rw [decide_eq_true rfl]
    show (baOf l).data == (baOf l).data
    simp
  · have eb : ∀ a b : ByteArray, (a == b) = (a.data == b.data) := fun a b => by cases a; cases b; rfl
    rw [decide_eq_false h, eb, beq_eq_false_iff_ne]
    intro e
    apply h
    rw [← baOf_back hl, ← baOf_back hm, e]
theorem alike {w : World} {a b : Sl} {la lb : List Int} {R : Bool → Prop} (ha : SeesB w a la) (hb : SeesB w b lb) (ba : Byt la) (bb : Byt lb) (k : R (decide (la = lb))) :
    BytesStr w a fun x => BytesStr w b fun y => R (x == y) := by
  refine strOf ha ba (strOf hb bb ?_)
  rw [baOf_eq ba bb]
  exact k
end Go.Vc
end

section
open Go Go.Vc
set_option linter.unusedVariables false
set_option linter.unusedSimpArgs false
set_option autoImplicit false
namespace Go.Vc
section
open Go.ChangeShapes Go.WideShapes Go.ChangeAt Go.RowKit
variable {H : Type} {X : Tab} {w : World}
/-- a slice's datum and its length -/
def SlLen (d : DataW H) (n : Nat) : Prop := (d = .nil ∧ n = 0) ∨ ∃ els sp, d = .slice els sp ∧ els.length = n
theorem deep_bytes' {m t e : Nat} {x : SV} {d : DataW H} (hT : X.T t = .slice e) (hE : X.T e = .int .u8) (h : Deep X w m (X.T t) x d) :
    ∃ (s : Sl) (l : List Int), x = .slice s ∧ SeesB w s l ∧ Byt l ∧ s.len ≤ s.cap ∧ SlLen d l.length := by
  obtain ⟨s, l, h1, h2, h3, h4, h5, h6⟩ := deep_bytes hT hE h
  refine ⟨s, l, h1, h2, h3, h4, ?_⟩
  rcases h6 with ⟨rfl, rfl⟩ | ⟨els, sp, rfl, h7, _⟩
  · left; exact ⟨rfl, by have := h2.len; simpa using this.symm⟩
  · right; exact ⟨els, sp, rfl, h7⟩
/-- a slice of options -/
theorem dp_opts {m t e t2 e2 : Nat} {x : SV} {d : DataW H} (hT : X.T t = .slice e) (hE : X.T e = .struct false [.int .i64, .slice e2]) (hT2 : X.T t2 = .slice e2) (hE2 : X.T e2 = .int .u8) (h : Deep X w m (X.T t) x d) :
    ∃ (s : Sl) (l : List Opt) (os : List (Int × Sl)), x = .slice s ∧ Opts w s l os ∧ (∀ o ∈ l, Byt o.data) ∧ (∀ y ∈ os, y.2.len ≤ y.2.cap) ∧ s.len ≤ s.cap ∧
      (d = .nil ∧ l = [] ∨ ∃ els sp, d = .slice els sp ∧ els.length = l.length ∧ ∀ i (hi : i < l.length), ∃ dk dd, els[i]? = some (.agg [dk, dd]) ∧ SlLen dd l[i].data.length) := by
  rw [hT] at h
  cases m with
  | zero => exact h.elim
  | succ m =>
    simp only [Deep] at h
    rcases h with ⟨rfl, rfl⟩ | ⟨a, len, cap, vs, ds, rfl, rfl, hl, hm, hv, hd, h⟩
    · exact ⟨⟨none, 0, 0⟩, [], [], rfl, Opts.nil _ _ _, by simp, by simp, Nat.le_refl _, .inl ⟨rfl, rfl⟩⟩
    · have each : ∀ i (hi : i < cap), ∃ (o : Opt) (s : Sl), Cells w (some (a.add (i * 2))) (cOpt.enc (o.kind, s)) ∧ SeesB w s o.data ∧ Byt o.data ∧ s.len ≤ s.cap ∧ ∃ dk dd, ds[i]'(by omega) = .agg [dk, dd] ∧ SlLen dd o.data.length := by
        intro i hi
        obtain ⟨h1, h2, h3⟩ := h i _ _ (List.getElem?_eq_getElem (by omega)) (List.getElem?_eq_getElem (by omega))
        rw [hE] at h3 h2
        obtain ⟨fs, l, m', e1, e2', q⟩ := dp_struct h3
        obtain ⟨x1, _, d1, _, rfl, rfl, q1, q⟩ := all3_cons q
        obtain ⟨x2, _, d2, _, rfl, rfl, q2, q⟩ := all3_cons q
        obtain ⟨rfl, rfl⟩ := all3_nil q
        obtain ⟨k, rfl, _, _⟩ := dp_int q1
        rw [← hT2] at q2
        obtain ⟨s, l, rfl, g2, g3, g4, g5⟩ := deep_bytes' hT2 hE2 q2
        refine ⟨⟨k, l⟩, s, ?_, g2, g3, g4, d1, d2, e2', g5⟩
        rw [e1] at h2
        exact h2
      let F : Fin len → Opt := fun i => Classical.choose (each i (by omega))
      have hF0 : ∀ i : Fin len, ∃ (s : Sl), Cells w (some (a.add (i * 2))) (cOpt.enc ((F i).kind, s)) ∧ SeesB w s (F i).data ∧ Byt (F i).data ∧ s.len ≤ s.cap ∧ ∃ dk dd, ds[i.val]'(by omega) = .agg [dk, dd] ∧ SlLen dd (F i).data.length := fun i => Classical.choose_spec (each i (by omega))
      let G : Fin len → Sl := fun i => Classical.choose (hF0 i)
      have hG : ∀ i : Fin len, Cells w (some (a.add (i * 2))) (cOpt.enc ((F i).kind, G i)) ∧ SeesB w (G i) (F i).data ∧ Byt (F i).data ∧ (G i).len ≤ (G i).cap ∧ ∃ dk dd, ds[i.val]'(by omega) = .agg [dk, dd] ∧ SlLen dd (F i).data.length := fun i => Classical.choose_spec (hF0 i)
      refine ⟨⟨some a, len, cap⟩, List.ofFn F, List.ofFn fun i => ((F i).kind, G i), rfl, ⟨⟨by simp, cells_each fun i hi => ?_⟩, by simp, fun i hi => by simp, fun i hi => ?_⟩, fun y hy => ?_, fun y hy => ?_, hl, .inr ⟨_, _, rfl, by simp; omega, fun i hi => ?_⟩⟩
      · rw [List.getElem_ofFn]
        exact (hG ⟨i, by simpa using hi⟩).1
      · simp only [List.getElem_ofFn]
        exact (hG ⟨i, by simpa using hi⟩).2.1
      · obtain ⟨i, rfl⟩ := List.mem_ofFn.1 hy
        exact (hG i).2.2.1
      · obtain ⟨i, rfl⟩ := List.mem_ofFn.1 hy
        exact (hG i).2.2.2.1
      · simp only [List.getElem_ofFn]
        have hi' : i < len := by simpa using hi
        obtain ⟨dk, dd, e1, e2'⟩ := (hG ⟨i, hi'⟩).2.2.2.2
        refine ⟨dk, dd, ?_, e2'⟩
        rw [List.getElem?_take_of_lt hi', List.getElem?_eq_getElem (by omega)]
        exact congrArg some e1

/-! ### what weighs little is short -/
theorem weightsAll_mem {P : Program} {e : Nat} : ∀ {ds : List (DataW H)} {i : Nat} {d : DataW H}, ds[i]? = some d → ∀ n ∈ d.weights P e, n ∈ DataW.weightsAll P e ds
  | [], _, _, h, _, _ => by simp at h
  | x :: r, 0, d, h, n, hn => by
    simp at h; subst h
    simp only [DataW.weightsAll, List.mem_append]; exact .inl hn
  | x :: r, i + 1, d, h, n, hn => by
    simp only [DataW.weightsAll, List.mem_append]
    exact .inr (weightsAll_mem (i := i) (by simpa using h) n hn)
/-- all that is reached in a datum weighs at most that -/
def Light (P : Program) (t : Nat) (d : DataW H) : Prop := ∀ n ∈ d.weights P t, n ≤ 140737488351232
theorem light_arg {P : Program} {ts : List Nat} {ds : List (DataW H)} (h : (DataW.weightsEach P ts ds).all (· ≤ reachBytes) = true) : ∀ n ∈ DataW.weightsEach P ts ds, n ≤ 140737488351232 := fun n hn => by
  have h1 := List.all_eq_true.1 h n hn
  have h2 : n ≤ reachBytes := of_decide_eq_true h1
  exact h2
theorem light_head {P : Program} {t : Nat} {ts : List Nat} {d : DataW H} {ds : List (DataW H)} (h : ∀ n ∈ DataW.weightsEach P (t :: ts) (d :: ds), n ≤ 140737488351232) : Light P t d ∧ ∀ n ∈ DataW.weightsEach P ts ds, n ≤ 140737488351232 :=
  ⟨fun n hn => h n (by simp only [DataW.weightsEach, List.mem_append]; exact .inl hn), fun n hn => h n (by simp only [DataW.weightsEach, List.mem_append]; exact .inr hn)⟩
theorem light_struct {P : Program} {t : Nat} {fs : Array Field} {ts : List Nat} {l : List (DataW H)} (hu : P.underlying t = some (.struct fs)) (ht : fs.toList.map (·.type) = ts) (h : Light P t (.agg l)) : ∀ n ∈ DataW.weightsEach P ts l, n ≤ 140737488351232 := fun n hn => by
  refine h n ?_
  simp only [DataW.weights, hu, ht]
  exact hn
theorem light_slice {P : Program} {t e b : Nat} {els sp : List (DataW H)} (hu : P.underlying t = some (.slice e)) (hb : P.bytesOf e = b) (h : Light P t (.slice els sp)) : els.length * b ≤ 140737488351232 ∧ ∀ (i : Nat) (d : DataW H), els[i]? = some d → Light P e d := by
  refine ⟨?_, fun i d hd n hn => ?_⟩
  · have := h ((els.length + sp.length) * b) (by simp only [DataW.weights, hu, hb]; simp)
    rw [Nat.add_mul] at this
    omega
  · exact h n (by simp only [DataW.weights, hu]; simp only [List.mem_cons, List.mem_append]; exact .inr (.inl (weightsAll_mem hd n hn)))
theorem light_len {P : Program} {t e : Nat} {d : DataW H} {n : Nat} (hu : P.underlying t = some (.slice e)) (hb : P.bytesOf e = 1) (h : Light P t d) (hd : SlLen d n) : n ≤ 140737488351232 := by
  rcases hd with ⟨_, rfl⟩ | ⟨els, sp, rfl, rfl⟩
  · omega
  · have := (light_slice hu hb h).1; omega
/-- options that weigh little -/
theorem light_opts {P : Program} {t e t2 e2 t1 : Nat} {fs : Array Field} {d : DataW H} {l : List Opt} (hu : P.underlying t = some (.slice e)) (hb : P.bytesOf e = 32) (hs : P.underlying e = some (.struct fs)) (hft : fs.toList.map (·.type) = [t1, t2]) (hu2 : P.underlying t2 = some (.slice e2)) (hb2 : P.bytesOf e2 = 1) (h : Light P t d)
    (hd : d = .nil ∧ l = [] ∨ ∃ els sp, d = .slice els sp ∧ els.length = l.length ∧ ∀ i (hi : i < l.length), ∃ dk dd, els[i]? = some (.agg [dk, dd]) ∧ SlLen dd l[i].data.length) :
    l.length ≤ 4398046511000 ∧ ∀ o ∈ l, o.data.length ≤ 140737488351232 := by
  rcases hd with ⟨rfl, rfl⟩ | ⟨els, sp, rfl, he, hh⟩
  · simp
  · obtain ⟨h1, h2⟩ := light_slice hu hb h
    refine ⟨by omega, fun o ho => ?_⟩
    obtain ⟨i, hi, rfl⟩ := List.getElem_of_mem ho
    obtain ⟨dk, dd, e1, e2'⟩ := hh i hi
    have h3 := light_struct hs hft (h2 _ _ e1)
    exact light_len hu2 hb2 (light_head (light_head h3).2).1 e2'
end
end Go.Vc
end
