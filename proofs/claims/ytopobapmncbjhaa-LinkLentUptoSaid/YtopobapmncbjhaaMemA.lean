import Derived.Test.YtopobapmncbjhaaVcV
import Derived.Below
namespace Go.Vc
open Go.RowKit (Below)
set_option linter.unusedVariables false
set_option linter.unusedSimpArgs false
set_option autoImplicit false

/-! ### frames -/
theorem Upd.below {m n : List Nat} {w w1 : World} (h : Upd m n w w1) (hm : ∀ b ∈ m, w.heap.size ≤ b) : Below w.heap.size w w1 :=
  ⟨h.os, h.tape, h.output, h.size, fun k hk => h.keep k hk (fun e => by have := hm k e; omega)⟩
theorem Upd.ofBelow {w w1 : World} (h : Below w.heap.size w w1) : Upd [] [] w w1 := ⟨h.os, h.tape, h.output, h.size, fun k hk _ => h.block k hk, by simp⟩
/-- nothing old is written: w is what it was, but for blocks from w0's size on -/
theorem Upd.step {m n m' n' : List Nat} {w0 w w1 : World} (h : Upd m n w0 w) (k : Upd m' n' w w1) (hm : ∀ b ∈ m', w0.heap.size ≤ b ∨ b ∈ m) : Upd m [] w0 w1 where
  os := k.os.trans h.os
  tape := k.tape.trans h.tape
  output := k.output.trans h.output
  size := Nat.le_trans h.size k.size
  keep b hb hn := by
    have h1 := h.size
    rw [k.keep b (by omega) (fun e => by rcases hm b e with h | h; omega; exact hn h), h.keep b hb hn]
  news := by simp
theorem Upd.step0 {n m' n' : List Nat} {w0 w w1 : World} (h : Upd [] n w0 w) (k : Upd m' n' w w1) (hm : ∀ b ∈ m', w0.heap.size ≤ b) : Upd [] [] w0 w1 :=
  h.step k (fun b hb => .inl (hm b hb))
theorem Upd.then {n n' : List Nat} {w0 w w1 : World} (h : Upd [] n w0 w) (k : Upd [] n' w w1) : Upd [] [] w0 w1 := h.step k (by simp)
theorem Upd.forget {m n : List Nat} {w w1 : World} (h : Upd m n w w1) : Upd m [] w w1 := h.mono (fun _ h => h) (by simp)
theorem Upd.wide {m m' n : List Nat} {w w1 : World} (h : Upd m n w w1) (hm : ∀ x ∈ m, x ∈ m') : Upd m' [] w w1 := h.mono hm (by simp)
theorem Upd.new {m n : List Nat} {w w1 : World} (h : Upd m n w w1) {b : Nat} (hb : b ∈ n) : w.heap.size ≤ b ∧ b < w1.heap.size := h.news b hb

theorem cell_of_block {w : World} {b e : Nat} {c : Array Value} {f : Nat × Nat} (h : w.heap[b]? = some (.cells c e f)) (i : Nat) : w.cell? ⟨b, i, none⟩ = c[i]? := by
  simp [World.cell?, h]
theorem frozen_of_block {w : World} {b e : Nat} {c : Array Value} (h : w.heap[b]? = some (.cells c e (0, 0))) (i : Nat) : w.frozen? ⟨b, i, none⟩ = false := by
  simp [World.frozen?, h]
theorem cell_lt {w : World} {a : Addr} {v : Value} (h : w.cell? a = some v) : a.block < w.heap.size := by
  unfold World.cell? at h
  split at h
  · rename_i hb
    exact (Array.getElem?_eq_some_iff.1 hb).1
  · cases h
theorem isSome_lt {w : World} {a : Addr} (h : (w.cell? a).isSome = true) : a.block < w.heap.size := by
  obtain ⟨v, hv⟩ := Option.isSome_iff_exists.1 h
  exact cell_lt hv
@[simp] theorem add_block (a : Addr) (n : Nat) : (a.add n).block = a.block := by unfold Addr.add; split <;> rfl
@[simp] theorem add_zero (a : Addr) : a.add 0 = a := by simp [Addr.add]
theorem add_none {b o n : Nat} : (⟨b, o, none⟩ : Addr).add n = ⟨b, o + n, none⟩ := by unfold Addr.add; split <;> simp_all
theorem spot_none {w : World} {a : Addr} (h : (w.cell? a).isSome = true) : a = ⟨a.block, a.off, none⟩ := by
  obtain ⟨v, hv⟩ := Option.isSome_iff_exists.1 h
  have := World.cell?_spot hv
  cases a; simp_all

theorem Upd.cell' {m n : List Nat} {w w1 : World} (h : Upd m n w w1) {a : Addr} (hs : (w.cell? a).isSome = true) (hm : a.block ∉ m) : w1.cell? a = w.cell? a := by
  obtain ⟨v, hv⟩ := Option.isSome_iff_exists.1 hs
  rw [hv]; exact h.cell hv hm
theorem Upd.frozen {m n : List Nat} {w w1 : World} (h : Upd m n w w1) {a : Addr} (hs : a.block < w.heap.size) (hm : a.block ∉ m) : w1.frozen? a = w.frozen? a := by
  simp only [World.frozen?, h.keep _ hs hm]

/-- cells written one behind the other -/
theorem Upd.setCells (w : World) (b o : Nat) (vs : List Value) : Upd [b] [] w (w.setCells b o vs) where
  os := (World.keptBut_setCells b (may := fun _ => True) vs o w (fun _ _ => trivial)).1
  tape := by
    have : ∀ (vs : List Value) (o : Nat) (w : World), (w.setCells b o vs).tape = w.tape := by
      intro vs
      induction vs with
      | nil => intro o w; rfl
      | cons v r ih => intro o w; rw [World.setCells, ih]; rfl
    exact this vs o w
  output := (World.keptBut_setCells b (may := fun _ => True) vs o w (fun _ _ => trivial)).2.1
  size := by
    have : ∀ (vs : List Value) (o : Nat) (w : World), (w.setCells b o vs).heap.size = w.heap.size := by
      intro vs
      induction vs with
      | nil => intro o w; rfl
      | cons v r ih => intro o w; rw [World.setCells, ih]; simp [World.setCell]
    rw [this]; exact Nat.le_refl _
  keep k hk hn := by
    have : ∀ (vs : List Value) (o : Nat) (w : World), (w.setCells b o vs).heap[k]? = w.heap[k]? := by
      intro vs
      induction vs with
      | nil => intro o w; rfl
      | cons v r ih =>
        intro o w
        rw [World.setCells, ih]
        exact Below.heap_setCell _ _ _ _ (by simp at hn; exact hn)
    exact this vs o w
  news := by simp

/-! ### what a slice holds -/
/-- how elements lie in cells -/
structure Cod (α : Type) where
  sz : Nat
  enc : α → List Value
  len : ∀ x, (enc x).length = sz
  one : ∀ x, ∀ v ∈ enc x, v.oneCell' = true

def Cod.cells {α : Type} (c : Cod α) (l : List α) : List Value := l.flatMap c.enc
@[simp] theorem Cod.cells_nil {α : Type} (c : Cod α) : c.cells [] = [] := rfl
theorem Cod.cells_cons {α : Type} (c : Cod α) (x : α) (l : List α) : c.cells (x :: l) = c.enc x ++ c.cells l := by simp [Cod.cells]
theorem Cod.cells_append {α : Type} (c : Cod α) (l m : List α) : c.cells (l ++ m) = c.cells l ++ c.cells m := by simp [Cod.cells]
theorem Cod.cells_length {α : Type} (c : Cod α) : ∀ (l : List α), (c.cells l).length = l.length * c.sz
  | [] => by simp
  | x :: l => by rw [Cod.cells_cons, List.length_append, c.len, Cod.cells_length c l, List.length_cons, Nat.add_mul]; omega
theorem Cod.cells_one {α : Type} (c : Cod α) (l : List α) : ∀ v ∈ c.cells l, v.oneCell' = true := fun v hv => by
  obtain ⟨x, _, hx⟩ := List.mem_flatMap.1 hv
  exact c.one x v hx
theorem mul_add_lt {i j n sz : Nat} (hi : i < n) (hj : j < sz) : i * sz + j < n * sz := by
  have h1 : (i + 1) * sz ≤ n * sz := Nat.mul_le_mul_right _ hi
  rw [Nat.add_mul] at h1
  omega
theorem Cod.cells_get {α : Type} (c : Cod α) : ∀ (l : List α) (i : Nat) (h : i < l.length) (j : Nat) (hj : j < (c.enc l[i]).length), (c.cells l)[i * c.sz + j]? = some (c.enc l[i])[j]
  | x :: l, 0, _, j, hj => by
    simp at hj
    rw [Cod.cells_cons]
    simp [List.getElem?_append_left, hj]
  | x :: l, i + 1, h, j, hj => by
    rw [Cod.cells_cons, List.getElem?_append_right (by rw [c.len, Nat.add_mul]; omega), c.len]
    have := Cod.cells_get c l i (by simpa using h) j (by simpa using hj)
    rw [show (i + 1) * c.sz + j - c.sz = i * c.sz + j by rw [Nat.add_mul]; omega]
    simpa using this
theorem Cod.cells_take {α : Type} (c : Cod α) (l : List α) (n : Nat) : (c.cells l).take (n * c.sz) = c.cells (l.take n) := by
  induction l generalizing n with
  | nil => simp
  | cons x l ih =>
    cases n with
    | zero => simp
    | succ n =>
      rw [Cod.cells_cons, List.take_succ_cons, Cod.cells_cons, ← ih n]
      rw [List.take_append, c.len, List.take_of_length_le (by rw [c.len, Nat.add_mul]; omega)]
      rw [show (n + 1) * c.sz - c.sz = n * c.sz by rw [Nat.add_mul]; omega]
theorem Cod.cells_drop {α : Type} (c : Cod α) (l : List α) (n : Nat) : (c.cells l).drop (n * c.sz) = c.cells (l.drop n) := by
  induction l generalizing n with
  | nil => simp
  | cons x l ih =>
    cases n with
    | zero => simp
    | succ n =>
      rw [Cod.cells_cons, List.drop_succ_cons, ← ih n, List.drop_append, c.len, List.drop_of_length_le (by rw [c.len, Nat.add_mul]; omega)]
      rw [show (n + 1) * c.sz - c.sz = n * c.sz by rw [Nat.add_mul]; omega]
      simp

/-- the cells from p on -/
def Cells (w : World) (p : Option Addr) (vs : List Value) : Prop :=
  match p with
  | none => vs = []
  | some a => ∀ i (h : i < vs.length), w.cell? (a.add i) = some vs[i]

def Sl.blk (s : Sl) : List Nat := match s.ptr with | none => [] | some a => [a.block]
theorem blk_some {s : Sl} {a : Addr} (h : s.ptr = some a) : s.blk = [a.block] := by simp [Sl.blk, h]
theorem blk_none {s : Sl} (h : s.ptr = none) : s.blk = [] := by simp [Sl.blk, h]

structure Sees {α : Type} (c : Cod α) (w : World) (s : Sl) (l : List α) : Prop where
  len : s.len = l.length
  row : Cells w s.ptr (c.cells l)

theorem Cells.upd {m n : List Nat} {w w1 : World} {p : Option Addr} {vs : List Value} (h : Cells w p vs) (u : Upd m n w w1) (hm : ∀ a, p = some a → vs ≠ [] → a.block ∉ m) : Cells w1 p vs := by
  cases p with
  | none => exact h
  | some a =>
    intro i hi
    exact u.cell (h i hi) (by simpa using hm a rfl (by intro e; rw [e] at hi; cases hi))
theorem Cells.app {w : World} {a : Addr} {x y : List Value} (h : Cells w (some a) (x ++ y)) : Cells w (some a) x ∧ Cells w (some (a.add x.length)) y := by
  refine ⟨fun i hi => ?_, fun i hi => ?_⟩
  · have := h i (by simp; omega)
    rwa [List.getElem_append_left hi] at this
  · have := h (x.length + i) (by simp; omega)
    rw [List.getElem_append_right (by omega)] at this
    rw [add_add]
    simpa using this
theorem Cells.mk {w : World} {a : Addr} {x y : List Value} (h : Cells w (some a) x) (k : Cells w (some (a.add x.length)) y) : Cells w (some a) (x ++ y) := by
  intro i hi
  by_cases hx : i < x.length
  · rw [List.getElem_append_left hx]; exact h i hx
  · rw [List.getElem_append_right (by omega)]
    have := k (i - x.length) (by simp at hi; omega)
    rw [add_add, show x.length + (i - x.length) = i by omega] at this
    exact this

section
variable {α : Type} {c : Cod α} {w w1 : World} {s : Sl} {l : List α}

theorem Sees.upd {m n : List Nat} (h : Sees c w s l) (u : Upd m n w w1) (hm : ∀ b ∈ s.blk, b ∉ m) : Sees c w1 s l :=
  ⟨h.len, h.row.upd u (fun a ha _ => hm _ (by simp [blk_some ha]))⟩
theorem Sees.old {n : List Nat} (h : Sees c w s l) (u : Upd [] n w w1) : Sees c w1 s l := h.upd u (by simp)

theorem Sees.nil (c : Cod α) (w : World) (p : Option Addr) (cap : Nat) : Sees c w ⟨p, 0, cap⟩ [] := ⟨rfl, by cases p <;> simp [Cells]⟩

/-- an element's cells -/
theorem Sees.elem (h : Sees c w s l) {i : Nat} (hi : i < l.length) : Cells w (some (s.at c.sz i)) (c.enc l[i]) := by
  intro j hj
  have hrow := h.row
  have hg := c.cells_get l i hi j hj
  cases hp : s.ptr with
  | none =>
    rw [hp] at hrow
    simp only [Cells] at hrow
    rw [hrow] at hg
    simp at hg
  | some a =>
    rw [hp] at hrow
    obtain ⟨hlt, he⟩ := List.getElem?_eq_some_iff.1 hg
    have := hrow _ hlt
    rw [he] at this
    simp only [Sl.at, hp, Option.getD_some, add_add]
    exact this
theorem Sees.ptr_some (h : Sees c w s l) (hz : 0 < c.sz) (hl : 0 < l.length) : ∃ a, s.ptr = some a := by
  cases hp : s.ptr with
  | some a => exact ⟨a, rfl⟩
  | none =>
    have hrow := h.row
    rw [hp] at hrow
    simp only [Cells] at hrow
    have := c.cells_length l
    rw [hrow] at this
    have h2 : 0 < l.length * c.sz := Nat.mul_pos hl hz
    simp at this
    omega
theorem Sees.isSome (h : Sees c w s l) (hz : 0 < c.sz) (hl : 0 < l.length) : s.ptr.isSome = true := by
  obtain ⟨a, ha⟩ := h.ptr_some hz hl
  simp [ha]

/-- a slice of the slice -/
theorem Sees.sub (h : Sees c w s l) {lo hi mx : Nat} (h1 : lo ≤ hi) (h2 : hi ≤ l.length) (h3 : hi ≤ mx) : Sees c w (s.sub c.sz lo hi mx) ((l.take hi).drop lo) where
  len := by simp [Sl.sub]; omega
  row := by
    have hrow := h.row
    rw [← c.cells_drop, ← c.cells_take]
    cases hp : s.ptr with
    | none =>
      rw [hp] at hrow
      simp only [Cells] at hrow
      simp only [hrow, Sl.sub, hp]
      simp [Cells]
    | some a =>
      rw [hp] at hrow
      by_cases e : mx = lo
      · have : hi = lo := by omega
        subst this
        have e2 : ((c.cells l).take (hi * c.sz)).drop (hi * c.sz) = [] := by simp
        rw [e2]
        simp only [Sl.sub]
        split <;> simp [Cells, hp]
      · simp only [Sl.sub, if_neg e, hp, Option.map_some]
        intro i hi'
        simp at hi'
        rw [add_add]
        simp only [List.getElem_drop, List.getElem_take]
        exact hrow _ (by omega)
theorem Sees.take (h : Sees c w s l) {n : Nat} (hn : n ≤ l.length) (cap : Nat) : Sees c w ⟨s.ptr, n, cap⟩ (l.take n) where
  len := by simp; omega
  row := by
    have hrow := h.row
    rw [← c.cells_take]
    cases hp : s.ptr with
    | none => rw [hp] at hrow; simp only [Cells] at hrow; simp [hrow, Cells]
    | some a =>
      rw [hp] at hrow
      intro i hi
      simp at hi
      simp only [List.getElem_take]
      exact hrow _ (by omega)

theorem Sees.rowAt (h : Sees c w s l) : RowAt w s.ptr (s.len * c.sz) (c.cells l) := by
  have hrow := h.row
  cases hp : s.ptr with
  | none => rw [hp] at hrow; exact hrow
  | some a =>
    rw [hp] at hrow
    exact ⟨by rw [c.cells_length, h.len], hrow, c.cells_one l⟩

/-- a slice's array may be written, and it is from block N on -/
structure Own (N : Nat) (sz : Nat) (w : World) (s : Sl) : Prop where
  le : s.len ≤ s.cap
  nil : s.ptr = none → s.cap = 0
  blk : ∀ b ∈ s.blk, N ≤ b ∧ b < w.heap.size
  cell : ∀ a, s.ptr = some a → a.spot = none ∧ ∀ i, i < s.cap * sz → (w.cell? (a.add i)).isSome = true ∧ w.frozen? (a.add i) = false

theorem Own.none (N sz : Nat) (w : World) : Own N sz w ⟨none, 0, 0⟩ := ⟨Nat.le_refl _, fun _ => rfl, by simp [Sl.blk], by simp⟩
theorem Own.upd {N sz : Nat} {m n : List Nat} (h : Own N sz w s) (u : Upd m n w w1) (hm : ∀ b ∈ s.blk, b ∉ m) : Own N sz w1 s where
  le := h.le
  nil := h.nil
  blk b hb := ⟨(h.blk b hb).1, Nat.lt_of_lt_of_le (h.blk b hb).2 u.size⟩
  cell a ha := ⟨(h.cell a ha).1, fun i hi => by
    have hb := hm a.block (by simp [blk_some ha])
    have h1 := (h.cell a ha).2 i hi
    have h2 := (h.blk a.block (by simp [blk_some ha])).2
    rw [u.cell' h1.1 (by simpa using hb), u.frozen (by simpa using h2) (by simpa using hb)]
    exact h1⟩
theorem Own.old {N sz : Nat} {n : List Nat} (h : Own N sz w s) (u : Upd [] n w w1) : Own N sz w1 s := h.upd u (by simp)
theorem Own.mono {N N' sz : Nat} (h : Own N sz w s) (hN : N' ≤ N) : Own N' sz w s := ⟨h.le, h.nil, fun b hb => ⟨Nat.le_trans hN (h.blk b hb).1, (h.blk b hb).2⟩, h.cell⟩

/-- cells of a row written anew -/
theorem isSome_setCells' (b : Nat) (vs : List Value) (o : Nat) (w : World) (a : Addr) (h : (w.cell? a).isSome = true) : ((w.setCells b o vs).cell? a).isSome = true := by
  have : ∀ (vs : List Value) (o : Nat) (w : World), (w.cell? a).isSome = true → ((w.setCells b o vs).cell? a).isSome = true := by
    intro vs
    induction vs with
    | nil => intro o w h; exact h
    | cons v r ih =>
      intro o w h
      rw [World.setCells]
      refine ih _ _ ?_
      by_cases e : (⟨b, o, Option.none⟩ : Addr) = a
      · obtain ⟨u, hu⟩ := Option.isSome_iff_exists.1 h
        rw [← e] at hu ⊢
        rw [World.cell?_setCell_same _ _ _ hu]; rfl
      · rw [World.cell?_setCell_other _ _ _ _ e]; exact h
  exact this vs o w h

theorem Cells.setCells {a : Addr} {x y z vs : List Value} (h : Cells w (some a) (x ++ y ++ z)) (hs : a.spot = Option.none) (hl : vs.length = y.length) (hex : ∀ i, i < vs.length → (w.cell? (a.add (x.length + i))).isSome = true) :
    Cells (w.setCells a.block (a.off + x.length) vs) (some a) (x ++ vs ++ z) := by
  have ea : ∀ i, a.add i = ⟨a.block, a.off + i, Option.none⟩ := fun i => by cases a; simp at hs; subst hs; exact add_none
  intro i hi
  rw [ea]
  simp at hi
  by_cases h1 : i < x.length
  · rw [World.cell?_setCells_out _ _ _ _ _ (fun _ _ => by simp; omega)]
    have := h i (by simp; omega)
    rw [ea] at this
    rw [this, List.getElem_append_left (by simp; omega), List.getElem_append_left h1, List.getElem_append_left (by simp; omega), List.getElem_append_left h1]
  · by_cases h2 : i < x.length + vs.length
    · have := World.cell?_setCells_in a.block vs (a.off + x.length) w (fun j hj => by
        have := hex j hj
        rw [ea] at this
        rwa [show a.off + x.length + j = a.off + (x.length + j) by omega]) (i - x.length) (by omega)
      rw [show a.off + x.length + (i - x.length) = a.off + i by omega] at this
      rw [this, List.getElem_append_left (by simp; omega), List.getElem_append_right (by omega)]
    · rw [World.cell?_setCells_out _ _ _ _ _ (fun _ _ => by simp; omega)]
      have := h i (by simp; omega)
      rw [ea] at this
      rw [this, List.getElem_append_right (by simp; omega), List.getElem_append_right (by simp; omega)]
      simp [hl]
end
end Go.Vc
