import Derived.Test.YtlohkdkgpajkaaaDoorG2
import Derived.Below
import Derived.KernelRfl
section
namespace Go.Vc
open Go.RowKit (Below)
set_option linter.unusedVariables false
set_option linter.unusedSimpArgs false
set_option autoImplicit false

/-! ### frames -/
theorem Upd.below {m n : List Nat} {w w1 : World} (h : Upd m n w w1) (hm : ∀ b ∈ m, w.heap.size ≤ b) : Below w.heap.size w w1 :=
  ⟨h.os, h.tape, h.output, h.size, fun k hk => h.keep k hk (fun e => by have := hm k e; omega)⟩
theorem Upd.ofBelow {w w1 : World} (h : Below w.heap.size w w1) : Upd [] [] w w1 := ⟨h.os, h.tape, h.output, h.size, fun k hk _ => h.block k hk, by simp⟩
/-- nothing old is written: w is what it was, but for blocks from w0's size on -/
theorem Upd.step {m n m' n' : List Nat} {w0 w w1 : World} (h : Upd m n w0 w) (k : Upd m' n' w w1) (hm : ∀ b ∈ m', w0.heap.size ≤ b ∨ b ∈ m) : Upd m [] w0 w1 where
  os := k.os.trans h.os
  tape := k.tape.trans h.tape
  output := k.output.trans h.output
  size := Nat.le_trans h.size k.size
  keep b hb hn := by
    have h1 := h.size
    rw [k.keep b (by omega) (fun e => by rcases hm b e with h | h; omega; exact hn h), h.keep b hb hn]
  news := by simp
theorem Upd.step0 {n m' n' : List Nat} {w0 w w1 : World} (h : Upd [] n w0 w) (k : Upd m' n' w w1) (hm : ∀ b ∈ m', w0.heap.size ≤ b) : Upd [] [] w0 w1 :=
  h.step k (fun b hb => .inl (hm b hb))
theorem Upd.then {n n' : List Nat} {w0 w w1 : World} (h : Upd [] n w0 w) (k : Upd [] n' w w1) : Upd [] [] w0 w1 := h.step k (by simp)
theorem Upd.forget {m n : List Nat} {w w1 : World} (h : Upd m n w w1) : Upd m [] w w1 := h.mono (fun _ h => h) (by simp)
theorem Upd.wide {m m' n : List Nat} {w w1 : World} (h : Upd m n w w1) (hm : ∀ x ∈ m, x ∈ m') : Upd m' [] w w1 := h.mono hm (by simp)
theorem Upd.new {m n : List Nat} {w w1 : World} (h : Upd m n w w1) {b : Nat} (hb : b ∈ n) : w.heap.size ≤ b ∧ b < w1.heap.size := h.news b hb

theorem cell_of_block {w : World} {b e : Nat} {c : Array Value} {f : Nat × Nat} (h : w.heap[b]? = some (.cells c e f)) (i : Nat) : w.cell? ⟨b, i, none⟩ = c[i]? := by
  simp [World.cell?, h]
theorem frozen_of_block {w : World} {b e : Nat} {c : Array Value} (h : w.heap[b]? = some (.cells c e (0, 0))) (i : Nat) : w.frozen? ⟨b, i, none⟩ = false := by
  simp [World.frozen?, h]
theorem cell_lt {w : World} {a : Addr} {v : Value} (h : w.cell? a = some v) : a.block < w.heap.size := by
  unfold World.cell? at h
  split at h
  · rename_i hb
    exact (Array.getElem?_eq_some_iff.1 hb).1
  · cases h
theorem isSome_lt {w : World} {a : Addr} (h : (w.cell? a).isSome = true) : a.block < w.heap.size := by
  obtain ⟨v, hv⟩ := Option.isSome_iff_exists.1 h
  exact cell_lt hv
@[simp] theorem add_block (a : Addr) (n : Nat) : (a.add n).block = a.block := by unfold Addr.add; split <;> rfl
@[simp] theorem add_zero (a : Addr) : a.add 0 = a := by simp [Addr.add]
theorem add_none {b o n : Nat} : (⟨b, o, none⟩ : Addr).add n = ⟨b, o + n, none⟩ := by unfold Addr.add; split <;> simp_all
theorem spot_none {w : World} {a : Addr} (h : (w.cell? a).isSome = true) : a = ⟨a.block, a.off, none⟩ := by
  obtain ⟨v, hv⟩ := Option.isSome_iff_exists.1 h
  have := World.cell?_spot hv
  cases a; simp_all

theorem Upd.cell' {m n : List Nat} {w w1 : World} (h : Upd m n w w1) {a : Addr} (hs : (w.cell? a).isSome = true) (hm : a.block ∉ m) : w1.cell? a = w.cell? a := by
  obtain ⟨v, hv⟩ := Option.isSome_iff_exists.1 hs
  rw [hv]; exact h.cell hv hm
theorem Upd.frozen {m n : List Nat} {w w1 : World} (h : Upd m n w w1) {a : Addr} (hs : a.block < w.heap.size) (hm : a.block ∉ m) : w1.frozen? a = w.frozen? a := by
  simp only [World.frozen?, h.keep _ hs hm]

/-- cells written one behind the other -/
theorem Upd.setCells (w : World) (b o : Nat) (vs : List Value) : Upd [b] [] w (w.setCells b o vs) where
  os := (World.keptBut_setCells b (may := fun _ => True) vs o w (fun _ _ => trivial)).1
  tape := by
    have : ∀ (vs : List Value) (o : Nat) (w : World), (w.setCells b o vs).tape = w.tape := by
      intro vs
      induction vs with
      | nil => intro o w; rfl
      | cons v r ih => intro o w; rw [World.setCells, ih]; rfl
    exact this vs o w
  output := (World.keptBut_setCells b (may := fun _ => True) vs o w (fun _ _ => trivial)).2.1
  size := by
    have : ∀ (vs : List Value) (o : Nat) (w : World), (w.setCells b o vs).heap.size = w.heap.size := by
      intro vs
      induction vs with
      | nil => intro o w; rfl
      | cons v r ih => intro o w; rw [World.setCells, ih]; simp [World.setCell]
    rw [this]; exact Nat.le_refl _
  keep k hk hn := by
    have : ∀ (vs : List Value) (o : Nat) (w : World), (w.setCells b o vs).heap[k]? = w.heap[k]? := by
      intro vs
      induction vs with
      | nil => intro o w; rfl
      | cons v r ih =>
        intro o w
        rw [World.setCells, ih]
        exact Below.heap_setCell _ _ _ _ (by simp at hn; exact hn)
    exact this vs o w
  news := by simp

/-! ### what a slice holds -/
/-- how elements lie in cells -/
structure Cod (α : Type) where
  sz : Nat
  enc : α → List Value
  len : ∀ x, (enc x).length = sz
  one : ∀ x, ∀ v ∈ enc x, v.oneCell' = true

def Cod.cells {α : Type} (c : Cod α) (l : List α) : List Value := l.flatMap c.enc
@[simp] theorem Cod.cells_nil {α : Type} (c : Cod α) : c.cells [] = [] := rfl
theorem Cod.cells_cons {α : Type} (c : Cod α) (x : α) (l : List α) : c.cells (x :: l) = c.enc x ++ c.cells l := by simp [Cod.cells]
theorem Cod.cells_append {α : Type} (c : Cod α) (l m : List α) : c.cells (l ++ m) = c.cells l ++ c.cells m := by simp [Cod.cells]
theorem Cod.cells_length {α : Type} (c : Cod α) : ∀ (l : List α), (c.cells l).length = l.length * c.sz
  | [] => by simp
  | x :: l => by rw [Cod.cells_cons, List.length_append, c.len, Cod.cells_length c l, List.length_cons, Nat.add_mul]; omega
theorem Cod.cells_one {α : Type} (c : Cod α) (l : List α) : ∀ v ∈ c.cells l, v.oneCell' = true := fun v hv => by
  obtain ⟨x, _, hx⟩ := List.mem_flatMap.1 hv
  exact c.one x v hx
theorem mul_add_lt {i j n sz : Nat} (hi : i < n) (hj : j < sz) : i * sz + j < n * sz := by
  have h1 : (i + 1) * sz ≤ n * sz := Nat.mul_le_mul_right _ hi
  rw [Nat.add_mul] at h1
  omega
theorem Cod.cells_get {α : Type} (c : Cod α) : ∀ (l : List α) (i : Nat) (h : i < l.length) (j : Nat) (hj : j < (c.enc l[i]).length), (c.cells l)[i * c.sz + j]? = some (c.enc l[i])[j]
  | x :: l, 0, _, j, hj => by
    simp at hj
    rw [Cod.cells_cons]
    simp [List.getElem?_append_left, hj]
  | x :: l, i + 1, h, j, hj => by
    rw [Cod.cells_cons, List.getElem?_append_right (by rw [c.len, Nat.add_mul]; omega), c.len]
    have := Cod.cells_get c l i (by simpa using h) j (by simpa using hj)
    rw [show (i + 1) * c.sz + j - c.sz = i * c.sz + j by rw [Nat.add_mul]; omega]
    simpa using this
theorem Cod.cells_take {α : Type} (c : Cod α) (l : List α) (n : Nat) : (c.cells l).take (n * c.sz) = c.cells (l.take n) := by
  induction l generalizing n with
  | nil => simp
  | cons x l ih =>
    cases n with
    | zero => simp
    | succ n =>
      rw [Cod.cells_cons, List.take_succ_cons, Cod.cells_cons, ← ih n]
      rw [List.take_append, c.len, List.take_of_length_le (by rw [c.len, Nat.add_mul]; omega)]
      rw [show (n + 1) * c.sz - c.sz = n * c.sz by rw [Nat.add_mul]; omega]
theorem Cod.cells_drop {α : Type} (c : Cod α) (l : List α) (n : Nat) : (c.cells l).drop (n * c.sz) = c.cells (l.drop n) := by
  induction l generalizing n with
  | nil => simp
  | cons x l ih =>
    cases n with
    | zero => simp
    | succ n =>
      rw [Cod.cells_cons, List.drop_succ_cons, ← ih n, List.drop_append, c.len, List.drop_of_length_le (by rw [c.len, Nat.add_mul]; omega)]
      rw [show (n + 1) * c.sz - c.sz = n * c.sz by rw [Nat.add_mul]; omega]
      simp

/-- the cells from p on -/
def Cells (w : World) (p : Option Addr) (vs : List Value) : Prop :=
  match p with
  | none => vs = []
  | some a => ∀ i (h : i < vs.length), w.cell? (a.add i) = some vs[i]

def Sl.blk (s : Sl) : List Nat := match s.ptr with | none => [] | some a => [a.block]
theorem blk_some {s : Sl} {a : Addr} (h : s.ptr = some a) : s.blk = [a.block] := by simp [Sl.blk, h]
theorem blk_none {s : Sl} (h : s.ptr = none) : s.blk = [] := by simp [Sl.blk, h]

structure Sees {α : Type} (c : Cod α) (w : World) (s : Sl) (l : List α) : Prop where
  len : s.len = l.length
  row : Cells w s.ptr (c.cells l)

theorem Cells.upd {m n : List Nat} {w w1 : World} {p : Option Addr} {vs : List Value} (h : Cells w p vs) (u : Upd m n w w1) (hm : ∀ a, p = some a → vs ≠ [] → a.block ∉ m) : Cells w1 p vs := by
  cases p with
  | none => exact h
  | some a =>
    intro i hi
    exact u.cell (h i hi) (by simpa using hm a rfl (by intro e; rw [e] at hi; cases hi))
theorem Cells.app {w : World} {a : Addr} {x y : List Value} (h : Cells w (some a) (x ++ y)) : Cells w (some a) x ∧ Cells w (some (a.add x.length)) y := by
  refine ⟨fun i hi => ?_, fun i hi => ?_⟩
  · have := h i (by simp; omega)
    rwa [List.getElem_append_left hi] at this
  · have := h (x.length + i) (by simp; omega)
    rw [List.getElem_append_right (by omega)] at this
    rw [add_add]
    simpa using this
theorem Cells.mk {w : World} {a : Addr} {x y : List Value} (h : Cells w (some a) x) (k : Cells w (some (a.add x.length)) y) : Cells w (some a) (x ++ y) := by
  intro i hi
  by_cases hx : i < x.length
  · rw [List.getElem_append_left hx]; exact h i hx
  · rw [List.getElem_append_right (by omega)]
    have := k (i - x.length) (by simp at hi; omega)
    rw [add_add, show x.length + (i - x.length) = i by omega] at this
    exact this

section
variable {α : Type} {c : Cod α} {w w1 : World} {s : Sl} {l : List α}

theorem Sees.upd {m n : List Nat} (h : Sees c w s l) (u : Upd m n w w1) (hm : ∀ b ∈ s.blk, b ∉ m) : Sees c w1 s l :=
  ⟨h.len, h.row.upd u (fun a ha _ => hm _ (by simp [blk_some ha]))⟩
theorem Sees.old {n : List Nat} (h : Sees c w s l) (u : Upd [] n w w1) : Sees c w1 s l := h.upd u (by simp)

theorem Sees.nil (c : Cod α) (w : World) (p : Option Addr) (cap : Nat) : Sees c w ⟨p, 0, cap⟩ [] := ⟨rfl, by cases p <;> simp [Cells]⟩

/-- an element's cells -/
theorem Sees.elem (h : Sees c w s l) {i : Nat} (hi : i < l.length) : Cells w (some (s.at c.sz i)) (c.enc l[i]) := by
  intro j hj
  have hrow := h.row
  have hg := c.cells_get l i hi j hj
  cases hp : s.ptr with
  | none =>
    rw [hp] at hrow
    simp only [Cells] at hrow
    rw [hrow] at hg
    simp at hg
  | some a =>
    rw [hp] at hrow
    obtain ⟨hlt, he⟩ := List.getElem?_eq_some_iff.1 hg
    have := hrow _ hlt
    rw [he] at this
    simp only [Sl.at, hp, Option.getD_some, add_add]
    exact this
theorem Sees.ptr_some (h : Sees c w s l) (hz : 0 < c.sz) (hl : 0 < l.length) : ∃ a, s.ptr = some a := by
  cases hp : s.ptr with
  | some a => exact ⟨a, rfl⟩
  | none =>
    have hrow := h.row
    rw [hp] at hrow
    simp only [Cells] at hrow
    have := c.cells_length l
    rw [hrow] at this
    have h2 : 0 < l.length * c.sz := Nat.mul_pos hl hz
    simp at this
    omega
theorem Sees.isSome (h : Sees c w s l) (hz : 0 < c.sz) (hl : 0 < l.length) : s.ptr.isSome = true := by
  obtain ⟨a, ha⟩ := h.ptr_some hz hl
  simp [ha]

/-- a slice of the slice -/
theorem Sees.sub (h : Sees c w s l) {lo hi mx : Nat} (h1 : lo ≤ hi) (h2 : hi ≤ l.length) (h3 : hi ≤ mx) : Sees c w (s.sub c.sz lo hi mx) ((l.take hi).drop lo) where
  len := by simp [Sl.sub]; omega
  row := by
    have hrow := h.row
    rw [← c.cells_drop, ← c.cells_take]
    cases hp : s.ptr with
    | none =>
      rw [hp] at hrow
      simp only [Cells] at hrow
      simp only [hrow, Sl.sub, hp]
      simp [Cells]
    | some a =>
      rw [hp] at hrow
      by_cases e : mx = lo
      · have : hi = lo := by omega
        subst this
        have e2 : ((c.cells l).take (hi * c.sz)).drop (hi * c.sz) = [] := by simp
        rw [e2]
        simp only [Sl.sub]
        split <;> simp [Cells, hp]
      · simp only [Sl.sub, if_neg e, hp, Option.map_some]
        intro i hi'
        simp at hi'
        rw [add_add]
        simp only [List.getElem_drop, List.getElem_take]
        exact hrow _ (by omega)
theorem Sees.take (h : Sees c w s l) {n : Nat} (hn : n ≤ l.length) (cap : Nat) : Sees c w ⟨s.ptr, n, cap⟩ (l.take n) where
  len := by simp; omega
  row := by
    have hrow := h.row
    rw [← c.cells_take]
    cases hp : s.ptr with
    | none => rw [hp] at hrow; simp only [Cells] at hrow; simp [hrow, Cells]
    | some a =>
      rw [hp] at hrow
      intro i hi
      simp at hi
      simp only [List.getElem_take]
      exact hrow _ (by omega)

theorem Sees.rowAt (h : Sees c w s l) : RowAt w s.ptr (s.len * c.sz) (c.cells l) := by
  have hrow := h.row
  cases hp : s.ptr with
  | none => rw [hp] at hrow; exact hrow
  | some a =>
    rw [hp] at hrow
    exact ⟨by rw [c.cells_length, h.len], hrow, c.cells_one l⟩

/-- a slice's array may be written, and it is from block N on -/
structure Own (N : Nat) (sz : Nat) (w : World) (s : Sl) : Prop where
  le : s.len ≤ s.cap
  nil : s.ptr = none → s.cap = 0
  blk : ∀ b ∈ s.blk, N ≤ b ∧ b < w.heap.size
  cell : ∀ a, s.ptr = some a → a.spot = none ∧ ∀ i, i < s.cap * sz → (w.cell? (a.add i)).isSome = true ∧ w.frozen? (a.add i) = false

theorem Own.none (N sz : Nat) (w : World) : Own N sz w ⟨none, 0, 0⟩ := ⟨Nat.le_refl _, fun _ => rfl, by simp [Sl.blk], by simp⟩
theorem Own.upd {N sz : Nat} {m n : List Nat} (h : Own N sz w s) (u : Upd m n w w1) (hm : ∀ b ∈ s.blk, b ∉ m) : Own N sz w1 s where
  le := h.le
  nil := h.nil
  blk b hb := ⟨(h.blk b hb).1, Nat.lt_of_lt_of_le (h.blk b hb).2 u.size⟩
  cell a ha := ⟨(h.cell a ha).1, fun i hi => by
    have hb := hm a.block (by simp [blk_some ha])
    have h1 := (h.cell a ha).2 i hi
    have h2 := (h.blk a.block (by simp [blk_some ha])).2
    rw [u.cell' h1.1 (by simpa using hb), u.frozen (by simpa using h2) (by simpa using hb)]
    exact h1⟩
theorem Own.old {N sz : Nat} {n : List Nat} (h : Own N sz w s) (u : Upd [] n w w1) : Own N sz w1 s := h.upd u (by simp)
theorem Own.mono {N N' sz : Nat} (h : Own N sz w s) (hN : N' ≤ N) : Own N' sz w s := ⟨h.le, h.nil, fun b hb => ⟨Nat.le_trans hN (h.blk b hb).1, (h.blk b hb).2⟩, h.cell⟩

/-- cells of a row written anew -/
theorem isSome_setCells' (b : Nat) (vs : List Value) (o : Nat) (w : World) (a : Addr) (h : (w.cell? a).isSome = true) : ((w.setCells b o vs).cell? a).isSome = true := by
  have : ∀ (vs : List Value) (o : Nat) (w : World), (w.cell? a).isSome = true → ((w.setCells b o vs).cell? a).isSome = true := by
    intro vs
    induction vs with
    | nil => intro o w h; exact h
    | cons v r ih =>
      intro o w h
      rw [World.setCells]
      refine ih _ _ ?_
      by_cases e : (⟨b, o, Option.none⟩ : Addr) = a
      · obtain ⟨u, hu⟩ := Option.isSome_iff_exists.1 h
        rw [← e] at hu ⊢
        rw [World.cell?_setCell_same _ _ _ hu]; rfl
      · rw [World.cell?_setCell_other _ _ _ _ e]; exact h
  exact this vs o w h

theorem Cells.setCells {a : Addr} {x y z vs : List Value} (h : Cells w (some a) (x ++ y ++ z)) (hs : a.spot = Option.none) (hl : vs.length = y.length) (hex : ∀ i, i < vs.length → (w.cell? (a.add (x.length + i))).isSome = true) :
    Cells (w.setCells a.block (a.off + x.length) vs) (some a) (x ++ vs ++ z) := by
  have ea : ∀ i, a.add i = ⟨a.block, a.off + i, Option.none⟩ := fun i => by cases a; simp at hs; subst hs; exact add_none
  intro i hi
  rw [ea]
  simp at hi
  by_cases h1 : i < x.length
  · rw [World.cell?_setCells_out _ _ _ _ _ (fun _ _ => by simp; omega)]
    have := h i (by simp; omega)
    rw [ea] at this
    rw [this, List.getElem_append_left (by simp; omega), List.getElem_append_left h1, List.getElem_append_left (by simp; omega), List.getElem_append_left h1]
  · by_cases h2 : i < x.length + vs.length
    · have := World.cell?_setCells_in a.block vs (a.off + x.length) w (fun j hj => by
        have := hex j hj
        rw [ea] at this
        rwa [show a.off + x.length + j = a.off + (x.length + j) by omega]) (i - x.length) (by omega)
      rw [show a.off + x.length + (i - x.length) = a.off + i by omega] at this
      rw [this, List.getElem_append_left (by simp; omega), List.getElem_append_right (by omega)]
    · rw [World.cell?_setCells_out _ _ _ _ _ (fun _ _ => by simp; omega)]
      have := h i (by simp; omega)
      rw [ea] at this
      rw [this, List.getElem_append_right (by simp; omega), List.getElem_append_right (by simp; omega)]
      simp [hl]
end
end Go.Vc
end

section
namespace Go.Vc
set_option linter.unusedVariables false
set_option linter.unusedSimpArgs false
set_option autoImplicit false

section
variable {α : Type} {c : Cod α} {w w1 : World} {s : Sl} {l : List α}

theorem add_eq {a : Addr} (hs : a.spot = none) (i : Nat) : a.add i = ⟨a.block, a.off + i, none⟩ := by cases a; simp at hs; subst hs; exact add_none

theorem cells_write {a : Addr} {vs : List Value} (hs : a.spot = none) (o : Nat) (hex : ∀ i, i < vs.length → (w.cell? (a.add (o + i))).isSome = true) :
    Cells (w.setCells a.block (a.off + o) vs) (some (a.add o)) vs := by
  intro i hi
  rw [add_add, add_eq hs]
  have := World.cell?_setCells_in a.block vs (a.off + o) w (fun j hj => by
    have := hex j hj
    rw [add_eq hs] at this
    rwa [show a.off + o + j = a.off + (o + j) by omega]) i hi
  rwa [show a.off + o + i = a.off + (o + i) by omega] at this
theorem cells_apart {a : Addr} {x vs : List Value} (hs : a.spot = none) (o p : Nat) (h : Cells w (some (a.add p)) x) (hp : p + x.length ≤ o ∨ o + vs.length ≤ p) :
    Cells (w.setCells a.block (a.off + o) vs) (some (a.add p)) x := by
  intro i hi
  have := h i hi
  rw [add_add, add_eq hs] at this ⊢
  rw [World.cell?_setCells_out _ _ _ _ _ (fun _ _ => by simp; omega)]
  exact this

theorem off_add {a : Addr} (hs : a.spot = none) (n : Nat) : (a.add n).off = a.off + n := by rw [add_eq hs]

theorem frozen_setCells' (b o : Nat) (vs : List Value) (a : Addr) : (w.setCells b o vs).frozen? a = w.frozen? a := World.frozen?_setCells b vs o w a

theorem Own.setCells {N sz : Nat} (h : Own N sz w s) (b o : Nat) (vs : List Value) : Own N sz (w.setCells b o vs) s where
  le := h.le
  nil := h.nil
  blk b' hb := ⟨(h.blk b' hb).1, by rw [setCells_size]; exact (h.blk b' hb).2⟩
  cell a ha := ⟨(h.cell a ha).1, fun i hi => ⟨isSome_setCells' _ _ _ _ _ ((h.cell a ha).2 i hi).1, by rw [frozen_setCells']; exact ((h.cell a ha).2 i hi).2⟩⟩

theorem appendN_own {N e by_ n : Nat} {new : List α} {bs : List Nat} {F : Sl → World → Prop} (h : Sees c w s l) (o : Own N c.sz w s) (hN : N ≤ w.heap.size) (hn : n = new.length)
    (hbs : ∀ b ∈ s.blk, b ∉ bs) (hpos : 0 < by_) (hb : (l.length + new.length) * by_ ≤ 140737488355328)
    (k : ∀ r w1, Sees c w1 r (l ++ new) → Own N c.sz w1 r → Upd s.blk [] w w1 → (∀ b ∈ r.blk, b ∈ s.blk ∨ w.heap.size ≤ b) → F r w1) : AppendN e c.sz by_ s n (c.cells new) bs w F := by
  subst hn
  have hlen := h.len
  refine ⟨fun hfit => ?_, fun hgrow => ⟨?_, ?_, c.cells l, h.rowAt, fun cap b cs w1 hcap u hb1 htake hsize => ?_⟩⟩
  · cases hp : s.ptr with
    | none =>
      have h0 := o.nil hp
      have e1 : new = [] := by cases new with | nil => rfl | cons => simp at hfit; omega
      subst e1
      have el : (⟨none, s.len + ([] : List α).length, s.cap⟩ : Sl) = s := by cases s; simp at hp; subst hp; rfl
      show F ⟨none, s.len + ([] : List α).length, s.cap⟩ w
      rw [el]
      exact k s w (by simpa using h) o ((Upd.refl w).wide (by simp)) (fun b hb => .inl hb)
    | some a =>
      obtain ⟨hs, hc⟩ := o.cell a hp
      have hmul : (s.len + new.length) * c.sz ≤ s.cap * c.sz := Nat.mul_le_mul_right _ hfit
      rw [Nat.add_mul] at hmul
      have hlc := c.cells_length new
      have hll := c.cells_length l
      have hrow := h.row
      rw [hp] at hrow
      refine ⟨fun i hi => ?_, ?_, ?_⟩
      · rw [add_add]
        exact hc _ (by omega)
      · simp only [add_block]
        exact hbs _ (by simp [blk_some hp])
      · show F _ (w.setCells (a.add (s.len * c.sz)).block (a.add (s.len * c.sz)).off (c.cells new))
        rw [off_add hs, add_block]
        refine k _ _ ⟨by simp [hlen], ?_⟩ ?_ ((Upd.setCells w a.block _ _).wide (by simp [blk_some hp])) (fun b hb => .inl (by simp [blk_some hp]; simpa [Sl.blk] using hb))
        · rw [c.cells_append]
          refine Cells.mk ?_ ?_
          · have := cells_apart (vs := c.cells new) hs (s.len * c.sz) 0 (by simpa using hrow) (.inl (by rw [hll, hlen]; omega))
            simpa using this
          · rw [hll, ← hlen]
            exact cells_write hs _ (fun i hi => (hc _ (by omega)).1)
        · have := (o.setCells a.block (a.off + s.len * c.sz) (c.cells new))
          exact ⟨by simp; omega, by simp, by simpa [Sl.blk, hp] using this.blk, fun a' ha' => by simp at ha'; subst ha'; exact this.cell a hp⟩
  · have : l.length + new.length ≤ (l.length + new.length) * by_ := Nat.le_mul_of_pos_right _ hpos
    omega
  · rw [hlen]
    rw [hlen] at hgrow
    exact growslice_fits hgrow hb
  · have hll := c.cells_length l
    have hln := c.cells_length new
    have hmul : (s.len + new.length) * c.sz + (cap - (s.len + new.length)) * c.sz = cap * c.sz := by rw [← Nat.add_mul]; congr 1; omega
    rw [Nat.add_mul] at hmul
    have hsz : cs.size = cap * c.sz := by rw [hsize, hll, hln, hlen] at *; omega
    have hget : ∀ i (hi : i < (c.cells l ++ c.cells new).length), cs[i]? = some (c.cells l ++ c.cells new)[i] := by
      intro i hi
      have e1 : (cs.toList.take ((c.cells l).length + (c.cells new).length))[i]? = some (c.cells l ++ c.cells new)[i] := by rw [htake]; exact List.getElem?_eq_getElem hi
      rw [List.getElem?_take, if_pos (by simpa using hi)] at e1
      simpa using e1
    have hbn := u.new (b := b) (by simp)
    refine k _ _ ⟨by simp [hlen], ?_⟩ ?_ ((u.mono (m' := s.blk) (n' := []) (by simp) (by simp))) (fun b' hb' => by simp [Sl.blk] at hb'; subst hb'; exact .inr hbn.1)
    · rw [c.cells_append]
      intro i hi
      rw [add_none, Nat.zero_add, cell_of_block hb1]
      exact hget i hi
    · refine ⟨by simpa using hcap, by simp, fun b' hb' => ?_, fun a ha => ?_⟩
      · simp [Sl.blk] at hb'
        subst hb'
        exact ⟨Nat.le_trans hN hbn.1, hbn.2⟩
      · simp at ha
        subst ha
        refine ⟨rfl, fun i hi => ?_⟩
        rw [add_none, cell_of_block hb1, frozen_of_block hb1]
        simp at hi
        simp [hsz, hi]

/-- append to a slice without room: new memory -/
theorem appendN_full {e by_ n : Nat} {new : List α} {bs : List Nat} {F : Sl → World → Prop} (h : Sees c w s l) (hfull : s.cap ≤ s.len) (hn : n = new.length) (hn0 : 0 < n)
    (hpos : 0 < by_) (hb : (l.length + new.length) * by_ ≤ 140737488355328)
    (k : ∀ r w1, Sees c w1 r (l ++ new) → Own w.heap.size c.sz w1 r → Upd [] [] w w1 → F r w1) : AppendN e c.sz by_ s n (c.cells new) bs w F := by
  subst hn
  have hlen := h.len
  refine ⟨fun hfit => by omega, fun hgrow => ⟨?_, ?_, c.cells l, h.rowAt, fun cap b cs w1 hcap u hb1 htake hsize => ?_⟩⟩
  · have : l.length + new.length ≤ (l.length + new.length) * by_ := Nat.le_mul_of_pos_right _ hpos
    omega
  · rw [hlen]
    rw [hlen] at hgrow
    exact growslice_fits hgrow hb
  · have hll := c.cells_length l
    have hln := c.cells_length new
    have hmul : (s.len + new.length) * c.sz + (cap - (s.len + new.length)) * c.sz = cap * c.sz := by rw [← Nat.add_mul]; congr 1; omega
    rw [Nat.add_mul] at hmul
    have hsz : cs.size = cap * c.sz := by rw [hsize, hll, hln, hlen] at *; omega
    have hget : ∀ i (hi : i < (c.cells l ++ c.cells new).length), cs[i]? = some (c.cells l ++ c.cells new)[i] := by
      intro i hi
      have e1 : (cs.toList.take ((c.cells l).length + (c.cells new).length))[i]? = some (c.cells l ++ c.cells new)[i] := by rw [htake]; exact List.getElem?_eq_getElem hi
      rw [List.getElem?_take, if_pos (by simpa using hi)] at e1
      simpa using e1
    have hbn := u.new (b := b) (by simp)
    refine k _ _ ⟨by simp [hlen], ?_⟩ ?_ u.forget
    · rw [c.cells_append]
      intro i hi
      rw [add_none, Nat.zero_add, cell_of_block hb1]
      exact hget i hi
    · refine ⟨by simpa using hcap, by simp, fun b' hb' => ?_, fun a ha => ?_⟩
      · simp [Sl.blk] at hb'
        subst hb'
        exact hbn
      · simp at ha
        subst ha
        refine ⟨rfl, fun i hi => ?_⟩
        rw [add_none, cell_of_block hb1, frozen_of_block hb1]
        simp at hi
        simp [hsz, hi]

theorem append_own {N e by_ : Nat} {x : Sl} {new : List α} {bs : List Nat} {F : Sl → World → Prop} (h : Sees c w s l) (o : Own N c.sz w s) (hx : Sees c w x new) (hN : N ≤ w.heap.size)
    (hbs : ∀ b ∈ s.blk, b ∉ bs) (hpos : 0 < by_) (hb : (l.length + new.length) * by_ ≤ 140737488355328)
    (k : ∀ r w1, Sees c w1 r (l ++ new) → Own N c.sz w1 r → Upd s.blk [] w w1 → (∀ b ∈ r.blk, b ∈ s.blk ∨ w.heap.size ≤ b) → F r w1) : Append e c.sz by_ s x bs w F :=
  ⟨c.cells new, hx.rowAt, appendN_own h o hN hx.len hbs hpos hb k⟩
theorem append_full {e by_ : Nat} {x : Sl} {new : List α} {bs : List Nat} {F : Sl → World → Prop} (h : Sees c w s l) (hfull : s.cap ≤ s.len) (hx : Sees c w x new) (hn0 : 0 < new.length)
    (hpos : 0 < by_) (hb : (l.length + new.length) * by_ ≤ 140737488355328)
    (k : ∀ r w1, Sees c w1 r (l ++ new) → Own w.heap.size c.sz w1 r → Upd [] [] w w1 → F r w1) : Append e c.sz by_ s x bs w F :=
  ⟨c.cells new, hx.rowAt, appendN_full h hfull hx.len (by rw [hx.len]; exact hn0) hpos hb k⟩

/-- an element is written -/
theorem own_set {N : Nat} {i : Nat} {x : α} {vs : List Value} {bs : List Nat} {F : World → Prop} (h : Sees c w s l) (o : Own N c.sz w s) (hz : 0 < c.sz) (hi : i < l.length) (hv : vs = c.enc x) (hbs : ∀ b ∈ s.blk, b ∉ bs)
    (k : ∀ w1, Sees c w1 s (l.set i x) → Own N c.sz w1 s → Upd s.blk [] w w1 → F w1) : Store w (s.at c.sz i) vs bs F := by
  subst hv
  obtain ⟨a, hp⟩ := h.ptr_some hz (by omega)
  obtain ⟨hs, hc⟩ := o.cell a hp
  have hat : s.at c.sz i = a.add (i * c.sz) := by simp [Sl.at, hp]
  have hlen := h.len
  have hle := o.le
  have hlx := c.len x
  have hrow := h.row
  rw [hp] at hrow
  have hm : ∀ j, j < c.sz → i * c.sz + j < s.cap * c.sz := fun j hj => mul_add_lt (by omega) hj
  refine ⟨fun j hj => ?_, ?_, ?_⟩
  · rw [hat, add_add]
    exact hc _ (hm j (by omega))
  · rw [hat, add_block]
    exact hbs _ (by simp [blk_some hp])
  · rw [hat, off_add hs, add_block]
    refine k _ ⟨by simpa using hlen, ?_⟩ (o.setCells _ _ _) ((Upd.setCells w a.block _ _).wide (by simp [blk_some hp]))
    rw [hp]
    have e1 : l.set i x = l.take i ++ x :: l.drop (i + 1) := by rw [List.set_eq_take_append_cons_drop, if_pos hi]
    have e2 : l = l.take i ++ l.drop i := (List.take_append_drop i l).symm
    have e3 : l.drop i = l[i] :: l.drop (i + 1) := List.drop_eq_getElem_cons hi
    rw [e1, c.cells_append, c.cells_cons]
    have h1 : (c.cells (l.take i)).length = i * c.sz := by rw [c.cells_length, List.length_take]; congr 1; omega
    have hrow' : Cells w (some a) (c.cells (l.take i) ++ (c.enc l[i] ++ c.cells (l.drop (i + 1)))) := by
      rw [← c.cells_cons, ← e3, ← c.cells_append, ← e2]; exact hrow
    obtain ⟨r1, r2⟩ := hrow'.app
    obtain ⟨r3, r4⟩ := r2.app
    rw [h1] at r4
    rw [add_add, c.len] at r4
    refine Cells.mk ?_ (Cells.mk ?_ ?_)
    · have := cells_apart (vs := c.enc x) hs (i * c.sz) 0 (by simpa using r1) (.inl (by omega))
      simpa using this
    · rw [h1]
      exact cells_write hs _ (fun j hj => (hc _ (hm j (by omega))).1)
    · rw [h1, add_add, hlx]
      exact cells_apart hs _ _ r4 (.inr (by omega))

/-- a new row -/
theorem sees_row {b e n cap : Nat} {f : Nat × Nat} {cs : List Value} (h : w.heap[b]? = some (.cells cs.toArray e f)) (l : List α) (hl : cs = c.cells l) (hn : n = l.length) : Sees c w ⟨some ⟨b, 0, none⟩, n, cap⟩ l := by
  subst hl hn
  refine ⟨rfl, fun i hi => ?_⟩
  rw [add_none, cell_of_block h]
  simp [hi]
theorem own_row {N b e n cap : Nat} {cs : List Value} {sz : Nat} (h : w.heap[b]? = some (.cells cs.toArray e (0, 0))) (hN : N ≤ b) (hl : cs.length = cap * sz) (hn : n ≤ cap) : Own N sz w ⟨some ⟨b, 0, none⟩, n, cap⟩ where
  le := hn
  nil := by simp
  blk b' hb := by simp [Sl.blk] at hb; subst hb; exact ⟨hN, (Array.getElem?_eq_some_iff.1 h).1⟩
  cell a ha := by
    simp at ha
    subst ha
    refine ⟨rfl, fun i hi => ?_⟩
    rw [add_none, cell_of_block h, frozen_of_block h]
    simp at hi
    simp [hl, hi]

theorem copy_own {N : Nat} {x : Sl} {m : List α} {bs : List Nat} {F : World → Prop} (h : Sees c w s l) (o : Own N c.sz w s) (hx : Sees c w x m) (hbs : ∀ b ∈ s.blk, b ∉ bs)
    (k : ∀ w1, Sees c w1 s (m.take l.length ++ l.drop m.length) → Own N c.sz w1 s → Upd s.blk [] w w1 → F w1) : Copy c.sz s x bs w F := by
  have hlen := h.len
  have hxl := hx.len
  have hle := o.le
  refine ⟨c.cells (m.take l.length), ?_, ?_⟩
  · have := (hx.take (n := min m.length l.length) (by omega) 0).rowAt
    rw [show Nat.min x.len s.len = min m.length l.length by rw [hxl, hlen]]
    have e : m.take (min m.length l.length) = m.take l.length := by rw [List.take_eq_take_iff]; omega
    rw [e] at this
    exact this
  · cases hp : s.ptr with
    | none =>
      have h0 := o.nil hp
      have e1 : l = [] := by cases l with | nil => rfl | cons => simp at hlen; omega
      subst e1
      simp only
      exact k w (by simpa using h) o ((Upd.refl w).wide (by simp))
    | some a =>
      obtain ⟨hs, hc⟩ := o.cell a hp
      have hrow := h.row
      rw [hp] at hrow
      have h1 : (c.cells (m.take l.length)).length = min l.length m.length * c.sz := by rw [c.cells_length, List.length_take]
      have hm : (c.cells (m.take l.length)).length ≤ s.cap * c.sz := by rw [h1]; exact Nat.mul_le_mul_right _ (by omega)
      refine ⟨fun i hi => hc i (by omega), hbs _ (by simp [blk_some hp]), ?_⟩
      refine k _ ⟨by simp; omega, ?_⟩ (o.setCells _ _ _) ((Upd.setCells w a.block _ _).wide (by simp [blk_some hp]))
      rw [hp, c.cells_append]
      refine Cells.mk ?_ ?_
      · have := cells_write (w := w) (vs := c.cells (m.take l.length)) hs 0 (fun i hi => by simpa using (hc i (by omega)).1)
        simpa using this
      · have hd : l.drop m.length = l.drop (min l.length m.length) := by
          by_cases g : m.length ≤ l.length
          · rw [Nat.min_eq_right g]
          · rw [List.drop_of_length_le (by omega), List.drop_of_length_le (by omega)]
        rw [hd, h1]
        have e2 : Cells w (some a) (c.cells (l.take (min l.length m.length)) ++ c.cells (l.drop (min l.length m.length))) := by rw [← c.cells_append, List.take_append_drop]; exact hrow
        have r := e2.app.2
        have h2 : (c.cells (l.take (min l.length m.length))).length = min l.length m.length * c.sz := by rw [c.cells_length, List.length_take]; congr 1; omega
        rw [h2] at r
        have := cells_apart (vs := c.cells (m.take l.length)) hs 0 _ r (.inr (by omega))
        simpa using this
end

theorem Cod.cells_map1 {α : Type} {c : Cod α} {g : α → Value} (h : ∀ x, c.enc x = [g x]) : ∀ (l : List α), c.cells l = l.map g
  | [] => rfl
  | x :: l => by rw [Cod.cells_cons, h, Cod.cells_map1 h l]; rfl

/-! ### bytes -/
def cU8 : Cod Int := ⟨1, fun n => [.int .u8 n], fun _ => rfl, by simp [Value.oneCell']⟩
def cI64 : Cod Int := ⟨1, fun n => [.int .i64 n], fun _ => rfl, by simp [Value.oneCell']⟩
def cSl : Cod Sl := ⟨1, fun s => [s.val], fun _ => rfl, by simp [Value.oneCell', Sl.val]⟩
abbrev SeesB (w : World) (s : Sl) (l : List Int) : Prop := Sees cU8 w s l
/-- the byte at a place (0 outside) -/
def bt (l : List Int) (i : Int) : Int := l.getD i.toNat 0
def Byt (l : List Int) : Prop := ∀ x ∈ l, 0 ≤ x ∧ x < 256
theorem Byt.bt {l : List Int} (h : Byt l) (i : Int) : 0 ≤ bt l i ∧ bt l i < 256 := by
  unfold Go.Vc.bt
  rw [List.getD_eq_getElem?_getD]
  by_cases hi : i.toNat < l.length
  · rw [List.getElem?_eq_getElem hi]; exact h _ (List.getElem_mem hi)
  · rw [List.getElem?_eq_none (by omega)]; simp
theorem Byt.app {l m : List Int} (h : Byt l) (k : Byt m) : Byt (l ++ m) := fun x hx => by rcases List.mem_append.1 hx with h' | h'; exact h x h'; exact k x h'
theorem Byt.nil : Byt [] := by simp [Byt]
theorem Byt.take {l : List Int} (h : Byt l) (n : Nat) : Byt (l.take n) := fun x hx => h x (List.mem_of_mem_take hx)
theorem Byt.drop {l : List Int} (h : Byt l) (n : Nat) : Byt (l.drop n) := fun x hx => h x (List.mem_of_mem_drop hx)
theorem Byt.set {l : List Int} (h : Byt l) (n : Nat) {v : Int} (hv : 0 ≤ v ∧ v < 256) : Byt (l.set n v) := fun x hx => by
  rcases List.mem_or_eq_of_mem_set hx with h' | h'
  · exact h x h'
  · subst h'; exact hv
theorem Sees.byte {w : World} {s : Sl} {l : List Int} (h : Sees cU8 w s l) {i : Int} (h0 : 0 ≤ i) (hi : i < l.length) : w.cell? (s.at 1 i.toNat) = some (.int .u8 (bt l i)) := by
  have := h.elem (i := i.toNat) (by omega) 0 (by simp [cU8])
  rw [add_zero] at this
  rw [show cU8.sz = 1 from rfl] at this
  rw [this]
  simp [cU8, bt, List.getD_eq_getElem?_getD, List.getElem?_eq_getElem (show i.toNat < l.length by omega)]
theorem Sees.subB {w : World} {s : Sl} {l : List Int} (h : Sees cU8 w s l) {lo hi mx : Nat} (h1 : lo ≤ hi) (h2 : hi ≤ l.length) (h3 : hi ≤ mx) : Sees cU8 w (s.sub 1 lo hi mx) ((l.take hi).drop lo) := h.sub h1 h2 h3
end Go.Vc
end

section
namespace Go.Vc
set_option linter.unusedVariables false
set_option linter.unusedSimpArgs false
set_option autoImplicit false
/-- what an append takes beyond what it needs -/
theorem growBy_le (n : Nat) : ∀ (r c : Nat), c ≤ n + n / 4 + 512 → Builtin.growBy n r c ≤ n + n / 4 + 512
  | 0, c, h => h
  | r + 1, c, h => by
    unfold Builtin.growBy
    split
    · exact h
    · exact growBy_le n r _ (by omega)
theorem nsc_le {need cap : Nat} (h : cap < need) : Builtin.nextslicecap need cap ≤ need + need / 4 + 512 := by
  unfold Builtin.nextslicecap
  split
  · omega
  · split
    · omega
    · exact growBy_le need 4 cap (by omega)
theorem nsc_fits {need cap by_ : Nat} (h : cap < need) (hby : by_ ≤ 1024) (hb : need * by_ ≤ 224000000000000) : Builtin.nextslicecap need cap * by_ ≤ 281474976710656 := by
  have h1 : Builtin.nextslicecap need cap * by_ ≤ (need + need / 4 + 512) * by_ := Nat.mul_le_mul_right _ (nsc_le h)
  have h2 : need / 4 * by_ ≤ need * by_ / 4 := by
    rw [Nat.le_div_iff_mul_le (by decide), Nat.mul_right_comm]
    exact Nat.mul_le_mul_right _ (Nat.div_mul_le_self need 4)
  have h3 : 512 * by_ ≤ 512 * 1024 := Nat.mul_le_mul_left _ hby
  rw [Nat.add_mul, Nat.add_mul] at h1
  omega
section
variable {α : Type} {c : Cod α} {w w1 : World} {s : Sl} {l : List α}
theorem appendN_big {N e by_ n : Nat} {new : List α} {bs : List Nat} {F : Sl → World → Prop} (h : Sees c w s l) (o : Own N c.sz w s) (hN : N ≤ w.heap.size) (hn : n = new.length)
    (hbs : ∀ b ∈ s.blk, b ∉ bs) (hpos : 0 < by_) (hby : by_ ≤ 1024) (hb : (l.length + new.length) * by_ ≤ 224000000000000)
    (k : ∀ r w1, Sees c w1 r (l ++ new) → Own N c.sz w1 r → Upd s.blk [] w w1 → (∀ b ∈ r.blk, b ∈ s.blk ∨ w.heap.size ≤ b) → F r w1) : AppendN e c.sz by_ s n (c.cells new) bs w F := by
  subst hn
  have hlen := h.len
  refine ⟨fun hfit => ?_, fun hgrow => ⟨?_, ?_, c.cells l, h.rowAt, fun cap b cs w1 hcap u hb1 htake hsize => ?_⟩⟩
  · cases hp : s.ptr with
    | none =>
      have h0 := o.nil hp
      have e1 : new = [] := by cases new with | nil => rfl | cons => simp at hfit; omega
      subst e1
      have el : (⟨none, s.len + ([] : List α).length, s.cap⟩ : Sl) = s := by cases s; simp at hp; subst hp; rfl
      show F ⟨none, s.len + ([] : List α).length, s.cap⟩ w
      rw [el]
      exact k s w (by simpa using h) o ((Upd.refl w).wide (by simp)) (fun b hb => .inl hb)
    | some a =>
      obtain ⟨hs, hc⟩ := o.cell a hp
      have hmul : (s.len + new.length) * c.sz ≤ s.cap * c.sz := Nat.mul_le_mul_right _ hfit
      rw [Nat.add_mul] at hmul
      have hlc := c.cells_length new
      have hll := c.cells_length l
      have hrow := h.row
      rw [hp] at hrow
      refine ⟨fun i hi => ?_, ?_, ?_⟩
      · rw [add_add]
        exact hc _ (by omega)
      · simp only [add_block]
        exact hbs _ (by simp [blk_some hp])
      · show F _ (w.setCells (a.add (s.len * c.sz)).block (a.add (s.len * c.sz)).off (c.cells new))
        rw [off_add hs, add_block]
        refine k _ _ ⟨by simp [hlen], ?_⟩ ?_ ((Upd.setCells w a.block _ _).wide (by simp [blk_some hp])) (fun b hb => .inl (by simp [blk_some hp]; simpa [Sl.blk] using hb))
        · rw [c.cells_append]
          refine Cells.mk ?_ ?_
          · have := cells_apart (vs := c.cells new) hs (s.len * c.sz) 0 (by simpa using hrow) (.inl (by rw [hll, hlen]; omega))
            simpa using this
          · rw [hll, ← hlen]
            exact cells_write hs _ (fun i hi => (hc _ (by omega)).1)
        · have := (o.setCells a.block (a.off + s.len * c.sz) (c.cells new))
          exact ⟨by simp; omega, by simp, by simpa [Sl.blk, hp] using this.blk, fun a' ha' => by simp at ha'; subst ha'; exact this.cell a hp⟩
  · have : l.length + new.length ≤ (l.length + new.length) * by_ := Nat.le_mul_of_pos_right _ hpos
    omega
  · rw [hlen]
    rw [hlen] at hgrow
    exact nsc_fits hgrow hby hb
  · have hll := c.cells_length l
    have hln := c.cells_length new
    have hmul : (s.len + new.length) * c.sz + (cap - (s.len + new.length)) * c.sz = cap * c.sz := by rw [← Nat.add_mul]; congr 1; omega
    rw [Nat.add_mul] at hmul
    have hsz : cs.size = cap * c.sz := by rw [hsize, hll, hln, hlen] at *; omega
    have hget : ∀ i (hi : i < (c.cells l ++ c.cells new).length), cs[i]? = some (c.cells l ++ c.cells new)[i] := by
      intro i hi
      have e1 : (cs.toList.take ((c.cells l).length + (c.cells new).length))[i]? = some (c.cells l ++ c.cells new)[i] := by rw [htake]; exact List.getElem?_eq_getElem hi
      rw [List.getElem?_take, if_pos (by simpa using hi)] at e1
      simpa using e1
    have hbn := u.new (b := b) (by simp)
    refine k _ _ ⟨by simp [hlen], ?_⟩ ?_ ((u.mono (m' := s.blk) (n' := []) (by simp) (by simp))) (fun b' hb' => by simp [Sl.blk] at hb'; subst hb'; exact .inr hbn.1)
    · rw [c.cells_append]
      intro i hi
      rw [add_none, Nat.zero_add, cell_of_block hb1]
      exact hget i hi
    · refine ⟨by simpa using hcap, by simp, fun b' hb' => ?_, fun a ha => ?_⟩
      · simp [Sl.blk] at hb'
        subst hb'
        exact ⟨Nat.le_trans hN hbn.1, hbn.2⟩
      · simp at ha
        subst ha
        refine ⟨rfl, fun i hi => ?_⟩
        rw [add_none, cell_of_block hb1, frozen_of_block hb1]
        simp at hi
        simp [hsz, hi]
theorem append_big {N e by_ : Nat} {x : Sl} {new : List α} {bs : List Nat} {F : Sl → World → Prop} (h : Sees c w s l) (o : Own N c.sz w s) (hx : Sees c w x new) (hN : N ≤ w.heap.size)
    (hbs : ∀ b ∈ s.blk, b ∉ bs) (hpos : 0 < by_) (hby : by_ ≤ 1024) (hb : (l.length + new.length) * by_ ≤ 224000000000000)
    (k : ∀ r w1, Sees c w1 r (l ++ new) → Own N c.sz w1 r → Upd s.blk [] w w1 → (∀ b ∈ r.blk, b ∈ s.blk ∨ w.heap.size ≤ b) → F r w1) : Append e c.sz by_ s x bs w F :=
  ⟨c.cells new, hx.rowAt, appendN_big h o hN hx.len hbs hpos hby hb k⟩end
end Go.Vc
end

section
namespace Go.Vc
set_option linter.unusedVariables false
set_option linter.unusedSimpArgs false
set_option autoImplicit false

/-! ### steps of a statement -/
section
variable {X Y : Prop}
theorem brd {p : Prop} [Decidable p] (h1 : p → X) (h2 : ¬p → Y) : Br (decide p) X Y := Br_iff.2 ⟨fun h => h1 (of_decide_eq_true h), fun h => h2 (of_decide_eq_false h)⟩
theorem brb {c : Bool} (h1 : c = true → X) (h2 : c = false → Y) : Br c X Y := Br_iff.2 ⟨h1, h2⟩
theorem brn {c : Bool} (h1 : c = false → X) (h2 : c = true → Y) : Br (!c) X Y := Br_iff.2 ⟨fun h => h1 (by simpa using h), fun h => h2 (by simpa using h)⟩
theorem bre {α : Type} [BEq α] [LawfulBEq α] {a b : α} (h1 : a = b → X) (h2 : a ≠ b → Y) : Br (a == b) X Y := Br_iff.2 ⟨fun h => h1 (by simpa using h), fun h => h2 (by simpa using h)⟩
theorem bre' {α : Type} [BEq α] [LawfulBEq α] {a b : α} (h1 : a ≠ b → X) (h2 : a = b → Y) : Br (a != b) X Y := Br_iff.2 ⟨fun h => h1 (by simpa using h), fun h => h2 (by simpa using h)⟩
theorem brt {c : Bool} (h : c = true) (x : X) : Br c X Y := by subst h; exact x
theorem brf {c : Bool} (h : c = false) (y : Y) : Br c X Y := by subst h; exact y
theorem need {c : Bool} (h : c = true) (x : X) : Need c X := Need_iff.2 ⟨h, x⟩
theorem needIx {i n : Int} {o : Option Addr} (h0 : 0 ≤ i) (h1 : i < n) (h2 : o.isSome = true) (x : X) : Need (decide (0 ≤ i) && decide (i < n) && o.isSome) X := need (by simp [h0, h1, h2]) x
theorem needIx2 {i n : Int} (h0 : 0 ≤ i) (h1 : i < n) (x : X) : Need (decide (0 ≤ i) && decide (i < n)) X := need (by simp [h0, h1]) x
theorem needIxLe {i n : Int} (h0 : 0 ≤ i) (h1 : i ≤ n) (x : X) : Need (decide (0 ≤ i) && decide (i ≤ n)) X := need (by simp [h0, h1]) x
theorem needD {p : Prop} [Decidable p] (h : p) (x : X) : Need (decide p) X := need (by simp [h]) x
theorem needNe {a b : Int} (h : a ≠ b) (x : X) : Need (a != b) X := need (by simp [h]) x
theorem needSl {l h m : Int} (a : 0 ≤ h) (b : h ≤ m) (c : 0 ≤ l) (d : l ≤ h) (x : X) : Need (decide (0 ≤ h) && decide (h ≤ m) && (decide (0 ≤ l) && decide (l ≤ (h.toNat : Int)))) X :=
  need (by simp [a, b, c]; omega) x
end

theorem Ret.mono {P : Program} {f : Nat} {args : List SV} {w : World} {R R' : SV → World → Prop} (h : Ret P f args w R) (k : ∀ r w1, R r w1 → R' r w1) : Ret P f args w R' := by
  unfold Ret at *
  exact h.mono fun e w' ⟨r, h1, h2⟩ => ⟨r, h1, k r w' h2⟩

/-! ### numbers -/
theorem wr_i64 {x : Int} (h1 : -9223372036854775808 ≤ x) (h2 : x ≤ 9223372036854775807) : wr .i64 x = x := by
  unfold wr IntKind.wrap
  simp only [IntKind.bits, IntKind.signed, Bool.true_and, decide_eq_true_eq, ge_iff_le]
  split <;> omega
theorem wr_succ {q : Nat} (h : q < 9223372036854775807) : wr .i64 ((q : Int) + 1) = ((q + 1 : Nat) : Int) := by rw [wr_i64 (by omega) (by omega)]; omega
theorem wr_u64 {x : Int} (h1 : 0 ≤ x) (h2 : x ≤ 18446744073709551615) : wr .u64 x = x := by
  unfold wr IntKind.wrap
  simp only [IntKind.bits, IntKind.signed, Bool.false_and, Bool.false_eq_true, if_false]
  omega
theorem wr_u32 (x : Int) : wr .u32 x = x % 4294967296 := by
  unfold wr IntKind.wrap
  simp only [IntKind.bits, IntKind.signed, Bool.false_and, Bool.false_eq_true, if_false]
  omega
theorem wr_u16 (x : Int) : wr .u16 x = x % 65536 := by
  unfold wr IntKind.wrap
  simp only [IntKind.bits, IntKind.signed, Bool.false_and, Bool.false_eq_true, if_false]
  omega
theorem wr_u8 (x : Int) : wr .u8 x = x % 256 := by
  unfold wr IntKind.wrap
  simp only [IntKind.bits, IntKind.signed, Bool.false_and, Bool.false_eq_true, if_false]
  omega
theorem wr_range (k : IntKind) (x : Int) : k.min ≤ wr k x ∧ wr k x ≤ k.max := by
  cases k <;> simp only [wr, IntKind.wrap, IntKind.min, IntKind.max, IntKind.bits, IntKind.signed, Bool.true_and, Bool.false_and, decide_eq_true_eq, Bool.false_eq_true, if_false, if_true, ge_iff_le] <;> (try split) <;> omega
theorem wr_u8_range (x : Int) : 0 ≤ wr .u8 x ∧ wr .u8 x < 256 := by rw [wr_u8]; omega

theorem ofInt_toNat {n : Nat} {a : Int} (h : 0 ≤ a) (h1 : a < 2 ^ n) : (BitVec.ofInt n a).toNat = a.toNat := by
  rw [BitVec.toNat_ofInt]
  rw [Int.emod_eq_of_lt h (by exact_mod_cast h1)]
theorem wr_nat_i64 {n : Nat} (h : n < 9223372036854775808) : (IntKind.i64).wrap (n : Int) = n := by have := wr_i64 (x := n) (by omega) (by omega); exact this

theorem iand_nat {a b : Int} (ha : 0 ≤ a) (ha1 : a < 9223372036854775808) (hb : 0 ≤ b) (hb1 : b < 9223372036854775808) : iand .i64 a b = ((a.toNat &&& b.toNat : Nat) : Int) := by
  unfold iand ibits
  rw [BitVec.toNat_and, ofInt_toNat ha (by simp only [IntKind.bits]; omega), ofInt_toNat hb (by simp only [IntKind.bits]; omega)]
  have : a.toNat &&& b.toNat ≤ a.toNat := Nat.and_le_left
  exact wr_nat_i64 (by omega)
theorem ior_nat {a b : Int} (ha : 0 ≤ a) (ha1 : a < 9223372036854775808) (hb : 0 ≤ b) (hb1 : b < 9223372036854775808) : ior .i64 a b = ((a.toNat ||| b.toNat : Nat) : Int) := by
  unfold ior ibits
  rw [BitVec.toNat_or, ofInt_toNat ha (by simp only [IntKind.bits]; omega), ofInt_toNat hb (by simp only [IntKind.bits]; omega)]
  have : a.toNat ||| b.toNat < 2 ^ 63 := Nat.or_lt_two_pow (by omega) (by omega)
  exact wr_nat_i64 (by omega)
theorem ixor_nat {a b : Int} (ha : 0 ≤ a) (ha1 : a < 9223372036854775808) (hb : 0 ≤ b) (hb1 : b < 9223372036854775808) : ixor .i64 a b = ((a.toNat ^^^ b.toNat : Nat) : Int) := by
  unfold ixor ibits
  rw [BitVec.toNat_xor, ofInt_toNat ha (by simp only [IntKind.bits]; omega), ofInt_toNat hb (by simp only [IntKind.bits]; omega)]
  have : a.toNat ^^^ b.toNat < 2 ^ 63 := Nat.xor_lt_two_pow (by omega) (by omega)
  exact wr_nat_i64 (by omega)
theorem ixor_u8 {a b : Int} (ha : 0 ≤ a) (ha1 : a < 256) (hb : 0 ≤ b) (hb1 : b < 256) : ixor .u8 a b = ((a.toNat ^^^ b.toNat : Nat) : Int) := by
  unfold ixor ibits
  rw [BitVec.toNat_xor, ofInt_toNat ha (by simp only [IntKind.bits]; omega), ofInt_toNat hb (by simp only [IntKind.bits]; omega)]
  have : a.toNat ^^^ b.toNat < 2 ^ 8 := Nat.xor_lt_two_pow (by omega) (by omega)
  have h := wr_u8 ((a.toNat ^^^ b.toNat : Nat) : Int)
  unfold wr at h
  rw [h]; omega
theorem iand_u8 {a b : Int} (ha : 0 ≤ a) (ha1 : a < 256) (hb : 0 ≤ b) (hb1 : b < 256) : iand .u8 a b = ((a.toNat &&& b.toNat : Nat) : Int) := by
  unfold iand ibits
  rw [BitVec.toNat_and, ofInt_toNat ha (by simp only [IntKind.bits]; omega), ofInt_toNat hb (by simp only [IntKind.bits]; omega)]
  have : a.toNat &&& b.toNat ≤ a.toNat := Nat.and_le_left
  have h := wr_u8 ((a.toNat &&& b.toNat : Nat) : Int)
  unfold wr at h
  rw [h]; omega
theorem ior_u8 {a b : Int} (ha : 0 ≤ a) (ha1 : a < 256) (hb : 0 ≤ b) (hb1 : b < 256) : ior .u8 a b = ((a.toNat ||| b.toNat : Nat) : Int) := by
  unfold ior ibits
  rw [BitVec.toNat_or, ofInt_toNat ha (by simp only [IntKind.bits]; omega), ofInt_toNat hb (by simp only [IntKind.bits]; omega)]
  have : a.toNat ||| b.toNat < 2 ^ 8 := Nat.or_lt_two_pow (by omega) (by omega)
  have h := wr_u8 ((a.toNat ||| b.toNat : Nat) : Int)
  unfold wr at h
  rw [h]; omega

/-- a mask of low bits, of any number -/
theorem iand_mask {a : Int} (m : Nat) (hm : m < 63) : iand .i64 a (2 ^ m - 1) = a % 2 ^ m := by
  have hp : (2 : Int) ^ m < 2 ^ 63 := by exact_mod_cast Nat.pow_lt_pow_right (by omega) hm
  have hp' : (2 : Nat) ^ m < 2 ^ 63 := Nat.pow_lt_pow_right (by omega) hm
  have h1 : (1 : Nat) ≤ 2 ^ m := Nat.one_le_two_pow
  unfold iand ibits
  rw [BitVec.toNat_and]
  have e1 : (BitVec.ofInt (IntKind.i64).bits (2 ^ m - 1)).toNat = 2 ^ m - 1 := by
    rw [ofInt_toNat (by have : (1 : Int) ≤ 2 ^ m := by exact_mod_cast h1
                        omega) (by simp only [IntKind.bits]; omega)]
    have : ((2 : Int) ^ m - 1) = ((2 ^ m - 1 : Nat) : Int) := by push_cast [h1]; rfl
    rw [this]; rfl
  rw [e1, Nat.and_two_pow_sub_one_eq_mod]
  have e2 : (((BitVec.ofInt (IntKind.i64).bits a).toNat % 2 ^ m : Nat) : Int) = a % 2 ^ m := by
    rw [BitVec.toNat_ofInt]
    push_cast
    rw [Int.toNat_of_nonneg (Int.emod_nonneg _ (by simp [IntKind.bits]))]
    exact Int.emod_emod_of_dvd a (by simp only [IntKind.bits]; exact ⟨2 ^ (64 - m), by rw [← Int.pow_add]; congr 1; omega⟩)
  rw [e2]
  have h3 : 0 ≤ a % 2 ^ m := Int.emod_nonneg _ (by exact_mod_cast (Nat.pos_iff_ne_zero.1 h1))
  have h4 : a % 2 ^ m < 2 ^ m := Int.emod_lt_of_pos _ (by exact_mod_cast h1)
  exact wr_i64 (by omega) (by omega)
theorem and_65535 (a : Int) : iand .i64 a 65535 = a % 65536 := iand_mask 16 (by omega)
theorem and_255 (a : Int) : iand .i64 a 255 = a % 256 := iand_mask 8 (by omega)
theorem and_1 (a : Int) : iand .i64 a 1 = a % 2 := iand_mask 1 (by omega)
theorem and_4095 (a : Int) : iand .i64 a 4095 = a % 4096 := iand_mask 12 (by omega)
theorem and_15 (a : Int) : iand .i64 a 15 = a % 16 := iand_mask 4 (by omega)

theorem gshr_i64 (a b : Int) (h : b ≤ 64) : gshr .i64 a b = a.fdiv (2 ^ b.toNat) := by
  unfold gshr
  rw [Nat.min_eq_left (by simp only [IntKind.bits]; omega)]
theorem gshr8 (a : Int) : gshr .i64 a 8 = a / 256 := by rw [gshr_i64 _ _ (by omega)]; exact Int.fdiv_eq_ediv_of_nonneg _ (by decide)
theorem gshr16 (a : Int) : gshr .i64 a 16 = a / 65536 := by rw [gshr_i64 _ _ (by omega)]; exact Int.fdiv_eq_ediv_of_nonneg _ (by decide)
theorem gshr12 (a : Int) : gshr .i64 a 12 = a / 4096 := by rw [gshr_i64 _ _ (by omega)]; exact Int.fdiv_eq_ediv_of_nonneg _ (by decide)
theorem gshr13 (a : Int) : gshr .i64 a 13 = a / 8192 := by rw [gshr_i64 _ _ (by omega)]; exact Int.fdiv_eq_ediv_of_nonneg _ (by decide)
theorem gshr4 (a : Int) : gshr .i64 a 4 = a / 16 := by rw [gshr_i64 _ _ (by omega)]; exact Int.fdiv_eq_ediv_of_nonneg _ (by decide)
theorem gshr24 (a : Int) : gshr .i64 a 24 = a / 16777216 := by rw [gshr_i64 _ _ (by omega)]; exact Int.fdiv_eq_ediv_of_nonneg _ (by decide)
theorem gshl_i64 (a b : Int) (h : b ≤ 64) : gshl .i64 a b = wr .i64 (a * 2 ^ b.toNat) := by
  unfold gshl
  rw [Nat.min_eq_left (by simp only [IntKind.bits]; omega)]; rfl
theorem gshl8 (a : Int) : gshl .i64 a 8 = wr .i64 (a * 256) := gshl_i64 a 8 (by omega)
theorem gshl16 (a : Int) : gshl .i64 a 16 = wr .i64 (a * 65536) := gshl_i64 a 16 (by omega)
theorem gshl24 (a : Int) : gshl .i64 a 24 = wr .i64 (a * 16777216) := gshl_i64 a 24 (by omega)
theorem gshl12 (a : Int) : gshl .i64 a 12 = wr .i64 (a * 4096) := gshl_i64 a 12 (by omega)
theorem gshl13 (a : Int) : gshl .i64 a 13 = wr .i64 (a * 8192) := gshl_i64 a 13 (by omega)

/-- high and low bits together -/
theorem ior_add {a b : Int} (m : Nat) (ha : 0 ≤ a) (ha1 : a < 9223372036854775808) (hd : a % 2 ^ m = 0) (hb : 0 ≤ b) (hb1 : b < 2 ^ m) (hm : m < 63) : ior .i64 a b = a + b := by
  have hp : (2 : Int) ^ m < 2 ^ 63 := by exact_mod_cast Nat.pow_lt_pow_right (by omega) hm
  rw [ior_nat ha ha1 hb (by omega)]
  have e : a.toNat = 2 ^ m * (a.toNat / 2 ^ m) := by
    have h1 : a.toNat % 2 ^ m = 0 := by
      have : ((a.toNat % 2 ^ m : Nat) : Int) = 0 := by push_cast; rw [Int.toNat_of_nonneg ha]; exact hd
      exact_mod_cast this
    have := Nat.div_add_mod a.toNat (2 ^ m)
    omega
  have hb2 : b.toNat < 2 ^ m := by
    have : ((b.toNat : Nat) : Int) < ((2 ^ m : Nat) : Int) := by push_cast; omega
    exact_mod_cast this
  rw [e, ← Nat.two_pow_add_eq_or_of_lt hb2, ← e]
  push_cast
  omega

theorem tmod_pos {a b : Int} (h : 0 ≤ a) : Int.tmod a b = a % b := Int.tmod_eq_emod_of_nonneg h
theorem tdiv_pos {a b : Int} (h : 0 ≤ a) : Int.tdiv a b = a / b := Int.tdiv_eq_ediv_of_nonneg h
end Go.Vc
end

section
open Go Go.Vc Go.Vc.S6 Go.Proofs
set_option maxRecDepth 100000
set_option linter.unusedVariables false
namespace Go.Vc.S6
def vc77 (a : Sl) (b : Sl) (w : World) (R : SV → World → Prop) : Prop :=
  BytesStr w a fun (b_1 : ByteArray) => BytesStr w b fun (b : ByteArray) => R (SV.bool (b_1 == b)) w
theorem f77_of (a : Sl) (b : Sl) (w : World) (R : SV → World → Prop) (h : vc77 a b w R) : Ret Tryd.prog 77 [.slice a, .slice b] w R :=
  have e : vc77 a b w R = fnVC X Tryd.f77 a77 [.slice a, .slice b] w R := by kernel_rfl
  fnVC_sound X_ok (n := a77) (e ▸ h) (by kernel_rfl) (by kernel_rfl) rfl rfl

def vc18 (w : World) (R : SV → World → Prop) : Prop :=
  Ret Tryd.prog 57 [] w fun (r : SV) (w1 : World) =>
    ∃ (n : Int),
      ∃ (n_1 : Int),
        ∃ (b : Bool),
          ∃ (b_1 : Bool),
            ∃ (n_2 : Int),
              ∃ (n_3 : Int),
                ∃ (n_4 : Int),
                  ∃ (n_5 : Int),
                    ∃ (f : Nat → Int),
                      ∃ (n_6 : Int),
                        ∃ (f_1 : Nat → Int),
                          ∃ (s : Sl),
                            ∃ (s_1 : Sl),
                              ∃ (s_2 : Sl),
                                r =
                                    SV.tuple
                                      [SV.struct
                                          [SV.int IntKind.i64 n, SV.int IntKind.i64 n_1, SV.bool b, SV.bool b_1, SV.int IntKind.i64 n_2, SV.int IntKind.i64 n_3,
                                            SV.int IntKind.i64 n_4, SV.struct [SV.int IntKind.i64 n_5, SV.arr IntKind.u8 16 f],
                                            SV.struct [SV.int IntKind.i64 n_6, SV.arr IntKind.u8 16 f_1], SV.slice s, SV.slice s_1],
                                        SV.slice s_2] ∧
                                  ∀ (b_2 : Nat) (w1_1 : World),
                                    Upd [] [b_2] w1 w1_1 →
                                      Ret Tryd.prog 25
                                        [SV.struct
                                            [SV.int IntKind.i64 n, SV.int IntKind.i64 n_1, SV.bool b, SV.bool b_1, SV.int IntKind.i64 n_2, SV.int IntKind.i64 n_3,
                                              SV.int IntKind.i64 n_4, SV.struct [SV.int IntKind.i64 n_5, SV.arr IntKind.u8 16 f],
                                              SV.struct [SV.int IntKind.i64 n_6, SV.arr IntKind.u8 16 f_1], SV.slice s, SV.slice s_1]]
                                        w1_1 fun (r : SV) (w1 : World) =>
                                        ∃ (s_3 : Sl),
                                          ∃ (n_7 : Int),
                                            r = SV.tuple [SV.slice s_3, SV.int IntKind.i64 n_7] ∧
                                              Keeps [b_2] w1_1 w1 ∧
                                                Ret Tryd.prog 20 [SV.slice s_2] w1 fun (r : SV) (w1_2 : World) =>
                                                  ∃ (n_8 : Int),
                                                    ∃ (n_9 : Int),
                                                      ∃ (b_3 : Bool),
                                                        ∃ (b_4 : Bool),
                                                          ∃ (n_10 : Int),
                                                            ∃ (n_11 : Int),
                                                              ∃ (n_12 : Int),
                                                                ∃ (n_13 : Int),
                                                                  ∃ (f_2 : Nat → Int),
                                                                    ∃ (n_14 : Int),
                                                                      ∃ (f_3 : Nat → Int),
                                                                        ∃ (s_4 : Sl),
                                                                          ∃ (s_5 : Sl),
                                                                            ∃ (n_15 : Int),
                                                                              r =
                                                                                  SV.tuple
                                                                                    [SV.struct
                                                                                        [SV.int IntKind.i64 n_8, SV.int IntKind.i64 n_9, SV.bool b_3, SV.bool b_4,
                                                                                          SV.int IntKind.i64 n_10, SV.int IntKind.i64 n_11, SV.int IntKind.i64 n_12,
                                                                                          SV.struct [SV.int IntKind.i64 n_13, SV.arr IntKind.u8 16 f_2],
                                                                                          SV.struct [SV.int IntKind.i64 n_14, SV.arr IntKind.u8 16 f_3], SV.slice s_4, SV.slice s_5],
                                                                                      SV.int IntKind.i64 n_15] ∧
                                                                                Keeps [b_2] w1 w1_2 ∧
                                                                                  ∀ (b_5 : Nat) (w1 : World),
                                                                                    Upd [] [b_5] w1_2 w1 →
                                                                                      Ret Tryd.prog 20 [SV.slice { ptr := none, len := 0, cap := 0 }] w1
                                                                                        fun (r : SV) (w1_3 : World) =>
                                                                                        ∃ (n_16 : Int),
                                                                                          ∃ (n_17 : Int),
                                                                                            ∃ (b_6 : Bool),
                                                                                              ∃ (b_7 : Bool),
                                                                                                ∃ (n_18 : Int),
                                                                                                  ∃ (n_19 : Int),
                                                                                                    ∃ (n_20 : Int),
                                                                                                      ∃ (n_21 : Int),
                                                                                                        ∃ (f_4 : Nat → Int),
                                                                                                          ∃ (n_22 : Int),
                                                                                                            ∃ (f_5 : Nat → Int),
                                                                                                              ∃ (s_6 : Sl),
                                                                                                                ∃ (s_7 : Sl),
                                                                                                                  ∃ (n_23 : Int),
                                                                                                                    r =
                                                                                                                        SV.tuple
                                                                                                                          [SV.struct
                                                                                                                              [SV.int IntKind.i64 n_16, SV.int IntKind.i64 n_17,
                                                                                                                                SV.bool b_6, SV.bool b_7, SV.int IntKind.i64 n_18,
                                                                                                                                SV.int IntKind.i64 n_19, SV.int IntKind.i64 n_20,
                                                                                                                                SV.struct
                                                                                                                                  [SV.int IntKind.i64 n_21, SV.arr IntKind.u8 16 f_4],
                                                                                                                                SV.struct
                                                                                                                                  [SV.int IntKind.i64 n_22, SV.arr IntKind.u8 16 f_5],
                                                                                                                                SV.slice s_6, SV.slice s_7],
                                                                                                                            SV.int IntKind.i64 n_23] ∧
                                                                                                                      Keeps [b_2, b_5] w1 w1_3 ∧
                                                                                                                        ∀ (b_8 : Nat) (w1 : World),
                                                                                                                          Upd [] [b_8] w1_3 w1 →
                                                                                                                            Ret Tryd.prog 21 [SV.int IntKind.i64 n_7] w1
                                                                                                                              fun (r : SV) (w1_4 : World) =>
                                                                                                                              ∃ (n_24 : Int),
                                                                                                                                r = SV.int IntKind.i64 n_24 ∧
                                                                                                                                  Keeps [b_2, b_5, b_8] w1 w1_4 ∧
                                                                                                                                    Br (n_24 == 0)
                                                                                                                                      (Ret Tryd.prog 21 [SV.int IntKind.i64 n_15] w1_4
                                                                                                                                        fun (r : SV) (w1 : World) =>
                                                                                                                                        ∃ (n_25 : Int),
                                                                                                                                          r = SV.int IntKind.i64 n_25 ∧
                                                                                                                                            Keeps [b_2, b_5, b_8] w1_4 w1 ∧
                                                                                                                                              Br (n_25 == 0)
                                                                                                                                                (Ret Tryd.prog 21
                                                                                                                                                  [SV.int IntKind.i64 n_23] w1
                                                                                                                                                  fun (r : SV) (w1_5 : World) =>
                                                                                                                                                  ∃ (n_26 : Int),
                                                                                                                                                    r = SV.int IntKind.i64 n_26 ∧
                                                                                                                                                      Keeps [b_2, b_5, b_8] w1 w1_5 ∧
                                                                                                                                                        Br (n_26 == 60)
                                                                                                                                                          (Ret Tryd.prog 24
                                                                                                                                                            [SV.slice s_2,
                                                                                                                                                              SV.slice s_3]
                                                                                                                                                            w1_5
                                                                                                                                                            fun (r : SV)
                                                                                                                                                              (w1 : World) =>
                                                                                                                                                            ∃ (b_9 : Bool),
                                                                                                                                                              r = SV.bool b_9 ∧
                                                                                                                                                                Keeps [b_2, b_5, b_8]
                                                                                                                                                                    w1_5 w1 ∧
                                                                                                                                                                  Br b_9
                                                                                                                                                                    (Ret Tryd.prog 29
                                                                                                                                                                      [SV.struct
                                                                                                                                                                          [SV.int
                                                                                                                                                                              IntKind.i64
                                                                                                                                                                              n_8,
                                                                                                                                                                            SV.int
                                                                                                                                                                              IntKind.i64
                                                                                                                                                                              n_9,
                                                                                                                                                                            SV.bool
                                                                                                                                                                              b_3,
                                                                                                                                                                            SV.bool
                                                                                                                                                                              b_4,
                                                                                                                                                                            SV.int
                                                                                                                                                                              IntKind.i64
                                                                                                                                                                              n_10,
                                                                                                                                                                            SV.int
                                                                                                                                                                              IntKind.i64
                                                                                                                                                                              n_11,
                                                                                                                                                                            SV.int
                                                                                                                                                                              IntKind.i64
                                                                                                                                                                              n_12,
                                                                                                                                                                            SV.struct
                                                                                                                                                                              [SV.int
                                                                                                                                                                                  IntKind.i64
                                                                                                                                                                                  n_13,
                                                                                                                                                                                SV.arr
                                                                                                                                                                                  IntKind.u8
                                                                                                                                                                                  16
                                                                                                                                                                                  f_2],
                                                                                                                                                                            SV.struct
                                                                                                                                                                              [SV.int
                                                                                                                                                                                  IntKind.i64
                                                                                                                                                                                  n_14,
                                                                                                                                                                                SV.arr
                                                                                                                                                                                  IntKind.u8
                                                                                                                                                                                  16
                                                                                                                                                                                  f_3],
                                                                                                                                                                            SV.slice
                                                                                                                                                                              s_4,
                                                                                                                                                                            SV.slice
                                                                                                                                                                              s_5],
                                                                                                                                                                        SV.struct
                                                                                                                                                                          [SV.int
                                                                                                                                                                              IntKind.i64
                                                                                                                                                                              n,
                                                                                                                                                                            SV.int
                                                                                                                                                                              IntKind.i64
                                                                                                                                                                              n_1,
                                                                                                                                                                            SV.bool b,
                                                                                                                                                                            SV.bool
                                                                                                                                                                              b_1,
                                                                                                                                                                            SV.int
                                                                                                                                                                              IntKind.i64
                                                                                                                                                                              n_2,
                                                                                                                                                                            SV.int
                                                                                                                                                                              IntKind.i64
                                                                                                                                                                              n_3,
                                                                                                                                                                            SV.int
                                                                                                                                                                              IntKind.i64
                                                                                                                                                                              n_4,
                                                                                                                                                                            SV.struct
                                                                                                                                                                              [SV.int
                                                                                                                                                                                  IntKind.i64
                                                                                                                                                                                  n_5,
                                                                                                                                                                                SV.arr
                                                                                                                                                                                  IntKind.u8
                                                                                                                                                                                  16
                                                                                                                                                                                  f],
                                                                                                                                                                            SV.struct
                                                                                                                                                                              [SV.int
                                                                                                                                                                                  IntKind.i64
                                                                                                                                                                                  n_6,
                                                                                                                                                                                SV.arr
                                                                                                                                                                                  IntKind.u8
                                                                                                                                                                                  16
                                                                                                                                                                                  f_1],
                                                                                                                                                                            SV.slice
                                                                                                                                                                              s,
                                                                                                                                                                            SV.slice
                                                                                                                                                                              s_1]]
                                                                                                                                                                      w1
                                                                                                                                                                      fun (r : SV)
                                                                                                                                                                        (w1_6 :
                                                                                                                                                                          World) =>
                                                                                                                                                                      ∃ (b : Bool),
                                                                                                                                                                        r =
                                                                                                                                                                            SV.bool
                                                                                                                                                                              b ∧
                                                                                                                                                                          Keeps
                                                                                                                                                                              [b_2,
                                                                                                                                                                                b_5,
                                                                                                                                                                                b_8]
                                                                                                                                                                              w1
                                                                                                                                                                              w1_6 ∧
                                                                                                                                                                            R
                                                                                                                                                                              (SV.bool
                                                                                                                                                                                b)
                                                                                                                                                                              w1_6)
                                                                                                                                                                    (R (SV.bool false)
                                                                                                                                                                      w1))
                                                                                                                                                          (R (SV.bool false) w1_5))
                                                                                                                                                (R (SV.bool false) w1))
                                                                                                                                      (R (SV.bool false) w1_4)
theorem f18_of (w : World) (R : SV → World → Prop) (h : vc18 w R) : Ret Tryd.prog 18 [] w R :=
  have e : vc18 w R = fnVC X Tryd.f18 a18 [] w R := by kernel_rfl
  fnVC_sound X_ok (n := a18) (e ▸ h) (by kernel_rfl) (by kernel_rfl) rfl rfl

def vc57 (w : World) (R : SV → World → Prop) : Prop :=
  ∀ (b : Nat) (w1 : World),
    Upd [] [b] w w1 →
      ∀ (b_1 : Nat) (w1_1 : World),
        Upd [] [b_1] w1 w1_1 →
          (World.heap w1_1)[b_1]? = some (Obj.cells { toList := SV.cells (SV.struct [SV.int IntKind.u8 104, SV.int IntKind.u8 105]) } 5) →
            MarkStr w1_1 { ptr := some { block := b_1, off := 0 }, len := 2, cap := 2 } [b] fun (w : World) =>
              ∀ (b_2 : Nat) (w1 : World),
                Upd [] [b_2] w w1 →
                  ∀ (b_3 : Nat) (w1_2 : World),
                    Upd [] [b_3] w1 w1_2 →
                      (World.heap w1_2)[b_3]? =
                          some
                            (Obj.cells
                              {
                                toList :=
                                  SV.cells
                                    (SV.struct
                                      [SV.int IntKind.u8 69, SV.int IntKind.u8 0, SV.int IntKind.u8 0, SV.int IntKind.u8 22, SV.int IntKind.u8 0, SV.int IntKind.u8 0,
                                        SV.int IntKind.u8 0, SV.int IntKind.u8 0, SV.int IntKind.u8 64, SV.int IntKind.u8 17, SV.int IntKind.u8 102, SV.int IntKind.u8 213,
                                        SV.int IntKind.u8 10, SV.int IntKind.u8 0, SV.int IntKind.u8 0, SV.int IntKind.u8 1, SV.int IntKind.u8 10, SV.int IntKind.u8 0,
                                        SV.int IntKind.u8 0, SV.int IntKind.u8 2, SV.int IntKind.u8 104, SV.int IntKind.u8 105]) }
                              5) →
                        ∀ (w1 : World),
                          Upd [b] [] w1_2 w1 →
                            R
                              (SV.tuple
                                [SV.struct
                                    [SV.int IntKind.i64 0, SV.int IntKind.i64 0, SV.bool false, SV.bool false, SV.int IntKind.i64 0, SV.int IntKind.i64 64, SV.int IntKind.i64 17,
                                      SV.struct [SV.int IntKind.i64 4, SV.arr IntKind.u8 16 (fset (fset (fset (fset (fun (x : Nat) => 0) 0 10) 1 0) 2 0) 3 1)],
                                      SV.struct [SV.int IntKind.i64 4, SV.arr IntKind.u8 16 (fset (fset (fset (fset (fun (x : Nat) => 0) 0 10) 1 0) 2 0) 3 2)],
                                      SV.slice { ptr := none, len := 0, cap := 0 }, SV.slice { ptr := some { block := b_1, off := 0 }, len := 2, cap := 2 }],
                                  SV.slice { ptr := some { block := b_3, off := 0 }, len := 22, cap := 22 }])
                              w1
theorem f57_of (w : World) (R : SV → World → Prop) (h : vc57 w R) : Ret Tryd.prog 57 [] w R :=
  have e : vc57 w R = fnVC X Tryd.f57 a57 [] w R := by kernel_rfl
  fnVC_sound X_ok (n := a57) (e ▸ h) (by kernel_rfl) (by kernel_rfl) rfl rfl

end Go.Vc.S6
end

section
open Go Go.Vc Go.Vc.S6 Go.Proofs
set_option maxRecDepth 100000
set_option linter.unusedVariables false
namespace Go.Vc.S6
def vc85 (b : Sl) (p1 : Int) (w : World) (R : SV → World → Prop) : Prop :=
  ∀ (b_1 b_2 : Nat),
    ∃ (I : Int → Int → (Nat → Int) → World → Prop),
      ∃ (M : Int → Int → (Nat → Int) → World → Nat),
        (∀ (w1 : World), Upd [] [b_2, b_1] w w1 → I 0 4 (fun (x : Nat) => 0) w1) ∧
          ∀ (n n_1 : Int) (f : Nat → Int) (w1 : World),
            I n n_1 f w1 →
              Br (decide (n < 4))
                (Need (decide (0 ≤ wr IntKind.i64 (p1 + n)) && decide (wr IntKind.i64 (p1 + n) < (↑b.2 : Int)) && Option.isSome b.1)
                  (∃ (n_2 : Int),
                    World.cell? w1 (Sl.at b 1 (Int.toNat (wr IntKind.i64 (p1 + n)))) = some (Value.int IntKind.u8 n_2) ∧
                      Need (decide (0 ≤ n) && decide (n < 16))
                        (∀ (w1_1 : World),
                          Upd [b_2] [] w1 w1_1 →
                            some (SV.box b_1 27 (SV.struct [SV.int IntKind.i64 0, SV.arr IntKind.u8 16 fun (x : Nat) => 0])) =
                                some (SV.box b_1 27 (SV.struct [SV.int IntKind.i64 0, SV.arr IntKind.u8 16 fun (x : Nat) => 0])) ∧
                              (b_2, 27) = (b_2, 27) ∧
                                I (wr IntKind.i64 (n + 1)) n_1 (fset f (Int.toNat n) n_2) w1_1 ∧ M (wr IntKind.i64 (n + 1)) n_1 (fset f (Int.toNat n) n_2) w1_1 < M n n_1 f w1)))
                (∀ (w1_1 : World), Upd [b_1] [] w1 w1_1 → R (SV.struct [SV.int IntKind.i64 n_1, SV.arr IntKind.u8 16 f]) w1_1)
theorem f85_of (b : Sl) (p1 : Int) (w : World) (R : SV → World → Prop) (h : vc85 b p1 w R) : Ret Tryd.prog 85 [.slice b, .int .i64 p1] w R :=
  have e : vc85 b p1 w R = fnVC X Tryd.f85 a85 [.slice b, .int .i64 p1] w R := by kernel_rfl
  fnVC_sound X_ok (n := a85) (e ▸ h) (by kernel_rfl) (by kernel_rfl) rfl rfl

def vc47 (b : Sl) (w : World) (R : SV → World → Prop) : Prop := ∀ (b_1 b_2 : Nat), Br (decide ((↑b.2 : Int) > 65535)) (∀ (w1 : World), Upd [] [b_2, b_1]
  w w1 → R (SV.tuple [SV.struct [SV.int IntKind.i64 0, SV.int IntKind.i64 0, SV.bool false, SV.bool false, SV.int IntKind.i64 0, SV.int IntKind.i64 0, SV.int
  IntKind.i64 0, SV.struct [SV.int IntKind.i64 0, SV.arr IntKind.u8 16 fun (x : Nat) => 0], SV.struct [SV.int IntKind.i64 0, SV.arr IntKind.u8 16 fun (x :
  Nat) => 0], SV.slice { ptr := none, len := 0, cap := 0 }, SV.slice { ptr := none, len := 0, cap := 0 }], SV.int IntKind.i64 2]) w1) (Br (decide ((↑b.2 :
  Int) < 20)) (∀ (w1 : World), Upd [] [b_2, b_1] w w1 → R (SV.tuple [SV.struct [SV.int IntKind.i64 0, SV.int IntKind.i64 0, SV.bool false, SV.bool false,
  SV.int IntKind.i64 0, SV.int IntKind.i64 0, SV.int IntKind.i64 0, SV.struct [SV.int IntKind.i64 0, SV.arr IntKind.u8 16 fun (x : Nat) => 0], SV.struct [SV.int
  IntKind.i64 0, SV.arr IntKind.u8 16 fun (x : Nat) => 0], SV.slice { ptr := none, len := 0, cap := 0 }, SV.slice { ptr := none, len := 0, cap := 0 }], SV.int
  IntKind.i64 60]) w1) (Need (decide (0 < (↑b.2 : Int)) && Option.isSome b.1) (∃ (n : Int), World.cell? w (Sl.at b 1 0) = some (Value.int IntKind.u8 n) ∧
  ∀ (w1 : World), Upd [] [b_2, b_1] w w1 → Ret Tryd.prog 83 [SV.slice b, SV.int IntKind.i64 2] w1 fun (r : SV) (w1_1 : World) => ∃ (n_1 : Int), r = SV.int
  IntKind.i64 n_1 ∧ Keeps [b_1, b_2] w1 w1_1 ∧ ∀ (J : Int → Int → Bool → Bool → Int → Int → Int → Int → (Nat → Int) → Int → (Nat → Int) → Sl → Sl → World
  → Prop), (∀ (n_2 n_3 : Int) (b_3 b_4 : Bool) (n_4 n_5 n_6 n_7 : Int) (f : Nat → Int) (n_8 : Int) (f_1 : Nat → Int) (s s_1 : Sl) (w1 : World), Need (decide
  (0 ≤ wr IntKind.i64 (wr IntKind.i64 (Int.tmod n 16) * 4)) && decide (wr IntKind.i64 (wr IntKind.i64 (Int.tmod n 16) * 4) ≤ (↑b.3 : Int))) (∀ (b_5 : Nat)
  (w1_2 : World), Upd [] [b_5] w1 w1_2 → (World.heap w1_2)[b_5]? = some (Obj.cells { toList := SV.cells (SV.struct [SV.slice (Sl.sub b 1 0 (Int.toNat (wr IntKind.i64 (wr IntKind.i64 (Int.tmod n 16) * 4))) b.3)]) }
  22) → Ret Tryd.prog 84 [SV.slice { ptr := some { block := b_5, off := 0 }, len := 1, cap := 1 }] w1_2 fun (r : SV) (w1 : World) => ∃ (b_6 : Bool), r = SV.bool
  b_6 ∧ Keeps [b_1, b_2] w1_2 w1 ∧ Br (!b_6) (∀ (w1_3 : World), Upd [b_1] [] w1 w1_3 → R (SV.tuple [SV.struct [SV.int IntKind.i64 0, SV.int IntKind.i64 0,
  SV.bool false, SV.bool false, SV.int IntKind.i64 0, SV.int IntKind.i64 0, SV.int IntKind.i64 0, SV.struct [SV.int IntKind.i64 0, SV.arr IntKind.u8 16 fun
  (x : Nat) => 0], SV.struct [SV.int IntKind.i64 0, SV.arr IntKind.u8 16 fun (x : Nat) => 0], SV.slice { ptr := none, len := 0, cap := 0 }, SV.slice { ptr := none, len := 0, cap := 0 }],
  SV.int IntKind.i64 64]) w1_3) (Need (decide (0 ≤ wr IntKind.i64 (wr IntKind.i64 (Int.tmod n 16) * 4)) && decide (wr IntKind.i64 (wr IntKind.i64 (Int.tmod
  n 16) * 4) ≤ (↑b.3 : Int)) && decide (20 ≤ (↑(Int.toNat (wr IntKind.i64 (wr IntKind.i64 (Int.tmod n 16) * 4))) : Int))) (Ret Tryd.prog 50 [SV.slice (Sl.sub
  b 1 20 (Int.toNat (wr IntKind.i64 (wr IntKind.i64 (Int.tmod n 16) * 4))) b.3)] w1 fun (r : SV) (w1_3 : World) => ∃ (s : Sl), ∃ (n_9 : Int), r = SV.tuple
  [SV.slice s, SV.int IntKind.i64 n_9] ∧ Keeps [b_1, b_2] w1 w1_3 ∧ Br (n_9 != 0) (∀ (w1 : World), Upd [b_1] [] w1_3 w1 → R (SV.tuple [SV.struct [SV.int IntKind.i64
  0, SV.int IntKind.i64 0, SV.bool false, SV.bool false, SV.int IntKind.i64 0, SV.int IntKind.i64 0, SV.int IntKind.i64 0, SV.struct [SV.int IntKind.i64 0,
  SV.arr IntKind.u8 16 fun (x : Nat) => 0], SV.struct [SV.int IntKind.i64 0, SV.arr IntKind.u8 16 fun (x : Nat) => 0], SV.slice { ptr := none, len := 0, cap := 0 },
  SV.slice { ptr := none, len := 0, cap := 0 }], SV.int IntKind.i64 n_9]) w1) (Ret Tryd.prog 83 [SV.slice b, SV.int IntKind.i64 6] w1_3 fun (r : SV) (w1 :
  World) => ∃ (n_10 : Int), r = SV.int IntKind.i64 n_10 ∧ Keeps [b_1, b_2] w1_3 w1 ∧ Need (decide (1 < (↑b.2 : Int)) && Option.isSome b.1) (∃ (n_11 : Int),
  World.cell? w1 (Sl.at b 1 1) = some (Value.int IntKind.u8 n_11) ∧ Need (decide (8 < (↑b.2 : Int)) && Option.isSome b.1) (∃ (n_12 : Int), World.cell? w1
  (Sl.at b 1 8) = some (Value.int IntKind.u8 n_12) ∧ Need (decide (9 < (↑b.2 : Int)) && Option.isSome b.1) (∃ (n_13 : Int), World.cell? w1 (Sl.at b 1 9) =
  some (Value.int IntKind.u8 n_13) ∧ Need (decide (0 ≤ n_1) && decide (n_1 ≤ (↑b.3 : Int)) && (decide (0 ≤ wr IntKind.i64 (wr IntKind.i64 (Int.tmod n 16)
  * 4)) && decide (wr IntKind.i64 (wr IntKind.i64 (Int.tmod n 16) * 4) ≤ (↑(Int.toNat n_1) : Int)))) ((∀ (w1_4 : World), Upd [] [] w1 w1_4 → Ret Tryd.prog
  83 [SV.slice b, SV.int IntKind.i64 4] w1_4 fun (r : SV) (w1_5 : World) => ∃ (n_14 : Int), r = SV.int IntKind.i64 n_14 ∧ Keeps [b_1, b_2] w1_4 w1_5 ∧ Upd
  [] [] w1 w1_5 ∧ (Ret Tryd.prog 85 [SV.slice b, SV.int IntKind.i64 12] w1_5 fun (r : SV) (w1_6 : World) => ∃ (n_15 : Int), ∃ (f : Nat → Int), r = SV.struct
  [SV.int IntKind.i64 n_15, SV.arr IntKind.u8 16 f] ∧ Keeps [b_1, b_2] w1_5 w1_6 ∧ Upd [] [] w1 w1_6 ∧ (Ret Tryd.prog 85 [SV.slice b, SV.int IntKind.i64 16]
  w1_6 fun (r : SV) (w1_7 : World) => ∃ (n_16 : Int), ∃ (f_2 : Nat → Int), r = SV.struct [SV.int IntKind.i64 n_16, SV.arr IntKind.u8 16 f_2] ∧ Keeps [b_1,
  b_2] w1_6 w1_7 ∧ Upd [] [] w1 w1_7 ∧ (Ret Tryd.prog 23 [SV.slice (Sl.sub b 1 (Int.toNat (wr IntKind.i64 (wr IntKind.i64 (Int.tmod n 16) * 4))) (Int.toNat
  n_1) b.3)] w1_7 fun (r : SV) (w1_8 : World) => ∃ (s_2 : Sl), r = SV.slice s_2 ∧ Keeps [b_1, b_2] w1_7 w1_8 ∧ Upd [] [] w1 w1_8 ∧ ∀ (b : Nat), Upd [] []
  w1 w1_8 ∧ ∀ (w1 : World), Upd [] [b] w1_8 w1 → Ret Tryd.prog 74 [SV.bool (Int.tmod (wr IntKind.i64 (Int.tdiv n_10 8192)) 2 == 1), SV.int IntKind.i64 (wr
  IntKind.i64 (Int.tmod n_10 8192 * 8)), SV.int IntKind.i64 (↑s_2.2 : Int)] w1 fun (r : SV) (w1_9 : World) => ∃ (b_7 : Bool), r = SV.bool b_7 ∧ Keeps [b_1,
  b_2, b] w1 w1_9 ∧ Br b_7 (∀ (w1 : World), Upd [b_1] [] w1_9 w1 → R (SV.tuple [SV.struct [SV.int IntKind.i64 0, SV.int IntKind.i64 0, SV.bool false, SV.bool
  false, SV.int IntKind.i64 0, SV.int IntKind.i64 0, SV.int IntKind.i64 0, SV.struct [SV.int IntKind.i64 0, SV.arr IntKind.u8 16 fun (x : Nat) => 0], SV.struct
  [SV.int IntKind.i64 0, SV.arr IntKind.u8 16 fun (x : Nat) => 0], SV.slice { ptr := none, len := 0, cap := 0 }, SV.slice { ptr := none, len := 0, cap := 0 }],
  SV.int IntKind.i64 66]) w1) (∀ (w1 : World), Upd [b_1] [] w1_9 w1 → R (SV.tuple [SV.struct [SV.int IntKind.i64 (wr IntKind.i64 n_11), SV.int IntKind.i64
  n_14, SV.bool (Int.tmod (wr IntKind.i64 (Int.tdiv n_10 16384)) 2 == 1), SV.bool (Int.tmod (wr IntKind.i64 (Int.tdiv n_10 8192)) 2 == 1), SV.int IntKind.i64
  (wr IntKind.i64 (Int.tmod n_10 8192 * 8)), SV.int IntKind.i64 (wr IntKind.i64 n_12), SV.int IntKind.i64 (wr IntKind.i64 n_13), SV.struct [SV.int IntKind.i64
  n_15, SV.arr IntKind.u8 16 f], SV.struct [SV.int IntKind.i64 n_16, SV.arr IntKind.u8 16 f_2], SV.slice s, SV.slice s_2], SV.int IntKind.i64 0]) w1)) ∧ ∀
  (b_7 : Nat), Upd [] [] w1 w1_7 ∧ ∀ (w1_8 : World), Upd [] [b_7] w1_7 w1_8 → Ret Tryd.prog 23 [SV.slice (Sl.sub b 1 (Int.toNat (wr IntKind.i64 (wr IntKind.i64
  (Int.tmod n 16) * 4))) (Int.toNat n_1) b.3)] w1_8 fun (r : SV) (w1_9 : World) => ∃ (s_2 : Sl), r = SV.slice s_2 ∧ Keeps [b_1, b_2, b_7] w1_8 w1_9 ∧ Upd
  [] [] w1 w1_9 ∧ ∀ (w1 : World), Upd [b_7] [] w1_9 w1 → Ret Tryd.prog 74 [SV.bool (Int.tmod (wr IntKind.i64 (Int.tdiv n_10 8192)) 2 == 1), SV.int IntKind.i64
  (wr IntKind.i64 (Int.tmod n_10 8192 * 8)), SV.int IntKind.i64 (↑s_2.2 : Int)] w1 fun (r : SV) (w1_10 : World) => ∃ (b : Bool), r = SV.bool b ∧ Keeps [b_1,
  b_2, b_7] w1 w1_10 ∧ Br b (∀ (w1 : World), Upd [b_1] [] w1_10 w1 → R (SV.tuple [SV.struct [SV.int IntKind.i64 0, SV.int IntKind.i64 0, SV.bool false, SV.bool
  false, SV.int IntKind.i64 0, SV.int IntKind.i64 0, SV.int IntKind.i64 0, SV.struct [SV.int IntKind.i64 0, SV.arr IntKind.u8 16 fun (x : Nat) => 0], SV.struct
  [SV.int IntKind.i64 0, SV.arr IntKind.u8 16 fun (x : Nat) => 0], SV.slice { ptr := none, len := 0, cap := 0 }, SV.slice { ptr := none, len := 0, cap := 0 }],
  SV.int IntKind.i64 66]) w1) (∀ (w1 : World), Upd [b_1] [] w1_10 w1 → R (SV.tuple [SV.struct [SV.int IntKind.i64 (wr IntKind.i64 n_11), SV.int IntKind.i64
  n_14, SV.bool (Int.tmod (wr IntKind.i64 (Int.tdiv n_10 16384)) 2 == 1), SV.bool (Int.tmod (wr IntKind.i64 (Int.tdiv n_10 8192)) 2 == 1), SV.int IntKind.i64
  (wr IntKind.i64 (Int.tmod n_10 8192 * 8)), SV.int IntKind.i64 (wr IntKind.i64 n_12), SV.int IntKind.i64 (wr IntKind.i64 n_13), SV.struct [SV.int IntKind.i64
  n_15, SV.arr IntKind.u8 16 f], SV.struct [SV.int IntKind.i64 n_16, SV.arr IntKind.u8 16 f_2], SV.slice s, SV.slice s_2], SV.int IntKind.i64 0]) w1)) ∧ ∀
  (b_7 : Nat), Upd [] [] w1 w1_6 ∧ ∀ (w1_7 : World), Upd [] [b_7] w1_6 w1_7 → Ret Tryd.prog 85 [SV.slice b, SV.int IntKind.i64 16] w1_7 fun (r : SV) (w1_8
  : World) => ∃ (n_16 : Int), ∃ (f_2 : Nat → Int), r = SV.struct [SV.int IntKind.i64 n_16, SV.arr IntKind.u8 16 f_2] ∧ Keeps [b_1, b_2, b_7] w1_7 w1_8 ∧ Upd
  [] [] w1 w1_8 ∧ Ret Tryd.prog 23 [SV.slice (Sl.sub b 1 (Int.toNat (wr IntKind.i64 (wr IntKind.i64 (Int.tmod n 16) * 4))) (Int.toNat n_1) b.3)] w1_8 fun
  (r : SV) (w1_9 : World) => ∃ (s_2 : Sl), r = SV.slice s_2 ∧ Keeps [b_1, b_2, b_7] w1_8 w1_9 ∧ Upd [] [] w1 w1_9 ∧ ∀ (w1 : World), Upd [b_7] [] w1_9 w1 →
  Ret Tryd.prog 74 [SV.bool (Int.tmod (wr IntKind.i64 (Int.tdiv n_10 8192)) 2 == 1), SV.int IntKind.i64 (wr IntKind.i64 (Int.tmod n_10 8192 * 8)), SV.int
  IntKind.i64 (↑s_2.2 : Int)] w1 fun (r : SV) (w1_10 : World) => ∃ (b : Bool), r = SV.bool b ∧ Keeps [b_1, b_2, b_7] w1 w1_10 ∧ Br b (∀ (w1 : World), Upd
  [b_1] [] w1_10 w1 → R (SV.tuple [SV.struct [SV.int IntKind.i64 0, SV.int IntKind.i64 0, SV.bool false, SV.bool false, SV.int IntKind.i64 0, SV.int IntKind.i64
  0, SV.int IntKind.i64 0, SV.struct [SV.int IntKind.i64 0, SV.arr IntKind.u8 16 fun (x : Nat) => 0], SV.struct [SV.int IntKind.i64 0, SV.arr IntKind.u8 16
  fun (x : Nat) => 0], SV.slice { ptr := none, len := 0, cap := 0 }, SV.slice { ptr := none, len := 0, cap := 0 }], SV.int IntKind.i64 66]) w1) (∀ (w1 : World),
  Upd [b_1] [] w1_10 w1 → R (SV.tuple [SV.struct [SV.int IntKind.i64 (wr IntKind.i64 n_11), SV.int IntKind.i64 n_14, SV.bool (Int.tmod (wr IntKind.i64 (Int.tdiv
  n_10 16384)) 2 == 1), SV.bool (Int.tmod (wr IntKind.i64 (Int.tdiv n_10 8192)) 2 == 1), SV.int IntKind.i64 (wr IntKind.i64 (Int.tmod n_10 8192 * 8)), SV.int
  IntKind.i64 (wr IntKind.i64 n_12), SV.int IntKind.i64 (wr IntKind.i64 n_13), SV.struct [SV.int IntKind.i64 n_15, SV.arr IntKind.u8 16 f], SV.struct [SV.int
  IntKind.i64 n_16, SV.arr IntKind.u8 16 f_2], SV.slice s, SV.slice s_2], SV.int IntKind.i64 0]) w1)) ∧ ∀ (b_7 : Nat), Upd [] [] w1 w1_5 ∧ ∀ (w1_6 : World),
  Upd [] [b_7] w1_5 w1_6 → Ret Tryd.prog 85 [SV.slice b, SV.int IntKind.i64 12] w1_6 fun (r : SV) (w1_7 : World) => ∃ (n_15 : Int), ∃ (f : Nat → Int), r =
  SV.struct [SV.int IntKind.i64 n_15, SV.arr IntKind.u8 16 f] ∧ Keeps [b_1, b_2, b_7] w1_6 w1_7 ∧ Upd [] [] w1 w1_7 ∧ Ret Tryd.prog 85 [SV.slice b, SV.int
  IntKind.i64 16] w1_7 fun (r : SV) (w1_8 : World) => ∃ (n_16 : Int), ∃ (f_2 : Nat → Int), r = SV.struct [SV.int IntKind.i64 n_16, SV.arr IntKind.u8 16 f_2]
  ∧ Keeps [b_1, b_2, b_7] w1_7 w1_8 ∧ Upd [] [] w1 w1_8 ∧ Ret Tryd.prog 23 [SV.slice (Sl.sub b 1 (Int.toNat (wr IntKind.i64 (wr IntKind.i64 (Int.tmod n 16)
  * 4))) (Int.toNat n_1) b.3)] w1_8 fun (r : SV) (w1_9 : World) => ∃ (s_2 : Sl), r = SV.slice s_2 ∧ Keeps [b_1, b_2, b_7] w1_8 w1_9 ∧ Upd [] [] w1 w1_9 ∧
  ∀ (w1 : World), Upd [b_7] [] w1_9 w1 → Ret Tryd.prog 74 [SV.bool (Int.tmod (wr IntKind.i64 (Int.tdiv n_10 8192)) 2 == 1), SV.int IntKind.i64 (wr IntKind.i64
  (Int.tmod n_10 8192 * 8)), SV.int IntKind.i64 (↑s_2.2 : Int)] w1 fun (r : SV) (w1_10 : World) => ∃ (b : Bool), r = SV.bool b ∧ Keeps [b_1, b_2, b_7] w1
  w1_10 ∧ Br b (∀ (w1 : World), Upd [b_1] [] w1_10 w1 → R (SV.tuple [SV.struct [SV.int IntKind.i64 0, SV.int IntKind.i64 0, SV.bool false, SV.bool false,
  SV.int IntKind.i64 0, SV.int IntKind.i64 0, SV.int IntKind.i64 0, SV.struct [SV.int IntKind.i64 0, SV.arr IntKind.u8 16 fun (x : Nat) => 0], SV.struct [SV.int
  IntKind.i64 0, SV.arr IntKind.u8 16 fun (x : Nat) => 0], SV.slice { ptr := none, len := 0, cap := 0 }, SV.slice { ptr := none, len := 0, cap := 0 }], SV.int
  IntKind.i64 66]) w1) (∀ (w1 : World), Upd [b_1] [] w1_10 w1 → R (SV.tuple [SV.struct [SV.int IntKind.i64 (wr IntKind.i64 n_11), SV.int IntKind.i64 n_14,
  SV.bool (Int.tmod (wr IntKind.i64 (Int.tdiv n_10 16384)) 2 == 1), SV.bool (Int.tmod (wr IntKind.i64 (Int.tdiv n_10 8192)) 2 == 1), SV.int IntKind.i64 (wr
  IntKind.i64 (Int.tmod n_10 8192 * 8)), SV.int IntKind.i64 (wr IntKind.i64 n_12), SV.int IntKind.i64 (wr IntKind.i64 n_13), SV.struct [SV.int IntKind.i64
  n_15, SV.arr IntKind.u8 16 f], SV.struct [SV.int IntKind.i64 n_16, SV.arr IntKind.u8 16 f_2], SV.slice s, SV.slice s_2], SV.int IntKind.i64 0]) w1)) ∧ ∀
  (b_7 : Nat), Upd [] [] w1 w1 ∧ ∀ (w1_4 : World), Upd [] [b_7] w1 w1_4 → Ret Tryd.prog 83 [SV.slice b, SV.int IntKind.i64 4] w1_4 fun (r : SV) (w1_5 : World)
  => ∃ (n_14 : Int), r = SV.int IntKind.i64 n_14 ∧ Keeps [b_1, b_2, b_7] w1_4 w1_5 ∧ Upd [] [] w1 w1_5 ∧ Ret Tryd.prog 85 [SV.slice b, SV.int IntKind.i64
  12] w1_5 fun (r : SV) (w1_6 : World) => ∃ (n_15 : Int), ∃ (f : Nat → Int), r = SV.struct [SV.int IntKind.i64 n_15, SV.arr IntKind.u8 16 f] ∧ Keeps [b_1,
  b_2, b_7] w1_5 w1_6 ∧ Upd [] [] w1 w1_6 ∧ Ret Tryd.prog 85 [SV.slice b, SV.int IntKind.i64 16] w1_6 fun (r : SV) (w1_7 : World) => ∃ (n_16 : Int), ∃ (f_2
  : Nat → Int), r = SV.struct [SV.int IntKind.i64 n_16, SV.arr IntKind.u8 16 f_2] ∧ Keeps [b_1, b_2, b_7] w1_6 w1_7 ∧ Upd [] [] w1 w1_7 ∧ Ret Tryd.prog 23
  [SV.slice (Sl.sub b 1 (Int.toNat (wr IntKind.i64 (wr IntKind.i64 (Int.tmod n 16) * 4))) (Int.toNat n_1) b.3)] w1_7 fun (r : SV) (w1_8 : World) => ∃ (s_2
  : Sl), r = SV.slice s_2 ∧ Keeps [b_1, b_2, b_7] w1_7 w1_8 ∧ Upd [] [] w1 w1_8 ∧ ∀ (w1 : World), Upd [b_7] [] w1_8 w1 → Ret Tryd.prog 74 [SV.bool (Int.tmod
  (wr IntKind.i64 (Int.tdiv n_10 8192)) 2 == 1), SV.int IntKind.i64 (wr IntKind.i64 (Int.tmod n_10 8192 * 8)), SV.int IntKind.i64 (↑s_2.2 : Int)] w1 fun (r
  : SV) (w1_9 : World) => ∃ (b : Bool), r = SV.bool b ∧ Keeps [b_1, b_2, b_7] w1 w1_9 ∧ Br b (∀ (w1 : World), Upd [b_1] [] w1_9 w1 → R (SV.tuple [SV.struct
  [SV.int IntKind.i64 0, SV.int IntKind.i64 0, SV.bool false, SV.bool false, SV.int IntKind.i64 0, SV.int IntKind.i64 0, SV.int IntKind.i64 0, SV.struct [SV.int
  IntKind.i64 0, SV.arr IntKind.u8 16 fun (x : Nat) => 0], SV.struct [SV.int IntKind.i64 0, SV.arr IntKind.u8 16 fun (x : Nat) => 0], SV.slice { ptr := none, len := 0, cap := 0 },
  SV.slice { ptr := none, len := 0, cap := 0 }], SV.int IntKind.i64 66]) w1) (∀ (w1 : World), Upd [b_1] [] w1_9 w1 → R (SV.tuple [SV.struct [SV.int IntKind.i64
  (wr IntKind.i64 n_11), SV.int IntKind.i64 n_14, SV.bool (Int.tmod (wr IntKind.i64 (Int.tdiv n_10 16384)) 2 == 1), SV.bool (Int.tmod (wr IntKind.i64 (Int.tdiv
  n_10 8192)) 2 == 1), SV.int IntKind.i64 (wr IntKind.i64 (Int.tmod n_10 8192 * 8)), SV.int IntKind.i64 (wr IntKind.i64 n_12), SV.int IntKind.i64 (wr IntKind.i64
  n_13), SV.struct [SV.int IntKind.i64 n_15, SV.arr IntKind.u8 16 f], SV.struct [SV.int IntKind.i64 n_16, SV.arr IntKind.u8 16 f_2], SV.slice s, SV.slice
  s_2], SV.int IntKind.i64 0]) w1))))))))) → J n_2 n_3 b_3 b_4 n_4 n_5 n_6 n_7 f n_8 f_1 s s_1 w1) → Need (decide (0 < (↑b.2 : Int)) && Option.isSome b.1)
  (∃ (n_2 : Int), World.cell? w1_1 (Sl.at b 1 0) = some (Value.int IntKind.u8 n_2) ∧ Br (wr IntKind.u8 (Int.tdiv n_2 16) != 4) (∀ (w1 : World), Upd [b_1]
  [] w1_1 w1 → R (SV.tuple [SV.struct [SV.int IntKind.i64 0, SV.int IntKind.i64 0, SV.bool false, SV.bool false, SV.int IntKind.i64 0, SV.int IntKind.i64
  0, SV.int IntKind.i64 0, SV.struct [SV.int IntKind.i64 0, SV.arr IntKind.u8 16 fun (x : Nat) => 0], SV.struct [SV.int IntKind.i64 0, SV.arr IntKind.u8 16
  fun (x : Nat) => 0], SV.slice { ptr := none, len := 0, cap := 0 }, SV.slice { ptr := none, len := 0, cap := 0 }], SV.int IntKind.i64 61]) w1) (Br (decide
  (wr IntKind.i64 (wr IntKind.i64 (Int.tmod n 16) * 4) < 20)) (∀ (w1 : World), Upd [b_1] [] w1_1 w1 → R (SV.tuple [SV.struct [SV.int IntKind.i64 0, SV.int
  IntKind.i64 0, SV.bool false, SV.bool false, SV.int IntKind.i64 0, SV.int IntKind.i64 0, SV.int IntKind.i64 0, SV.struct [SV.int IntKind.i64 0, SV.arr IntKind.u8
  16 fun (x : Nat) => 0], SV.struct [SV.int IntKind.i64 0, SV.arr IntKind.u8 16 fun (x : Nat) => 0], SV.slice { ptr := none, len := 0, cap := 0 }, SV.slice
  { ptr := none, len := 0, cap := 0 }], SV.int IntKind.i64 62]) w1) (Br (decide (wr IntKind.i64 (wr IntKind.i64 (Int.tmod n 16) * 4) > (↑b.2 : Int))) (∀ (w1
  : World), Upd [b_1] [] w1_1 w1 → R (SV.tuple [SV.struct [SV.int IntKind.i64 0, SV.int IntKind.i64 0, SV.bool false, SV.bool false, SV.int IntKind.i64 0,
  SV.int IntKind.i64 0, SV.int IntKind.i64 0, SV.struct [SV.int IntKind.i64 0, SV.arr IntKind.u8 16 fun (x : Nat) => 0], SV.struct [SV.int IntKind.i64 0,
  SV.arr IntKind.u8 16 fun (x : Nat) => 0], SV.slice { ptr := none, len := 0, cap := 0 }, SV.slice { ptr := none, len := 0, cap := 0 }], SV.int IntKind.i64
  62]) w1) (Br (decide (n_1 < wr IntKind.i64 (wr IntKind.i64 (Int.tmod n 16) * 4))) (∀ (w1 : World), Upd [b_1] [] w1_1 w1 → R (SV.tuple [SV.struct [SV.int
  IntKind.i64 0, SV.int IntKind.i64 0, SV.bool false, SV.bool false, SV.int IntKind.i64 0, SV.int IntKind.i64 0, SV.int IntKind.i64 0, SV.struct [SV.int IntKind.i64
  0, SV.arr IntKind.u8 16 fun (x : Nat) => 0], SV.struct [SV.int IntKind.i64 0, SV.arr IntKind.u8 16 fun (x : Nat) => 0], SV.slice { ptr := none, len := 0, cap := 0 },
  SV.slice { ptr := none, len := 0, cap := 0 }], SV.int IntKind.i64 63]) w1) (Br (decide (n_1 > (↑b.2 : Int))) (∀ (w1 : World), Upd [b_1] [] w1_1 w1 → R (SV.tuple
  [SV.struct [SV.int IntKind.i64 0, SV.int IntKind.i64 0, SV.bool false, SV.bool false, SV.int IntKind.i64 0, SV.int IntKind.i64 0, SV.int IntKind.i64 0,
  SV.struct [SV.int IntKind.i64 0, SV.arr IntKind.u8 16 fun (x : Nat) => 0], SV.struct [SV.int IntKind.i64 0, SV.arr IntKind.u8 16 fun (x : Nat) => 0], SV.slice
  { ptr := none, len := 0, cap := 0 }, SV.slice { ptr := none, len := 0, cap := 0 }], SV.int IntKind.i64 63]) w1) (some (SV.box b_2 30 (SV.struct [SV.int
  IntKind.i64 0, SV.int IntKind.i64 0, SV.bool false, SV.bool false, SV.int IntKind.i64 0, SV.int IntKind.i64 0, SV.int IntKind.i64 0, SV.struct [SV.int IntKind.i64
  0, SV.arr IntKind.u8 16 fun (x : Nat) => 0], SV.struct [SV.int IntKind.i64 0, SV.arr IntKind.u8 16 fun (x : Nat) => 0], SV.slice { ptr := none, len := 0, cap := 0 },
  SV.slice { ptr := none, len := 0, cap := 0 }])) = some (SV.box b_2 30 (SV.struct [SV.int IntKind.i64 0, SV.int IntKind.i64 0, SV.bool false, SV.bool false,
  SV.int IntKind.i64 0, SV.int IntKind.i64 0, SV.int IntKind.i64 0, SV.struct [SV.int IntKind.i64 0, SV.arr IntKind.u8 16 fun (x : Nat) => 0], SV.struct [SV.int
  IntKind.i64 0, SV.arr IntKind.u8 16 fun (x : Nat) => 0], SV.slice { ptr := none, len := 0, cap := 0 }, SV.slice { ptr := none, len := 0, cap := 0 }])) ∧
  (b_1, 30) = (b_1, 30) ∧ J 0 0 false false 0 0 0 0 (fun (x : Nat) => 0) 0 (fun (x : Nat) => 0) { ptr := none, len := 0, cap := 0 } { ptr := none, len := 0, cap := 0 }
  w1_1)))))))))
theorem f47_of (b : Sl) (w : World) (R : SV → World → Prop) (h : vc47 b w R) : Ret Tryd.prog 47 [.slice b] w R :=
  have e : vc47 b w R = fnVC X Tryd.f47 a47 [.slice b] w R := by kernel_rfl
  fnVC_sound X_ok (n := a47) (e ▸ h) (by kernel_rfl) (by kernel_rfl) rfl rfl

def vc48 (b : Sl) (w : World) (R : SV → World → Prop) : Prop :=
  Ret Tryd.prog 47 [SV.slice b] w fun (r : SV) (w1 : World) =>
    ∃ (n : Int),
      ∃ (n_1 : Int),
        ∃ (b_1 : Bool),
          ∃ (b_2 : Bool),
            ∃ (n_2 : Int),
              ∃ (n_3 : Int),
                ∃ (n_4 : Int),
                  ∃ (n_5 : Int),
                    ∃ (f : Nat → Int),
                      ∃ (n_6 : Int),
                        ∃ (f_1 : Nat → Int),
                          ∃ (s : Sl),
                            ∃ (s_1 : Sl),
                              ∃ (n_7 : Int),
                                r =
                                    SV.tuple
                                      [SV.struct
                                          [SV.int IntKind.i64 n, SV.int IntKind.i64 n_1, SV.bool b_1, SV.bool b_2, SV.int IntKind.i64 n_2, SV.int IntKind.i64 n_3,
                                            SV.int IntKind.i64 n_4, SV.struct [SV.int IntKind.i64 n_5, SV.arr IntKind.u8 16 f],
                                            SV.struct [SV.int IntKind.i64 n_6, SV.arr IntKind.u8 16 f_1], SV.slice s, SV.slice s_1],
                                        SV.int IntKind.i64 n_7] ∧
                                  ∀ (b_3 : Nat),
                                    Br (n_7 != 0) (∀ (w1_1 : World), Upd [] [b_3] w1 w1_1 → R (SV.bool false) w1_1)
                                      (∀ (w1_1 : World),
                                        Upd [] [b_3] w1 w1_1 →
                                          Ret Tryd.prog 34
                                            [SV.struct
                                                [SV.int IntKind.i64 n, SV.int IntKind.i64 n_1, SV.bool b_1, SV.bool b_2, SV.int IntKind.i64 n_2, SV.int IntKind.i64 n_3,
                                                  SV.int IntKind.i64 n_4, SV.struct [SV.int IntKind.i64 n_5, SV.arr IntKind.u8 16 f],
                                                  SV.struct [SV.int IntKind.i64 n_6, SV.arr IntKind.u8 16 f_1], SV.slice s, SV.slice s_1]]
                                            w1_1 fun (r : SV) (w1 : World) =>
                                            ∃ (s : Sl),
                                              ∃ (n : Int),
                                                r = SV.tuple [SV.slice s, SV.int IntKind.i64 n] ∧
                                                  Keeps [b_3] w1_1 w1 ∧
                                                    Br (n == 0)
                                                      (Ret Tryd.prog 24 [SV.slice b, SV.slice s] w1 fun (r : SV) (w1_2 : World) =>
                                                        ∃ (b : Bool), r = SV.bool b ∧ Keeps [b_3] w1 w1_2 ∧ R (SV.bool b) w1_2)
                                                      (R (SV.bool false) w1))
theorem f48_of (b : Sl) (w : World) (R : SV → World → Prop) (h : vc48 b w R) : Ret Tryd.prog 48 [.slice b] w R :=
  have e : vc48 b w R = fnVC X Tryd.f48 a48 [.slice b] w R := by kernel_rfl
  fnVC_sound X_ok (n := a48) (e ▸ h) (by kernel_rfl) (by kernel_rfl) rfl rfl

def vc53 (b : Sl) (w : World) (R : SV → World → Prop) : Prop :=
  Ret Tryd.prog 47 [SV.slice b] w fun (r : SV) (w1 : World) =>
    ∃ (n : Int),
      ∃ (n_1 : Int),
        ∃ (b_1 : Bool),
          ∃ (b_2 : Bool),
            ∃ (n_2 : Int),
              ∃ (n_3 : Int),
                ∃ (n_4 : Int),
                  ∃ (n_5 : Int),
                    ∃ (f : Nat → Int),
                      ∃ (n_6 : Int),
                        ∃ (f_1 : Nat → Int),
                          ∃ (s : Sl),
                            ∃ (s_1 : Sl),
                              ∃ (n_7 : Int),
                                r =
                                    SV.tuple
                                      [SV.struct
                                          [SV.int IntKind.i64 n, SV.int IntKind.i64 n_1, SV.bool b_1, SV.bool b_2, SV.int IntKind.i64 n_2, SV.int IntKind.i64 n_3,
                                            SV.int IntKind.i64 n_4, SV.struct [SV.int IntKind.i64 n_5, SV.arr IntKind.u8 16 f],
                                            SV.struct [SV.int IntKind.i64 n_6, SV.arr IntKind.u8 16 f_1], SV.slice s, SV.slice s_1],
                                        SV.int IntKind.i64 n_7] ∧
                                  ∀ (b_3 : Nat),
                                    Br (n_7 != 0)
                                      (∀ (w1_1 : World),
                                        Upd [] [b_3] w1 w1_1 →
                                          Ret Tryd.prog 23 [SV.slice b] w1_1 fun (r : SV) (w1 : World) =>
                                            ∃ (s : Sl), r = SV.slice s ∧ Keeps [b_3] w1_1 w1 ∧ R (SV.tuple [SV.slice s, SV.int IntKind.i64 n_7]) w1)
                                      (Br (decide (n_3 < 2))
                                        (∀ (w1_1 : World),
                                          Upd [] [b_3] w1 w1_1 →
                                            Ret Tryd.prog 23 [SV.slice b] w1_1 fun (r : SV) (w1 : World) =>
                                              ∃ (s : Sl), r = SV.slice s ∧ Keeps [b_3] w1_1 w1 ∧ R (SV.tuple [SV.slice s, SV.int IntKind.i64 67]) w1)
                                        (∀ (w1_1 : World),
                                          Upd [] [b_3] w1 w1_1 →
                                            Ret Tryd.prog 23 [SV.slice b] w1_1 fun (r : SV) (w1 : World) =>
                                              ∃ (s : Sl),
                                                r = SV.slice s ∧
                                                  Keeps [b_3] w1_1 w1 ∧
                                                    Need (decide (0 < (↑s.2 : Int)) && Option.isSome s.1)
                                                      (∃ (n : Int),
                                                        World.cell? w1 (Sl.at s 1 0) = some (Value.int IntKind.u8 n) ∧
                                                          Need (decide (8 < (↑s.2 : Int)) && Option.isSome s.1)
                                                            (∃ (n_8 : Int),
                                                              World.cell? w1 (Sl.at s 1 8) = some (Value.int IntKind.u8 n_8) ∧
                                                                Need (decide (8 < (↑s.2 : Int)) && Option.isSome s.1)
                                                                  (Store w1 (Sl.at s 1 8) (SV.cells (SV.int IntKind.u8 (wr IntKind.u8 (n_8 - 1)))) [b_3] fun (w1 : World) =>
                                                                    Need (decide (10 ≤ (↑s.3 : Int)))
                                                                      (Need
                                                                        (decide (0 ≤ wr IntKind.i64 (wr IntKind.i64 (Int.tmod n 16) * 4)) &&
                                                                            decide (wr IntKind.i64 (wr IntKind.i64 (Int.tmod n 16) * 4) ≤ (↑s.3 : Int)) &&
                                                                          decide (12 ≤ (↑(Int.toNat (wr IntKind.i64 (wr IntKind.i64 (Int.tmod n 16) * 4))) : Int)))
                                                                        (∀ (b : Nat) (w1_2 : World),
                                                                          Upd [] [b] w1 w1_2 →
                                                                            (World.heap w1_2)[b]? =
                                                                                some
                                                                                  (Obj.cells
                                                                                    {
                                                                                      toList :=
                                                                                        SV.cells
                                                                                          (SV.struct
                                                                                            [SV.slice (Sl.sub s 1 0 10 s.3),
                                                                                              SV.slice
                                                                                                (Sl.sub s 1 12 (Int.toNat (wr IntKind.i64 (wr IntKind.i64 (Int.tmod n 16) * 4)))
                                                                                                  s.3)]) }
                                                                                    22) →
                                                                              Ret Tryd.prog 71 [SV.slice { ptr := some { block := b, off := 0 }, len := 2, cap := 2 }] w1_2
                                                                                fun (r : SV) (w1 : World) =>
                                                                                ∃ (n : Int),
                                                                                  r = SV.int IntKind.i64 n ∧
                                                                                    Keeps [b_3] w1_2 w1 ∧
                                                                                      Need (decide (10 < (↑s.2 : Int)) && Option.isSome s.1)
                                                                                        (Store w1 (Sl.at s 1 10)
                                                                                          (SV.cells (SV.int IntKind.u8 (wr IntKind.u8 (wr IntKind.i64 (Int.tdiv n 256))))) [b_3]
                                                                                          fun (w1 : World) =>
                                                                                          Need (decide (11 < (↑s.2 : Int)) && Option.isSome s.1)
                                                                                            (Store w1 (Sl.at s 1 11) (SV.cells (SV.int IntKind.u8 (wr IntKind.u8 (Int.tmod n 256))))
                                                                                              [b_3] fun (w1 : World) => R (SV.tuple [SV.slice s, SV.int IntKind.i64 0]) w1)))))))))
theorem f53_of (b : Sl) (w : World) (R : SV → World → Prop) (h : vc53 b w R) : Ret Tryd.prog 53 [.slice b] w R :=
  have e : vc53 b w R = fnVC X Tryd.f53 a53 [.slice b] w R := by kernel_rfl
  fnVC_sound X_ok (n := a53) (e ▸ h) (by kernel_rfl) (by kernel_rfl) rfl rfl

def vc34 (h_0 : Int) (h_1 : Int) (h_2 : Bool) (h_3 : Bool) (h_4 : Int) (h_5 : Int) (h_6 : Int) (h_7_0 : Int) (h_7_1 : Nat → Int) (h_8_0 : Int) (h_8_1 : Nat → Int) (h_9 : Sl) (h_10 : Sl) (w : World) (R : SV → World → Prop) : Prop :=
  ∀ (b : Nat) (w1 : World),
    Upd [] [b] w w1 →
      Ret Tryd.prog 36
        [SV.struct
            [SV.int IntKind.i64 h_0, SV.int IntKind.i64 h_1, SV.bool h_2, SV.bool h_3, SV.int IntKind.i64 h_4, SV.int IntKind.i64 h_5, SV.int IntKind.i64 h_6,
              SV.struct [SV.int IntKind.i64 h_7_0, SV.arr IntKind.u8 16 h_7_1], SV.struct [SV.int IntKind.i64 h_8_0, SV.arr IntKind.u8 16 h_8_1], SV.slice h_9, SV.slice h_10]]
        w1 fun (r : SV) (w1_1 : World) =>
        ∃ (n : Int),
          r = SV.int IntKind.i64 n ∧
            Keeps [b] w1 w1_1 ∧
              Br (n != 0) (R (SV.tuple [SV.slice { ptr := none, len := 0, cap := 0 }, SV.int IntKind.i64 n]) w1_1)
                (Ret Tryd.prog 35 [SV.slice h_9] w1_1 fun (r : SV) (w1 : World) =>
                  ∃ (s : Sl),
                    ∃ (n : Int),
                      r = SV.tuple [SV.slice s, SV.int IntKind.i64 n] ∧
                        Keeps [b] w1_1 w1 ∧
                          ∀ (J : Int → World → Prop),
                            (∀ (n : Int) (w1 : World),
                                (∀ (J : Int → World → Prop),
                                    (∀ (n : Int) (w1 : World),
                                        (∀ (b_1 : Nat) (w1_2 : World),
                                            Upd [] [b_1] w1 w1_2 →
                                              (World.heap w1_2)[b_1]? =
                                                  some
                                                    (Obj.cells
                                                      {
                                                        toList :=
                                                          SV.cells
                                                            (SV.struct
                                                              [SV.int IntKind.u8
                                                                  (wr IntKind.u8 (wr IntKind.i64 (64 + wr IntKind.i64 (Int.tdiv (wr IntKind.i64 (20 + (↑s.2 : Int))) 4)))),
                                                                SV.int IntKind.u8 (wr IntKind.u8 h_0)]) }
                                                      5) →
                                                Ret Tryd.prog 70
                                                  [SV.slice { ptr := some { block := b_1, off := 0 }, len := 2, cap := 2 },
                                                    SV.int IntKind.i64 (wr IntKind.i64 (wr IntKind.i64 (20 + (↑s.2 : Int)) + (↑h_10.2 : Int)))]
                                                  w1_2 fun (r : SV) (w1 : World) =>
                                                  ∃ (s_1 : Sl),
                                                    r = SV.slice s_1 ∧
                                                      Keeps [b] w1_2 w1 ∧
                                                        Ret Tryd.prog 70 [SV.slice s_1, SV.int IntKind.i64 h_1] w1 fun (r : SV) (w1_3 : World) =>
                                                          ∃ (s_2 : Sl),
                                                            r = SV.slice s_2 ∧
                                                              Keeps [b] w1 w1_3 ∧
                                                                Ret Tryd.prog 70 [SV.slice s_2, SV.int IntKind.i64 n] w1_3 fun (r : SV) (w1 : World) =>
                                                                  ∃ (s_3 : Sl),
                                                                    r = SV.slice s_3 ∧
                                                                      Keeps [b] w1_3 w1 ∧
                                                                        ∀ (b_2 : Nat) (w1_4 : World),
                                                                          Upd [] [b_2] w1 w1_4 →
                                                                            (World.heap w1_4)[b_2]? =
                                                                                some
                                                                                  (Obj.cells
                                                                                    {
                                                                                      toList :=
                                                                                        SV.cells
                                                                                          (SV.struct [SV.int IntKind.u8 (wr IntKind.u8 h_5), SV.int IntKind.u8 (wr IntKind.u8 h_6)]) }
                                                                                    5) →
                                                                              Vc.Append 5 1 1 s_3 { ptr := some { block := b_2, off := 0 }, len := 2, cap := 2 } [b] w1_4
                                                                                fun (r : Sl) (w : World) =>
                                                                                ∃ (I : Sl → Int → World → Prop),
                                                                                  ∃ (M : Sl → Int → World → Nat),
                                                                                    I { ptr := none, len := 0, cap := 0 } 0 w ∧
                                                                                      ∀ (s_4 : Sl) (n : Int) (w1 : World),
                                                                                        I s_4 n w1 →
                                                                                          Br (decide (n < 4))
                                                                                            (Need (decide (0 ≤ n) && decide (n < 16))
                                                                                              (∀ (b_3 : Nat) (w1_5 : World),
                                                                                                Upd [] [b_3] w1 w1_5 →
                                                                                                  (World.heap w1_5)[b_3]? =
                                                                                                      some
                                                                                                        (Obj.cells
                                                                                                          { toList := SV.cells (SV.struct [SV.int IntKind.u8 (h_7_1 (Int.toNat n))]) }
                                                                                                          5) →
                                                                                                    Vc.Append 5 1 1 s_4 { ptr := some { block := b_3, off := 0 }, len := 1, cap := 1 }
                                                                                                      [b] w1_5 fun (r : Sl) (w : World) =>
                                                                                                      some
                                                                                                            (SV.box b 30
                                                                                                              (SV.struct
                                                                                                                [SV.int IntKind.i64 h_0, SV.int IntKind.i64 h_1, SV.bool h_2,
                                                                                                                  SV.bool h_3, SV.int IntKind.i64 h_4, SV.int IntKind.i64 h_5,
                                                                                                                  SV.int IntKind.i64 h_6,
                                                                                                                  SV.struct [SV.int IntKind.i64 h_7_0, SV.arr IntKind.u8 16 h_7_1],
                                                                                                                  SV.struct [SV.int IntKind.i64 h_8_0, SV.arr IntKind.u8 16 h_8_1],
                                                                                                                  SV.slice h_9, SV.slice h_10])) =
                                                                                                          some
                                                                                                            (SV.box b 30
                                                                                                              (SV.struct
                                                                                                                [SV.int IntKind.i64 h_0, SV.int IntKind.i64 h_1, SV.bool h_2,
                                                                                                                  SV.bool h_3, SV.int IntKind.i64 h_4, SV.int IntKind.i64 h_5,
                                                                                                                  SV.int IntKind.i64 h_6,
                                                                                                                  SV.struct [SV.int IntKind.i64 h_7_0, SV.arr IntKind.u8 16 h_7_1],
                                                                                                                  SV.struct [SV.int IntKind.i64 h_8_0, SV.arr IntKind.u8 16 h_8_1],
                                                                                                                  SV.slice h_9, SV.slice h_10])) ∧
                                                                                                        I r (wr IntKind.i64 (n + 1)) w ∧ M r (wr IntKind.i64 (n + 1)) w < M s_4 n w1))
                                                                                            (∃ (I : Sl → Int → World → Prop),
                                                                                              ∃ (M : Sl → Int → World → Nat),
                                                                                                I s_4 0 w1 ∧
                                                                                                  ∀ (s_5 : Sl) (n : Int) (w1 : World),
                                                                                                    I s_5 n w1 →
                                                                                                      Br (decide (n < 4))
                                                                                                        (Need (decide (0 ≤ n) && decide (n < 16))
                                                                                                          (∀ (b_3 : Nat) (w1_5 : World),
                                                                                                            Upd [] [b_3] w1 w1_5 →
                                                                                                              (World.heap w1_5)[b_3]? =
                                                                                                                  some
                                                                                                                    (Obj.cells
                                                                                                                      {
                                                                                                                        toList :=
                                                                                                                          SV.cells
                                                                                                                            (SV.struct [SV.int IntKind.u8 (h_8_1 (Int.toNat n))]) }
                                                                                                                      5) →
                                                                                                                Vc.Append 5 1 1 s_5
                                                                                                                  { ptr := some { block := b_3, off := 0 }, len := 1, cap := 1 } [b]
                                                                                                                  w1_5 fun (r : Sl) (w : World) =>
                                                                                                                  some
                                                                                                                        (SV.box b 30
                                                                                                                          (SV.struct
                                                                                                                            [SV.int IntKind.i64 h_0, SV.int IntKind.i64 h_1,
                                                                                                                              SV.bool h_2, SV.bool h_3, SV.int IntKind.i64 h_4,
                                                                                                                              SV.int IntKind.i64 h_5, SV.int IntKind.i64 h_6,
                                                                                                                              SV.struct
                                                                                                                                [SV.int IntKind.i64 h_7_0,
                                                                                                                                  SV.arr IntKind.u8 16 h_7_1],
                                                                                                                              SV.struct
                                                                                                                                [SV.int IntKind.i64 h_8_0,
                                                                                                                                  SV.arr IntKind.u8 16 h_8_1],
                                                                                                                              SV.slice h_9, SV.slice h_10])) =
                                                                                                                      some
                                                                                                                        (SV.box b 30
                                                                                                                          (SV.struct
                                                                                                                            [SV.int IntKind.i64 h_0, SV.int IntKind.i64 h_1,
                                                                                                                              SV.bool h_2, SV.bool h_3, SV.int IntKind.i64 h_4,
                                                                                                                              SV.int IntKind.i64 h_5, SV.int IntKind.i64 h_6,
                                                                                                                              SV.struct
                                                                                                                                [SV.int IntKind.i64 h_7_0,
                                                                                                                                  SV.arr IntKind.u8 16 h_7_1],
                                                                                                                              SV.struct
                                                                                                                                [SV.int IntKind.i64 h_8_0,
                                                                                                                                  SV.arr IntKind.u8 16 h_8_1],
                                                                                                                              SV.slice h_9, SV.slice h_10])) ∧
                                                                                                                    I r (wr IntKind.i64 (n + 1)) w ∧
                                                                                                                      M r (wr IntKind.i64 (n + 1)) w < M s_5 n w1))
                                                                                                        (Vc.Append 5 1 1 s_5 s [b] w1 fun (r_1 : Sl) (w : World) =>
                                                                                                          ∀ (b_3 : Nat) (w1 : World),
                                                                                                            Upd [] [b_3] w w1 →
                                                                                                              (World.heap w1)[b_3]? =
                                                                                                                  some
                                                                                                                    (Obj.cells
                                                                                                                      { toList := SV.cells (SV.struct [SV.slice r, SV.slice r_1]) }
                                                                                                                      22) →
                                                                                                                Ret Tryd.prog 71
                                                                                                                  [SV.slice
                                                                                                                      { ptr := some { block := b_3, off := 0 }, len := 2, cap := 2 }]
                                                                                                                  w1 fun (r_2 : SV) (w1_5 : World) =>
                                                                                                                  ∃ (n : Int),
                                                                                                                    r_2 = SV.int IntKind.i64 n ∧
                                                                                                                      Keeps [b] w1 w1_5 ∧
                                                                                                                        Ret Tryd.prog 70 [SV.slice r, SV.int IntKind.i64 n] w1_5
                                                                                                                          fun (r : SV) (w1 : World) =>
                                                                                                                          ∃ (s : Sl),
                                                                                                                            r = SV.slice s ∧
                                                                                                                              Keeps [b] w1_5 w1 ∧
                                                                                                                                Vc.Append 5 1 1 s r_1 [b] w1
                                                                                                                                  fun (r : Sl) (w : World) =>
                                                                                                                                  Vc.Append 5 1 1 r h_10 [b] w
                                                                                                                                    fun (r : Sl) (w : World) =>
                                                                                                                                    R (SV.tuple [SV.slice r, SV.int IntKind.i64 0])
                                                                                                                                      w))) →
                                          J n w1) →
                                      Br h_3
                                        (some
                                              (SV.box b 30
                                                (SV.struct
                                                  [SV.int IntKind.i64 h_0, SV.int IntKind.i64 h_1, SV.bool h_2, SV.bool h_3, SV.int IntKind.i64 h_4, SV.int IntKind.i64 h_5,
                                                    SV.int IntKind.i64 h_6, SV.struct [SV.int IntKind.i64 h_7_0, SV.arr IntKind.u8 16 h_7_1],
                                                    SV.struct [SV.int IntKind.i64 h_8_0, SV.arr IntKind.u8 16 h_8_1], SV.slice h_9, SV.slice h_10])) =
                                            some
                                              (SV.box b 30
                                                (SV.struct
                                                  [SV.int IntKind.i64 h_0, SV.int IntKind.i64 h_1, SV.bool h_2, SV.bool h_3, SV.int IntKind.i64 h_4, SV.int IntKind.i64 h_5,
                                                    SV.int IntKind.i64 h_6, SV.struct [SV.int IntKind.i64 h_7_0, SV.arr IntKind.u8 16 h_7_1],
                                                    SV.struct [SV.int IntKind.i64 h_8_0, SV.arr IntKind.u8 16 h_8_1], SV.slice h_9, SV.slice h_10])) ∧
                                          J (wr IntKind.i64 (n + 8192)) w1)
                                        (some
                                              (SV.box b 30
                                                (SV.struct
                                                  [SV.int IntKind.i64 h_0, SV.int IntKind.i64 h_1, SV.bool h_2, SV.bool h_3, SV.int IntKind.i64 h_4, SV.int IntKind.i64 h_5,
                                                    SV.int IntKind.i64 h_6, SV.struct [SV.int IntKind.i64 h_7_0, SV.arr IntKind.u8 16 h_7_1],
                                                    SV.struct [SV.int IntKind.i64 h_8_0, SV.arr IntKind.u8 16 h_8_1], SV.slice h_9, SV.slice h_10])) =
                                            some
                                              (SV.box b 30
                                                (SV.struct
                                                  [SV.int IntKind.i64 h_0, SV.int IntKind.i64 h_1, SV.bool h_2, SV.bool h_3, SV.int IntKind.i64 h_4, SV.int IntKind.i64 h_5,
                                                    SV.int IntKind.i64 h_6, SV.struct [SV.int IntKind.i64 h_7_0, SV.arr IntKind.u8 16 h_7_1],
                                                    SV.struct [SV.int IntKind.i64 h_8_0, SV.arr IntKind.u8 16 h_8_1], SV.slice h_9, SV.slice h_10])) ∧
                                          J n w1)) →
                                  J n w1) →
                              Br h_2
                                (some
                                      (SV.box b 30
                                        (SV.struct
                                          [SV.int IntKind.i64 h_0, SV.int IntKind.i64 h_1, SV.bool h_2, SV.bool h_3, SV.int IntKind.i64 h_4, SV.int IntKind.i64 h_5,
                                            SV.int IntKind.i64 h_6, SV.struct [SV.int IntKind.i64 h_7_0, SV.arr IntKind.u8 16 h_7_1],
                                            SV.struct [SV.int IntKind.i64 h_8_0, SV.arr IntKind.u8 16 h_8_1], SV.slice h_9, SV.slice h_10])) =
                                    some
                                      (SV.box b 30
                                        (SV.struct
                                          [SV.int IntKind.i64 h_0, SV.int IntKind.i64 h_1, SV.bool h_2, SV.bool h_3, SV.int IntKind.i64 h_4, SV.int IntKind.i64 h_5,
                                            SV.int IntKind.i64 h_6, SV.struct [SV.int IntKind.i64 h_7_0, SV.arr IntKind.u8 16 h_7_1],
                                            SV.struct [SV.int IntKind.i64 h_8_0, SV.arr IntKind.u8 16 h_8_1], SV.slice h_9, SV.slice h_10])) ∧
                                  J (wr IntKind.i64 (wr IntKind.i64 (Int.tdiv h_4 8) + 16384)) w1)
                                (some
                                      (SV.box b 30
                                        (SV.struct
                                          [SV.int IntKind.i64 h_0, SV.int IntKind.i64 h_1, SV.bool h_2, SV.bool h_3, SV.int IntKind.i64 h_4, SV.int IntKind.i64 h_5,
                                            SV.int IntKind.i64 h_6, SV.struct [SV.int IntKind.i64 h_7_0, SV.arr IntKind.u8 16 h_7_1],
                                            SV.struct [SV.int IntKind.i64 h_8_0, SV.arr IntKind.u8 16 h_8_1], SV.slice h_9, SV.slice h_10])) =
                                    some
                                      (SV.box b 30
                                        (SV.struct
                                          [SV.int IntKind.i64 h_0, SV.int IntKind.i64 h_1, SV.bool h_2, SV.bool h_3, SV.int IntKind.i64 h_4, SV.int IntKind.i64 h_5,
                                            SV.int IntKind.i64 h_6, SV.struct [SV.int IntKind.i64 h_7_0, SV.arr IntKind.u8 16 h_7_1],
                                            SV.struct [SV.int IntKind.i64 h_8_0, SV.arr IntKind.u8 16 h_8_1], SV.slice h_9, SV.slice h_10])) ∧
                                  J (wr IntKind.i64 (Int.tdiv h_4 8)) w1))
theorem f34_of (h_0 : Int) (h_1 : Int) (h_2 : Bool) (h_3 : Bool) (h_4 : Int) (h_5 : Int) (h_6 : Int) (h_7_0 : Int) (h_7_1 : Nat → Int) (h_8_0 : Int) (h_8_1 : Nat → Int) (h_9 : Sl) (h_10 : Sl) (w : World) (R : SV → World → Prop) (h : vc34 h_0 h_1 h_2 h_3 h_4 h_5 h_6 h_7_0 h_7_1 h_8_0 h_8_1 h_9 h_10 w R) : Ret Tryd.prog 34 [.struct [.int .i64 h_0, .int .i64 h_1, .bool h_2, .bool h_3, .int .i64 h_4, .int .i64 h_5, .int .i64 h_6, .struct [.int .i64 h_7_0, .arr .u8 16 h_7_1], .struct [.int .i64 h_8_0, .arr .u8 16 h_8_1], .slice h_9, .slice h_10]] w R :=
  have e : vc34 h_0 h_1 h_2 h_3 h_4 h_5 h_6 h_7_0 h_7_1 h_8_0 h_8_1 h_9 h_10 w R = fnVC X Tryd.f34 a34 [.struct [.int .i64 h_0, .int .i64 h_1, .bool h_2, .bool h_3, .int .i64 h_4, .int .i64 h_5, .int .i64 h_6, .struct [.int .i64 h_7_0, .arr .u8 16 h_7_1], .struct [.int .i64 h_8_0, .arr .u8 16 h_8_1], .slice h_9, .slice h_10]] w R := by kernel_rfl
  fnVC_sound X_ok (n := a34) (e ▸ h) (by kernel_rfl) (by kernel_rfl) rfl rfl

end Go.Vc.S6
end
