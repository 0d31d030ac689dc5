import Derived.Test.YtopobapmncbjhaaLot
namespace Go.Vc
set_option linter.unusedVariables false
set_option linter.unusedSimpArgs false
set_option autoImplicit false
theorem needC {i n : Int} {o : Option Addr} {X : Prop} (h1 : i < n) (h2 : o.isSome = true) (x : X) : Need (decide (i < n) && o.isSome) X := need (by simp [h1, h2]) x
theorem needIxT {i n : Int} {X : Prop} (h0 : 0 ≤ i) (h1 : i < n) (x : X) : Need (decide (0 ≤ i) && decide (i < n) && true) X := need (by simp [h0, h1]) x
theorem byteC {w : World} {s : Sl} {l : List Int} (h : SeesB w s l) (i : Nat) (hi : i < l.length) : w.cell? (s.at 1 i) = some (.int .u8 (bt l i)) := by
  have := h.byte (i := (i : Int)) (by omega) (by omega)
  rwa [Int.toNat_natCast] at this
/-- a byte at a place that is written as a number -/
theorem needCB {w : World} {s : Sl} {l : List Int} (h : SeesB w s l) (i : Nat) {X : Prop} (hi : i < l.length) (x : X) : Need (decide ((i : Int) < (s.len : Int)) && s.ptr.isSome) X :=
  needC (by rw [h.len]; omega) (h.isSome (by decide) (by omega)) x
theorem flat1 {α : Type} (l : List α) : [l].flatten = l := by simp
theorem kp {bs : List Nat} {w w1 : World} {n : List Nat} (u : Upd [] n w w1) : Keeps bs w w1 := .inl u.forget
/-- blocks that stood, kept -/
theorem kpm {bs m n : List Nat} {w w1 : World} (u : Upd m n w w1) (h : ∀ b ∈ bs, b < w.heap.size) (hd : ∀ b ∈ bs, b ∉ m) : Keeps bs w w1 := .inr fun b hb => u.keep b (h b hb) (hd b hb)
theorem Own.blk_lt {N sz : Nat} {w : World} {s : Sl} (h : Own N sz w s) : ∀ b ∈ s.blk, b < w.heap.size := fun b hb => (h.blk b hb).2
theorem rep_add (n m : Nat) (v : Int) : List.replicate n v ++ List.replicate m v = List.replicate (n + m) v := List.replicate_append_replicate
end Go.Vc
