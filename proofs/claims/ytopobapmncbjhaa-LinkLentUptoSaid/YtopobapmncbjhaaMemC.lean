import Derived.Test.YtopobapmncbjhaaLoops2
namespace Go.Vc
set_option linter.unusedVariables false
set_option linter.unusedSimpArgs false
set_option autoImplicit false
theorem sub_blk {s : Sl} {sz l h m : Nat} : ∀ b ∈ (s.sub sz l h m).blk, b ∈ s.blk := by
  intro b hb
  unfold Sl.sub Sl.blk at hb
  unfold Sl.blk
  cases hrp : s.ptr with
  | none => rw [hrp] at hb; simp at hb
  | some a =>
    rw [hrp] at hb
    simp only [Option.map_some] at hb
    split at hb
    · cases hb
    · rename_i h1
      split at h1
      · simp at h1; subst h1; exact hb
      · simp at h1; subst h1; simpa using hb
theorem Cells.lt {w : World} {a : Addr} {vs : List Value} (h : Cells w (some a) vs) (hne : vs ≠ []) : a.block < w.heap.size := by
  have := h 0 (List.length_pos_iff.2 hne)
  simpa using cell_lt this
/-- blocks that came later are written -/
theorem Sees.upd' {α : Type} {c : Cod α} {w0 w w1 : World} {s : Sl} {l : List α} {m n : List Nat} (h0 : Sees c w0 s l) (h : Sees c w s l) (u : Upd m n w w1) (hm : ∀ b ∈ m, w0.heap.size ≤ b) : Sees c w1 s l :=
  ⟨h.len, h.row.upd u (fun a ha hne hmem => by
    have h1 := h0.row
    rw [ha] at h1
    have := h1.lt hne
    have := hm _ hmem
    omega)⟩
theorem Parts.upd' {w0 w w1 : World} {s : Sl} {ls : List (List Int)} {ss : List Sl} {m n : List Nat} (h0 : Parts w0 s ls ss) (h : Parts w s ls ss) (u : Upd m n w w1) (hm : ∀ b ∈ m, w0.heap.size ≤ b) : Parts w1 s ls ss :=
  ⟨h0.row.upd' h.row u hm, h.len, fun i hi => (h0.each i hi).upd' (h.each i hi) u hm⟩
end Go.Vc
namespace Go.Vc
theorem zeros_cells (m : Nat) : zerosOf (.int .u8) m = cU8.cells (List.replicate m 0) := by
  rw [Cod.cells_map1 (fun _ => rfl)]
  unfold zerosOf
  induction m with
  | zero => rfl
  | succ m ih => rw [List.replicate_succ, List.flatten_cons, ih, List.replicate_succ]; rfl
theorem imin_le (a b : Int) : imin a b ≤ a ∧ imin a b ≤ b ∧ (imin a b = a ∨ imin a b = b) := by unfold imin; split <;> omega
theorem imax_ge (a b : Int) : a ≤ imax a b ∧ b ≤ imax a b ∧ (imax a b = a ∨ imax a b = b) := by unfold imax; split <;> omega
end Go.Vc
