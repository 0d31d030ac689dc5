import Derived.Test.YtopobapmncbjhaaMemC
namespace Go.Vc
set_option linter.unusedVariables false
set_option linter.unusedSimpArgs false
set_option autoImplicit false
section
variable {α : Type} {c : Cod α} {w w1 : World} {s : Sl} {l : List α}
/-- append, both ways apart: in place (the same pointer), or to new memory -/
theorem appendN_two {N e by_ n : Nat} {new : List α} {bs : List Nat} {F : Sl → World → Prop} (h : Sees c w s l) (o : Own N c.sz w s) (hN : N ≤ w.heap.size) (hn : n = new.length)
    (hbs : ∀ b ∈ s.blk, b ∉ bs) (hpos : 0 < by_) (hb : (l.length + new.length) * by_ ≤ 140737488355328)
    (k1 : ∀ r w1, Sees c w1 r (l ++ new) → Own N c.sz w1 r → r.ptr = s.ptr → Upd s.blk [] w w1 → (∀ N sz x, Own N sz w x → Own N sz w1 x) → w1.heap.size = w.heap.size → F r w1)
    (k2 : ∀ r w1, Sees c w1 r (l ++ new) → Own w.heap.size c.sz w1 r → Upd [] [] w w1 → F r w1) : AppendN e c.sz by_ s n (c.cells new) bs w F := by
  have hlen := h.len
  refine ⟨fun hfit => ?_, fun hgrow => ?_⟩
  · subst hn
    cases hp : s.ptr with
    | none =>
      have h0 := o.nil hp
      have e1 : new = [] := by cases new with | nil => rfl | cons => simp at hfit; omega
      subst e1
      have el : (⟨none, s.len + ([] : List α).length, s.cap⟩ : Sl) = s := by cases s; simp at hp; subst hp; rfl
      show F ⟨none, s.len + ([] : List α).length, s.cap⟩ w
      rw [el]
      exact k1 s w (by simpa using h) o rfl ((Upd.refl w).wide (by simp)) (fun _ _ _ h => h) rfl
    | some a =>
      obtain ⟨hs, hc⟩ := o.cell a hp
      have hmul : (s.len + new.length) * c.sz ≤ s.cap * c.sz := Nat.mul_le_mul_right _ hfit
      rw [Nat.add_mul] at hmul
      have hlc := c.cells_length new
      have hll := c.cells_length l
      have hrow := h.row
      rw [hp] at hrow
      refine ⟨fun i hi => ?_, ?_, ?_⟩
      · rw [add_add]
        exact hc _ (by omega)
      · simp only [add_block]
        exact hbs _ (by simp [blk_some hp])
      · show F _ (w.setCells (a.add (s.len * c.sz)).block (a.add (s.len * c.sz)).off (c.cells new))
        rw [off_add hs, add_block]
        refine k1 _ _ ⟨by simp [hlen], ?_⟩ ?_ hp.symm ((Upd.setCells w a.block _ _).wide (by simp [blk_some hp])) (fun _ _ _ h => h.setCells _ _ _) (setCells_size _ _ _ _)
        · rw [c.cells_append]
          refine Cells.mk ?_ ?_
          · have := cells_apart (vs := c.cells new) hs (s.len * c.sz) 0 (by simpa using hrow) (.inl (by rw [hll, hlen]; omega))
            simpa using this
          · rw [hll, ← hlen]
            exact cells_write hs _ (fun i hi => (hc _ (by omega)).1)
        · have := (o.setCells a.block (a.off + s.len * c.sz) (c.cells new))
          exact ⟨by simp; omega, by simp, by simpa [Sl.blk, hp] using this.blk, fun a' ha' => by simp at ha'; subst ha'; exact this.cell a hp⟩
  · have main := appendN_full (e := e) (by_ := by_) (n := n) (bs := bs) (F := F) (s := ⟨s.ptr, s.len, s.len⟩) (new := new) (w := w) (l := l) ⟨h.len, h.row⟩ (Nat.le_refl _) hn
    by_cases hn0 : 0 < n
    · have m2 := (main hn0 hpos hb k2).2 (by show s.len < s.len + n; omega)
      refine ⟨m2.1, ?_, m2.2.2⟩
      rw [h.len] at hgrow ⊢
      subst hn
      exact growslice_fits hgrow hb
    · have := o.le; omega
theorem append_two {N e by_ : Nat} {x : Sl} {new : List α} {bs : List Nat} {F : Sl → World → Prop} (h : Sees c w s l) (o : Own N c.sz w s) (hx : Sees c w x new) (hN : N ≤ w.heap.size)
    (hbs : ∀ b ∈ s.blk, b ∉ bs) (hpos : 0 < by_) (hb : (l.length + new.length) * by_ ≤ 140737488355328)
    (k1 : ∀ r w1, Sees c w1 r (l ++ new) → Own N c.sz w1 r → r.ptr = s.ptr → Upd s.blk [] w w1 → (∀ N sz x, Own N sz w x → Own N sz w1 x) → w1.heap.size = w.heap.size → F r w1)
    (k2 : ∀ r w1, Sees c w1 r (l ++ new) → Own w.heap.size c.sz w1 r → Upd [] [] w w1 → F r w1) : Append e c.sz by_ s x bs w F :=
  ⟨c.cells new, hx.rowAt, appendN_two h o hN hx.len hbs hpos hb k1 k2⟩
theorem blk_ptr {r s : Sl} (h : r.ptr = s.ptr) : r.blk = s.blk := by unfold Sl.blk; rw [h]
/-- a slice with another's pointer sees the other's beginning -/
theorem Sees.prefix_ {r : Sl} {l' : List α} (h : Sees c w r l') (hp : r.ptr = s.ptr) (hl : l' = l ++ l'.drop l.length) (hs : s.len = l.length) : Sees c w s l := by
  have := h.take (n := l.length) (by rw [hl]; simp) s.cap
  rw [hl, List.take_left] at this
  rw [hp, ← hs] at this
  exact this
end
end Go.Vc
