import Derived.Test.YtopobapmncbjhaaRowB
open Go Go.Vc
set_option linter.unusedVariables false
set_option linter.unusedSimpArgs false
set_option autoImplicit false
namespace Go.Vc
theorem cells_each {α : Type} {c : Cod α} {w : World} : ∀ {l : List α} {a : Addr}, (∀ i (hi : i < l.length), Cells w (some (a.add (i * c.sz))) (c.enc l[i])) → Cells w (some a) (c.cells l)
  | [], a, _ => by intro i hi; simp [Cod.cells] at hi
  | x :: r, a, h => by
    rw [Cod.cells_cons]
    refine Cells.mk ?_ (cells_each fun i hi => ?_)
    · have := h 0 (by simp)
      rw [Nat.zero_mul, add_zero] at this
      exact this
    · have h1 := h (i + 1) (by simp; omega)
      rw [c.len, add_add, show c.sz + i * c.sz = (i + 1) * c.sz by rw [Nat.add_mul, Nat.one_mul, Nat.add_comm]]
      exact h1
section
open Go.ChangeShapes Go.WideShapes Go.ChangeAt Go.RowKit
variable {H : Type} {X : Tab} {w : World}
/-- a slice of structs of plain values -/
theorem dp_slice {α : Type} {c : Cod α} {P : α → Prop} {m e : Nat} {x : SV} {d : DataW H} (hsz : (X.T e).size = c.sz)
    (hE : ∀ (m : Nat) (x : SV) (d : DataW H), Deep X w m (X.T e) x d → ∃ a : α, x.cells = c.enc a ∧ P a) (h : Deep X w m (.slice e) x d) :
    ∃ (s : Sl) (l : List α), x = .slice s ∧ Sees c w s l ∧ (∀ a ∈ l, P a) ∧ s.len ≤ s.cap ∧ (d = .nil ∧ l = [] ∨ ∃ els sp, d = .slice els sp ∧ els.length = l.length) := by
  cases m with
  | zero => exact h.elim
  | succ m =>
    simp only [Deep] at h
    rcases h with ⟨rfl, rfl⟩ | ⟨a, len, cap, vs, ds, rfl, rfl, hl, hm, hv, hd, h⟩
    · exact ⟨⟨none, 0, 0⟩, [], rfl, Sees.nil _ _ _ _, by simp, Nat.le_refl _, .inl ⟨rfl, rfl⟩⟩
    · have each : ∀ i (hi : i < cap), ∃ t : α, Cells w (some (a.add (i * c.sz))) (c.enc t) ∧ P t := by
        intro i hi
        obtain ⟨h1, h2, h3⟩ := h i _ _ (List.getElem?_eq_getElem (by omega)) (List.getElem?_eq_getElem (by omega))
        obtain ⟨t, g1, g2⟩ := hE _ _ _ h3
        rw [hsz, g1] at h2
        exact ⟨t, h2, g2⟩
      let F : Fin len → α := fun i => Classical.choose (each i (by omega))
      have hF : ∀ i : Fin len, Cells w (some (a.add (i * c.sz))) (c.enc (F i)) ∧ P (F i) := fun i => Classical.choose_spec (each i (by omega))
      refine ⟨⟨some a, len, cap⟩, List.ofFn F, rfl, ⟨by simp, cells_each fun i hi => ?_⟩, fun y hy => ?_, hl, .inr ⟨_, _, rfl, by simp; omega⟩⟩
      · rw [List.getElem_ofFn]
        exact (hF ⟨i, by simpa using hi⟩).1
      · obtain ⟨i, rfl⟩ := List.mem_ofFn.1 hy
        exact (hF i).2
end
end Go.Vc
