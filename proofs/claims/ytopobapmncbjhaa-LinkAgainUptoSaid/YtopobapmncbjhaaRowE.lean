import Derived.Test.YtopobapmncbjhaaRowD
set_option linter.unusedVariables false
set_option linter.unusedSimpArgs false
set_option autoImplicit false
open Go Go.Vc Go.ChangeShapes Go.WideShapes Go.ChangeAt Go.RowKit
namespace Go.Vc
section
variable {H : Type} {X : Tab} {w : World}
/-- a slice of structs, with its data -/
theorem dp_slice2 {α : Type} {c : Cod α} {P : α → DataW H → Prop} {m e : Nat} {x : SV} {d : DataW H} (hsz : (X.T e).size = c.sz)
    (hE : ∀ (m : Nat) (x : SV) (d : DataW H), Deep X w m (X.T e) x d → ∃ a : α, x.cells = c.enc a ∧ P a d) (h : Deep X w m (.slice e) x d) :
    ∃ (s : Sl) (l : List α), x = .slice s ∧ Sees c w s l ∧ s.len ≤ s.cap ∧ (d = .nil ∧ l = [] ∨ ∃ els sp, d = .slice els sp ∧ els.length = l.length ∧ ∀ i (hi : i < l.length), ∃ di, els[i]? = some di ∧ P l[i] di) := by
  cases m with
  | zero => exact h.elim
  | succ m =>
    simp only [Deep] at h
    rcases h with ⟨rfl, rfl⟩ | ⟨a, len, cap, vs, ds, rfl, rfl, hl, hm, hv, hd, h⟩
    · exact ⟨⟨none, 0, 0⟩, [], rfl, Sees.nil _ _ _ _, Nat.le_refl _, .inl ⟨rfl, rfl⟩⟩
    · have each : ∀ i (hi : i < cap), ∃ t : α, Cells w (some (a.add (i * c.sz))) (c.enc t) ∧ P t (ds[i]'(by omega)) := by
        intro i hi
        obtain ⟨h1, h2, h3⟩ := h i _ _ (List.getElem?_eq_getElem (by omega)) (List.getElem?_eq_getElem (by omega))
        obtain ⟨t, g1, g2⟩ := hE _ _ _ h3
        rw [hsz, g1] at h2
        exact ⟨t, h2, g2⟩
      let F : Fin len → α := fun i => Classical.choose (each i (by omega))
      have hF : ∀ i : Fin len, Cells w (some (a.add (i * c.sz))) (c.enc (F i)) ∧ P (F i) (ds[i.val]'(by omega)) := fun i => Classical.choose_spec (each i (by omega))
      refine ⟨⟨some a, len, cap⟩, List.ofFn F, rfl, ⟨by simp, cells_each fun i hi => ?_⟩, hl, .inr ⟨_, _, rfl, by simp; omega, fun i hi => ?_⟩⟩
      · rw [List.getElem_ofFn]
        exact (hF ⟨i, by simpa using hi⟩).1
      · have hi' : i < len := by simpa using hi
        refine ⟨ds[i]'(by omega), ?_, ?_⟩
        · rw [List.getElem?_take_of_lt hi', List.getElem?_eq_getElem (by omega)]
        · rw [List.getElem_ofFn]
          exact (hF ⟨i, hi'⟩).2
end
end Go.Vc
