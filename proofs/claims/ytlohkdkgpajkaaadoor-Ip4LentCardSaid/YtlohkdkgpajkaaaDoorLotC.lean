import Derived.Test.YtlohkdkgpajkaaaDoorDeskA
import Derived.Test.YtlohkdkgpajkaaaDoorG4
namespace Go.Vc
set_option linter.unusedVariables false
set_option linter.unusedSimpArgs false
set_option autoImplicit false
/-- a list of lists, each in an array of its own -/
structure LotC {α : Type} (c : Cod α) (N : Nat) (w : World) (L : Sl) (ls : List (List α)) (gs : List Sl) : Prop where
  row : Sees cSl w L gs
  len : gs.length = ls.length
  each : ∀ i (h : i < ls.length), Sees c w (gs[i]'(by rw [len]; exact h)) ls[i]
  own : Own N 1 w L
  owns : ∀ x ∈ gs, Own N c.sz w x
  dis : gs.Pairwise Apt
  off : ∀ x ∈ gs, Apt x L
section
variable {α : Type} {c : Cod α} {N : Nat} {w w1 : World} {L : Sl} {ls : List (List α)} {gs : List Sl}
theorem LotC.nil (c : Cod α) (N : Nat) (w : World) : LotC c N w ⟨none, 0, 0⟩ [] [] := ⟨Sees.nil _ _ _ _, rfl, by simp, Own.none _ _ _, by simp, by simp, by simp⟩
/-- all its blocks -/
def lotB (L : Sl) (gs : List Sl) : List Nat := L.blk ++ gs.flatMap Sl.blk
theorem lotB_mem {x : Nat} : x ∈ lotB L gs ↔ x ∈ L.blk ∨ ∃ g ∈ gs, x ∈ g.blk := by simp [lotB]
theorem LotC.upd {m n : List Nat} (h : LotC c N w L ls gs) (u : Upd m n w w1) (hm : ∀ x ∈ lotB L gs, x ∉ m) : LotC c N w1 L ls gs :=
  have a := fun x hx => hm x (lotB_mem.2 (.inl hx))
  have b := fun g (hg : g ∈ gs) x hx => hm x (lotB_mem.2 (.inr ⟨g, hg, hx⟩))
  ⟨h.row.upd u a, h.len, fun i hi => (h.each i hi).upd u (b _ (List.getElem_mem _)), h.own.upd u a, fun x hx => (h.owns x hx).upd u (b x hx), h.dis, h.off⟩
theorem LotC.old {n : List Nat} (h : LotC c N w L ls gs) (u : Upd [] n w w1) : LotC c N w1 L ls gs := h.upd u (by simp)
theorem LotC.lt (h : LotC c N w L ls gs) : ∀ x ∈ lotB L gs, N ≤ x ∧ x < w.heap.size := fun x hx => by
  rcases lotB_mem.1 hx with q | ⟨g, hg, q⟩
  · exact h.own.blk x q
  · exact (h.owns g hg).blk x q
/-- one list more -/
theorem LotC.app1 {b e e' k0 : Nat} {g : Sl} {l : List α} {F : Sl → World → Prop} {cs : List Value} (h : LotC c N w L ls gs) (hrow : w.heap[b]? = some (.cells cs.toArray e (0, 0))) (hcs : cs = cSl.cells [g]) (hk0 : k0 = 1) (hg : Sees c w g l) (og : Own N c.sz w g) (hd : ∀ x ∈ g.blk, x ∉ lotB L gs)
    (hNw : N ≤ w.heap.size) (hb : (gs.length + 1) * 24 ≤ 140737488355328)
    (k : ∀ r w1, LotC c N w1 r (ls ++ [l]) (gs ++ [g]) → Upd L.blk [] w w1 → (∀ x ∈ r.blk, x ∈ L.blk ∨ w.heap.size ≤ x) → F r w1) : Append e' 1 24 L ⟨some ⟨b, 0, none⟩, k0, k0⟩ [] w F := by
  subst hcs hk0
  refine append_own (c := cSl) (new := [g]) h.row h.own (sees_row hrow _ rfl rfl) hNw (by simp) (by decide) hb fun r w1 hr ho u hnew => ?_
  have hgl := h.len
  have dg : ∀ x ∈ gs, ∀ b ∈ x.blk, b ∉ L.blk := h.off
  have dn : ∀ x ∈ g.blk, x ∉ L.blk := fun x hx hm => hd x hx (lotB_mem.2 (.inl hm))
  refine k r w1 ⟨hr, by simp [hgl], fun i hi => ?_, ho, ?_, ?_, ?_⟩ u hnew
  · by_cases hi2 : i < ls.length
    · rw [List.getElem_append_left (by rw [hgl]; exact hi2)]
      have e : (ls ++ [l])[i] = ls[i] := List.getElem_append_left hi2
      rw [e]
      exact (h.each i hi2).upd u (dg _ (List.getElem_mem _))
    · have hil : i = ls.length := by simp at hi; omega
      subst hil
      have e : (ls ++ [l])[ls.length] = l := by simp
      rw [e]
      have e2 : (gs ++ [g])[ls.length]'(by simp [hgl]) = g := by simp [← hgl]
      rw [e2]
      exact hg.upd u dn
  · intro x hx
    rcases List.mem_append.1 hx with hx | hx
    · exact (h.owns x hx).upd u (dg x hx)
    · rw [List.mem_singleton] at hx; subst hx; exact og.upd u dn
  · rw [List.pairwise_append]
    refine ⟨h.dis, by simp, fun x hx y hy b hb hm => ?_⟩
    rw [List.mem_singleton] at hy; subst hy
    exact hd b hm (lotB_mem.2 (.inr ⟨x, hx, hb⟩))
  · intro x hx b hb hm
    rcases List.mem_append.1 hx with hx | hx
    · rcases hnew b hm with h1 | h1
      · exact dg x hx b hb h1
      · have := ((h.owns x hx).blk b hb).2; omega
    · rw [List.mem_singleton] at hx; subst hx
      rcases hnew b hm with h1 | h1
      · exact dn b hb h1
      · have := (og.blk b hb).2; omega
end
end Go.Vc
