import Derived.Test.YtopobapmncbjhaaMemD
namespace Go.Vc
set_option linter.unusedVariables false
set_option linter.unusedSimpArgs false
set_option autoImplicit false
/-- two slices in different arrays -/
def Apt (x y : Sl) : Prop := ∀ b ∈ x.blk, b ∉ y.blk
theorem Apt.symm {x y : Sl} (h : Apt x y) : Apt y x := fun b hb hm => h b hm hb
theorem apt_of {N M sz sz' : Nat} {w w' : World} {x y : Sl} (hx : Own N sz w x) (hy : Own M sz' w' y) (h : w.heap.size ≤ M) : Apt x y := fun b hb hm => by
  have := (hx.blk b hb).2
  have := (hy.blk b hm).1
  omega
/-- a list of lists of bytes, each in an array of its own -/
structure Lot (N : Nat) (w : World) (L : Sl) (ls : List (List Int)) (gs : List Sl) : Prop where
  parts : Parts w L ls gs
  own : Own N 1 w L
  owns : ∀ x ∈ gs, Own N 1 w x
  dis : gs.Pairwise Apt
  off : ∀ x ∈ gs, Apt x L
theorem Lot.nil (N : Nat) (w : World) : Lot N w ⟨none, 0, 0⟩ [] [] := ⟨Parts.nil _ _ _, Own.none _ _ _, by simp, by simp, by simp⟩
theorem Lot.old {N : Nat} {w w1 : World} {L : Sl} {ls : List (List Int)} {gs : List Sl} {n : List Nat} (h : Lot N w L ls gs) (u : Upd [] n w w1) : Lot N w1 L ls gs :=
  ⟨h.parts.old u, h.own.old u, fun x hx => (h.owns x hx).old u, h.dis, h.off⟩
theorem Lot.app {N M b e e' : Nat} {w : World} {L : Sl} {ls nl : List (List Int)} {gs ns : List Sl} {bs : List Nat} {F : Sl → World → Prop} {cs : List Value} {k0 : Nat} (h : Lot N w L ls gs)
    (hrow : w.heap[b]? = some (.cells cs.toArray e (0, 0))) (hcs : cs = cSl.cells ns) (hk0 : k0 = ns.length) (hns : AllB w ns nl) (hown : ∀ x ∈ ns, Own M 1 w x) (hd : ns.Pairwise Apt) (hg : ∀ x ∈ gs, ∀ b ∈ x.blk, b < M) (hL : ∀ b ∈ L.blk, b < M) (hNM : N ≤ M)
    (hNw : N ≤ w.heap.size) (hb : (gs.length + ns.length) * 24 ≤ 140737488355328) (hbs : ∀ x ∈ bs, x < N)
    (k : ∀ r w1, Lot N w1 r (ls ++ nl) (gs ++ ns) → Upd L.blk [] w w1 → F r w1) : Append e' 1 24 L ⟨some ⟨b, 0, none⟩, k0, k0⟩ bs w F := by
  subst hcs hk0
  refine append_own (c := cSl) (new := ns) h.parts.row h.own (sees_row hrow _ rfl rfl) hNw (fun x hx hm => by have := (h.own.blk x hx).1; have := hbs x hm; omega) (by decide) hb fun r w1 hr ho u hnew => ?_
  have hlen := hns.len
  have hgl := h.parts.len
  have dg : ∀ x ∈ gs, ∀ b ∈ x.blk, b ∉ L.blk := h.off
  have dn : ∀ x ∈ ns, ∀ b ∈ x.blk, b ∉ L.blk := fun x hx b hb hm => by have := ((hown x hx).blk b hb).1; have := hL b hm; omega
  refine k r w1 ⟨⟨hr, by simp [hgl, hlen], fun i hi => ?_⟩, ho, ?_, ?_, ?_⟩ u
  · by_cases hi2 : i < ls.length
    · rw [List.getElem_append_left (by rw [hgl]; exact hi2), List.getElem_append_left hi2]
      exact (h.parts.each i hi2).upd u (dg _ (List.getElem_mem _))
    · rw [List.getElem_append_right (by rw [hgl]; omega), List.getElem_append_right (by omega)]
      have := hns.get (i - ls.length) (by simp at hi; omega)
      simp only [hgl]
      exact this.upd u (dn _ (List.getElem_mem _))
  · intro x hx
    rcases List.mem_append.1 hx with hx | hx
    · exact (h.owns x hx).upd u (dg x hx)
    · exact ((hown x hx).upd u (dn x hx)).mono hNM
  · rw [List.pairwise_append]
    refine ⟨h.dis, hd, fun x hx y hy b hb hm => ?_⟩
    have := hg x hx b hb
    have := ((hown y hy).blk b hm).1
    omega
  · intro x hx b hb hm
    rcases List.mem_append.1 hx with hx | hx
    · rcases hnew b hm with h1 | h1
      · exact dg x hx b hb h1
      · have := ((h.owns x hx).blk b hb).2; omega
    · rcases hnew b hm with h1 | h1
      · exact dn x hx b hb h1
      · have := ((hown x hx).blk b hb).2; omega
theorem Lot.blks {N : Nat} {w : World} {L : Sl} {ls : List (List Int)} {gs : List Sl} (h : Lot N w L ls gs) : ∀ b ∈ gs.flatMap Sl.blk, N ≤ b ∧ b < w.heap.size := by
  intro b hb
  obtain ⟨x, hx, hb⟩ := List.mem_flatMap.1 hb
  exact (h.owns x hx).blk b hb
theorem Lot.index {N : Nat} {w : World} {L : Sl} {ls : List (List Int)} {gs : List Sl} (h : Lot N w L ls gs) : ∀ i j (hi : i < gs.length) (hj : j < gs.length), i ≠ j → ∀ b ∈ gs[i].blk, b ∉ gs[j].blk := by
  intro i j hi hj hne
  rcases Nat.lt_or_gt_of_ne hne with h1 | h1
  · exact List.pairwise_iff_getElem.1 h.dis i j hi hj h1
  · exact (List.pairwise_iff_getElem.1 h.dis j i hj hi h1 : Apt _ _).symm
end Go.Vc
