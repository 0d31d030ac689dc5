import Derived.Test.YtkkdnnpnbmpifaaMarkC
namespace Go.Vc
set_option linter.unusedVariables false
set_option linter.unusedSimpArgs false
set_option autoImplicit false
/-- a box of slices, each in an array of its own -/
structure Rows (N : Nat) (w : World) (bk : Nat) (ss : List Sl) : Prop where
  box : Bx w bk (ss.map .sl)
  own : ∀ s ∈ ss, Own N 1 w s
  off : ∀ s ∈ ss, bk ∉ s.blk
  dis : ∀ (i j : Nat) (s t : Sl), ss[i]? = some s → ss[j]? = some t → i ≠ j → ∀ x ∈ s.blk, x ∉ t.blk
  base : N ≤ bk ∧ N ≤ w.heap.size
def rowsB (bk : Nat) (ss : List Sl) : List Nat := bk :: ss.flatMap Sl.blk
theorem rowsB_mem {bk x : Nat} {ss : List Sl} : x ∈ rowsB bk ss ↔ x = bk ∨ ∃ s ∈ ss, x ∈ s.blk := by simp [rowsB]
section
variable {N bk : Nat} {w w1 : World} {ss : List Sl}
theorem Rows.upd {m n : List Nat} (h : Rows N w bk ss) (u : Upd m n w w1) (hm : ∀ x ∈ rowsB bk ss, x ∉ m) : Rows N w1 bk ss :=
  ⟨h.box.upd u (hm bk (rowsB_mem.2 (.inl rfl))), fun s hs => (h.own s hs).upd u (fun x hx => hm x (rowsB_mem.2 (.inr ⟨s, hs, hx⟩))), h.off, h.dis, ⟨h.base.1, by have := u.size; have := h.base.2; omega⟩⟩
theorem Rows.old {n : List Nat} (h : Rows N w bk ss) (u : Upd [] n w w1) : Rows N w1 bk ss := h.upd u (by simp)
theorem Rows.lt (h : Rows N w bk ss) : ∀ x ∈ rowsB bk ss, N ≤ x ∧ x < w.heap.size := fun x hx => by
  rcases rowsB_mem.1 hx with rfl | ⟨s, hs, q⟩
  · exact ⟨h.base.1, h.box.lt⟩
  · exact (h.own s hs).blk x q
theorem Rows.get (h : Rows N w bk ss) (i : Nat) {s : Sl} (hi : ss[i]? = some s) : w.cell? ((⟨bk, 0, none⟩ : Addr).add i) = some s.val :=
  h.box.sl i s (by rw [List.getElem?_map, hi]; rfl)
/-- one of the slices is appended to -/
theorem Rows.app {α : Type} {c : Cod α} {i e by_ : Nat} {s x : Sl} {l new : List α} {bs : List Nat} {F : World → Prop} (h : Rows N w bk ss) (hc : c.sz = 1) (hi : ss[i]? = some s) (hs : Sees c w s l) (hx : Sees c w x new) (hpos : 0 < by_) (hb : (l.length + new.length) * by_ ≤ 140737488355328) (hbs : ∀ x ∈ rowsB bk ss, x ∉ bs)
    (k : ∀ r w1, Rows N w1 bk (ss.set i r) → Sees c w1 r (l ++ new) → (∀ x ∈ r.blk, x ∈ s.blk ∨ w.heap.size ≤ x) → Upd (bk :: s.blk) [] w w1 → F w1) :
    Append e c.sz by_ s x bs w fun r w => Store w ((⟨bk, 0, none⟩ : Addr).add i) (SV.cells (.slice r)) bs F := by
  have hm := List.mem_of_getElem? hi
  obtain ⟨il, ie⟩ := List.getElem?_eq_some_iff.1 hi
  have ho : Own N c.sz w s := by rw [hc]; exact h.own s hm
  refine append_own hs ho hx h.base.2 (fun x hx => hbs x (rowsB_mem.2 (.inr ⟨s, hm, hx⟩))) hpos hb fun r w1 hr hor u nw => ?_
  have lt := h.lt
  have z := u.size
  have hbl := h.box.lt
  have dr : ∀ x ∈ r.blk, x ≠ bk := fun x hx e => by
    rcases nw x hx with q | q
    · exact h.off s hm (e ▸ q)
    · omega
  rw [hc] at hor
  refine (h.box.upd u (h.off s hm)).set (y := .sl r) i (by simpa using il) rfl (hbs bk (rowsB_mem.2 (.inl rfl))) fun w2 hx2 u2 => k r w2 ⟨by rw [List.map_set]; exact hx2, fun t ht => ?_, fun t ht => ?_, fun a b p q ha hb hne => ?_, ⟨h.base.1, by have := u2.size; have := h.base.2; omega⟩⟩ (hr.upd u2 (fun x hx e => by rw [List.mem_singleton] at e; exact dr x hx e)) nw ((u.wide (m' := bk :: s.blk) (fun x hx => by simp [hx])).step u2 (fun x hx => .inr (by rw [List.mem_singleton] at hx; simp [hx])))
  · obtain ⟨j, hj, rfl⟩ := List.getElem_of_mem ht
    have hj2 : j < ss.length := by simpa using hj
    by_cases e : j = i
    · subst e
      rw [List.getElem_set_self]
      exact hor.upd u2 (fun x hx e => by rw [List.mem_singleton] at e; exact dr x hx e)
    · rw [List.getElem_set_ne (Ne.symm e)]
      exact ((h.own _ (List.getElem_mem hj2)).upd u (h.dis j i _ _ (List.getElem?_eq_getElem hj2) hi e)).upd u2 (fun x hx e2 => by rw [List.mem_singleton] at e2; exact h.off _ (List.getElem_mem hj2) (e2 ▸ hx))
  · obtain ⟨j, hj, rfl⟩ := List.getElem_of_mem ht
    have hj2 : j < ss.length := by simpa using hj
    by_cases e : j = i
    · subst e
      rw [List.getElem_set_self]
      exact fun q => dr bk q rfl
    · rw [List.getElem_set_ne (Ne.symm e)]
      exact h.off _ (List.getElem_mem hj2)
  · intro x hx hm2
    by_cases ea : a = i
    · subst ea
      rw [List.getElem?_set_self il] at ha
      cases ha
      rw [List.getElem?_set_ne hne] at hb
      rcases nw x hx with q2 | q2
      · exact h.dis a b s q hi hb hne x q2 hm2
      · have := lt x (rowsB_mem.2 (.inr ⟨q, List.mem_of_getElem? hb, hm2⟩)); omega
    · rw [List.getElem?_set_ne (Ne.symm ea)] at ha
      by_cases eb : b = i
      · subst eb
        rw [List.getElem?_set_self il] at hb
        cases hb
        rcases nw x hm2 with q2 | q2
        · exact h.dis a b p s ha hi hne x hx q2
        · have := lt x (rowsB_mem.2 (.inr ⟨p, List.mem_of_getElem? ha, hx⟩)); omega
      · rw [List.getElem?_set_ne (Ne.symm eb)] at hb
        exact h.dis a b p q ha hb hne x hx hm2
/-- the others' blocks are not written -/
theorem Rows.else_ (h : Rows N w bk ss) {i j : Nat} {s t : Sl} (hi : ss[i]? = some s) (hj : ss[j]? = some t) (hne : i ≠ j) : ∀ x ∈ t.blk, x ∉ bk :: s.blk := fun x hx hm => by
  rcases List.mem_cons.1 hm with rfl | q
  · exact h.off t (List.mem_of_getElem? hj) hx
  · exact h.dis i j s t hi hj hne x q hx
theorem rowsB_set {i x n : Nat} {s r : Sl} (hi : ss[i]? = some s) (nw : ∀ x ∈ r.blk, x ∈ s.blk ∨ n ≤ x) (hx : x ∈ rowsB bk (ss.set i r)) : x ∈ rowsB bk ss ∨ n ≤ x := by
  rcases rowsB_mem.1 hx with q | ⟨t, ht, q⟩
  · exact .inl (rowsB_mem.2 (.inl q))
  · rcases List.mem_or_eq_of_mem_set ht with h1 | rfl
    · exact .inl (rowsB_mem.2 (.inr ⟨t, h1, q⟩))
    · rcases nw x q with z | z
      · exact .inl (rowsB_mem.2 (.inr ⟨s, List.mem_of_getElem? hi, z⟩))
      · exact .inr z
end
end Go.Vc
