import Derived.Test.YtkkdnnpnbmpifaaLotF
import Derived.Test.YtkkdnnpnbmpifaaLoops3
namespace Go.Vc
set_option linter.unusedVariables false
set_option linter.unusedSimpArgs false
set_option autoImplicit false
/-- a marked list to which marks are appended in many ways: l: the list, j: how many were appended last, cs: rows of marks at hand, a: what came of it -/
structure Md {α : Type} (c : Cod α) (N : Nat) (w0 w : World) (l : Sl) (y : α) (j : Nat) (cs : List (Nat × Nat)) (a : List Sl) : Prop where
  sees : Sees c w l (List.replicate l.len y)
  own : Own N c.sz w l
  u : Upd l.blk [] w0 w
  le : N ≤ w.heap.size
  l0 : ∀ x ∈ l.blk, x < w0.heap.size
  rows : ∀ p ∈ cs, Sees c w ⟨some ⟨p.2, 0, none⟩, p.1, p.1⟩ (List.replicate p.1 y) ∧ w0.heap.size ≤ p.2
  ma : ∀ g ∈ a, Sees c w g (List.replicate g.len y) ∧ (g.ptr = l.ptr ∨ ∀ x ∈ g.blk, x ∉ l.blk) ∧ (∀ x ∈ g.blk, x ∈ l.blk ∨ (w0.heap.size ≤ x ∧ x < w.heap.size)) ∧ g.len ≤ l.len + j
section
variable {α : Type} {c : Cod α} {N : Nat} {w0 w w1 : World} {l : Sl} {y : α} {j : Nat} {cs : List (Nat × Nat)} {a : List Sl}
theorem Md.start (hs : Sees c w l (List.replicate l.len y)) (ho : Own N c.sz w l) (hN : N ≤ w.heap.size) : Md c N w w l y 0 [] [] :=
  ⟨hs, ho, (Upd.refl w).wide (by simp), hN, fun x hx => (ho.blk x hx).2, by simp, by simp⟩
theorem Md.old {ns : List Nat} (m : Md c N w0 w l y j cs a) (u : Upd [] ns w w1) : Md c N w0 w1 l y j cs a :=
  ⟨m.sees.old u, m.own.old u, m.u.step u (by simp), by have := m.le; have := u.size; omega, m.l0, fun p hp => ⟨(m.rows p hp).1.old u, (m.rows p hp).2⟩, fun g hg => ⟨(m.ma g hg).1.old u, (m.ma g hg).2.1, fun x hx => by
    rcases (m.ma g hg).2.2.1 x hx with q | q
    · exact .inl q
    · exact .inr (by have := u.size; omega), (m.ma g hg).2.2.2⟩⟩
theorem Md.kept {bs : List Nat} (m : Md c N w0 w l y j cs a) (hb : ∀ x ∈ bs, x < w0.heap.size ∧ x ∉ l.blk) : Kept bs w0 w := fun x hx => m.u.keep x (hb x hx).1 (hb x hx).2
/-- a row of marks -/
theorem Md.comp {e : Nat} {vs : List Value} {F : Nat → World → Prop} (m : Md c N w0 w l y j cs a) (i : Nat) (hv : vs = c.cells (List.replicate i y)) (k : ∀ b w1, Md c N w0 w1 l y j ((i, b) :: cs) a → F b w1) :
    ∀ b w1, Upd [] [b] w w1 → w1.heap[b]? = some (.cells vs.toArray e (0, 0)) → F b w1 := by
  intro b w1 u hr
  have m1 := m.old u
  have nb := u.new (b := b) (by simp)
  have z := m.u.size
  refine k b w1 ⟨m1.sees, m1.own, m1.u, m1.le, m1.l0, fun p hp => ?_, m1.ma⟩
  rcases List.mem_cons.1 hp with rfl | hp
  · exact ⟨sees_row hr _ hv (by simp), by dsimp only; omega⟩
  · exact m1.rows p hp
/-- marks are appended -/
theorem Md.app {b i e by_ : Nat} {bs : List Nat} {F : Sl → World → Prop} (m : Md c N w0 w l y j cs a) (hm : (i, b) ∈ cs) (hj : j ≤ i) (hpos : 0 < by_) (hl : (l.len + i) * by_ ≤ 140737488355328) (hbs : ∀ x ∈ l.blk, x ∉ bs)
    (k : ∀ r w1, r.len = l.len + i → Md c N w0 w1 l y i cs (a ++ [r]) → F r w1) : Append e c.sz by_ l ⟨some ⟨b, 0, none⟩, i, i⟩ bs w F := by
  obtain ⟨hx, hb0⟩ := m.rows _ hm
  have z := m.u.size
  refine append_two (c := c) m.sees m.own hx m.le hbs hpos (by simpa using hl) (fun r w1 hr hor hp u hown hsz => ?_) (fun r w1 hr hor u => ?_)
  · rw [List.replicate_append_replicate] at hr
    have hrl := hr.len
    rw [List.length_replicate] at hrl
    have pre : ∀ g : Sl, g.ptr = l.ptr → g.len ≤ l.len + i → Sees c w1 g (List.replicate g.len y) := fun g hg hgl => by
      refine hr.prefix_ (hp.trans hg.symm) ?_ (by simp)
      rw [List.length_replicate, List.drop_replicate, List.replicate_append_replicate]
      congr 1; omega
    have hs1 := u.size
    refine k r w1 hrl ⟨pre l rfl (by omega), hown _ _ _ m.own, m.u.step u (fun x hx => .inr hx), by have := m.le; omega, m.l0, fun p hp => ⟨(m.rows p hp).1.upd u (fun x hx hm => ?_), (m.rows p hp).2⟩, fun g hg => ?_⟩
    · have h1 := (m.rows p hp).2
      have h2 := m.l0 x hm
      simp [Sl.blk] at hx
      omega
    · rcases List.mem_append.1 hg with hg | hg
      · obtain ⟨g1, g2, g3, g4⟩ := m.ma g hg
        refine ⟨?_, g2, fun x hx => ?_, by omega⟩
        · rcases g2 with q | q
          · exact pre g q (by omega)
          · exact g1.upd u q
        · rcases g3 x hx with q | q
          · exact .inl q
          · exact .inr (by omega)
      · rw [List.mem_singleton] at hg
        subst hg
        exact ⟨by rw [hrl]; exact hr, .inl hp, fun x hx => .inl (by rw [← blk_ptr hp]; exact hx), by omega⟩
  · rw [List.replicate_append_replicate] at hr
    have hrl := hr.len
    rw [List.length_replicate] at hrl
    have m1 := m.old u
    refine k r w1 hrl ⟨m1.sees, m1.own, m1.u, m1.le, m1.l0, m1.rows, fun g hg => ?_⟩
    rcases List.mem_append.1 hg with hg | hg
    · obtain ⟨g1, g2, g3, g4⟩ := m1.ma g hg
      exact ⟨g1, g2, g3, by omega⟩
    · rw [List.mem_singleton] at hg
      subst hg
      refine ⟨by rw [hrl]; exact hr, .inr fun x hx hm => ?_, fun x hx => .inr ?_, by omega⟩
      · have := (hor.blk x hx).1; have := m.l0 x hm; omega
      · have := hor.blk x hx; omega
end
end Go.Vc
