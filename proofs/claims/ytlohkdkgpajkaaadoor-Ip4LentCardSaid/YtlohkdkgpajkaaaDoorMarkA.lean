import Derived.Test.YtlohkdkgpajkaaaDoorG8
import Derived.Test.YtlohkdkgpajkaaaDoorG4
namespace Go.Vc
set_option linter.unusedVariables false
set_option linter.unusedSimpArgs false
set_option autoImplicit false
/-- a slice that holds one mark alone; it lies in b's array, at its beginning, or elsewhere -/
structure Mk (b : Sl) (m : Int) (w : World) (g : Sl) : Prop where
  sees : SeesB w g (List.replicate g.len m)
  place : g.ptr = b.ptr ∨ ∀ x ∈ g.blk, x ∉ b.blk
theorem rep_eq {l : List Int} {m : Int} (h : ∀ x ∈ l, x = m) : l = List.replicate l.length m := List.eq_replicate_iff.2 ⟨rfl, h⟩
theorem Mk.both {b g r : Sl} {m : Int} {w w1 : World} {k : Nat} (h : Mk b m w g) (u : Upd b.blk [] w w1) (hr : SeesB w1 r (List.replicate k m)) (hp : r.ptr = b.ptr) (hk : g.ptr = b.ptr → g.len ≤ k) : Mk b m w1 g := by
  rcases h.place with e | e
  · refine ⟨?_, .inl e⟩
    refine hr.prefix_ (hp.trans e.symm) ?_ (by simp)
    have := hk e
    rw [List.length_replicate, List.drop_replicate, List.replicate_append_replicate]
    congr 1; omega
  · exact ⟨h.sees.upd u e, .inr e⟩
/-- marks appended to a marked list -/
theorem app_mk {b x : Sl} {m : Int} {n j N e by_ : Nat} {w : World} {F : Sl → World → Prop} (hb : SeesB w b (List.replicate n m)) (ob : Own N 1 w b) (hx : SeesB w x (List.replicate j m)) (hN : N ≤ w.heap.size) (hpos : 0 < by_) (hl : (n + j) * by_ ≤ 140737488355328)
    (k : ∀ r w1, Mk b m w1 r → r.len = n + j → (∀ y ∈ r.blk, y ∈ b.blk ∨ (w.heap.size ≤ y ∧ y < w1.heap.size)) → SeesB w1 b (List.replicate n m) → Own N 1 w1 b → Upd b.blk [] w w1 → (∀ g, Mk b m w g → (g.ptr = b.ptr → g.len ≤ n + j) → Mk b m w1 g) → F r w1) : Append e 1 by_ b x [] w F := by
  have hbl := hb.len
  rw [List.length_replicate] at hbl
  refine append_two (c := cU8) hb ob hx hN (by simp) hpos (by simpa using hl) (fun r w1 hr hor hp u hown hsz => ?_) (fun r w1 hr hor u => ?_)
  · rw [List.replicate_append_replicate] at hr
    have hrl := hr.len
    rw [List.length_replicate] at hrl
    refine k r w1 ⟨by rw [hrl]; exact hr, .inl hp⟩ hrl (fun y hy => .inl (by rw [← blk_ptr hp]; exact hy)) ?_ (hown _ _ _ ob) u (fun g hg hgl => hg.both u hr hp hgl)
    refine hr.prefix_ hp ?_ (by simpa using hbl)
    rw [List.length_replicate, List.drop_replicate, List.replicate_append_replicate]
    congr 1; omega
  · rw [List.replicate_append_replicate] at hr
    have hrl := hr.len
    rw [List.length_replicate] at hrl
    refine k r w1 ⟨by rw [hrl]; exact hr, .inr fun y hy hm => by have := (hor.blk y hy).1; have := (ob.blk y hm).2; omega⟩ hrl (fun y hy => .inr (hor.blk y hy)) (hb.old u) (ob.old u) (u.wide (by simp)) (fun g hg _ => ⟨hg.sees.old u, hg.place⟩)
/-- lists that hold one mark, and where they lie -/
structure Marks (lo hi : Nat) (bb : List Nat) (w : World) (s : Sl) (m : Int) : Prop where
  ex : ∃ (ls : List (List Int)) (gs : List Sl), Parts w s ls gs ∧ (∀ l ∈ ls, ∀ x ∈ l, x = m) ∧ (∀ l ∈ ls, l.length ≤ 140737488355328) ∧ ∀ g ∈ gs, ∀ x ∈ g.blk, x ∈ bb ∨ (lo ≤ x ∧ x < hi)
  blk : ∀ x ∈ s.blk, lo ≤ x ∧ x < hi
  few : s.len ≤ 5
theorem Marks.upd {lo hi : Nat} {bb : List Nat} {w w1 : World} {s : Sl} {m : Int} {ms ns : List Nat} (h : Marks lo hi bb w s m) (u : Upd ms ns w w1) (hm : ∀ x ∈ ms, x ∉ bb ∧ ¬ (lo ≤ x ∧ x < hi)) : Marks lo hi bb w1 s m := by
  obtain ⟨⟨ls, gs, h1, h2, h3, h4⟩, h5, h6⟩ := h
  exact ⟨⟨ls, gs, h1.upd u (fun x hx hmem => (hm x hmem).2 (h5 x hx)) (fun g hg x hx hmem => by rcases h4 g hg x hx with q | q; exact (hm x hmem).1 q; exact (hm x hmem).2 q), h2, h3, h4⟩, h5, h6⟩
theorem Marks.old {lo hi : Nat} {bb : List Nat} {w w1 : World} {s : Sl} {m : Int} {ns : List Nat} (h : Marks lo hi bb w s m) (u : Upd [] ns w w1) : Marks lo hi bb w1 s m := h.upd u (by simp)
end Go.Vc
