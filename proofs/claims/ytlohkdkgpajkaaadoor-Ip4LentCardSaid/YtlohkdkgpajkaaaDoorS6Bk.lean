import Derived.Test.YtlohkdkgpajkaaaDoorS6Stand
open Go Go.Vc Go.Proofs
set_option linter.unusedVariables false
set_option linter.unusedSimpArgs false
set_option autoImplicit false
namespace Go.Vc.S6
/-- colours of blocks -/
def rc (c : Nat → Nat) (z k : Nat) : Nat → Nat := fun x => if x < z then c x else k
def Col (c : Nat → Nat) (k : Nat) (S : List Nat) : Prop := ∀ x ∈ S, c x = k
theorem Col.rc {c : Nat → Nat} {k z j : Nat} {S : List Nat} (h : Col c k S) (hz : ∀ x ∈ S, x < z) : Col (rc c z j) k S := fun x hx => by
  unfold S6.rc
  rw [if_pos (hz x hx)]; exact h x hx
theorem Col.new {c : Nat → Nat} {k z : Nat} {S T : List Nat} (h : Col c k S) (hn : ∀ x ∈ T, x ∈ S ∨ z ≤ x) : Col (S6.rc c z k) k T := fun x hx => by
  unfold S6.rc
  split
  · rcases hn x hx with q | q
    · exact h x q
    · omega
  · rfl
theorem Col.off {c : Nat → Nat} {k j : Nat} {S T : List Nat} (h : Col c k S) (h' : Col c j T) (hne : k ≠ j) : ∀ x ∈ S, x ∉ T := fun x hx hm => hne ((h x hx).symm.trans (h' x hm))
/-- a book: its blocks alone -/
def BkAt (N : Nat) (w : World) (bk n : Nat) (hd : List Nat) : Prop :=
  ∃ L W ls gs hs, Bok N w bk L W ls gs hs ∧ hd = bk :: (lotB L gs ++ lotB W hs) ∧ ls.length = n ∧ ∀ l ∈ ls, Byt l ∧ l.length ≤ 1000000
section
variable {N bk n : Nat} {w w1 : World} {R : SV → World → Prop} {hd : List Nat}
theorem BkAt.lt (h : BkAt N w bk n hd) (hN : N ≤ bk) : ∀ x ∈ hd, N ≤ x ∧ x < w.heap.size := by
  obtain ⟨L, W, ls, gs, hs, hB, rfl, _⟩ := h
  intro x hx
  rcases List.mem_cons.1 hx with rfl | q
  · exact ⟨hN, hB.box.lt⟩
  · rcases List.mem_append.1 q with q | q
    · exact hB.A.lt x q
    · exact hB.B.lt x q
theorem BkAt.upd {m nn : List Nat} (h : BkAt N w bk n hd) (u : Upd m nn w w1) (hm : ∀ x ∈ hd, x ∉ m) : BkAt N w1 bk n hd := by
  obtain ⟨L, W, ls, gs, hs, hB, rfl, h1, h2⟩ := h
  exact ⟨L, W, ls, gs, hs, ⟨hB.box.upd u (hm _ (by simp)), hB.A.upd u (fun x hx => hm x (by simp [hx])), hB.B.upd u (fun x hx => hm x (by simp [hx])), hB.apart, hB.offA, hB.offB⟩, rfl, h1, h2⟩
theorem BkAt.keep {g : Sl} {l : List Int} (h : BkAt N w bk n hd) (hg : SeesB w g l) (og : Own N 1 w g) (hdis : ∀ x ∈ g.blk, x ∉ hd) (hN : N ≤ w.heap.size) (hb : Byt l) (hl : l.length ≤ 1000000) (hn : n ≤ 1000000)
    (k : ∀ hd' w1, Upd hd [] w w1 → BkAt N w1 bk (n + 1) hd' → (∀ x ∈ hd', x ∈ hd ∨ x ∈ g.blk ∨ w.heap.size ≤ x) → R (.tuple []) w1) : Ret Tryd.prog 39 [.ptr (some ⟨bk, 0, none⟩), .slice g] w R := by
  obtain ⟨L, W, ls, gs, hs, hB, rfl, h1, h2⟩ := h
  refine c39 hB hg og (fun x hx => ?_) hN (by omega) (by omega) fun L' W' c w1 ms u hms hB' nA nB => ?_
  · have := hdis x hx
    simp only [List.mem_cons, List.mem_append, not_or] at this
    exact ⟨this.2.1, this.2.2, this.1⟩
  · refine k _ w1 (u.wide (fun x hx => ?_)) ⟨L', W', _, _, _, hB', rfl, by simp [h1], fun l' hl' => ?_⟩ (fun x hx => ?_)
    · rcases hms x hx with q | q | q
      · simp [q]
      · simp [lotB_mem.2 (.inl q)]
      · simp [lotB_mem.2 (.inl q)]
    · rcases List.mem_append.1 hl' with q | q
      · exact h2 l' q
      · rw [List.mem_singleton] at q; subst q; exact ⟨hb, hl⟩
    · rcases List.mem_cons.1 hx with q | q
      · exact .inl (by simp [q])
      · rcases List.mem_append.1 q with q | q
        · rcases nA x q with r | r | r
          · exact .inl (by simp [r])
          · exact .inr (.inl r)
          · exact .inr (.inr r)
        · rcases nB x q with r | r
          · exact .inl (by simp [r])
          · exact .inr (.inr r)
theorem BkAt.untouched (h : BkAt N w bk n hd) (hn : n ≤ 1000000) (k : ∀ w1, Upd [] [] w w1 → R (.bool true) w1) : Ret Tryd.prog 40 [.ptr (some ⟨bk, 0, none⟩)] w R := by
  obtain ⟨L, W, ls, gs, hs, hB, rfl, h1, h2⟩ := h
  exact c40T hB (fun l hl => (h2 l hl).1) (by omega) k
theorem BkAt.settle (h : BkAt N w bk n hd) (hn : n ≤ 1000000) (hN : N ≤ w.heap.size) (k : ∀ w1, Upd hd [] w w1 → R (.bool true) w1) : Ret Tryd.prog 42 [.ptr (some ⟨bk, 0, none⟩)] w R := by
  obtain ⟨L, W, ls, gs, hs, hB, rfl, h1, h2⟩ := h
  refine c42T hB (by omega) (fun l hl => by have := (h2 l hl).2; omega) (fun l hl => (h2 l hl).1) hN fun w1 ms u hms => k w1 (u.wide (fun x hx => by simp [hms x hx]))
theorem BkAt.start {e : Nat} (hr : w.heap[bk]? = some (.cells (SV.cells (SV.struct [SV.slice ⟨none, 0, 0⟩, SV.slice ⟨none, 0, 0⟩])).toArray e (0, 0))) : BkAt N w bk 0 [bk] :=
  ⟨_, _, [], [], [], ⟨Bx.mk' (l := [.sl ⟨none, 0, 0⟩, .sl ⟨none, 0, 0⟩]) hr rfl, LotC.nil _ _ _, LotC.nil _ _ _, by simp [lotB, Sl.blk], by simp [lotB, Sl.blk], by simp [lotB, Sl.blk]⟩, by simp [lotB, Sl.blk], rfl, by simp⟩
theorem frm_len {l l' : List Opt} (h : frm l' = frm l) : l'.length = l.length := by
  have := congrArg List.length h
  simpa [frm] using this
theorem frm_le {l l' : List Opt} {B : Nat} (h : frm l' = frm l) (hB : ∀ o ∈ l, o.data.length ≤ B) : ∀ o ∈ l', o.data.length ≤ B := by
  intro o ho
  have : (o.kind, o.data.length) ∈ frm l' := List.mem_map.2 ⟨o, ho, rfl⟩
  rw [h] at this
  obtain ⟨p, hp, e⟩ := List.mem_map.1 this
  have := hB p hp
  simp at e
  omega
end
end Go.Vc.S6
