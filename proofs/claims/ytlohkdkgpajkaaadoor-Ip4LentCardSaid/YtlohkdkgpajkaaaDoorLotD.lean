import Derived.Test.YtlohkdkgpajkaaaDoorLotC
namespace Go.Vc
set_option linter.unusedVariables false
set_option linter.unusedSimpArgs false
set_option autoImplicit false
section
variable {α : Type} {c : Cod α} {N : Nat} {w w1 : World} {L : Sl} {ls : List (List α)} {gs : List Sl}
theorem LotC.index (h : LotC c N w L ls gs) : ∀ i j (hi : i < gs.length) (hj : j < gs.length), i ≠ j → ∀ b ∈ gs[i].blk, b ∉ gs[j].blk := by
  intro i j hi hj hne
  rcases Nat.lt_or_gt_of_ne hne with h1 | h1
  · exact List.pairwise_iff_getElem.1 h.dis i j hi hj h1
  · exact (List.pairwise_iff_getElem.1 h.dis j i hj hi h1 : Apt _ _).symm
/-- one element of one list is written -/
theorem LotC.set {i q : Nat} {y : α} {vs : List Value} {F : World → Prop} (h : LotC c N w L ls gs) (hz : 0 < c.sz) (hi : i < ls.length) (hi2 : i < gs.length) (hq : q < ls[i].length) (hv : vs = c.enc y) (k : ∀ w1, LotC c N w1 L (ls.set i (ls[i].set q y)) gs → Upd (gs[i]).blk [] w w1 → F w1) : Store w ((gs[i]).at c.sz q) vs [] F := by
  have hgl := h.len
  refine own_set (h.each i hi) (h.owns _ (List.getElem_mem _)) hz hq hv (by simp) fun w1 h1 o1 u1 => k w1 ⟨?_, by rw [List.length_set]; exact hgl, fun j hj => ?_, ?_, fun x hx => ?_, h.dis, h.off⟩ u1
  · exact h.row.upd u1 (fun x hx hm => h.off _ (List.getElem_mem hi2) x hm hx)
  · have hj' : j < ls.length := by simpa using hj
    by_cases e : j = i
    · subst e
      have e1 : (ls.set j (ls[j].set q y))[j]'hj = ls[j].set q y := by simp
      rw [e1]
      exact h1
    · have e1 : (ls.set i (ls[i].set q y))[j]'hj = ls[j] := by
        rw [List.getElem_set_ne (by omega)]
      rw [e1]
      exact (h.each j hj').upd u1 (h.index j i (by omega) hi2 e)
  · exact h.own.upd u1 (fun x hx hm => h.off _ (List.getElem_mem hi2) x hm hx)
  · obtain ⟨j, hj, rfl⟩ := List.getElem_of_mem hx
    by_cases e : j = i
    · subst e; exact o1
    · exact (h.owns _ (List.getElem_mem hj)).upd u1 (h.index j i hj hi2 e)
end
/-- one mark more behind a list that holds one mark alone; b: the list as it was handed out -/
theorem app_mkC {α : Type} {c : Cod α} {w : World} {N k e by_ : Nat} {b s x : Sl} {y : α} {F : Sl → World → Prop} (hb : Sees c w b (List.replicate b.len y)) (hs : Sees c w s (List.replicate k y)) (os : Own N c.sz w s) (hbk : b.len ≤ k) (hp : s.ptr = b.ptr ∨ ∀ z ∈ b.blk, z ∉ s.blk) (hx : Sees c w x [y]) (hN : N ≤ w.heap.size) (hbs : ∀ z ∈ b.blk, z < w.heap.size) (hpos : 0 < by_) (hl : (k + 1) * by_ ≤ 140737488355328)
    (kk : ∀ r w1, Sees c w1 r (List.replicate (k + 1) y) → Own N c.sz w1 r → Sees c w1 b (List.replicate b.len y) → (r.ptr = b.ptr ∨ ∀ z ∈ b.blk, z ∉ r.blk) → Upd s.blk [] w w1 → (∀ z ∈ r.blk, z ∈ s.blk ∨ w.heap.size ≤ z) → F r w1) : Append e c.sz by_ s x [] w F := by
  refine append_two hs os hx hN (by simp) hpos (by simpa using hl) (fun r w1 hr hor hrp u _ _ => ?_) (fun r w1 hr hor u => ?_)
  · rw [show List.replicate k y ++ [y] = List.replicate (k + 1) y by rw [List.replicate_succ']] at hr
    have hrb : r.blk = s.blk := blk_ptr hrp
    refine kk r w1 hr hor ?_ ?_ u (fun z hz => .inl (hrb ▸ hz))
    · rcases hp with q | q
      · refine hr.prefix_ (hrp.trans q) ?_ (by simp)
        rw [List.length_replicate, List.drop_replicate, List.replicate_append_replicate]
        congr 1; omega
      · exact hb.upd u q
    · rcases hp with q | q
      · exact .inl (hrp.trans q)
      · exact .inr (by rw [hrb]; exact q)
  · rw [show List.replicate k y ++ [y] = List.replicate (k + 1) y by rw [List.replicate_succ']] at hr
    exact kk r w1 hr (hor.mono hN) (hb.old u) (.inr fun z hz hm => by have := hbs z hz; have := (hor.blk z hm).1; omega) (u.wide (by simp)) (fun z hz => .inr (hor.blk z hz).1)
end Go.Vc
