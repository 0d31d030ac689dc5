import Derived.Test.YtkkdnnpnbmpifaaLotF
namespace Go.Vc
set_option linter.unusedVariables false
set_option linter.unusedSimpArgs false
set_option autoImplicit false
section
variable {α : Type} {c : Cod α} {N : Nat} {w w1 : World} {L : Sl} {ls : List (List α)} {gs : List Sl}
/-- lists more -/
theorem LotC.appsB {M b e e' k0 : Nat} {ns : List Sl} {nl : List (List α)} {bs : List Nat} {F : Sl → World → Prop} {cs : List Value} (h : LotC c N w L ls gs) (hrow : w.heap[b]? = some (.cells cs.toArray e (0, 0))) (hcs : cs = cSl.cells ns) (hk0 : k0 = ns.length) (hnl : ns.length = nl.length) (hg : ∀ i (hi : i < nl.length), Sees c w (ns[i]'(by rw [hnl]; exact hi)) nl[i]) (og : ∀ x ∈ ns, Own M c.sz w x) (hd : ns.Pairwise Apt) (hM : ∀ x ∈ lotB L gs, x < M) (hNM : N ≤ M)
    (hNw : N ≤ w.heap.size) (hb : (gs.length + ns.length) * 24 ≤ 140737488355328) (hbs : ∀ x ∈ L.blk, x ∉ bs)
    (k : ∀ r w1, LotC c N w1 r (ls ++ nl) (gs ++ ns) → Upd L.blk [] w w1 → (∀ x ∈ r.blk, x ∈ L.blk ∨ w.heap.size ≤ x) → F r w1) : Append e' 1 24 L ⟨some ⟨b, 0, none⟩, k0, k0⟩ bs w F := by
  subst hcs hk0
  refine append_own (c := cSl) (new := ns) h.row h.own (sees_row hrow _ rfl rfl) hNw hbs (by decide) hb fun r w1 hr ho u hnew => ?_
  have hgl := h.len
  have dg : ∀ x ∈ gs, ∀ b ∈ x.blk, b ∉ L.blk := h.off
  have dn : ∀ x ∈ ns, ∀ b ∈ x.blk, b ∉ L.blk := fun x hx b hb hm => by
    have := ((og x hx).blk b hb).1
    have := hM b (lotB_mem.2 (.inl hm))
    omega
  refine k r w1 ⟨hr, by simp [hgl, hnl], fun i hi => ?_, ho, ?_, ?_, ?_⟩ u hnew
  · by_cases hi2 : i < ls.length
    · rw [List.getElem_append_left (by rw [hgl]; exact hi2)]
      have e : (ls ++ nl)[i] = ls[i] := List.getElem_append_left hi2
      rw [e]
      exact (h.each i hi2).upd u (dg _ (List.getElem_mem _))
    · have hi3 : i - ls.length < nl.length := by simp at hi; omega
      have e : (ls ++ nl)[i] = nl[i - ls.length] := List.getElem_append_right (by omega)
      rw [e]
      have e2 : (gs ++ ns)[i]'(by simp [hgl, hnl]; simp at hi; omega) = ns[i - ls.length]'(by rw [hnl]; exact hi3) := by
        rw [List.getElem_append_right (by omega)]
        simp only [hgl]
      rw [e2]
      exact (hg _ hi3).upd u (dn _ (List.getElem_mem _))
  · intro x hx
    rcases List.mem_append.1 hx with hx | hx
    · exact (h.owns x hx).upd u (dg x hx)
    · exact ((og x hx).upd u (dn x hx)).mono hNM
  · rw [List.pairwise_append]
    refine ⟨h.dis, hd, fun x hx y hy b hb hm => ?_⟩
    have := ((og y hy).blk b hm).1
    have := hM b (lotB_mem.2 (.inr ⟨x, hx, hb⟩))
    omega
  · intro x hx b hb hm
    rcases List.mem_append.1 hx with hx | hx
    · rcases hnew b hm with h1 | h1
      · exact dg x hx b hb h1
      · have := ((h.owns x hx).blk b hb).2; omega
    · rcases hnew b hm with h1 | h1
      · exact dn x hx b hb h1
      · have := ((og x hx).blk b hb).2; omega
/-- one list more -/
theorem LotC.app1B {b e e' k0 : Nat} {g : Sl} {l : List α} {bs : List Nat} {F : Sl → World → Prop} {cs : List Value} (h : LotC c N w L ls gs) (hrow : w.heap[b]? = some (.cells cs.toArray e (0, 0))) (hcs : cs = cSl.cells [g]) (hk0 : k0 = 1) (hg : Sees c w g l) (og : Own N c.sz w g) (hd : ∀ x ∈ g.blk, x ∉ lotB L gs)
    (hNw : N ≤ w.heap.size) (hb : (gs.length + 1) * 24 ≤ 140737488355328) (hbs : ∀ x ∈ L.blk, x ∉ bs)
    (k : ∀ r w1, LotC c N w1 r (ls ++ [l]) (gs ++ [g]) → Upd L.blk [] w w1 → (∀ x ∈ r.blk, x ∈ L.blk ∨ w.heap.size ≤ x) → F r w1) : Append e' 1 24 L ⟨some ⟨b, 0, none⟩, k0, k0⟩ bs w F := by
  subst hcs hk0
  refine append_own (c := cSl) (new := [g]) h.row h.own (sees_row hrow _ rfl rfl) hNw hbs (by decide) hb fun r w1 hr ho u hnew => ?_
  have hgl := h.len
  have dg : ∀ x ∈ gs, ∀ b ∈ x.blk, b ∉ L.blk := h.off
  have dn : ∀ x ∈ g.blk, x ∉ L.blk := fun x hx hm => hd x hx (lotB_mem.2 (.inl hm))
  refine k r w1 ⟨hr, by simp [hgl], fun i hi => ?_, ho, ?_, ?_, ?_⟩ u hnew
  · by_cases hi2 : i < ls.length
    · rw [List.getElem_append_left (by rw [hgl]; exact hi2)]
      have e : (ls ++ [l])[i] = ls[i] := List.getElem_append_left hi2
      rw [e]
      exact (h.each i hi2).upd u (dg _ (List.getElem_mem _))
    · have hil : i = ls.length := by simp at hi; omega
      subst hil
      have e : (ls ++ [l])[ls.length] = l := by simp
      rw [e]
      have e2 : (gs ++ [g])[ls.length]'(by simp [hgl]) = g := by simp [← hgl]
      rw [e2]
      exact hg.upd u dn
  · intro x hx
    rcases List.mem_append.1 hx with hx | hx
    · exact (h.owns x hx).upd u (dg x hx)
    · rw [List.mem_singleton] at hx; subst hx; exact og.upd u dn
  · rw [List.pairwise_append]
    refine ⟨h.dis, by simp, fun x hx y hy b hb hm => ?_⟩
    rw [List.mem_singleton] at hy; subst hy
    exact hd b hm (lotB_mem.2 (.inr ⟨x, hx, hb⟩))
  · intro x hx b hb hm
    rcases List.mem_append.1 hx with hx | hx
    · rcases hnew b hm with h1 | h1
      · exact dg x hx b hb h1
      · have := ((h.owns x hx).blk b hb).2; omega
    · rw [List.mem_singleton] at hx; subst hx
      rcases hnew b hm with h1 | h1
      · exact dn b hb h1
      · have := (og.blk b hb).2; omega
/-- one element of one list is written -/
theorem LotC.setB {i q : Nat} {y : α} {vs : List Value} {bs : List Nat} {F : World → Prop} (h : LotC c N w L ls gs) (hz : 0 < c.sz) (hi : i < ls.length) (hi2 : i < gs.length) (hq : q < ls[i].length) (hv : vs = c.enc y) (hbs : ∀ x ∈ gs[i].blk, x ∉ bs) (k : ∀ w1, LotC c N w1 L (ls.set i (ls[i].set q y)) gs → Upd (gs[i]).blk [] w w1 → F w1) : Store w ((gs[i]).at c.sz q) vs bs F := by
  have hgl := h.len
  refine own_set (h.each i hi) (h.owns _ (List.getElem_mem _)) hz hq hv hbs fun w1 h1 o1 u1 => k w1 ⟨?_, by rw [List.length_set]; exact hgl, fun j hj => ?_, ?_, fun x hx => ?_, h.dis, h.off⟩ u1
  · exact h.row.upd u1 (fun x hx hm => h.off _ (List.getElem_mem hi2) x hm hx)
  · have hj' : j < ls.length := by simpa using hj
    by_cases e : j = i
    · subst e
      have e1 : (ls.set j (ls[j].set q y))[j]'hj = ls[j].set q y := by simp
      rw [e1]
      exact h1
    · have e1 : (ls.set i (ls[i].set q y))[j]'hj = ls[j] := by
        rw [List.getElem_set_ne (by omega)]
      rw [e1]
      exact (h.each j hj').upd u1 (h.index j i (by omega) hi2 e)
  · exact h.own.upd u1 (fun x hx hm => h.off _ (List.getElem_mem hi2) x hm hx)
  · obtain ⟨j, hj, rfl⟩ := List.getElem_of_mem hx
    by_cases e : j = i
    · subst e; exact o1
    · exact (h.owns _ (List.getElem_mem hj)).upd u1 (h.index j i hj hi2 e)
end
/-- one mark more behind a list that holds one mark alone; b: the list as it was handed out -/
theorem app_mkB {α : Type} {c : Cod α} {w : World} {N k e by_ : Nat} {b s x : Sl} {y : α} {bs : List Nat} {F : Sl → World → Prop} (hb : Sees c w b (List.replicate b.len y)) (hs : Sees c w s (List.replicate k y)) (os : Own N c.sz w s) (hbk : b.len ≤ k) (hp : s.ptr = b.ptr ∨ ∀ z ∈ b.blk, z ∉ s.blk) (hx : Sees c w x [y]) (hN : N ≤ w.heap.size) (hbs : ∀ z ∈ b.blk, z < w.heap.size) (hbs2 : ∀ z ∈ s.blk, z ∉ bs) (hpos : 0 < by_) (hl : (k + 1) * by_ ≤ 140737488355328)
    (kk : ∀ r w1, Sees c w1 r (List.replicate (k + 1) y) → Own N c.sz w1 r → Sees c w1 b (List.replicate b.len y) → (r.ptr = b.ptr ∨ ∀ z ∈ b.blk, z ∉ r.blk) → Upd s.blk [] w w1 → (∀ z ∈ r.blk, z ∈ s.blk ∨ w.heap.size ≤ z) → F r w1) : Append e c.sz by_ s x bs w F := by
  refine append_two hs os hx hN hbs2 hpos (by simpa using hl) (fun r w1 hr hor hrp u _ _ => ?_) (fun r w1 hr hor u => ?_)
  · rw [show List.replicate k y ++ [y] = List.replicate (k + 1) y by rw [List.replicate_succ']] at hr
    have hrb : r.blk = s.blk := blk_ptr hrp
    refine kk r w1 hr hor ?_ ?_ u (fun z hz => .inl (hrb ▸ hz))
    · rcases hp with q | q
      · refine hr.prefix_ (hrp.trans q) ?_ (by simp)
        rw [List.length_replicate, List.drop_replicate, List.replicate_append_replicate]
        congr 1; omega
      · exact hb.upd u q
    · rcases hp with q | q
      · exact .inl (hrp.trans q)
      · exact .inr (by rw [hrb]; exact q)
  · rw [show List.replicate k y ++ [y] = List.replicate (k + 1) y by rw [List.replicate_succ']] at hr
    exact kk r w1 hr (hor.mono hN) (hb.old u) (.inr fun z hz hm => by have := hbs z hz; have := (hor.blk z hm).1; omega) (u.wide (by simp)) (fun z hz => .inr (hor.blk z hz).1)
end Go.Vc
