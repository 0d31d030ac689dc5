import Derived.Test.YtopobapmncbjhaaS5WideG
import Derived.Test.YtopobapmncbjhaaG5
open Go Go.Vc Go.Proofs
set_option linter.unusedVariables false
set_option linter.unusedSimpArgs false
set_option autoImplicit false
namespace Go.Vc.S5
/-- the caller's own lists: a frame's tags and data, and bytes, each with its room -/
structure Fw (N : Nat) (w : World) (s : Sl) (bk bw : Nat) (tags : List Tag) (data bytes : List Int) : Prop where
  tg : Sees cTag w s (wideT tags)
  ot : Own N 4 w s
  dt : SeesB w (wideS bk (2 * data.length + 70)) (wideL data)
  od : Own N 1 w (wideS bk (2 * data.length + 70))
  by' : SeesB w (wideS bw (2 * bytes.length + 70)) (wideL bytes)
  ob : Own N 1 w (wideS bw (2 * bytes.length + 70))
  lt : (∀ x ∈ s.blk, x < bk) ∧ bk < bw
section
variable {N : Nat} {w w1 : World} {s : Sl} {bk bw : Nat} {tags : List Tag} {data bytes : List Int} {R : SV → World → Prop}
def fwB (s : Sl) (bk bw : Nat) : List Nat := s.blk ++ [bk, bw]
theorem Fw.rng (h : Fw N w s bk bw tags data bytes) : ∀ x ∈ fwB s bk bw, N ≤ x ∧ x < w.heap.size := by
  intro x hx
  simp only [fwB, List.mem_append, List.mem_cons, List.not_mem_nil, or_false] at hx
  rcases hx with hx | rfl | rfl
  · exact h.ot.blk x hx
  · exact h.od.blk x (by simp [Sl.blk])
  · exact h.ob.blk x (by simp [Sl.blk])
theorem Fw.upd {m n : List Nat} (h : Fw N w s bk bw tags data bytes) (u : Upd m n w w1) (hm : ∀ x ∈ fwB s bk bw, x ∉ m) : Fw N w1 s bk bw tags data bytes := by
  have h1 : ∀ x ∈ s.blk, x ∉ m := fun x hx => hm x (by simp [fwB, hx])
  have h2 : ∀ k x, x ∈ (wideS bk k).blk → x ∉ m := fun k x hx => by simp [Sl.blk] at hx; subst hx; exact hm _ (by simp [fwB])
  have h3 : ∀ k x, x ∈ (wideS bw k).blk → x ∉ m := fun k x hx => by simp [Sl.blk] at hx; subst hx; exact hm _ (by simp [fwB])
  exact ⟨h.tg.upd u h1, h.ot.upd u h1, h.dt.upd u (h2 _), h.od.upd u (h2 _), h.by'.upd u (h3 _), h.ob.upd u (h3 _), h.lt⟩
theorem Fw.old {n : List Nat} (h : Fw N w s bk bw tags data bytes) (u : Upd [] n w w1) : Fw N w1 s bk bw tags data bytes := h.upd u (by simp)
/-- the data, as the frame shows them -/
theorem Fw.dat (h : Fw N w s bk bw tags data bytes) : SeesB w ⟨some ⟨bk, 0, none⟩, data.length, 2 * data.length + 70⟩ data := by
  have := h.dt.subB (lo := 0) (hi := data.length) (mx := 2 * data.length + 70) (by omega) (by rw [wideL_len]; omega) (by omega)
  simpa [sub_wide, wideL] using this
theorem Fw.bys (h : Fw N w s bk bw tags data bytes) : SeesB w ⟨some ⟨bw, 0, none⟩, bytes.length, 2 * bytes.length + 70⟩ bytes := by
  have := h.by'.subB (lo := 0) (hi := bytes.length) (mx := 2 * bytes.length + 70) (by omega) (by rw [wideL_len]; omega) (by omega)
  simpa [sub_wide, wideL] using this
theorem Fw.tgs (h : Fw N w s bk bw tags data bytes) : Sees cTag w (Sl.sub s 4 0 tags.length s.cap) tags := by
  have hc := h.ot.le
  have hl := h.tg.len
  rw [wideT_len] at hl
  have := h.tg.sub (lo := 0) (hi := tags.length) (mx := s.cap) (by omega) (by rw [wideT_len]; omega) (by omega)
  have e : ((wideT tags).take tags.length).drop 0 = tags := by simp [wideT]
  rw [e] at this
  exact this
theorem wideL_set {l : List Int} {q : Nat} {x : Int} (h : q < l.length) : (wideL l).set q x = wideL (l.set q x) := by
  unfold wideL
  rw [List.set_append_left _ _ h, List.length_set]
theorem wideT_set {l : List Tag} {q : Nat} {x : Tag} (h : q < l.length) : (wideT l).set q x = wideT (l.set q x) := by
  unfold wideT
  rw [List.set_append_left _ _ h, List.length_set]
/-- one cell of one tag is another -/
theorem set_at {i j : Nat} {x y : Tag} {v : Value} {bs : List Nat} {F : World → Prop} {l : List Tag} (h : Sees cTag w s l) (o : Own N 4 w s) (hi : i < l.length) (hj : j < 4) (hx : l[i] = x) (hv : cTag.enc y = (cTag.enc x).set j v) (hbs : ∀ b ∈ s.blk, b ∉ bs)
    (k : ∀ w1, Sees cTag w1 s (l.set i y) → Own N 4 w1 s → Upd s.blk [] w w1 → F w1) : Store w ((s.at 4 i).add j) [v] bs F := by
  obtain ⟨a, hp⟩ := h.ptr_some (by decide) (by omega)
  obtain ⟨hs, hc⟩ := o.cell a hp
  have hat : s.at 4 i = a.add (i * 4) := by simp [Sl.at, hp]
  have hlen := h.len
  have hle := o.le
  have hrow := h.row
  rw [hp] at hrow
  refine ⟨fun j' hj' => ?_, ?_, ?_⟩
  · have : j' = 0 := by simpa using hj'
    subst this
    rw [hat, add_add, add_add]
    exact hc _ (by omega)
  · rw [hat, add_add, add_block]
    exact hbs _ (by simp [blk_some hp])
  · rw [hat, add_add, off_add hs, add_block]
    refine k _ ⟨by simpa using hlen, ?_⟩ (o.setCells _ _ _) ((Upd.setCells w a.block _ _).wide (by simp [blk_some hp]))
    rw [hp]
    have e1 : l.set i y = l.take i ++ y :: l.drop (i + 1) := by rw [List.set_eq_take_append_cons_drop, if_pos hi]
    have e2 : l = l.take i ++ l.drop i := (List.take_append_drop i l).symm
    have e3 : l.drop i = l[i] :: l.drop (i + 1) := List.drop_eq_getElem_cons hi
    have sp : cTag.enc x = (cTag.enc x).take j ++ ((cTag.enc x)[j]'(by rw [cTag.len]; exact hj) :: (cTag.enc x).drop (j + 1)) := by
      rw [← List.drop_eq_getElem_cons, List.take_append_drop]
    have sq : cTag.enc y = (cTag.enc x).take j ++ (v :: (cTag.enc x).drop (j + 1)) := by
      rw [hv, List.set_eq_take_append_cons_drop, if_pos (by rw [cTag.len]; exact hj)]
    have ht : ((cTag.enc x).take j).length = j := by rw [List.length_take, cTag.len]; have : cTag.sz = 4 := rfl; omega
    rw [e1, cTag.cells_append, cTag.cells_cons, sq]
    have h1 : (cTag.cells (l.take i)).length = i * 4 := by rw [cTag.cells_length, List.length_take]; show _ * 4 = _; congr 1; omega
    have hrow' : Cells w (some a) (cTag.cells (l.take i) ++ (((cTag.enc x).take j ++ ((cTag.enc x)[j]'(by rw [cTag.len]; exact hj) :: (cTag.enc x).drop (j + 1))) ++ cTag.cells (l.drop (i + 1)))) := by
      rw [← sp, ← hx, ← cTag.cells_cons, ← e3, ← cTag.cells_append, ← e2]; exact hrow
    rw [List.append_assoc, ← List.append_assoc] at hrow'
    rw [List.append_assoc, ← List.append_assoc]
    obtain ⟨r1, r2⟩ := hrow'.app
    have hl : (cTag.cells (l.take i) ++ (cTag.enc x).take j).length = i * 4 + j := by rw [List.length_append, h1, ht]
    rw [List.cons_append] at r2 ⊢
    rw [← List.singleton_append] at r2
    show Cells _ _ (_ ++ ([v] ++ (_ ++ _)))
    obtain ⟨r3, r4⟩ := r2.app
    rw [hl] at r4
    refine Cells.mk ?_ (Cells.mk ?_ ?_)
    · have := cells_apart (vs := [v]) hs (i * 4 + j) 0 (by simpa using r1) (.inl (by omega))
      simpa using this
    · rw [hl]
      exact cells_write hs _ (fun j' hj' => (hc _ (by simp at hj'; omega)).1)
    · rw [hl, add_add]
      rw [add_add] at r4
      exact cells_apart hs _ _ r4 (.inr (by simp))
end
end Go.Vc.S5
