import Derived.Test.YtlohkdkgpajkaaaDoorS6Room
open Go Go.Vc Go.Proofs
set_option linter.unusedVariables false
set_option linter.unusedSimpArgs false
set_option autoImplicit false
namespace Go.Vc.S6
section
variable {N br : Nat} {w w1 : World} {L D : Sl} {n : Int} {lc : List (Int × Sl)} {ds : List (Nat × Sl)} {R : SV → World → Prop}
/-- one desk more -/
theorem Rm.more {F : World → Prop} (h : Rm N w br L D n lc ds) (hd : ds.length < 4398046511000) (k : ∀ D' b w1, Upd (br :: D.blk) [] w w1 → Rm N w1 br L D' n lc (ds ++ [(b, ⟨none, 0, 0⟩)]) → (∀ x ∈ D'.blk, x ∈ D.blk ∨ w.heap.size ≤ x) → w.heap.size ≤ b → F w1) :
    ∀ (b : Nat) (w1 : World), Upd [] [b] w w1 → (World.heap w1)[b]? = some (Obj.cells { toList := SV.cells (SV.struct [SV.slice ⟨none, 0, 0⟩, SV.int .i64 0]) } 52) → ∀ (b1 : Nat) (w2 : World), Upd [] [b1] w1 w2 → (World.heap w2)[b1]? = some (Obj.cells { toList := SV.cells (SV.ptr (some ⟨b, 0, none⟩)) } 50) →
      Append 50 1 8 D ⟨some ⟨b1, 0, none⟩, 1, 1⟩ [] w2 fun r w3 => Store w3 ((⟨br, 0, none⟩ : Addr).add 2) (SV.cells (SV.slice r)) [] fun w4 => F w4 := by
  intro b w1 u1 hr1 b1 w2 u2 hr2
  have nb := u1.new (b := b) (by simp)
  have z1 := u1.size; have z2 := u2.size
  have hx : Bx w1 b [.sl ⟨none, 0, 0⟩, .int 0] := Bx.mk' hr1 rfl
  have h2 := (h.old u1).old u2
  have hN := h.le; have hbr := h.box.lt
  have lt := h.lt
  refine append_own (c := cPt) (new := [b]) h2.drow h2.down (sees_row hr2 [b] rfl rfl) (by omega) (by simp) (by decide) (by simp; omega) fun D' w3 hD oD u3 hn => ?_
  have z3 := u3.size
  have hx3 : Bx w3 br [.sl L, .int n, .sl D] := h2.box.upd u3 h.base.2.1
  refine hx3.set (y := .sl D') 2 (show 2 < 3 by decide) rfl (by simp) fun w4 hx4 u4 => ?_
  have q3 : ∀ x, x ≠ br → x ∉ D.blk → x ∉ D.blk ∧ x ∉ [br] := fun x h1 h2 => ⟨h2, by simpa using h1⟩
  have DN : ∀ x ∈ D'.blk, x ∈ D.blk ∨ w2.heap.size ≤ x := hn
  have Lb : ∀ x ∈ L.blk, x ∉ D.blk ∧ x ∉ [br] := fun x hx => ⟨h.base.2.2 x hx, fun hm => by simp at hm; exact h.base.1 (hm ▸ hx)⟩
  have brD : br ∉ D'.blk := fun hm => by
    rcases DN br hm with q | q
    · exact h.base.2.1 q
    · omega
  have Db : ∀ x ∈ D'.blk, x ∉ [br] := fun x hx hm => by simp at hm; exact brD (hm ▸ hx)
  have bD : b ∉ D.blk ∧ b ∉ [br] := ⟨fun hm => by have := lt b (rmB_mem.2 (.inr (.inr (.inl hm)))); omega, by simp; omega⟩
  have one : dqB (b, (⟨none, 0, 0⟩ : Sl)) = [b] := by simp [dqB, Sl.blk]
  have dlt : ∀ d ∈ ds, ∀ x ∈ dqB d, x < w.heap.size := fun d hd x hx => ((h.desk d hd).lt x hx).2
  refine k D' b w4 ?_ ⟨hx4, h.le, (h2.lrow.upd u3 (fun x hx => (Lb x hx).1)).upd u4 (fun x hx => (Lb x hx).2), (h2.lown.upd u3 (fun x hx => (Lb x hx).1)).upd u4 (fun x hx => (Lb x hx).2), h.llen, ?_, oD.upd u4 Db, by simp; omega, fun d hd => ?_, fun i j hi hj hne x hxi hxj => ?_, ⟨h.base.1, brD, fun x hx hm => ?_⟩, fun d hd x hx => ?_⟩ (fun x hx => by
      rcases DN x hx with q | q
      · exact .inl q
      · exact .inr (by omega)) nb.1
  · exact ((((u1.wide (m' := br :: D.blk) (by simp)).step u2 (by simp)).step u3 (fun x hx => .inr (by simp [hx]))).step u4 (fun x hx => .inr (by simp at hx; simp [hx])))
  · rw [List.map_append]
    exact hD.upd u4 Db
  · rcases List.mem_append.1 hd with q | q
    · refine ((h2.desk d q).upd u3 (fun x hx => ((h.offd d q x hx).2.2))).upd u4 (fun x hx hm => ?_)
      simp at hm
      exact (h.offd d q x hx).1 hm
    · rw [List.mem_singleton] at q
      subst q
      have hb4 := ((hx.old u2).upd u3 bD.1).upd u4 bD.2
      exact ⟨⟨0, hb4⟩, ⟨[], Sees.nil _ _ _ _, by simp⟩, Own.none _ _ _, by simp [Sl.blk], by dsimp only; omega⟩
  · by_cases ei : i < ds.length
    · rw [List.getElem_append_left ei] at hxi
      by_cases ej : j < ds.length
      · rw [List.getElem_append_left ej] at hxj
        exact h.dis i j ei ej hne x hxi hxj
      · have e : j = ds.length := by simp at hj; omega
        subst e
        simp [one] at hxj
        have := dlt _ (List.getElem_mem ei) x hxi
        omega
    · have e : i = ds.length := by simp at hi; omega
      subst e
      simp [one] at hxi
      have ej : j < ds.length := by simp at hj; omega
      rw [List.getElem_append_left ej] at hxj
      have := dlt _ (List.getElem_mem ej) x hxj
      omega
  · rcases DN x hm with q | q
    · exact h.base.2.2 x hx q
    · have := (h.lown.blk x hx).2; omega
  · rcases List.mem_append.1 hd with q | q
    · have o := h.offd d q x hx
      refine ⟨o.1, o.2.1, fun hm => ?_⟩
      rcases DN x hm with r | r
      · exact o.2.2 r
      · have := dlt d q x hx; omega
    · rw [List.mem_singleton] at q
      subst q
      rw [one, List.mem_singleton] at hx
      subst hx
      refine ⟨by omega, fun hm => by have := (h.lown.blk x hm).2; omega, fun hm => ?_⟩
      rcases DN x hm with r | r
      · exact bD.1 r
      · have := u2.new (b := b1) (by simp)
        omega
/-- the mark at a place of the list -/
def rmk (j : Nat) : Int × Sl := (wr .i64 (-500 - (j : Int)), ⟨none, 0, 0⟩)
def Marks (lc : List (Int × Sl)) (q p : Nat) : Prop := ∀ j (h : j < lc.length), q ≤ j → j < p → lc[j] = rmk j
def LentAt (N : Nat) (w : World) (l : List Opt) (lc : List (Int × Sl)) (ds : List (Nat × Sl)) (q : Nat) : Prop :=
  ∀ j (h1 : j < l.length) (h2 : j < ds.length) (h3 : j < lc.length), j < q → lc[j] = (l[j].kind, ds[j].2.sub 1 0 l[j].data.length ds[j].2.cap) ∧ ∃ K, Dsk N w ds[j].1 l[j].data K ds[j].2 ∧ K ≤ 281474976710656
theorem LentAt.upd {m nn : List Nat} {l : List Opt} {q : Nat} (h : LentAt N w l lc ds q) (u : Upd m nn w w1) (hm : ∀ d ∈ ds, ∀ x ∈ dqB d, x ∉ m) : LentAt N w1 l lc ds q := fun j h1 h2 h3 hj => by
  obtain ⟨a, K, b, c⟩ := h j h1 h2 h3 hj
  have hd := hm _ (List.getElem_mem h2)
  exact ⟨a, K, b.upd u (hd _ (by simp [dqB])) (fun x hx => hd x (by simp [dqB, hx])), c⟩
/-- rooms, in whatever state -/
def RmAt (N : Nat) (w : World) (br : Nat) (hd : List Nat) : Prop := ∃ L D n lc ds, Rm N w br L D n lc ds ∧ hd = rmB br L D ds
/-- rooms with options laid in them -/
def Laid (N : Nat) (w : World) (br : Nat) (l : List Opt) (hd : List Nat) (r : Sl) (os : List (Int × Sl)) : Prop :=
  ∃ L D lc ds, Rm N w br L D (l.length : Int) lc ds ∧ hd = rmB br L D ds ∧ l.length ≤ ds.length ∧ l.length ≤ lc.length ∧ LentAt N w l lc ds l.length ∧ Marks lc l.length lc.length ∧ r = Sl.sub L 2 0 l.length L.cap ∧ os = lc.take l.length
end
end Go.Vc.S6
