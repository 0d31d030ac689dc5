import Derived.Test.YtlohkdkgpajkaaaDoorS6Lst
open Go Go.Vc Go.Proofs
set_option linter.unusedVariables false
set_option linter.unusedSimpArgs false
set_option autoImplicit false
namespace Go.Vc.S6
variable {w : World} {R : SV → World → Prop}
set_option maxRecDepth 20000 in
/-- bytes laid on a desk -/
theorem c31D {N bd : Nat} {b room : Sl} {n : Int} {L l : List Int} (hx : Bx w bd [.sl room, .int n]) (hr : SeesB w room L) (ho : Own N 1 w room) (hoff : bd ∉ room.blk) (hL : L.length ≤ 281474976710656) (hN : N ≤ w.heap.size)
    (h : SeesB w b l) (hl : l.length ≤ 140737488351232) (hb : ∀ x ∈ b.blk, x < w.heap.size ∧ x ∉ room.blk ∧ x ≠ bd)
    (k : ∀ room' K w1 ms, Upd ms [] w w1 → (∀ x ∈ ms, x = bd ∨ x ∈ room.blk) → Dsk N w1 bd l K room' → K ≤ 281474976710656 → (∀ x ∈ room'.blk, w.heap.size ≤ x ∨ x ∈ room.blk) → R (.slice (room'.sub 1 0 (Int.toNat (b.len : Int)) room'.cap)) w1) : Ret Tryd.prog 31 [.ptr (some ⟨bd, 0, none⟩), .slice b] w R := by
  refine f31_of _ _ _ _ ?_
  unfold vc31
  have hbl := h.len
  have hrl := hr.len
  intro J hJ
  have main : ∀ room' L' w2 ms, Upd ms [] w w2 → (∀ x ∈ ms, x = bd ∨ x ∈ room.blk) → Bx w2 bd [.sl room', .int n] → SeesB w2 room' L' → Own N 1 w2 room' → bd ∉ room'.blk → (∀ x ∈ room'.blk, w.heap.size ≤ x ∨ x ∈ room.blk) → SeesB w2 b l → (∀ x ∈ b.blk, x ∉ room'.blk) → 2 * l.length + 70 ≤ L'.length → L'.length ≤ 281474976710656 → J w2 := by
    intro room' L' w2 ms u hms hx2 hr2 ho2 hoff2 hnew h2 hdis hbig hlim
    refine hJ _ ?_
    have hl2 := hr2.len
    refine ⟨fun i w' => Upd room'.blk [] w2 w' ∧ Own N 1 w' room' ∧ ∃ t : Nat, i = t ∧ t ≤ L'.length ∧ SeesB w' room' ((dmks L'.length).take t ++ L'.drop t), fun i _ => (L'.length - i).toNat, ⟨(Upd.refl w2).wide (by simp), ho2, 0, rfl, by omega, by simpa using hr2⟩, ?_⟩
    rintro i w3 ⟨u3, o3, t, rfl, ht, hs3⟩
    have hx3 := hx2.upd u3 hoff2
    have hsl3 := hs3.len
    refine ⟨room', by have := hx3.sl 0 room' rfl; rwa [add_zero] at this, ?_⟩
    refine brd (fun hlt => ⟨room', by have := hx3.sl 0 room' rfl; rwa [add_zero] at this, fun w4 u4 => c67 ⟨_, rfl, u4.forget, ?_⟩⟩) (fun hge => ?_)
    · have ht2 : t < L'.length := by omega
      refine needIx (by omega) (by omega) (h2 := hs3.isSome (by decide) (by omega)) ?_
      rw [Int.toNat_natCast]
      refine own_set (c := cU8) (x := dmk t) (hs3.old u4) (o3.old u4) (by decide) (by omega) rfl (by simp) fun w5 hs5 o5 u5 => ?_
      have e : dmk t = (dmks L'.length)[t]'(by rw [dmks_len]; exact ht2) := by simp [dmks]
      rw [e, set_mid (by rw [dmks_len]; exact ht2) (by rw [dmks_len])] at hs5
      exact ⟨⟨(u3.step u4 (by simp)).step u5 (fun x hx => .inr hx), o5, t + 1, wr_succ (by omega), by omega, hs5⟩, by rw [wr_succ (q := t) (by omega)]; (try dsimp only); omega⟩
    · have htl : t = L'.length := by omega
      subst htl
      rw [List.take_of_length_le (by rw [dmks_len]; omega), List.drop_length, List.append_nil] at hs3
      have hb3 := h2.upd u3 hdis
      refine ⟨room', by have := hx3.sl 0 room' rfl; rwa [add_zero] at this, ?_⟩
      refine copy_own (c := cU8) hs3 o3 hb3 (by simp) fun w4 hs4 o4 u4 => ?_
      rw [dmks_len, List.take_of_length_le (by omega)] at hs4
      have hx4 := hx3.upd u4 hoff2
      dsimp only [deref]
      refine hx4.set (y := .int b.len) 1 (show 1 < 2 by decide) rfl (List.not_mem_nil) fun w5 hx5 u5 => ?_
      have hs5 := hs4.upd u5 (fun y hy hm => by simp at hm; exact hoff2 (hm ▸ hy))
      have o5 := o4.upd u5 (fun y hy hm => by simp at hm; exact hoff2 (hm ▸ hy))
      refine ⟨room', by have := hx5.sl 0 room' rfl; rwa [add_zero] at this, need (by have := o5.le; simp; omega) ?_⟩
      have uu : Upd (bd :: (ms ++ room.blk)) [] w w5 := (((u.wide (m' := bd :: (ms ++ room.blk)) (fun x hx => by simp [hx])).step u3 (fun x hx => by rcases hnew x hx with q | q; exact .inl q; exact .inr (by simp [q]))).step u4 (fun x hx => by rcases hnew x hx with q | q; exact .inl q; exact .inr (by simp [q]))).step u5 (fun x hx => .inr (by simp at hx; simp [hx]))
      rw [hbl] at hx5
      exact k room' L'.length w5 _ uu (fun x hx => by
        simp at hx
        rcases hx with q | q | q
        · exact .inl q
        · exact hms x q
        · exact .inr q) ⟨hx5, hs5, by omega, o5, hoff2⟩ hlim hnew
  have e1 : wr .i64 (wr .i64 (2 * (b.len : Int)) + 70) = (2 * l.length + 70 : Nat) := by rw [wr_i64 (x := 2 * (b.len : Int)) (by omega) (by omega), wr_i64 (by omega) (by omega)]; omega
  have e2 : wr .i64 (wr .i64 (2 * (b.len : Int)) + 512) = (2 * l.length + 512 : Nat) := by rw [wr_i64 (x := 2 * (b.len : Int)) (by omega) (by omega), wr_i64 (by omega) (by omega)]; omega
  refine ⟨room, by have := hx.sl 0 room rfl; rwa [add_zero] at this, ?_⟩
  rw [e1, e2]
  refine brd (fun hlt => need (by simp only [Bool.and_eq_true, decide_eq_true_eq]; omega) ?_) (fun hge => main room L w [] (Upd.refl w) (by simp) hx hr ho hoff (fun x hx => .inr hx) h (fun x hx => (hb x hx).2.1) (by omega) hL)
  intro b1 w1 u1 hr1
  rw [Int.toNat_natCast] at hr1 ⊢
  have n1 := u1.new (b := b1) (by simp)
  have hbd := hx.lt
  have hz : zerosOf (.int .u8) (2 * l.length + 512) = cU8.cells (List.replicate (2 * l.length + 512) 0) := zeros_cells _
  rw [hz] at hr1
  have hs1 : SeesB w1 ⟨some ⟨b1, 0, none⟩, 2 * l.length + 512, 2 * l.length + 512⟩ (List.replicate (2 * l.length + 512) 0) := sees_row hr1 _ rfl (by simp)
  have ho1 : Own N 1 w1 ⟨some ⟨b1, 0, none⟩, 2 * l.length + 512, 2 * l.length + 512⟩ := own_row hr1 (by omega) (by rw [cU8.cells_length]; simp [cU8]) (Nat.le_refl _)
  have hbn : bd ≠ b1 := by omega
  refine bx_set0 (y := .sl ⟨some ⟨b1, 0, none⟩, 2 * l.length + 512, 2 * l.length + 512⟩) (hx.old u1) (show 0 < 2 by decide) rfl (List.not_mem_nil) fun w2 hx2 u2 => ?_
  have nb : ∀ x ∈ Sl.blk ⟨some ⟨b1, 0, none⟩, 2 * l.length + 512, 2 * l.length + 512⟩, x ∉ [bd] := fun x hx hm => by simp [Sl.blk] at hx hm; omega
  refine main _ _ w2 [bd] ((u1.wide (m' := [bd]) (by simp)).step u2 (fun x hx => .inr hx)) (fun x hx => by simp at hx; exact .inl hx) hx2 (hs1.upd u2 nb) (ho1.upd u2 nb) (by simpa [Sl.blk] using hbn) (fun x hx => by simp [Sl.blk] at hx; exact .inl (by omega)) ((h.old u1).upd u2 (fun x hx hm => by simp at hm; exact (hb x hx).2.2 hm)) (fun x hx hm => by have := (hb x hx).1; simp [Sl.blk] at hm; omega) (by simp) (by simp; omega)
end Go.Vc.S6
