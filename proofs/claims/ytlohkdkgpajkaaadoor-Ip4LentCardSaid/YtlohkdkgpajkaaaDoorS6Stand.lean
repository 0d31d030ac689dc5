import Derived.Test.YtlohkdkgpajkaaaDoorS6Lay2
open Go Go.Vc Go.Proofs
set_option linter.unusedVariables false
set_option linter.unusedSimpArgs false
set_option autoImplicit false
namespace Go.Vc.S6
section
variable {N br : Nat} {w w1 : World} {R : SV → World → Prop} {l : List Opt} {hd : List Nat} {r : Sl} {os' : List (Int × Sl)}
theorem Laid.opts (h : Laid N w br l hd r os') : Opts w r l os' ∧ r.len ≤ r.cap ∧ (∀ y ∈ os', y.2.len ≤ y.2.cap) ∧ (∀ x, (x ∈ r.blk ∨ ∃ y ∈ os', x ∈ y.2.blk) → x ∈ hd) := by
  obtain ⟨L, D, lc, ds, hM, rfl, h1, h2, hL, hm, rfl, rfl⟩ := h
  have hlr := hM.lrow.len
  have hlo := hM.lown.le
  have hr := hM.lrow.sub (lo := 0) (hi := l.length) (mx := L.cap) (by omega) (by omega) (by omega)
  rw [List.drop_zero] at hr
  have each : ∀ i (hi : i < l.length), (lc.take l.length)[i]'(by rw [List.length_take]; omega) = (l[i].kind, ds[i].2.sub 1 0 l[i].data.length ds[i].2.cap) ∧ ∃ K, Dsk N w ds[i].1 l[i].data K ds[i].2 ∧ K ≤ 281474976710656 := fun i hi => by
    rw [List.getElem_take]
    exact hL i hi (by omega) (by omega) hi
  refine ⟨⟨hr, by rw [List.length_take]; omega, fun i hi => ?_, fun i hi => ?_⟩, ?_, fun y hy => ?_, fun x hx => ?_⟩
  · rw [(each i hi).1]
  · obtain ⟨e, K, d, _⟩ := each i hi
    simp only [e]
    exact d.lent rfl
  · simp [Sl.sub]; omega
  · obtain ⟨i, hi, rfl⟩ := List.getElem_of_mem hy
    rw [List.length_take] at hi
    obtain ⟨e, K, d, _⟩ := each i (by omega)
    rw [e]
    have := d.own.le; have := d.len; have := d.le
    simp [Sl.sub]; omega
  · rcases hx with hx | ⟨y, hy, hx⟩
    · refine rmB_mem.2 (.inr (.inl ?_))
      simpa [Sl.blk, Sl.sub] using hx
    · obtain ⟨i, hi, rfl⟩ := List.getElem_of_mem hy
      rw [List.length_take] at hi
      obtain ⟨e, _⟩ := each i (by omega)
      rw [e] at hx
      refine rmB_mem.2 (.inr (.inr (.inr ⟨_, List.getElem_mem (show i < ds.length by omega), ?_⟩)))
      refine List.mem_cons_of_mem _ ?_
      simpa [Sl.blk, Sl.sub] using hx
theorem Laid.at (h : Laid N w br l hd r os') : RmAt N w br hd := by
  obtain ⟨L, D, lc, ds, hM, e, _⟩ := h
  exact ⟨L, D, _, lc, ds, hM, e⟩
theorem RmAt.lt (h : RmAt N w br hd) : br ∈ hd ∧ ∀ x ∈ hd, N ≤ x ∧ x < w.heap.size := by
  obtain ⟨L, D, n, lc, ds, hM, rfl⟩ := h
  exact ⟨rmB_mem.2 (.inl rfl), hM.lt⟩
theorem RmAt.upd {m nn : List Nat} (h : RmAt N w br hd) (u : Upd m nn w w1) (hm : ∀ x ∈ hd, x ∉ m) : RmAt N w1 br hd := by
  obtain ⟨L, D, n, lc, ds, hM, rfl⟩ := h
  exact ⟨L, D, n, lc, ds, hM.upd u hm, rfl⟩
theorem Laid.upd {m nn : List Nat} (h : Laid N w br l hd r os') (u : Upd m nn w w1) (hm : ∀ x ∈ hd, x ∉ m) : Laid N w1 br l hd r os' := by
  obtain ⟨L, D, lc, ds, hM, rfl, h1, h2, h3, h4, h5, h6⟩ := h
  exact ⟨L, D, lc, ds, hM.upd u hm, rfl, h1, h2, h3.upd u (fun d hd x hx => hm x (rmB_mem.2 (.inr (.inr (.inr ⟨d, hd, hx⟩))))), h4, h5, h6⟩
theorem Laid.old {nn : List Nat} (h : Laid N w br l hd r os') (u : Upd [] nn w w1) : Laid N w1 br l hd r os' := h.upd u (by simp)
theorem RmAt.start {e : Nat} (hr : w.heap[br]? = some (.cells (SV.cells (SV.struct [SV.slice ⟨none, 0, 0⟩, SV.int .i64 0, SV.slice ⟨none, 0, 0⟩])).toArray e (0, 0))) (hN : N ≤ br) : RmAt N w br [br] :=
  ⟨⟨none, 0, 0⟩, ⟨none, 0, 0⟩, 0, [], [], ⟨Bx.mk' hr rfl, hN, Sees.nil _ _ _ _, Own.none _ _ _, by simp, Sees.nil _ _ _ _, Own.none _ _ _, by simp, by simp, fun i _ hi => by simp at hi, by simp [Sl.blk], by simp⟩, by simp [rmB, Sl.blk]⟩
set_option maxRecDepth 20000 in
/-- do they lie as they were laid? -/
theorem c38T {s : Sl} {os : List (Int × Sl)} (hR : Laid N w br l hd r os') (h : Opts w s l os) (hbo : ∀ o ∈ l, Byt o.data) (hl : l.length ≤ 4398046511000) (k : ∀ w1, Upd [] [] w w1 → R (.bool true) w1) :
    Ret Tryd.prog 38 [.ptr (some ⟨br, 0, none⟩), .slice s] w R := by
  have hop := hR.opts.1
  obtain ⟨L, D, lc, ds, hM, rfl, h1, h2, hLn, hm, rfl, rfl⟩ := hR
  refine f38_of _ _ _ _ ?_
  unfold vc38
  dsimp only [deref]
  have hsl := h.slen
  have h0 : ∀ {w' : World}, Upd [] [] w w' → w'.cell? ⟨br, 0, none⟩ = some L.val := fun u => by have := (hM.old u).box.sl 0 _ rfl; rwa [add_zero] at this
  have hlr := hM.lrow.len
  have hlo := hM.lown.le
  intro J hJ
  refine ⟨_, hM.box.int 1 _ rfl, bre' (fun hne => absurd (by rw [hsl]) hne) (fun _ => ⟨L, h0 (Upd.refl w), _, hM.box.int 1 _ rfl, need (by simp; omega) fun w1 u1 => ?_⟩)⟩
  rw [Int.toNat_natCast]
  refine c51 (hop.old u1) (h.old u1) hbo hbo (by omega) fun w2 u2 => ⟨_, rfl, brf (by simp) ?_⟩
  have v2 := u1.then u2
  refine hJ _ ?_
  clear hJ
  refine ⟨fun i w' => ∃ q : Nat, i = q ∧ q ≤ l.length ∧ Upd [] [] w w', fun i _ => (l.length - i).toNat, ⟨0, rfl, by omega, v2⟩, ?_⟩
  rintro i w3 ⟨q, rfl, hq, u3⟩
  refine brd (fun hlt => ?_) (fun hge => ?_)
  · have hq2 : q < l.length := by omega
    have h3 := hM.old u3
    obtain ⟨g1, g2, g3, g4⟩ := (h.old u3).get q hq2
    have hqd : q < ds.length := by omega
    have hD3 := h3.drow.len
    rw [List.length_map] at hD3
    have pd : w3.cell? (D.at 1 q) = some (.pointer (some ⟨ds[q].1, 0, none⟩)) := by
      have := h3.drow.elem (i := q) (by simpa using hqd) 0 (by simp [cPt])
      rw [add_zero] at this
      simpa [cPt] using this
    have pD := h3.drow.isSome (by decide) (by rw [List.length_map]; omega)
    obtain ⟨_, K, dk, hK⟩ := hLn q hq2 hqd (by omega) hq2
    rw [Int.toNat_natCast]
    refine ⟨D, h3.box.sl 2 D rfl, needIx (by omega) (by omega) pD ⟨_, pd, needIx (by omega) (by omega) g4 ⟨_, g2, fun w4 u4 => ?_⟩⟩⟩
    refine c37T ((dk.old u3).old u4) (g3.old u4) (hbo _ (List.getElem_mem hq2)) hK fun w5 u5 => ⟨_, rfl, brf rfl ?_⟩
    exact ⟨⟨q + 1, wr_succ (by omega), by omega, (u3.then u4).then u5⟩, by rw [wr_succ (by omega)]; (try dsimp only); omega⟩
  · rw [hsl]
    have hlM := hM.llen
    refine ⟨fun i w' => ∃ q : Nat, i = q ∧ l.length ≤ q ∧ q ≤ lc.length ∧ Upd [] [] w w', fun i _ => (lc.length - i).toNat, ⟨l.length, rfl, by omega, by omega, u3⟩, ?_⟩
    rintro i w4 ⟨q, rfl, hql, hq2, u4⟩
    refine ⟨L, h0 u4, brd (fun hlt => ?_) (fun _ => k w4 u4)⟩
    intro J1 hJ1
    have hq3 : q < lc.length := by omega
    have h4 := hM.old u4
    obtain ⟨a1, a2, a3⟩ := opC h4.lrow q hq3
    have e := hm q hq3 hql hq3
    rw [e] at a1 a2
    refine ⟨L, h0 u4, needIx (by omega) (by omega) a3 ⟨_, a1, brf (by simp [rmk]) ⟨L, h0 u4, needIx (by omega) (by omega) a3 ⟨_, a2, brf (by simp [rmk]) ?_⟩⟩⟩⟩
    exact hJ1 _ ⟨⟨q + 1, wr_succ (by omega), by omega, by omega, u4⟩, by rw [wr_succ (by omega)]; (try dsimp only); omega⟩
end
end Go.Vc.S6
