import Derived.Test.YtlohkdkgpajkaaaDoorS6Desk
import Derived.Test.YtlohkdkgpajkaaaDoorLotC
open Go Go.Vc Go.Proofs
set_option linter.unusedVariables false
set_option linter.unusedSimpArgs false
set_option autoImplicit false
namespace Go.Vc.S6
variable {w : World} {R : SV → World → Prop}
theorem c54 {i : Int} {n : Nat} (hn : 0 < n) (hn2 : n < 9223372036854775807) (hi : -9223372036854775808 ≤ i ∧ i ≤ 9223372036854775807) (k : ∀ t : Nat, t < n → R (.int .i64 (t : Int)) w) : Ret Tryd.prog 54 [.int .i64 i, .int .i64 (n : Int)] w R := by
  refine f54_of _ _ _ _ ?_
  unfold vc54
  have h1 := Int.tmod_lt_of_pos i (b := (n : Int)) (by omega)
  have h2 : -(n : Int) < Int.tmod i n := by
    have := Int.tmod_lt_of_pos (-i) (b := (n : Int)) (by omega)
    rw [Int.neg_tmod] at this
    omega
  refine needNe (by omega) (brd (fun h => ?_) (fun h => ?_))
  · rw [wr_i64 (by omega) (by omega)]
    have := k (Int.tmod i n + n).toNat (by omega)
    rwa [Int.toNat_of_nonneg (by omega)] at this
  · have := k (Int.tmod i n).toNat (by omega)
    rwa [Int.toNat_of_nonneg (by omega)] at this
/-- lists of options that were handed out, and copies of them -/
structure Lsts (N : Nat) (w : World) (bk : Nat) (L W : Sl) (ls : List (List (Int × Sl))) (gs hs : List Sl) : Prop where
  box : Bx w bk [.sl L, .sl W]
  A : LotC cOpt N w L ls gs
  B : LotC cOpt N w W ls hs
  apart : ∀ x ∈ lotB L gs, x ∉ lotB W hs
  offA : bk ∉ lotB L gs
  offB : bk ∉ lotB W hs
theorem Lsts.old {N bk n : Nat} {w w1 : World} {L W : Sl} {ls : List (List (Int × Sl))} {gs hs : List Sl} {nn : List Nat} (h : Lsts N w bk L W ls gs hs) (u : Upd [] nn w w1) : Lsts N w1 bk L W ls gs hs := ⟨h.box.old u, h.A.old u, h.B.old u, h.apart, h.offA, h.offB⟩
theorem c52 {N bk : Nat} {L W g : Sl} {ls : List (List (Int × Sl))} {gs hs : List Sl} {l : List (Int × Sl)} (h : Lsts N w bk L W ls gs hs) (hg : Sees cOpt w g l) (og : Own N 2 w g) (hd : ∀ x ∈ g.blk, x ∉ lotB L gs ∧ x ∉ lotB W hs ∧ x ≠ bk) (hN : N ≤ w.heap.size) (hl : l.length ≤ 1099511627776) (hn : ls.length ≤ 1099511627776)
    (k : ∀ L' W' c w1 ms, Upd ms [] w w1 → (∀ x ∈ ms, x = bk ∨ x ∈ L.blk ∨ x ∈ W.blk) → Lsts N w1 bk L' W' (ls ++ [l]) (gs ++ [g]) (hs ++ [c]) → (∀ x ∈ lotB L' (gs ++ [g]), x ∈ lotB L gs ∨ x ∈ g.blk ∨ w.heap.size ≤ x) → (∀ x ∈ lotB W' (hs ++ [c]), x ∈ lotB W hs ∨ w.heap.size ≤ x) → R (.tuple []) w1) : Ret Tryd.prog 52 [.ptr (some ⟨bk, 0, none⟩), .slice g] w R := by
  refine f52_of _ _ _ _ ?_
  unfold vc52
  have hal := h.A.len
  have hbl := h.B.len
  refine append_own (c := cOpt) (l := []) (Sees.nil _ _ _ _) (Own.none w.heap.size _ _) hg (Nat.le_refl _) (by simp) (by decide) (by simp; omega) fun c w1 hc oc u1 _ => ?_
  have v1 : Upd [] [] w w1 := by simpa [Sl.blk] using u1
  rw [List.nil_append] at hc
  dsimp only [deref]
  have y1 := v1.size
  have h1 := h.old (n := 0) v1
  refine ⟨L, by have := h1.box.sl 0 L rfl; rwa [add_zero] at this, fun b w2 u2 hr2 => ?_⟩
  have y2 := u2.size
  have h2 := h1.old (n := 0) u2
  have v2 := v1.then u2
  refine LotC.app1 h2.A hr2 rfl rfl (hg.old v2) (og.old v2) (fun x hx => (hd x hx).1) (by omega) (by omega) fun L' w3 hA3 u3 n3 => ?_
  have y3 := u3.size
  have aL : ∀ x ∈ L.blk, x ∈ lotB L gs := fun x hx => lotB_mem.2 (.inl hx)
  have aW : ∀ x ∈ W.blk, x ∈ lotB W hs := fun x hx => lotB_mem.2 (.inl hx)
  have hbk := h.box.lt
  have hB3 := h2.B.upd u3 (fun x hx hm => h.apart x (aL x hm) hx)
  have hx3 := h2.box.upd u3 (fun hm => h.offA (aL _ hm))
  have bc := oc.blk
  have hltA := h.A.lt
  have hltB := h.B.lt
  have hc3 := (hc.old u2).upd u3 (fun x hx hm => by have := bc x hx; have := hltA x (aL x hm); omega)
  have oc3 := (oc.old u2).upd u3 (fun x hx hm => by have := bc x hx; have := hltA x (aL x hm); omega)
  have newA : ∀ x ∈ lotB L' (gs ++ [g]), x ∈ lotB L gs ∨ x ∈ g.blk ∨ w2.heap.size ≤ x := fun x hx => by
    rcases lotB_mem.1 hx with q | ⟨y, hy, q⟩
    · rcases n3 x q with q2 | q2
      · exact .inl (aL x q2)
      · exact .inr (.inr q2)
    · rcases List.mem_append.1 hy with hy | hy
      · exact .inl (lotB_mem.2 (.inr ⟨y, hy, q⟩))
      · rw [List.mem_singleton] at hy; subst hy; exact .inr (.inl q)
  have gA : bk ∉ lotB L' (gs ++ [g]) := fun hm => by
    rcases newA bk hm with q | q | q
    · exact h.offA q
    · exact (hd bk q).2.2 rfl
    · omega
  refine bx_set0 (y := .sl L') hx3 (show 0 < 2 by decide) rfl (List.not_mem_nil) fun w4 hx4 u4 => ?_
  have y4 := u4.size
  have hA4 := hA3.upd u4 (fun x hx hm => by simp at hm; exact gA (hm ▸ hx))
  have hB4 := hB3.upd u4 (fun x hx hm => by simp at hm; exact h.offB (hm ▸ hx))
  have hc4 := hc3.upd u4 (fun x hx hm => by have := bc x hx; simp at hm; omega)
  have oc4 := oc3.upd u4 (fun x hx hm => by have := bc x hx; simp at hm; omega)
  refine ⟨W, hx4.sl 1 W rfl, fun b' w5 u5 hr5 => ?_⟩
  have y5 := u5.size
  refine LotC.app1 (hB4.old u5) hr5 rfl rfl (hc4.old u5) ((oc4.old u5).mono hN) (fun x hx hm => by have := bc x hx; have := hltB x hm; omega) (by omega) (by omega) fun W' w6 hB6 u6 n6 => ?_
  have newB : ∀ x ∈ lotB W' (hs ++ [c]), x ∈ lotB W hs ∨ (w.heap.size ≤ x ∧ x < w1.heap.size) ∨ w5.heap.size ≤ x := fun x hx => by
    rcases lotB_mem.1 hx with q | ⟨y, hy, q⟩
    · rcases n6 x q with q2 | q2
      · exact .inl (aW x q2)
      · exact .inr (.inr q2)
    · rcases List.mem_append.1 hy with hy | hy
      · exact .inl (lotB_mem.2 (.inr ⟨y, hy, q⟩))
      · rw [List.mem_singleton] at hy; subst hy; exact .inr (.inl (bc x q))
  have hA4lt := hA4.lt
  have hgl := og.blk
  have gB : bk ∉ lotB W' (hs ++ [c]) := fun hm => by
    rcases newB bk hm with q | q | q
    · exact h.offB q
    · omega
    · omega
  have nA : ∀ x ∈ lotB L' (gs ++ [g]), x ∉ W.blk := fun x hx hm => by
    rcases newA x hx with q | q | q
    · exact h.apart x q (aW x hm)
    · exact (hd x q).2.1 (aW x hm)
    · have := hltB x (aW x hm); omega
  have hA6 := (hA4.old u5).upd u6 nA
  refine (((hx4.old u5).upd u6 (fun hm => h.offB (aW _ hm)))).set 1 (y := .sl W') (show 1 < 2 by decide) rfl (List.not_mem_nil) fun w7 hx7 u7 => ?_
  refine k L' W' c w7 (bk :: (L.blk ++ W.blk)) ?_ (by simp) ⟨hx7, hA6.upd u7 (fun x hx hm => by simp at hm; exact gA (hm ▸ hx)), hB6.upd u7 (fun x hx hm => by simp at hm; exact gB (hm ▸ hx)), ?_, gA, gB⟩ ?_ ?_
  · exact (((((v2.wide (m' := bk :: (L.blk ++ W.blk)) (by simp)).step u3 (fun x hx => .inr (by simp [hx]))).step u4 (fun x hx => .inr (by simp at hx; simp [hx]))).step u5 (by simp)).step u6 (fun x hx => .inr (by simp [hx]))).step u7 (fun x hx => .inr (by simp at hx; simp [hx]))
  · intro x hx hm
    have hlt := hA4lt x hx
    rcases newA x hx with q | q | q
    · rcases newB x hm with r | r | r
      · exact h.apart x q r
      · have := hltA x q; omega
      · omega
    · rcases newB x hm with r | r | r
      · exact (hd x q).2.1 r
      · have := hgl x q; omega
      · omega
    · rcases newB x hm with r | r | r
      · have := hltB x r; omega
      · omega
      · omega
  · intro x hx
    rcases newA x hx with q | q | q
    · exact .inl q
    · exact .inr (.inl q)
    · exact .inr (.inr (by omega))
  · intro x hx
    rcases newB x hx with q | q | q
    · exact .inl q
    · exact .inr q.1
    · exact .inr (by omega)
theorem slC {w : World} {L : Sl} {gs : List Sl} (h : Sees cSl w L gs) (i : Nat) (hi : i < gs.length) : w.cell? (L.at 1 (Int.toNat (i : Int))) = some (gs[i]).val ∧ L.ptr.isSome = true := by
  rw [Int.toNat_natCast]
  have := h.elem (i := i) hi 0 (by simp [cSl])
  rw [add_zero] at this
  exact ⟨this, h.isSome (by decide) (by omega)⟩
theorem opC {w : World} {g : Sl} {os : List (Int × Sl)} (h : Sees cOpt w g os) (i : Nat) (hi : i < os.length) : w.cell? (g.at 2 (Int.toNat (i : Int))) = some (.int .i64 (os[i]).1) ∧ w.cell? ((g.at 2 (Int.toNat (i : Int))).add 1) = some (os[i]).2.val ∧ g.ptr.isSome = true := by
  rw [Int.toNat_natCast]
  have h1 := h.elem (i := i) hi 0 (by simp [cOpt])
  have h2 := h.elem (i := i) hi 1 (by simp [cOpt])
  rw [add_zero] at h1
  exact ⟨h1, h2, h.isSome (by decide) (by omega)⟩
/-- one mark alone -/
theorem c86T {g : Sl} {os : List (Int × Sl)} {m : Int} (h : Sees cOpt w g os) (hm : ∀ y ∈ os, y.1 = m ∧ y.2.len = 0) (hl : os.length < 9223372036854775807) (k : R (.bool true) w) : Ret Tryd.prog 86 [.slice g, .int .i64 m] w R := by
  refine f86_of _ _ _ _ ?_
  unfold vc86
  have hgl := h.len
  refine ⟨fun i w1 => w1 = w ∧ ∃ t : Nat, i = t ∧ t ≤ os.length, fun i _ => (os.length - i).toNat, ⟨rfl, 0, rfl, by omega⟩, ?_⟩
  rintro i w1 ⟨rfl, t, rfl, ht⟩
  refine brd (fun hlt => ?_) (fun hge => k)
  intro J hJ
  have ht2 : t < os.length := by omega
  obtain ⟨c1, c2, c3⟩ := opC h t ht2
  obtain ⟨m1, m2⟩ := hm _ (List.getElem_mem ht2)
  refine needIx (by omega) (by omega) (h2 := c3) ⟨_, c1, brf (by simp [m1]) (needIx (by omega) (by omega) (h2 := c3) ⟨_, c2, brf (by simp [m2]) ?_⟩)⟩
  (repeat refine And.intro rfl ?_)
  refine hJ _ ?_
  (repeat refine And.intro rfl ?_)
  exact ⟨⟨rfl, t + 1, wr_succ (by omega), by omega⟩, by rw [wr_succ (q := t) (by omega)]; (try dsimp only); omega⟩
set_option maxRecDepth 10000 in
theorem c55T {N bk : Nat} {L W : Sl} {ls : List (List (Int × Sl))} {gs hs : List Sl} (h : Lsts N w bk L W ls gs hs) (hn : ls.length < 9223372036854775807) (hl : ∀ l ∈ ls, l.length < 9223372036854775807) (k : ∀ w1, Upd [] [] w w1 → R (.bool true) w1) : Ret Tryd.prog 55 [.ptr (some ⟨bk, 0, none⟩)] w R := by
  refine f55_of _ _ _ ?_
  unfold vc55
  have hal := h.A.len
  have hbl := h.B.len
  have hLl := h.A.row.len
  have hWl := h.B.row.len
  refine ⟨fun i w1 => Upd [] [] w w1 ∧ ∃ t : Nat, i = t ∧ t ≤ ls.length, fun i _ => (ls.length - i).toNat, ⟨Upd.refl _, 0, rfl, by omega⟩, ?_⟩
  rintro i w1 ⟨u1, t, rfl, ht⟩
  have h1 := h.old (n := 0) u1
  refine ⟨L, by have := h1.box.sl 0 L rfl; rwa [add_zero] at this, brd (fun hlt => ?_) (fun hge => k _ u1)⟩
  have ht2 : t < ls.length := by omega
  have hlt2 := hl _ (List.getElem_mem ht2)
  refine ⟨fun j w2 => Upd [] [] w1 w2 ∧ ∃ q : Nat, j = q ∧ q ≤ ls[t].length, fun j _ => (ls[t].length - j).toNat, ⟨Upd.refl _, 0, rfl, by omega⟩, ?_⟩
  rintro j w2 ⟨u2, q, rfl, hq⟩
  have h2 := h1.old (n := 0) u2
  have b0 : w2.cell? ⟨bk, 0, none⟩ = some L.val := by have := h2.box.sl 0 L rfl; rwa [add_zero] at this
  have b1 := h2.box.sl 1 W rfl
  obtain ⟨a1, a2⟩ := slC h2.A.row t (by omega)
  obtain ⟨a3, a4⟩ := slC h2.B.row t (by omega)
  have hg := h2.A.each t ht2
  have hh := h2.B.each t ht2
  have hgl := hg.len
  have hhl := hh.len
  refine ⟨L, b0, needIx (by omega) (by omega) (h2 := a2) ⟨_, a1, brd (fun hlt3 => ?_) (fun hge => ?_)⟩⟩
  · intro J hJ
    have hq2 : q < ls[t].length := by omega
    obtain ⟨c1, c2, c3⟩ := opC hg q hq2
    obtain ⟨d1, d2, d3⟩ := opC hh q hq2
    refine ⟨L, b0, needIx (by omega) (by omega) (h2 := a2) ⟨_, a1, needIx (by omega) (by omega) (h2 := c3) ⟨_, c1, W, b1, needIx (by omega) (by omega) (h2 := a4) ⟨_, a3, needIx (by omega) (by omega) (h2 := d3) ⟨_, d1, brf (by simp) ?_⟩⟩⟩⟩⟩
    refine ⟨L, b0, needIx (by omega) (by omega) (h2 := a2) ⟨_, a1, needIx (by omega) (by omega) (h2 := c3) ⟨_, c2, W, b1, needIx (by omega) (by omega) (h2 := a4) ⟨_, a3, needIx (by omega) (by omega) (h2 := d3) ⟨_, d2, brf (by simp) fun w3 u3 => ?_⟩⟩⟩⟩⟩
    (repeat refine And.intro rfl ?_)
    refine hJ _ ?_
    (repeat refine And.intro rfl ?_)
    exact ⟨⟨u2.then u3, q + 1, wr_succ (by omega), by omega⟩, by rw [wr_succ (q := q) (by omega)]; (try dsimp only); omega⟩
  · (repeat refine And.intro rfl ?_)
    exact ⟨⟨u1.then u2, t + 1, wr_succ (by omega), by omega⟩, by rw [wr_succ (q := t) (by omega)]; (try dsimp only); omega⟩
end Go.Vc.S6
