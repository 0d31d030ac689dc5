import Derived.Test.YtlohkdkgpajkaaaDoorS6TxtBk
import Derived.Test.YtlohkdkgpajkaaaDoorS6Settle
open Go Go.Vc Go.Proofs
set_option linter.unusedVariables false
set_option linter.unusedSimpArgs false
set_option autoImplicit false
namespace Go.Vc.S6
variable {w : World} {R : SV → World → Prop}
/-- lists of bytes that were handed out, and copies of them -/
structure Bok (N : Nat) (w : World) (bk : Nat) (L W : Sl) (ls : List (List Int)) (gs hs : List Sl) : Prop where
  box : Bx w bk [.sl L, .sl W]
  A : LotC cU8 N w L ls gs
  B : LotC cU8 N w W ls hs
  apart : ∀ x ∈ lotB L gs, x ∉ lotB W hs
  offA : bk ∉ lotB L gs
  offB : bk ∉ lotB W hs
theorem Bok.old {N bk n : Nat} {w w1 : World} {L W : Sl} {ls : List (List Int)} {gs hs : List Sl} {nn : List Nat} (h : Bok N w bk L W ls gs hs) (u : Upd [] nn w w1) : Bok N w1 bk L W ls gs hs := ⟨h.box.old u, h.A.old u, h.B.old u, h.apart, h.offA, h.offB⟩
theorem c39 {N bk : Nat} {L W g : Sl} {ls : List (List Int)} {gs hs : List Sl} {l : List Int} (h : Bok N w bk L W ls gs hs) (hg : Sees cU8 w g l) (og : Own N 1 w g) (hd : ∀ x ∈ g.blk, x ∉ lotB L gs ∧ x ∉ lotB W hs ∧ x ≠ bk) (hN : N ≤ w.heap.size) (hl : l.length ≤ 549755813888) (hn : ls.length ≤ 549755813888)
    (k : ∀ L' W' c w1 ms, Upd ms [] w w1 → (∀ x ∈ ms, x = bk ∨ x ∈ L.blk ∨ x ∈ W.blk) → Bok N w1 bk L' W' (ls ++ [l]) (gs ++ [g]) (hs ++ [c]) → (∀ x ∈ lotB L' (gs ++ [g]), x ∈ lotB L gs ∨ x ∈ g.blk ∨ w.heap.size ≤ x) → (∀ x ∈ lotB W' (hs ++ [c]), x ∈ lotB W hs ∨ w.heap.size ≤ x) → R (.tuple []) w1) : Ret Tryd.prog 39 [.ptr (some ⟨bk, 0, none⟩), .slice g] w R := by
  refine f39_of _ _ _ _ ?_
  unfold vc39
  have hal := h.A.len
  have hbl := h.B.len
  refine append_own (c := cU8) (l := []) (Sees.nil _ _ _ _) (Own.none w.heap.size _ _) hg (Nat.le_refl _) (by simp) (by decide) (by simp; omega) fun c w1 hc oc u1 _ => ?_
  have v1 : Upd [] [] w w1 := by simpa [Sl.blk] using u1
  rw [List.nil_append] at hc
  dsimp only [deref]
  have y1 := v1.size
  have h1 := h.old (n := 0) v1
  refine ⟨L, by have := h1.box.sl 0 L rfl; rwa [add_zero] at this, fun b w2 u2 hr2 => ?_⟩
  have y2 := u2.size
  have h2 := h1.old (n := 0) u2
  have v2 := v1.then u2
  refine LotC.app1 h2.A hr2 rfl rfl (hg.old v2) (og.old v2) (fun x hx => (hd x hx).1) (by omega) (by omega) fun L' w3 hA3 u3 n3 => ?_
  have y3 := u3.size
  have aL : ∀ x ∈ L.blk, x ∈ lotB L gs := fun x hx => lotB_mem.2 (.inl hx)
  have aW : ∀ x ∈ W.blk, x ∈ lotB W hs := fun x hx => lotB_mem.2 (.inl hx)
  have hbk := h.box.lt
  have hB3 := h2.B.upd u3 (fun x hx hm => h.apart x (aL x hm) hx)
  have hx3 := h2.box.upd u3 (fun hm => h.offA (aL _ hm))
  have bc := oc.blk
  have hltA := h.A.lt
  have hltB := h.B.lt
  have hc3 := (hc.old u2).upd u3 (fun x hx hm => by have := bc x hx; have := hltA x (aL x hm); omega)
  have oc3 := (oc.old u2).upd u3 (fun x hx hm => by have := bc x hx; have := hltA x (aL x hm); omega)
  have newA : ∀ x ∈ lotB L' (gs ++ [g]), x ∈ lotB L gs ∨ x ∈ g.blk ∨ w2.heap.size ≤ x := fun x hx => by
    rcases lotB_mem.1 hx with q | ⟨y, hy, q⟩
    · rcases n3 x q with q2 | q2
      · exact .inl (aL x q2)
      · exact .inr (.inr q2)
    · rcases List.mem_append.1 hy with hy | hy
      · exact .inl (lotB_mem.2 (.inr ⟨y, hy, q⟩))
      · rw [List.mem_singleton] at hy; subst hy; exact .inr (.inl q)
  have gA : bk ∉ lotB L' (gs ++ [g]) := fun hm => by
    rcases newA bk hm with q | q | q
    · exact h.offA q
    · exact (hd bk q).2.2 rfl
    · omega
  refine bx_set0 (y := .sl L') hx3 (show 0 < 2 by decide) rfl (List.not_mem_nil) fun w4 hx4 u4 => ?_
  have y4 := u4.size
  have hA4 := hA3.upd u4 (fun x hx hm => by simp at hm; exact gA (hm ▸ hx))
  have hB4 := hB3.upd u4 (fun x hx hm => by simp at hm; exact h.offB (hm ▸ hx))
  have hc4 := hc3.upd u4 (fun x hx hm => by have := bc x hx; simp at hm; omega)
  have oc4 := oc3.upd u4 (fun x hx hm => by have := bc x hx; simp at hm; omega)
  refine ⟨W, hx4.sl 1 W rfl, fun b' w5 u5 hr5 => ?_⟩
  have y5 := u5.size
  refine LotC.app1 (hB4.old u5) hr5 rfl rfl (hc4.old u5) ((oc4.old u5).mono hN) (fun x hx hm => by have := bc x hx; have := hltB x hm; omega) (by omega) (by omega) fun W' w6 hB6 u6 n6 => ?_
  have newB : ∀ x ∈ lotB W' (hs ++ [c]), x ∈ lotB W hs ∨ (w.heap.size ≤ x ∧ x < w1.heap.size) ∨ w5.heap.size ≤ x := fun x hx => by
    rcases lotB_mem.1 hx with q | ⟨y, hy, q⟩
    · rcases n6 x q with q2 | q2
      · exact .inl (aW x q2)
      · exact .inr (.inr q2)
    · rcases List.mem_append.1 hy with hy | hy
      · exact .inl (lotB_mem.2 (.inr ⟨y, hy, q⟩))
      · rw [List.mem_singleton] at hy; subst hy; exact .inr (.inl (bc x q))
  have hA4lt := hA4.lt
  have hgl := og.blk
  have gB : bk ∉ lotB W' (hs ++ [c]) := fun hm => by
    rcases newB bk hm with q | q | q
    · exact h.offB q
    · omega
    · omega
  have nA : ∀ x ∈ lotB L' (gs ++ [g]), x ∉ W.blk := fun x hx hm => by
    rcases newA x hx with q | q | q
    · exact h.apart x q (aW x hm)
    · exact (hd x q).2.1 (aW x hm)
    · have := hltB x (aW x hm); omega
  have hA6 := (hA4.old u5).upd u6 nA
  refine (((hx4.old u5).upd u6 (fun hm => h.offB (aW _ hm)))).set 1 (y := .sl W') (show 1 < 2 by decide) rfl (List.not_mem_nil) fun w7 hx7 u7 => ?_
  refine k L' W' c w7 (bk :: (L.blk ++ W.blk)) ?_ (by simp) ⟨hx7, hA6.upd u7 (fun x hx hm => by simp at hm; exact gA (hm ▸ hx)), hB6.upd u7 (fun x hx hm => by simp at hm; exact gB (hm ▸ hx)), ?_, gA, gB⟩ ?_ ?_
  · exact (((((v2.wide (m' := bk :: (L.blk ++ W.blk)) (by simp)).step u3 (fun x hx => .inr (by simp [hx]))).step u4 (fun x hx => .inr (by simp at hx; simp [hx]))).step u5 (by simp)).step u6 (fun x hx => .inr (by simp [hx]))).step u7 (fun x hx => .inr (by simp at hx; simp [hx]))
  · intro x hx hm
    have hlt := hA4lt x hx
    rcases newA x hx with q | q | q
    · rcases newB x hm with r | r | r
      · exact h.apart x q r
      · have := hltA x q; omega
      · omega
    · rcases newB x hm with r | r | r
      · exact (hd x q).2.1 r
      · have := hgl x q; omega
      · omega
    · rcases newB x hm with r | r | r
      · have := hltB x r; omega
      · omega
      · omega
  · intro x hx
    rcases newA x hx with q | q | q
    · exact .inl q
    · exact .inr (.inl q)
    · exact .inr (.inr (by omega))
  · intro x hx
    rcases newB x hx with q | q | q
    · exact .inl q
    · exact .inr q.1
    · exact .inr (by omega)
theorem byC {w : World} {g : Sl} {os : List Int} (h : SeesB w g os) (i : Nat) (hi : i < os.length) : w.cell? (g.at 1 (Int.toNat (i : Int))) = some (.int .u8 os[i]) ∧ g.ptr.isSome = true := by
  rw [Int.toNat_natCast]
  have h1 := h.elem (i := i) hi 0 (by simp [cU8])
  rw [add_zero] at h1
  exact ⟨h1, h.isSome (by decide) (by omega)⟩
/-- one mark alone -/
theorem c76T {g : Sl} {os : List Int} {m : Int} (h : SeesB w g os) (hm : ∀ y ∈ os, y = m) (hl : os.length < 9223372036854775807) (k : R (.bool true) w) : Ret Tryd.prog 76 [.slice g, .int .u8 m] w R := by
  refine f76_of _ _ _ _ ?_
  unfold vc76
  have hgl := h.len
  refine ⟨fun i w1 => w1 = w ∧ ∃ t : Nat, i = t ∧ t ≤ os.length, fun i _ => (os.length - i).toNat, ⟨rfl, 0, rfl, by omega⟩, ?_⟩
  rintro i w1 ⟨rfl, t, rfl, ht⟩
  refine brd (fun hlt => ?_) (fun hge => k)
  have ht2 : t < os.length := by omega
  obtain ⟨c1, c3⟩ := byC h t ht2
  have m1 := hm _ (List.getElem_mem ht2)
  refine needIx (by omega) (by omega) (h2 := c3) ⟨_, c1, brf (by simp [m1]) ?_⟩
  exact ⟨⟨rfl, t + 1, wr_succ (by omega), by omega⟩, by rw [wr_succ (q := t) (by omega)]; (try dsimp only); omega⟩
theorem c40T {N bk : Nat} {L W : Sl} {ls : List (List Int)} {gs hs : List Sl} (h : Bok N w bk L W ls gs hs) (hb : ∀ l ∈ ls, Byt l) (hn : ls.length < 9223372036854775807) (k : ∀ w1, Upd [] [] w w1 → R (.bool true) w1) : Ret Tryd.prog 40 [.ptr (some ⟨bk, 0, none⟩)] w R := by
  refine f40_of _ _ _ ?_
  unfold vc40
  have hal := h.A.len
  have hbl := h.B.len
  have hLl := h.A.row.len
  have hWl := h.B.row.len
  refine ⟨fun i w1 => Upd [] [] w w1 ∧ ∃ t : Nat, i = t ∧ t ≤ ls.length, fun i _ => (ls.length - i).toNat, ⟨Upd.refl _, 0, rfl, by omega⟩, ?_⟩
  rintro i w1 ⟨u1, t, rfl, ht⟩
  have h1 := h.old (n := 0) u1
  have b0 : w1.cell? ⟨bk, 0, none⟩ = some L.val := by have := h1.box.sl 0 L rfl; rwa [add_zero] at this
  have b1 := h1.box.sl 1 W rfl
  refine ⟨L, b0, brd (fun hlt => ?_) (fun hge => k _ u1)⟩
  have ht2 : t < ls.length := by omega
  obtain ⟨a1, a2⟩ := slC h1.A.row t (by omega)
  obtain ⟨a3, a4⟩ := slC h1.B.row t (by omega)
  have hbt := hb _ (List.getElem_mem ht2)
  refine ⟨L, b0, needIx (by omega) (by omega) (h2 := a2) ⟨_, a1, W, b1, needIx (by omega) (by omega) (h2 := a4) ⟨_, a3, fun w2 u2 => ?_⟩⟩⟩
  refine c75 ((h1.A.each t ht2).old u2) ((h1.B.each t ht2).old u2) hbt hbt ⟨_, rfl, brf (by simp) ?_⟩
  exact ⟨⟨u1.then u2, t + 1, wr_succ (by omega), by omega⟩, by rw [wr_succ (q := t) (by omega)]; (try dsimp only); omega⟩
def bz (i : Nat) : Int := wr .u8 (wr .i64 (1 + Int.tmod (i : Int) 251))
/-- the lists below t hold their marks alone -/
def MarkedB (ls : List (List Int)) (t : Nat) : Prop := ∀ j (h : j < ls.length), j < t → ∀ y ∈ ls[j], y = bz j
set_option maxRecDepth 10000 in
theorem c42T {N bk : Nat} {L W : Sl} {ls : List (List Int)} {gs hs : List Sl} (h : Bok N w bk L W ls gs hs) (hn : ls.length ≤ 549755813888) (hl : ∀ l ∈ ls, l.length ≤ 549755813888) (hbt : ∀ l ∈ ls, Byt l) (hN : N ≤ w.heap.size) (k : ∀ w1 ms, Upd ms [] w w1 → (∀ x ∈ ms, x ∈ lotB L gs) → R (.bool true) w1) : Ret Tryd.prog 42 [.ptr (some ⟨bk, 0, none⟩)] w R := by
  refine f42_of _ _ _ ?_
  unfold vc42
  have hal := h.A.len
  have hLl := h.A.row.len
  refine c40T h hbt (by omega) fun w1 u1 => ⟨_, rfl, brf rfl ?_⟩
  have h1 := h.old (n := 0) u1
  have hglen : ∀ j (hj : j < gs.length), gs[j].len ≤ 549755813888 := fun j hj => by
    have := (h.A.each j (by omega)).len
    rw [this]; exact hl _ (List.getElem_mem _)
  have inB : ∀ g ∈ gs, ∀ x ∈ g.blk, x ∈ lotB L gs := fun g hg x hx => lotB_mem.2 (.inr ⟨g, hg, hx⟩)
  refine ⟨fun i w' => Upd (lotB L gs) [] w1 w' ∧ ∃ (ls' : List (List Int)) (t : Nat), LotC cU8 N w' L ls' gs ∧ i = t ∧ t ≤ gs.length ∧ MarkedB ls' t, fun i _ => (gs.length - i).toNat, ⟨(Upd.refl w1).wide (by simp), ls, 0, h1.A, rfl, by omega, fun j _ hj => by omega⟩, ?_⟩
  rintro i w2 ⟨u2, ls2, t, hA2, rfl, ht, hm2⟩
  have hx2 := h1.box.upd u2 h.offA
  have hal2 := hA2.len
  have b2 : w2.cell? ⟨bk, 0, none⟩ = some L.val := by have := hx2.sl 0 L rfl; rwa [add_zero] at this
  refine ⟨L, b2, brd (fun hlt => ?_) (fun hge => ?_)⟩
  · have ht2 : t < gs.length := by omega
    have hgt := hglen t ht2
    refine ⟨fun j w' => Upd (lotB L gs) [] w2 w' ∧ ∃ (ls' : List (List Int)) (q : Nat), LotC cU8 N w' L ls' gs ∧ MarkedB ls' t ∧ j = q ∧ q ≤ gs[t].len ∧ ∀ (ht : t < ls'.length) p (hp : p < ls'[t].length), p < q → ls'[t][p] = bz t, fun j _ => (gs[t].len - j).toNat, ⟨(Upd.refl w2).wide (by simp), ls2, 0, hA2, hm2, rfl, by omega, fun _ p _ hp => by omega⟩, ?_⟩
    rintro j w3 ⟨u3, ls3, q, hA3, hm3, rfl, hq, hm3q⟩
    have hx3 := hx2.upd u3 h.offA
    have hal3 := hA3.len
    have b3 : w3.cell? ⟨bk, 0, none⟩ = some L.val := by have := hx3.sl 0 L rfl; rwa [add_zero] at this
    obtain ⟨a1, a2⟩ := slC hA3.row t ht2
    refine ⟨L, b3, needIx (by omega) (by omega) (h2 := a2) ⟨_, a1, brd (fun hlt3 => ?_) (fun hge => ?_)⟩⟩
    · have ht3 : t < ls3.length := by omega
      have hlt := (hA3.each t ht3).len
      have hq2 : q < ls3[t].length := by omega
      obtain ⟨_, c3⟩ := byC (hA3.each t ht3) q hq2
      refine ⟨L, b3, needIx (by omega) (by omega) (h2 := a2) ⟨_, a1, needIx (by omega) (by omega) (h2 := c3) ?_⟩⟩
      rw [Int.toNat_natCast]
      refine LotC.set (c := cU8) (y := bz t) hA3 (by decide) ht3 ht2 hq2 rfl fun w4 hA4 u4 => ?_
      (repeat refine And.intro rfl ?_)
      refine ⟨⟨u3.step u4 (fun x hx => .inr (inB _ (List.getElem_mem ht2) x hx)), _, q + 1, hA4, ?_, wr_succ (by omega), by omega, ?_⟩, by rw [wr_succ (q := q) (by omega)]; (try dsimp only); omega⟩
      · intro j hj hjt y hy
        rw [List.getElem_set_ne (by omega)] at hy
        exact hm3 j _ hjt y hy
      · intro ht p hp hpq
        simp only [List.getElem_set_self] at hp ⊢
        by_cases e : p = q
        · subst e; simp
        · rw [List.getElem_set_ne (by omega)]
          exact hm3q ht3 p _ (by omega)
    · (repeat refine And.intro rfl ?_)
      have ht3 : t < ls3.length := by omega
      have hlt := (hA3.each t ht3).len
      refine ⟨⟨u2.step u3 (fun x hx => .inr hx), ls3, t + 1, hA3, wr_succ (by omega), by omega, fun j hj hjt y hy => ?_⟩, by rw [wr_succ (q := t) (by omega)]; (try dsimp only); omega⟩
      by_cases e : j < t
      · exact hm3 j hj e y hy
      · obtain rfl : j = t := by omega
        obtain ⟨p, hp, rfl⟩ := List.getElem_of_mem hy
        exact hm3q hj p hp (by omega)
  · have htl : t = gs.length := by omega
    subst htl
    (repeat refine And.intro rfl ?_)
    have hG : ∀ j (hj : j < gs.length), Sees cU8 w2 gs[j] (List.replicate gs[j].len (bz j)) := fun j hj => by
      have h3 := hA2.each j (by omega)
      rw [h3.len, ← List.eq_replicate_iff.2 ⟨rfl, hm2 j (by omega) hj⟩]
      exact h3
    have y1 := u1.size
    have y2 := u2.size
    have gsB : ∀ j (hj : j < gs.length), ∀ x ∈ gs[j].blk, N ≤ x ∧ x < w2.heap.size := fun j hj x hx => (hA2.owns _ (List.getElem_mem hj)).blk x hx
    have hLd : ∀ x ∈ L.blk, x ∉ gs.flatMap Sl.blk := fun x hx hm => by
      obtain ⟨g, hg, hx2⟩ := List.mem_flatMap.1 hm
      exact hA2.off g hg x hx2 hx
    have hbd : bk ∉ gs.flatMap Sl.blk := fun hm => h.offA (List.mem_append_right _ hm)
    have inF : ∀ j (hj : j < gs.length), ∀ x ∈ gs[j].blk, x ∈ gs.flatMap Sl.blk := fun j hj x hx => List.mem_flatMap.2 ⟨_, List.getElem_mem hj, hx⟩
    refine ⟨fun more i w' => Upd (gs.flatMap Sl.blk) [] w2 w' ∧ Own w2.heap.size 1 w' more ∧ ∃ (mg : List Sl) (t : Nat), i = t ∧ t ≤ gs.length ∧ mg.length = t ∧ Sees cSl w' more mg ∧ (∀ j (hj : j < gs.length), Sees cU8 w' gs[j] (List.replicate gs[j].len (bz j))) ∧ (∀ j (hj : j < gs.length), t ≤ j → Own N 1 w' gs[j]) ∧ (∀ j (hj : j < mg.length), ∃ n : Nat, n ≤ 4398046511104 ∧ Sees cU8 w' mg[j] (List.replicate n (bz j))) ∧ (∀ j (hj : j < mg.length) (hj2 : j < gs.length), ∀ x ∈ mg[j].blk, (x ∈ gs[j].blk ∨ w2.heap.size ≤ x) ∧ x < w'.heap.size ∧ x ∉ more.blk), fun _ i _ => (gs.length - i).toNat,
      ⟨(Upd.refl w2).wide (by simp), Own.none _ _ _, [], 0, rfl, by omega, rfl, Sees.nil _ _ _ _, hG, fun j hj _ => hA2.owns _ (List.getElem_mem hj), by simp, by simp⟩, ?_⟩
    rintro more i w3 ⟨u3, oM, mg, t, rfl, ht, hmg, hM, hG3, hO3, hS3, hB3⟩
    have hx3 := hx2.upd u3 hbd
    have y3 := u3.size
    have hL3 := hA2.row.upd u3 hLd
    have b3 : w3.cell? ⟨bk, 0, none⟩ = some L.val := by have := hx3.sl 0 L rfl; rwa [add_zero] at this
    refine ⟨L, b3, brd (fun hlt => ?_) (fun hge => ?_)⟩
    · have ht2 : t < gs.length := by omega
      have hgt := hglen t ht2
      obtain ⟨a1, a2⟩ := slC hL3 t ht2
      refine ⟨L, b3, needIx (by omega) (by omega) (h2 := a2) ⟨_, a1, ?_⟩⟩
      have e70 : wr .i64 (wr .i64 (2 * (gs[t].len : Int)) + 70) = ((2 * gs[t].len + 70 : Nat) : Int) := by rw [wr_i64 (x := 2 * (gs[t].len : Int)) (by omega) (by omega), wr_i64 (by omega) (by omega)]; omega
      refine ⟨fun s4 w' => Upd gs[t].blk [] w3 w' ∧ Own N 1 w' s4 ∧ ∃ k : Nat, gs[t].len ≤ k ∧ k ≤ 2 * gs[t].len + 70 ∧ Sees cU8 w' s4 (List.replicate k (bz t)) ∧ Sees cU8 w' gs[t] (List.replicate gs[t].len (bz t)) ∧ (s4.ptr = gs[t].ptr ∨ ∀ z ∈ gs[t].blk, z ∉ s4.blk) ∧ (∀ z ∈ s4.blk, z ∈ gs[t].blk ∨ w3.heap.size ≤ z), fun s4 _ => 2 * gs[t].len + 70 - s4.len,
        ⟨(Upd.refl w3).wide (by simp), hO3 t ht2 (Nat.le_refl _), gs[t].len, Nat.le_refl _, by omega, hG3 t ht2, hG3 t ht2, .inl rfl, fun z hz => .inl hz⟩, ?_⟩
      rintro s4 w4 ⟨u4, o4, k4, hk1, hk2, hs4, hg4, hp4, hb4⟩
      have hsl := hs4.len
      rw [List.length_replicate] at hsl
      have y4 := u4.size
      rw [e70]
      refine brd (fun hlt4 => ?_) (fun hge4 => ?_)
      · intro b w5 u5 hr5
        have y5 := u5.size
        refine app_mkC (b := gs[t]) (y := bz t) (hg4.old u5) (hs4.old u5) (o4.old u5) hk1 hp4 (rowB hr5 [bz t] rfl rfl) (by omega) (fun z hz => by have := gsB t ht2 z hz; omega) (by decide) (by omega) fun r w6 hr6 o6 hg6 hp6 u6 hn6 => ?_
        have hrl := hr6.len
        rw [List.length_replicate] at hrl
        refine ⟨⟨(u4.step u5 (by simp)).step u6 (fun x hx => by rcases hb4 x hx with q | q; exact .inr q; exact .inl q), o6, k4 + 1, by omega, by omega, hr6, hg6, hp6, fun z hz => ?_⟩, by (try dsimp only); omega⟩
        rcases hn6 z hz with q | q
        · exact hb4 z q
        · exact .inr (by omega)
      · intro b w5 u5 hr5
        have y5 := u5.size
        have t35 := u4.step u5 (by simp)
        have mB := oM.blk
        have dM : ∀ x ∈ more.blk, x ∉ gs[t].blk := fun x hx hm => by have := mB x hx; have := gsB t ht2 x hm; omega
        have dG : ∀ j (hj : j < gs.length), j ≠ t → ∀ x ∈ gs[j].blk, x ∉ gs[t].blk := fun j hj hne => hA2.index j t hj ht2 hne
        refine append_own (c := cSl) (new := [s4]) (hM.upd t35 dM) (oM.upd t35 dM) (sees_row hr5 [s4] rfl rfl) (by omega) (by simp) (by decide) (by simp; omega) fun more' w6 hM6 oM6 u6 hn6 => ?_
        have y6 := u6.size
        have dm : ∀ j (hj : j < gs.length), ∀ x ∈ gs[j].blk, x ∉ more.blk := fun j hj x hx hm => by have := mB x hm; have := gsB j hj x hx; omega
        have s4B := o4.blk
        have s4d : ∀ x ∈ s4.blk, x ∉ more.blk := fun x hx hm => by
          rcases hb4 x hx with q | q
          · exact dm t ht2 x q hm
          · have := mB x hm; omega
        have mgd : ∀ j (hj : j < mg.length), ∀ x ∈ mg[j].blk, x ∉ gs[t].blk := fun j hj x hx hm => by
          obtain ⟨q, _, _⟩ := hB3 j hj (by omega) x hx
          rcases q with q | q
          · exact dG j (by omega) (by omega) x q hm
          · have := gsB t ht2 x hm; omega
        refine ⟨⟨(u3.step t35 (fun x hx => .inr (inF t ht2 x hx))).step u6 (fun x hx => .inl (mB x hx).1), oM6, mg ++ [s4], t + 1, wr_succ (by omega), by omega, by simp [hmg], hM6, fun j hj => ?_, fun j hj htj => ?_, fun j hj => ?_, fun j hj hj2 x hx => ?_⟩, by rw [wr_succ (q := t) (by omega)]; (try dsimp only); omega⟩
        · by_cases e : j = t
          · subst e; exact (hg4.old u5).upd u6 (dm j hj)
          · exact ((hG3 j hj).upd t35 (dG j hj e)).upd u6 (dm j hj)
        · exact ((hO3 j hj (by omega)).upd t35 (dG j hj (by omega))).upd u6 (dm j hj)
        · by_cases e : j < mg.length
          · obtain ⟨n, n1, n2⟩ := hS3 j e
            refine ⟨n, n1, ?_⟩
            rw [List.getElem_append_left e]
            exact (n2.upd t35 (mgd j e)).upd u6 (fun x hx => (hB3 j e (by omega) x hx).2.2)
          · have hj' : j = mg.length := by simp at hj; omega
            subst hj'
            have e1 : (mg ++ [s4])[mg.length] = s4 := by simp
            rw [e1]
            subst hmg
            exact ⟨k4, by omega, (hs4.old u5).upd u6 s4d⟩
        · have hnew : ∀ x, (x < w5.heap.size ∧ x ∉ more.blk) → x ∉ more'.blk := fun x hx hm => by
            rcases hn6 x hm with q | q
            · exact hx.2 q
            · omega
          by_cases e : j < mg.length
          · rw [List.getElem_append_left e] at hx
            obtain ⟨q1, q2, q3⟩ := hB3 j e hj2 x hx
            exact ⟨q1, by omega, hnew x ⟨by omega, q3⟩⟩
          · have hj' : j = mg.length := by simp at hj; omega
            subst hj'
            have e1 : (mg ++ [s4])[mg.length] = s4 := by simp
            rw [e1] at hx
            have := s4B x hx
            refine ⟨?_, by omega, hnew x ⟨by omega, s4d x hx⟩⟩
            rcases hb4 x hx with q | q
            · left; subst hmg; exact q
            · right; omega
    · have htl : t = gs.length := by omega
      subst htl
      refine ⟨fun i w' => w' = w3 ∧ ∃ t : Nat, i = t ∧ t ≤ gs.length, fun i _ => (gs.length - i).toNat, ⟨rfl, 0, rfl, by omega⟩, ?_⟩
      rintro i w4 ⟨rfl, t, rfl, ht⟩
      refine ⟨L, b3, brd (fun hlt => ?_) (fun hge => ?_)⟩
      · intro J hJ
        have ht2 : t < gs.length := by omega
        have hgt := hglen t ht2
        have ht3 : t < mg.length := by omega
        obtain ⟨a1, a2⟩ := slC hL3 t ht2
        obtain ⟨a3, a4⟩ := slC hM t ht3
        have hMl := hM.len
        obtain ⟨n, n1, n2⟩ := hS3 t ht3
        refine ⟨L, b3, needIx (by omega) (by omega) (h2 := a2) ⟨_, a1, ?_⟩⟩
        refine c76T (hG3 t ht2) (fun y hy => List.eq_of_mem_replicate hy) (by rw [List.length_replicate]; omega) ⟨_, rfl, brf rfl (needIx (by omega) (by omega) (h2 := a4) ⟨_, a3, ?_⟩)⟩
        refine c76T n2 (fun y hy => List.eq_of_mem_replicate hy) (by rw [List.length_replicate]; omega) ⟨_, rfl, brf rfl ?_⟩
        (repeat refine And.intro rfl ?_)
        refine hJ _ ?_
        (repeat refine And.intro rfl ?_)
        exact ⟨⟨rfl, t + 1, wr_succ (by omega), by omega⟩, by rw [wr_succ (q := t) (by omega)]; (try dsimp only); omega⟩
      · refine k _ (lotB L gs) (((u1.wide (m' := lotB L gs) (by simp)).step u2 (fun x hx => .inr hx)).step u3 (fun x hx => .inr (List.mem_append_right _ hx))) (fun x hx => hx)
end Go.Vc.S6
