import Derived.Test.YtlohkdkgpajkaaaDoorS6Lists
import Derived.Test.YtlohkdkgpajkaaaDoorLotD
open Go Go.Vc Go.Proofs
set_option linter.unusedVariables false
set_option linter.unusedSimpArgs false
set_option autoImplicit false
namespace Go.Vc.S6
variable {w : World} {R : SV → World → Prop}
def mz (i : Nat) : Int × Sl := (wr .i64 (-1000 - (i : Int)), ⟨none, 0, 0⟩)
/-- the lists below t hold their marks alone -/
def Marked (ls : List (List (Int × Sl))) (t : Nat) : Prop := ∀ j (h : j < ls.length), j < t → ∀ y ∈ ls[j], y = mz j
set_option maxRecDepth 10000 in
theorem c56T {N bk : Nat} {L W : Sl} {ls : List (List (Int × Sl))} {gs hs : List Sl} (h : Lsts N w bk L W ls gs hs) (hn : ls.length ≤ 1099511627776) (hl : ∀ l ∈ ls, l.length ≤ 1099511627776) (hN : N ≤ w.heap.size) (k : ∀ w1 ms, Upd ms [] w w1 → (∀ x ∈ ms, x ∈ lotB L gs) → R (.bool true) w1) : Ret Tryd.prog 56 [.ptr (some ⟨bk, 0, none⟩)] w R := by
  refine f56_of _ _ _ ?_
  unfold vc56
  have hal := h.A.len
  have hLl := h.A.row.len
  refine c55T h (by omega) (fun l hl' => by have := hl l hl'; omega) fun w1 u1 => ⟨_, rfl, brf rfl ?_⟩
  have h1 := h.old (n := 0) u1
  have hglen : ∀ j (hj : j < gs.length), gs[j].len ≤ 1099511627776 := fun j hj => by
    have := (h.A.each j (by omega)).len
    rw [this]; exact hl _ (List.getElem_mem _)
  have inB : ∀ g ∈ gs, ∀ x ∈ g.blk, x ∈ lotB L gs := fun g hg x hx => lotB_mem.2 (.inr ⟨g, hg, hx⟩)
  refine ⟨fun i w' => Upd (lotB L gs) [] w1 w' ∧ ∃ (ls' : List (List (Int × Sl))) (t : Nat), LotC cOpt N w' L ls' gs ∧ i = t ∧ t ≤ gs.length ∧ Marked ls' t, fun i _ => (gs.length - i).toNat, ⟨(Upd.refl w1).wide (by simp), ls, 0, h1.A, rfl, by omega, fun j _ hj => by omega⟩, ?_⟩
  rintro i w2 ⟨u2, ls2, t, hA2, rfl, ht, hm2⟩
  have hx2 := h1.box.upd u2 h.offA
  have hal2 := hA2.len
  have b2 : w2.cell? ⟨bk, 0, none⟩ = some L.val := by have := hx2.sl 0 L rfl; rwa [add_zero] at this
  refine ⟨L, b2, brd (fun hlt => ?_) (fun hge => ?_)⟩
  · have ht2 : t < gs.length := by omega
    have hgt := hglen t ht2
    refine ⟨fun j w' => Upd (lotB L gs) [] w2 w' ∧ ∃ (ls' : List (List (Int × Sl))) (q : Nat), LotC cOpt N w' L ls' gs ∧ Marked ls' t ∧ j = q ∧ q ≤ gs[t].len ∧ ∀ (ht : t < ls'.length) p (hp : p < ls'[t].length), p < q → ls'[t][p] = mz t, fun j _ => (gs[t].len - j).toNat, ⟨(Upd.refl w2).wide (by simp), ls2, 0, hA2, hm2, rfl, by omega, fun _ p _ hp => by omega⟩, ?_⟩
    rintro j w3 ⟨u3, ls3, q, hA3, hm3, rfl, hq, hm3q⟩
    have hx3 := hx2.upd u3 h.offA
    have hal3 := hA3.len
    have b3 : w3.cell? ⟨bk, 0, none⟩ = some L.val := by have := hx3.sl 0 L rfl; rwa [add_zero] at this
    obtain ⟨a1, a2⟩ := slC hA3.row t ht2
    refine ⟨L, b3, needIx (by omega) (by omega) (h2 := a2) ⟨_, a1, brd (fun hlt3 => ?_) (fun hge => ?_)⟩⟩
    · have ht3 : t < ls3.length := by omega
      have hlt := (hA3.each t ht3).len
      have hq2 : q < ls3[t].length := by omega
      obtain ⟨_, _, c3⟩ := opC (hA3.each t ht3) q hq2
      refine ⟨L, b3, needIx (by omega) (by omega) (h2 := a2) ⟨_, a1, needIx (by omega) (by omega) (h2 := c3) ?_⟩⟩
      rw [Int.toNat_natCast]
      refine LotC.set (c := cOpt) (y := mz t) hA3 (by decide) ht3 ht2 hq2 rfl fun w4 hA4 u4 => ?_
      (repeat refine And.intro rfl ?_)
      refine ⟨⟨u3.step u4 (fun x hx => .inr (inB _ (List.getElem_mem ht2) x hx)), _, q + 1, hA4, ?_, wr_succ (by omega), by omega, ?_⟩, by rw [wr_succ (q := q) (by omega)]; (try dsimp only); omega⟩
      · intro j hj hjt y hy
        rw [List.getElem_set_ne (by omega)] at hy
        exact hm3 j _ hjt y hy
      · intro ht p hp hpq
        simp only [List.getElem_set_self] at hp ⊢
        by_cases e : p = q
        · subst e; simp
        · rw [List.getElem_set_ne (by omega)]
          exact hm3q ht3 p _ (by omega)
    · (repeat refine And.intro rfl ?_)
      have ht3 : t < ls3.length := by omega
      have hlt := (hA3.each t ht3).len
      refine ⟨⟨u2.step u3 (fun x hx => .inr hx), ls3, t + 1, hA3, wr_succ (by omega), by omega, fun j hj hjt y hy => ?_⟩, by rw [wr_succ (q := t) (by omega)]; (try dsimp only); omega⟩
      by_cases e : j < t
      · exact hm3 j hj e y hy
      · obtain rfl : j = t := by omega
        obtain ⟨p, hp, rfl⟩ := List.getElem_of_mem hy
        exact hm3q hj p hp (by omega)
  · have htl : t = gs.length := by omega
    subst htl
    (repeat refine And.intro rfl ?_)
    have hG : ∀ j (hj : j < gs.length), Sees cOpt w2 gs[j] (List.replicate gs[j].len (mz j)) := fun j hj => by
      have h3 := hA2.each j (by omega)
      rw [h3.len, ← List.eq_replicate_iff.2 ⟨rfl, hm2 j (by omega) hj⟩]
      exact h3
    have y1 := u1.size
    have y2 := u2.size
    have gsB : ∀ j (hj : j < gs.length), ∀ x ∈ gs[j].blk, N ≤ x ∧ x < w2.heap.size := fun j hj x hx => (hA2.owns _ (List.getElem_mem hj)).blk x hx
    have hLd : ∀ x ∈ L.blk, x ∉ gs.flatMap Sl.blk := fun x hx hm => by
      obtain ⟨g, hg, hx2⟩ := List.mem_flatMap.1 hm
      exact hA2.off g hg x hx2 hx
    have hbd : bk ∉ gs.flatMap Sl.blk := fun hm => h.offA (List.mem_append_right _ hm)
    have inF : ∀ j (hj : j < gs.length), ∀ x ∈ gs[j].blk, x ∈ gs.flatMap Sl.blk := fun j hj x hx => List.mem_flatMap.2 ⟨_, List.getElem_mem hj, hx⟩
    refine ⟨fun more i w' => Upd (gs.flatMap Sl.blk) [] w2 w' ∧ Own w2.heap.size 1 w' more ∧ ∃ (mg : List Sl) (t : Nat), i = t ∧ t ≤ gs.length ∧ mg.length = t ∧ Sees cSl w' more mg ∧ (∀ j (hj : j < gs.length), Sees cOpt w' gs[j] (List.replicate gs[j].len (mz j))) ∧ (∀ j (hj : j < gs.length), t ≤ j → Own N 2 w' gs[j]) ∧ (∀ j (hj : j < mg.length), ∃ n : Nat, n ≤ 4398046511104 ∧ Sees cOpt w' mg[j] (List.replicate n (mz j))) ∧ (∀ j (hj : j < mg.length) (hj2 : j < gs.length), ∀ x ∈ mg[j].blk, (x ∈ gs[j].blk ∨ w2.heap.size ≤ x) ∧ x < w'.heap.size ∧ x ∉ more.blk), fun _ i _ => (gs.length - i).toNat,
      ⟨(Upd.refl w2).wide (by simp), Own.none _ _ _, [], 0, rfl, by omega, rfl, Sees.nil _ _ _ _, hG, fun j hj _ => hA2.owns _ (List.getElem_mem hj), by simp, by simp⟩, ?_⟩
    rintro more i w3 ⟨u3, oM, mg, t, rfl, ht, hmg, hM, hG3, hO3, hS3, hB3⟩
    have hx3 := hx2.upd u3 hbd
    have y3 := u3.size
    have hL3 := hA2.row.upd u3 hLd
    have b3 : w3.cell? ⟨bk, 0, none⟩ = some L.val := by have := hx3.sl 0 L rfl; rwa [add_zero] at this
    refine ⟨L, b3, brd (fun hlt => ?_) (fun hge => ?_)⟩
    · have ht2 : t < gs.length := by omega
      have hgt := hglen t ht2
      obtain ⟨a1, a2⟩ := slC hL3 t ht2
      refine ⟨L, b3, needIx (by omega) (by omega) (h2 := a2) ⟨_, a1, ?_⟩⟩
      have e9 : wr .i64 (wr .i64 (2 * (gs[t].len : Int)) + 9) = ((2 * gs[t].len + 9 : Nat) : Int) := by rw [wr_i64 (x := 2 * (gs[t].len : Int)) (by omega) (by omega), wr_i64 (by omega) (by omega)]; omega
      refine ⟨fun s4 w' => Upd gs[t].blk [] w3 w' ∧ Own N 2 w' s4 ∧ ∃ k : Nat, gs[t].len ≤ k ∧ k ≤ 2 * gs[t].len + 9 ∧ Sees cOpt w' s4 (List.replicate k (mz t)) ∧ Sees cOpt w' gs[t] (List.replicate gs[t].len (mz t)) ∧ (s4.ptr = gs[t].ptr ∨ ∀ z ∈ gs[t].blk, z ∉ s4.blk) ∧ (∀ z ∈ s4.blk, z ∈ gs[t].blk ∨ w3.heap.size ≤ z), fun s4 _ => 2 * gs[t].len + 9 - s4.len,
        ⟨(Upd.refl w3).wide (by simp), hO3 t ht2 (Nat.le_refl _), gs[t].len, Nat.le_refl _, by omega, hG3 t ht2, hG3 t ht2, .inl rfl, fun z hz => .inl hz⟩, ?_⟩
      rintro s4 w4 ⟨u4, o4, k4, hk1, hk2, hs4, hg4, hp4, hb4⟩
      have hsl := hs4.len
      rw [List.length_replicate] at hsl
      have y4 := u4.size
      rw [e9]
      refine brd (fun hlt4 => ?_) (fun hge4 => ?_)
      · intro b w5 u5 hr5
        have y5 := u5.size
        refine app_mkC (b := gs[t]) (y := mz t) (hg4.old u5) (hs4.old u5) (o4.old u5) hk1 hp4 (optRow hr5 rfl rfl) (by omega) (fun z hz => by have := gsB t ht2 z hz; omega) (by decide) (by omega) fun r w6 hr6 o6 hg6 hp6 u6 hn6 => ?_
        have hrl := hr6.len
        rw [List.length_replicate] at hrl
        refine ⟨⟨(u4.step u5 (by simp)).step u6 (fun x hx => by rcases hb4 x hx with q | q; exact .inr q; exact .inl q), o6, k4 + 1, by omega, by omega, hr6, hg6, hp6, fun z hz => ?_⟩, by (try dsimp only); omega⟩
        rcases hn6 z hz with q | q
        · exact hb4 z q
        · exact .inr (by omega)
      · intro b w5 u5 hr5
        have y5 := u5.size
        have t35 := u4.step u5 (by simp)
        have mB := oM.blk
        have dM : ∀ x ∈ more.blk, x ∉ gs[t].blk := fun x hx hm => by have := mB x hx; have := gsB t ht2 x hm; omega
        have dG : ∀ j (hj : j < gs.length), j ≠ t → ∀ x ∈ gs[j].blk, x ∉ gs[t].blk := fun j hj hne => hA2.index j t hj ht2 hne
        refine append_own (c := cSl) (new := [s4]) (hM.upd t35 dM) (oM.upd t35 dM) (sees_row hr5 [s4] rfl rfl) (by omega) (by simp) (by decide) (by simp; omega) fun more' w6 hM6 oM6 u6 hn6 => ?_
        have y6 := u6.size
        have dm : ∀ j (hj : j < gs.length), ∀ x ∈ gs[j].blk, x ∉ more.blk := fun j hj x hx hm => by have := mB x hm; have := gsB j hj x hx; omega
        have s4B := o4.blk
        have s4d : ∀ x ∈ s4.blk, x ∉ more.blk := fun x hx hm => by
          rcases hb4 x hx with q | q
          · exact dm t ht2 x q hm
          · have := mB x hm; omega
        have mgd : ∀ j (hj : j < mg.length), ∀ x ∈ mg[j].blk, x ∉ gs[t].blk := fun j hj x hx hm => by
          obtain ⟨q, _, _⟩ := hB3 j hj (by omega) x hx
          rcases q with q | q
          · exact dG j (by omega) (by omega) x q hm
          · have := gsB t ht2 x hm; omega
        refine ⟨⟨(u3.step t35 (fun x hx => .inr (inF t ht2 x hx))).step u6 (fun x hx => .inl (mB x hx).1), oM6, mg ++ [s4], t + 1, wr_succ (by omega), by omega, by simp [hmg], hM6, fun j hj => ?_, fun j hj htj => ?_, fun j hj => ?_, fun j hj hj2 x hx => ?_⟩, by rw [wr_succ (q := t) (by omega)]; (try dsimp only); omega⟩
        · by_cases e : j = t
          · subst e; exact (hg4.old u5).upd u6 (dm j hj)
          · exact ((hG3 j hj).upd t35 (dG j hj e)).upd u6 (dm j hj)
        · exact ((hO3 j hj (by omega)).upd t35 (dG j hj (by omega))).upd u6 (dm j hj)
        · by_cases e : j < mg.length
          · obtain ⟨n, n1, n2⟩ := hS3 j e
            refine ⟨n, n1, ?_⟩
            rw [List.getElem_append_left e]
            exact (n2.upd t35 (mgd j e)).upd u6 (fun x hx => (hB3 j e (by omega) x hx).2.2)
          · have hj' : j = mg.length := by simp at hj; omega
            subst hj'
            have e1 : (mg ++ [s4])[mg.length] = s4 := by simp
            rw [e1]
            subst hmg
            exact ⟨k4, by omega, (hs4.old u5).upd u6 s4d⟩
        · have hnew : ∀ x, (x < w5.heap.size ∧ x ∉ more.blk) → x ∉ more'.blk := fun x hx hm => by
            rcases hn6 x hm with q | q
            · exact hx.2 q
            · omega
          by_cases e : j < mg.length
          · rw [List.getElem_append_left e] at hx
            obtain ⟨q1, q2, q3⟩ := hB3 j e hj2 x hx
            exact ⟨q1, by omega, hnew x ⟨by omega, q3⟩⟩
          · have hj' : j = mg.length := by simp at hj; omega
            subst hj'
            have e1 : (mg ++ [s4])[mg.length] = s4 := by simp
            rw [e1] at hx
            have := s4B x hx
            refine ⟨?_, by omega, hnew x ⟨by omega, s4d x hx⟩⟩
            rcases hb4 x hx with q | q
            · left; subst hmg; exact q
            · right; omega
    · have htl : t = gs.length := by omega
      subst htl
      refine ⟨fun i w' => w' = w3 ∧ ∃ t : Nat, i = t ∧ t ≤ gs.length, fun i _ => (gs.length - i).toNat, ⟨rfl, 0, rfl, by omega⟩, ?_⟩
      rintro i w4 ⟨rfl, t, rfl, ht⟩
      refine ⟨L, b3, brd (fun hlt => ?_) (fun hge => ?_)⟩
      · intro J hJ
        have ht2 : t < gs.length := by omega
        have hgt := hglen t ht2
        have ht3 : t < mg.length := by omega
        obtain ⟨a1, a2⟩ := slC hL3 t ht2
        obtain ⟨a3, a4⟩ := slC hM t ht3
        have hMl := hM.len
        obtain ⟨n, n1, n2⟩ := hS3 t ht3
        refine ⟨L, b3, needIx (by omega) (by omega) (h2 := a2) ⟨_, a1, ?_⟩⟩
        refine c86T (hG3 t ht2) (fun y hy => by rw [List.eq_of_mem_replicate hy]; exact ⟨rfl, rfl⟩) (by rw [List.length_replicate]; omega) ⟨_, rfl, brf rfl (needIx (by omega) (by omega) (h2 := a4) ⟨_, a3, ?_⟩)⟩
        refine c86T n2 (fun y hy => by rw [List.eq_of_mem_replicate hy]; exact ⟨rfl, rfl⟩) (by rw [List.length_replicate]; omega) ⟨_, rfl, brf rfl ?_⟩
        (repeat refine And.intro rfl ?_)
        refine hJ _ ?_
        (repeat refine And.intro rfl ?_)
        exact ⟨⟨rfl, t + 1, wr_succ (by omega), by omega⟩, by rw [wr_succ (q := t) (by omega)]; (try dsimp only); omega⟩
      · refine k _ (lotB L gs) (((u1.wide (m' := lotB L gs) (by simp)).step u2 (fun x hx => .inr hx)).step u3 (fun x hx => .inr (List.mem_append_right _ hx))) (fun x hx => hx)
end Go.Vc.S6
