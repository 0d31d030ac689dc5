import Derived.Test.YtncgcdicadibbaaS2T11
import Derived.Test.YtncgcdicadibbaaS2L9
open Go Go.Vc Go.Proofs
set_option linter.unusedVariables false
set_option linter.unusedSimpArgs false
set_option autoImplicit false
namespace Go.Vc.S2

theorem c37 {n : Int} {w : World} {R : SV → World → Prop} (h0 : 0 ≤ n) (h1 : n < 9223372036854775808) (k : R (.int .i64 (fd n)) w) : Ret Try.prog 37 [.int .i64 n] w R := by
  refine f37_of _ _ _ ?_
  unfold vc37
  refine ⟨fun m w1 => w1 = w ∧ 0 ≤ m ∧ m < 9223372036854775808 ∧ fd m = fd n, fun m _ => m.toNat, ⟨rfl, h0, h1, rfl⟩, ?_⟩
  rintro m w1 ⟨rfl, a, b, c⟩
  refine brd (fun h => ?_) (fun h => ?_)
  · rw [and_65535, gshr16, wr_i64 (by omega) (by omega)]
    exact ⟨⟨rfl, by omega, by omega, by rw [fd_step h]; exact c⟩, by dsimp only; omega⟩
  · rw [fd_id a (by omega)] at c
    rw [c]; exact k
/-- one word, again and again -/
def pw (W : Int) : Nat → List Int
  | 0 => []
  | n + 1 => pw W n ++ [W / 256 % 256, W % 256]
theorem pw_len (W : Int) : ∀ n, (pw W n).length = 2 * n
  | 0 => rfl
  | n + 1 => by simp [pw, pw_len W n]; omega
theorem pw_byt (W : Int) : ∀ n, Byt (pw W n)
  | 0 => Byt.nil
  | n + 1 => (pw_byt W n).app (by simp [Byt]; omega)
theorem pw_ws {W : Int} (h : 0 ≤ W ∧ W ≤ 65535) : ∀ n, ws true (pw W n) = n * W
  | 0 => by simp [pw, ws]
  | n + 1 => by
    have : par true (pw W n).length = true := by unfold par; rw [if_pos (by rw [pw_len]; omega)]
    simp only [pw]
    rw [ws_app, pw_ws h n, this]
    simp only [ws, if_true, Bool.not_true, Bool.false_eq_true, if_false]
    rw [show ((n + 1 : Nat) : Int) * W = (n : Int) * W + W by rw [Int.natCast_add, Int.add_mul]; omega]
    omega
theorem pw_set (W : Int) (n m : Nat) (h : 2 ≤ m) : ((pw W n ++ List.replicate m 0).set (2 * n) (W / 256 % 256)).set (2 * n + 1) (W % 256) = pw W (n + 1) ++ List.replicate (m - 2) 0 := by
  obtain ⟨k, rfl⟩ : ∃ k, m = k + 2 := ⟨m - 2, by omega⟩
  rw [List.set_append_right _ _ (by rw [pw_len]; omega), List.set_append_right _ _ (by rw [pw_len]; omega), pw_len]
  simp only [Nat.sub_self, Nat.add_sub_cancel_left, List.replicate_succ, List.set_cons_zero, List.set_cons_succ, Nat.add_sub_cancel, pw]
  simp
theorem needIxT {i n : Int} {X : Prop} (h0 : 0 ≤ i) (h1 : i < n) (x : X) : Need (decide (0 ≤ i) && decide (i < n) && true) X := need (by simp [h0, h1]) x

set_option maxRecDepth 10000 in
theorem c11 {word n size : Int} {w : World} (hz : -9223372036854775808 ≤ size ∧ size ≤ 9223372036854775807) : Ret Try.prog 11 [.int .i64 word, .int .i64 n, .int .i64 size] w fun r w1 => r = .bool true ∧ Upd [] [] w w1 := by
  refine f11_of _ _ _ _ _ ?_
  unfold vc11
  obtain ⟨N, hN, n1, n2⟩ : ∃ N : Nat, imin (imax n 1) 1048576 = (N : Int) ∧ 1 ≤ N ∧ N ≤ 1048576 := by
    have h1 := imin_le (imax n 1) 1048576
    have h2 := imax_ge n 1
    exact ⟨(imin (imax n 1) 1048576).toNat, by omega, by omega, by omega⟩
  rw [hN, and_65535]
  obtain ⟨W, hW⟩ : ∃ W, word % 65536 = W := ⟨_, rfl⟩
  have hWr : 0 ≤ W ∧ W ≤ 65535 := by omega
  rw [hW, wr_i64 (x := 2 * (N : Int)) (by omega) (by omega)]
  have eT : (2 * (N : Int)).toNat = 2 * N := by omega
  rw [eT]
  rw [tdiv_pos (show (0 : Int) ≤ ((2 * N : Nat) : Int) by omega), wr_i64 (x := ((2 * N : Nat) : Int) / 3000) (by omega) (by omega), wr_i64 (x := 1 + ((2 * N : Nat) : Int) / 3000) (by omega) (by omega)]
  obtain ⟨Z, hZ, z1, z2⟩ : ∃ Z : Nat, imin (imax size (1 + ((2 * N : Nat) : Int) / 3000)) ((2 * N : Nat) : Int) = (Z : Int) ∧ 1 + 2 * N / 3000 ≤ Z ∧ Z ≤ 2 * N := by
    have h1 := imin_le (imax size (1 + ((2 * N : Nat) : Int) / 3000)) ((2 * N : Nat) : Int)
    have h2 := imax_ge size (1 + ((2 * N : Nat) : Int) / 3000)
    refine ⟨(imin (imax size (1 + ((2 * N : Nat) : Int) / 3000)) ((2 * N : Nat) : Int)).toNat, ?_, ?_, ?_⟩
    · omega
    · omega
    · omega
  rw [hZ]
  clear hN hz hZ
  have hNW : 0 ≤ (N : Int) * W ∧ (N : Int) * W ≤ 68719476736 := by
    refine ⟨Int.mul_nonneg (by omega) hWr.1, ?_⟩
    have := Int.mul_le_mul (show (N : Int) ≤ 1048576 by omega) hWr.2 hWr.1 (by decide)
    omega
  have hbB := pw_byt W N
  have hlB := pw_len W N
  have hsB : sumOf (pw W N) = fd ((N : Int) * W) := by unfold sumOf; rw [pw_ws hWr]
  have hfr := fd_range hNW.1
  refine c13 fun w1 u1 => ⟨_, rfl, brf (by decide) (need (by simp; omega) ?_)⟩
  intro b w2 u2 hrow
  have v2 := u1.then u2
  have hbw : w.heap.size ≤ b := by have := u2.new (b := b) (by simp); have := u1.size; omega
  rw [zeros_cells] at hrow
  have hs2 := rowB (n := 2 * N) (cap := 2 * N) hrow (List.replicate (2 * N) 0) rfl (by simp)
  have ho2 := own_row (N := w.heap.size) (n := 2 * N) (cap := 2 * N) (sz := 1) hrow hbw (by rw [Cod.cells_length]; simp [cU8]) (Nat.le_refl _)
  generalize hS : (⟨some ⟨b, 0, none⟩, 2 * N, 2 * N⟩ : Sl) = S at *
  have hSl : S.len = 2 * N := by rw [← hS]
  have hSc : S.cap = 2 * N := by rw [← hS]
  have hSp : S.ptr.isSome = true := by rw [← hS]; rfl
  refine ⟨fun i w3 => Upd [] [] w w3 ∧ Own w.heap.size 1 w3 S ∧ ∃ k : Nat, i = k ∧ k ≤ N ∧ SeesB w3 S (pw W k ++ List.replicate (2 * N - 2 * k) 0), fun i _ => (N - i).toNat, ⟨v2, ho2, 0, rfl, by omega, by simpa [pw] using hs2⟩, ?_⟩
  rintro i w3 ⟨v3, ho3, k, rfl, hk, hs3⟩
  have hlen3 : (pw W k ++ List.replicate (2 * N - 2 * k) (0 : Int)).length = 2 * N := by simp [pw_len]; omega
  refine brd (fun hlt => ?_) (fun hge => ?_)
  · rw [wr_i64 (x := 2 * (k : Int)) (by omega) (by omega), wr_i64 (x := 2 * (k : Int) + 1) (by omega) (by omega)]
    have e1 : (2 * (k : Int)).toNat = 2 * k := by omega
    have e2 : (2 * (k : Int) + 1).toNat = 2 * k + 1 := by omega
    rw [e1, e2]
    refine needIxT (by omega) (by omega) (own_set (c := cU8) (x := W / 256 % 256) hs3 ho3 (by decide) (by omega) (by rw [gshr8, wr_u8]; rfl) (by simp) fun w4 hs4 ho4 u4 => ?_)
    refine needIxT (by omega) (by omega) (own_set (c := cU8) (x := W % 256) hs4 ho4 (by decide) (by simp [pw_len]; omega) (by rw [wr_u8]; rfl) (by simp) fun w5 hs5 ho5 u5 => ?_)
    rw [pw_set _ _ _ (by omega), show 2 * N - 2 * k - 2 = 2 * N - 2 * (k + 1) by omega] at hs5
    refine ⟨⟨(v3.step0 u4 (fun x hx => (ho3.blk x hx).1)).step0 u5 (fun x hx => (ho4.blk x hx).1), ho5, k + 1, wr_succ (by omega), by omega, hs5⟩, by rw [wr_succ (by omega)]; (try dsimp only); omega⟩
  have hkN : k = N := by omega
  subst hkN
  rw [Nat.sub_self, List.replicate_zero, List.append_nil] at hs3
  rw [wr_i64 (x := (k : Int) * W) (by omega) (by omega)]
  refine c37 (by omega) (by omega) ⟨_, rfl, ?_⟩
  rw [wr_i64 (x := 65535 - fd ((k : Int) * W)) (by omega) (by omega)]
  rw [← hsB] at hfr ⊢
  intro J hJ
  intro b4 w4 u4 hrow4
  have hs4 := hs3.old u4
  have p4 := rowP (n := 1) (cap := 1) hrow4 (ss := [S]) rfl rfl (ls := [_]) ⟨hs4, trivial⟩
  refine c16 p4 (by simpa using hbB) (by simp) (by simp; omega) ⟨_, rfl, ?_⟩
  rw [flat1]
  refine brf (by simp) ?_
  intro b5 w5 u5 hrow5
  have hs5 := hs4.old u5
  have p5 := rowP (n := 1) (cap := 1) hrow5 (ss := [S]) rfl rfl (ls := [_]) ⟨hs5, trivial⟩
  refine c17 p5 (by simpa using hbB) (by simp) (by simp; omega) ⟨_, rfl, ?_⟩
  rw [flat1]
  refine brf (by simp) ?_
  intro b6 w6 u6 hrow6
  have hs6 := hs5.old u6
  have p6 := rowP (n := 1) (cap := 1) hrow6 (ss := [S]) rfl rfl (ls := [_]) ⟨hs6, trivial⟩
  refine c18 p6 (by simpa using hbB) (by simp) (by simp; omega) ⟨_, rfl, ?_⟩
  rw [flat1]
  refine brf (by simp) (hJ _ ?_)
  clear hJ
  have v6 := ((v3.then u4).then u5).then u6
  have ho6 := ((ho3.old u4).old u5).old u6
  -- the parts
  refine ⟨fun s i w7 => Upd [] [] w6 w7 ∧ Own w6.heap.size 1 w7 s ∧ ∃ (k' : Nat) (ls : List (List Int)) (ss : List Sl), i = k' ∧ k' ≤ 2 * k + Z ∧ Parts w7 s ls ss ∧ ls.flatten = (pw W k).take k' ∧ (∀ x ∈ ss, ∀ y ∈ x.blk, y ∈ S.blk) ∧ ls.length * Z = k' ∧ (∀ l ∈ ls, l.length ≤ 2 * k), fun _ i _ => (2 * k + Z - i).toNat,
    ⟨Upd.refl w6, Own.none _ _ _, 0, [], [], rfl, by omega, Parts.nil _ _ _, by simp, by simp, by simp, by simp⟩, ?_⟩
  rintro s i w7 ⟨u7, ho7, k', ls, ss, rfl, hk', hP, hfl, hin, hcnt, hlens⟩
  have hs7 := hs6.old u7
  have hcnt2 : ls.length ≤ 4000 := by
    by_cases hl : ls.length ≤ 4000
    · exact hl
    · have h1 : 4001 * Z ≤ ls.length * Z := Nat.mul_le_mul_right _ (by omega)
      have h2 : 4001 * Z ≤ 2 * k + Z := by omega
      have h3 : 4000 * (1 + 2 * k / 3000) ≤ 4000 * Z := Nat.mul_le_mul_left _ z1
      omega
  refine brd (fun hlt => ?_) (fun hge => ?_)
  · rw [wr_i64 (x := (k' : Int) + (Z : Int)) (by omega) (by omega)]
    obtain ⟨E, hE, e1, e2, e3⟩ : ∃ E : Nat, imin ((k' : Int) + (Z : Int)) ((2 * k : Nat) : Int) = (E : Int) ∧ k' ≤ E ∧ E ≤ 2 * k ∧ (E = k' + Z ∨ E = 2 * k ∧ 2 * k ≤ k' + Z) := by
      have h1 := imin_le ((k' : Int) + (Z : Int)) ((2 * k : Nat) : Int)
      refine ⟨(imin ((k' : Int) + (Z : Int)) ((2 * k : Nat) : Int)).toNat, ?_, ?_, ?_, ?_⟩
      · omega
      · omega
      · omega
      · omega
    rw [hE, Int.toNat_natCast, Int.toNat_natCast]
    refine need (by simp; omega) ?_
    intro b8 w8 u8 hrow8
    have hP8 := hP.old u8
    have ho8 := ho7.old u8
    have v8 := u7.then u8
    have hSb : ∀ y ∈ S.blk, y < w6.heap.size := fun y hy => (ho6.blk y hy).2
    have hdis : ∀ y ∈ S.blk, y ∉ s.blk := fun y hy hm => by have := hSb y hy; have := (ho8.blk y hm).1; omega
    have hsub := (hs7.old u8).subB (lo := k') (hi := E) (mx := 2 * k) e1 (by omega) (by omega)
    refine append_own (c := cSl) (new := [_]) hP8.row ho8 (sees_row hrow8 _ rfl rfl) v8.size (by simp) (by omega) (by simp [hP8.len]; omega) fun r9 w9 hr9 ho9 u9 _ => ?_
    have v9 := v8.step0 u9 (fun x hx => (ho8.blk x hx).1)
    have hsub9 := hsub.upd u9 (fun y hy hm => hdis y (sub_blk y hy) hm)
    refine ⟨⟨v9, ho9, k' + Z, ls ++ [((pw W k).take E).drop k'], ss ++ [S.sub 1 k' E (2 * k)], by omega, by omega, ?_, ?_, ?_, ?_, ?_⟩, by (try dsimp only); omega⟩
    · refine ⟨hr9, by simp [hP8.len], fun j hj => ?_⟩
      simp at hj
      by_cases hj2 : j < ls.length
      · rw [List.getElem_append_left (by rw [hP8.len]; exact hj2), List.getElem_append_left hj2]
        exact (hP8.each j hj2).upd u9 (fun y hy hm => hdis y (hin _ (List.getElem_mem _) y hy) hm)
      · have : j = ls.length := by omega
        subst this
        rw [List.getElem_append_right (by rw [hP8.len]; omega), List.getElem_append_right (by omega)]
        simp only [hP8.len, Nat.sub_self, List.getElem_cons_zero]
        exact hsub9
    · rw [List.flatten_append, hfl, flat1]
      have h1 : ((pw W k).take E).take k' ++ ((pw W k).take E).drop k' = (pw W k).take E := List.take_append_drop _ _
      rw [List.take_take, Nat.min_eq_left e1] at h1
      rw [h1]
      rcases e3 with h | ⟨h, h2⟩
      · rw [h]
      · rw [h, List.take_of_length_le (by omega), List.take_of_length_le (by omega)]
    · intro x hx y hy
      rcases List.mem_append.1 hx with hx | hx
      · exact hin x hx y hy
      · simp at hx; subst hx; exact sub_blk y hy
    · rw [List.length_append, Nat.add_mul, hcnt]; simp
    · intro l hl
      rcases List.mem_append.1 hl with hl | hl
      · exact hlens l hl
      · simp at hl; subst hl; simp; omega
  · rw [List.take_of_length_le (by omega)] at hfl
    have hcw : isW (65535 - sumOf (pw W k)) := by unfold isW; omega
    have e0 : fixLErr (65535 - sumOf (pw W k)) (pw W k) (pw W k) = 0 := by unfold fixLErr; rw [if_pos hcw, if_pos rfl]
    refine c30 hs7 hs7 hbB hbB (by omega) (by omega) ⟨_, _, rfl, ?_⟩
    unfold fixLOf
    rw [e0, if_pos rfl]
    have hbl : ∀ l ∈ ls, Byt l := fun l hl x hx => hbB x (by rw [← hfl]; exact List.mem_flatten.2 ⟨l, hl, hx⟩)
    refine c16 hP hbl (by omega) (fun l hl => by have := hlens l hl; omega) ⟨_, rfl, ?_⟩
    rw [hfl]
    refine brt (by simp) (c18 hP hbl (by omega) (fun l hl => by have := hlens l hl; omega) ⟨_, rfl, ?_⟩)
    rw [hfl]
    refine brt (by simp) (brt (by decide) (bre (fun h => ⟨rfl, v6.then u7⟩) (fun h => ⟨?_, v6.then u7⟩)))
    have key := fixL_main (pw W k) (pw W k) (65535 - sumOf (pw W k)) (ws true (pw W k)) rfl hbB hbB hcw (Int.le_refl _)
      (by unfold sumOf fd; split <;> omega) (fun hh => by unfold sumOf at hh; exact (fd_zero (ws_nonneg true hbB).1).1 (by omega))
    have hne : pw W k ≠ [] := fun he => by rw [he] at hlB; simp at hlB; omega
    have hws : ws true (pw W k) ≠ 0 := by
      rw [pw_ws hWr]
      exact Int.mul_ne_zero (by omega) h
    have k1 := key.2.2.1 hne
    have k2 := key.2.1
    have k3 := key.1
    have hn := (ws_nonneg true hbB).1
    unfold isW at k3
    have : fixL (65535 - sumOf (pw W k)) (pw W k) (pw W k) = 65535 - sumOf (pw W k) := by
      generalize fixL (65535 - sumOf (pw W k)) (pw W k) (pw W k) = x at *
      unfold sumOf fd at *
      rw [if_neg hws] at *
      omega
    rw [this]; simp

theorem walk11 {H : Type} {W : World} (svs : List SV) (ds : List (DataW H)) (h : ArgsD X W [3, 3, 3] svs ds) :
    Ret Try.prog 11 svs W fun r w1 => r = .bool true ∧ Upd [] [] W w1 := by
  obtain ⟨x, _, d1, _, m1, rfl, rfl, h1, h⟩ := argsD_cons h
  obtain ⟨y, _, d2, _, m2, rfl, rfl, h2, h⟩ := argsD_cons h
  obtain ⟨z, _, d3, _, m3, rfl, rfl, h3, h⟩ := argsD_cons h
  obtain ⟨rfl, rfl⟩ := argsD_nil h
  obtain ⟨a, rfl, ha⟩ := deep_int (t := 3) (k := .i64) rfl h1
  obtain ⟨b, rfl, hb⟩ := deep_int (t := 3) (k := .i64) rfl h2
  obtain ⟨c, rfl, hc⟩ := deep_int (t := 3) (k := .i64) rfl h3
  exact c11 (wf_i64 hc)
end Go.Vc.S2
