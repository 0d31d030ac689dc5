import Derived.Test.YtncgcdicadibbaaS2TxtA
import Derived.Test.YtncgcdicadibbaaParts
import Derived.Test.YtncgcdicadibbaaSumPure
open Go Go.Vc Go.Proofs
set_option linter.unusedVariables false
set_option linter.unusedSimpArgs false
set_option autoImplicit false
namespace Go.Vc.S2

theorem c39 {n : Int} {w : World} {R : SV → World → Prop} (h0 : 0 ≤ n) (h1 : n < 9223372036854775808) (k : R (.int .i64 (fd n)) w) : Ret Try.prog 39 [.int .i64 n] w R := by
  refine f39_of _ _ _ ?_
  unfold vc39
  refine ⟨fun m w1 => w1 = w ∧ 0 ≤ m ∧ m < 9223372036854775808 ∧ fd m = fd n, fun m _ => m.toNat, ⟨rfl, h0, h1, rfl⟩, ?_⟩
  rintro m w1 ⟨rfl, a, b, c⟩
  refine brd (fun h => ?_) (fun h => ?_)
  · rw [and_65535, gshr16, wr_i64 (by omega) (by omega)]
    exact ⟨⟨rfl, by omega, by omega, by rw [fd_step h]; exact c⟩, by dsimp only; omega⟩
  · rw [fd_id a (by omega)] at c
    rw [c]; exact k

theorem c16 {parts : Sl} {ls : List (List Int)} {ss : List Sl} {w : World} {R : SV → World → Prop} (h : Parts w parts ls ss) (hb : ∀ l ∈ ls, Byt l) (hn : ls.length < 9223372036854775807) (hl : ∀ l ∈ ls, l.length ≤ 140737488355328)
    (k : R (.int .i64 (sumOf ls.flatten)) w) : Ret Try.prog 16 [.slice parts] w R := by
  refine f16_of _ _ _ ?_
  unfold vc16
  refine ⟨fun n b i w1 => w1 = w ∧ ∃ q : Nat, i = q ∧ q ≤ ls.length ∧ n = fd (ws true (ls.take q).flatten) ∧ b = par true (ls.take q).flatten.length, fun _ _ i _ => (ls.length - i).toNat, ⟨rfl, 0, rfl, by omega, by simp [ws, fd], by simp [par]⟩, ?_⟩
  rintro n b i w1 ⟨rfl, q, rfl, hq, rfl, rfl⟩
  have hw0 := ws_nonneg true (byt_flat_take hb q)
  have hf0 := fd_range hw0.1
  refine brd (fun hlt => ?_) (fun hge => ?_)
  · rw [h.slen] at hlt
    refine needP h (by omega) hlt ?_
    obtain ⟨h1, h2, hc, hs, hp⟩ := h.get (i := (q : Int)) (by omega) hlt
    refine ⟨_, hc, ?_⟩
    simp only [Int.toNat_natCast] at hs h1 h2 ⊢
    have hbp : Byt ls[q] := hb _ (List.getElem_mem _)
    have hlp := hl _ (List.getElem_mem h2)
    refine ⟨fun n b j w2 => w2 = w1 ∧ ∃ t : Nat, j = t ∧ t ≤ ls[q].length ∧ n = fd (ws true (ls.take q).flatten) + ws (par true (ls.take q).flatten.length) (ls[q].take t) ∧ b = par (par true (ls.take q).flatten.length) t,
      fun _ _ j _ => (ls[q].length - j).toNat, ⟨rfl, 0, rfl, by omega, by simp [ws], by simp [par]⟩, ?_⟩
    rintro n b j w2 ⟨rfl, t, rfl, ht, rfl, rfl⟩
    have hw1 := ws_nonneg (par true (ls.take q).flatten.length) (hbp.take t)
    have hlt1 : ((ls[q].take t).length : Int) ≤ 140737488355328 := by rw [List.length_take]; omega
    refine brd (fun hlt2 => ?_) (fun hge2 => ?_)
    · rw [hs.len] at hlt2
      refine needB hs (by omega) hlt2 ?_
      refine ⟨_, hs.byte (by omega) hlt2, ?_⟩
      have hbb := hbp.bt (t : Int)
      have hls : ((ls[q].take t).length : Int) = t := by rw [List.length_take]; omega
      have hsn := ws_snoc (ls[q].take t) ls[q][t] (par true (ls.take q).flatten.length)
      rw [← take_snoc (by omega), ← bt_nat (by omega)] at hsn
      have hbt : par (par true (ls.take q).flatten.length) (ls[q].take t).length = par (par true (ls.take q).flatten.length) t := by congr 1; rw [List.length_take]; omega
      rw [hbt] at hsn
      rw [wr_i64 (x := bt ls[q] t) (by omega) (by omega), gshl8, wr_i64 (x := bt ls[q] t * 256) (by omega) (by omega), wr_i64 (x := (t : Int) + 1) (by omega) (by omega)]
      refine fun J hJ => brb (fun e => ?_) (fun e => ?_)
      · rw [e] at hsn
        refine hJ _ _ ⟨⟨rfl, t + 1, by push_cast; rfl, by omega, ?_, ?_⟩, by dsimp only; omega⟩
        · rw [hsn, wr_i64 (by omega) (by omega)]; simp; omega
        · rw [← par_succ]; simp only [par]; split <;> rfl
      · rw [e] at hsn
        refine hJ _ _ ⟨⟨rfl, t + 1, by push_cast; rfl, by omega, ?_, ?_⟩, by dsimp only; omega⟩
        · rw [hsn, wr_i64 (by omega) (by omega)]; simp; omega
        · rw [← par_succ]; simp only [par]; split <;> rfl
    · have ht' : t = ls[q].length := by rw [hs.len] at hge2; omega
      subst ht'
      rw [List.take_length] at hw1 ⊢
      refine c39 (by omega) (by omega) ⟨_, rfl, ⟨rfl, q + 1, ?_, by omega, ?_, ?_⟩, ?_⟩
      · rw [wr_i64 (by omega) (by omega)]; push_cast; rfl
      · rw [flat_snoc h2, ws_app, fd_add' hw0.1 hw1.1]
      · rw [flat_snoc h2, List.length_append]
        rw [par_par]
      · rw [wr_i64 (by omega) (by omega)]; omega
  · rw [h.slen] at hge
    have : q = ls.length := by omega
    subst this
    rw [List.take_length]
    exact k

theorem c17 {parts : Sl} {ls : List (List Int)} {ss : List Sl} {w : World} {R : SV → World → Prop} (h : Parts w parts ls ss) (hb : ∀ l ∈ ls, Byt l) (hn : ls.length < 9223372036854775807) (hl : ∀ l ∈ ls, l.length ≤ 140737488355328)
    (k : R (.int .i64 (65535 - sumOf ls.flatten)) w) : Ret Try.prog 17 [.slice parts] w R := by
  refine f17_of _ _ _ ?_
  unfold vc17
  refine c16 h hb hn hl ⟨_, rfl, ?_⟩
  have := fd_range (ws_nonneg true (byt_flat hb)).1
  rw [wr_i64 (by unfold sumOf; omega) (by unfold sumOf; omega)]
  exact k
theorem c18 {parts : Sl} {ls : List (List Int)} {ss : List Sl} {w : World} {R : SV → World → Prop} (h : Parts w parts ls ss) (hb : ∀ l ∈ ls, Byt l) (hn : ls.length < 9223372036854775807) (hl : ∀ l ∈ ls, l.length ≤ 140737488355328)
    (k : R (.bool (sumOf ls.flatten == 65535)) w) : Ret Try.prog 18 [.slice parts] w R := by
  refine f18_of _ _ _ ?_
  unfold vc18
  exact c16 h hb hn hl ⟨_, rfl, k⟩
end Go.Vc.S2
