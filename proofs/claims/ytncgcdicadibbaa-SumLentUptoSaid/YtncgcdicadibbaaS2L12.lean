import Derived.Test.YtncgcdicadibbaaS2T12
import Derived.Test.YtncgcdicadibbaaS2L7
import Derived.Test.YtncgcdicadibbaaS2Ap
import Derived.Test.YtncgcdicadibbaaS2C
import Derived.Test.YtncgcdicadibbaaLot
open Go Go.Vc Go.Proofs
set_option linter.unusedVariables false
set_option linter.unusedSimpArgs false
set_option autoImplicit false
namespace Go.Vc.S2

set_option maxRecDepth 10000 in
theorem c12 {sv : Int} {sa : Nat → Int} {dv : Int} {da : Nat → Int} {proto n : Int} {w : World} :
    Ret Try.prog 12 [.struct [.int .i64 sv, .arr .u8 16 sa], .struct [.int .i64 dv, .arr .u8 16 da], .int .i64 proto, .int .i64 n] w fun r w1 => r = .bool true ∧ Upd [] [] w w1 := by
  refine f12_of _ _ _ _ _ _ _ _ ?_
  unfold vc12
  intro b b1 b2 w1 u1
  have hb : ∀ x ∈ [b, b1, b2], x < w1.heap.size := by
    have h1 := u1.new (b := b) (by simp)
    have h2 := u1.new (b := b1) (by simp)
    have h3 := u1.new (b := b2) (by simp)
    intro x hx
    simp at hx
    rcases hx with rfl | rfl | rfl <;> omega
  have hps := psOf_len sv sa dv da proto n
  have hps4 := psOf_len 4 (fun _ => 0) 4 (fun _ => 0) 17 9
  have c26' := @c26 sv sa dv da proto n
  have c26'' := @c26 4 (fun _ => 0) 4 (fun _ => 0) 17 9
  refine c27 fun s w2 u2 hs2 ho2 => ⟨_, _, rfl, keeps_old u2, ?_⟩
  refine c27 fun s1 w3 u3 hs3 ho3 => ⟨_, _, rfl, keeps_old u3, ?_⟩
  generalize psOf sv sa dv da proto n = P at *
  generalize psErr sv sa dv da proto n = e at *
  generalize psOf 4 (fun _ => 0) 4 (fun _ => 0) 17 9 = Q at *
  generalize psErr 4 (fun _ => 0) 4 (fun _ => 0) 17 9 = e4 at *
  have v3 := (u1.then u2).then u3
  have z3 := v3.size
  have y2 := u2.size
  have y3 := u3.size
  have W3 := hs2.old u3
  refine ⟨fun L i w4 => Upd [] [] w3 w4 ∧ ∃ (k : Nat) (ls : List (List Int)) (gs : List Sl), i = k ∧ k ≤ 2 ∧ Lot w3.heap.size w4 L ls gs ∧ gs.length = 3 * k ∧ (∀ l ∈ ls, l.length ≤ 40), fun _ i _ => (2 - i).toNat, ⟨Upd.refl w3, 0, [], [], rfl, by omega, Lot.nil _ _, rfl, by simp⟩, ?_⟩
  rintro L i w4 ⟨u4, k, ls, gs, rfl, hk, hL, hgl, hls⟩
  have y4 := u4.size
  refine brd (fun hlt => ?_) (fun hge => ?_)
  · intro J hJ
    refine c26' fun s3 w5 u5 hs5 ho5 => ⟨_, _, rfl, keeps_old u5, ?_⟩
    refine c26' fun s4 w6 u6 hs6 ho6 => ⟨_, _, rfl, keeps_old u6, ?_⟩
    refine c26'' fun s5 w7 u7 hs7 ho7 => ⟨_, _, rfl, keeps_old u7, ?_⟩
    have y5 := u5.size
    have y6 := u6.size
    have y7 := u7.size
    intro J1 hJ1
    have v7 := ((u4.then u5).then u6).then u7
    refine brf (by simp) (c22 ((hs5.old u6).old u7) (W3.old v7) (by omega) fun w8 u8 => ?_)
    rw [decide_eq_true rfl]
    refine ⟨_, rfl, keeps_old u8, brf (by decide) ?_⟩
    have v8 := v7.then u8
    refine c22 ((hs6.old u7).old u8) (W3.old v8) (by omega) fun w9 u9 => ?_
    rw [decide_eq_true rfl]
    refine ⟨_, rfl, keeps_old u9, brf (by decide) (brf (by simp) ?_)⟩
    have v9 := v8.then u9
    refine c22 ((hs7.old u8).old u9) (hs3.old v9) (by omega) fun w10 u10 => ?_
    rw [decide_eq_true rfl]
    refine ⟨_, rfl, keeps_old u10, brf (by decide) ⟨rfl, rfl, rfl, hJ1 _ ?_⟩⟩
    clear hJ1
    have v10 := v9.then u10
    intro b11 w11 u11 hrow
    have y8 := u8.size
    have y9 := u9.size
    have y10 := u10.size
    have y11 := u11.size
    have v11 := v10.then u11
    have x5 := ((((hs5.old u6).old u7).old u8).old u9).old u10 |>.old u11
    have x6 := (((hs6.old u7).old u8).old u9).old u10 |>.old u11
    have x7 := ((hs7.old u8).old u9).old u10 |>.old u11
    have p5 := ((((ho5.old u6).old u7).old u8).old u9).old u10 |>.old u11
    have p6 := (((ho6.old u7).old u8).old u9).old u10 |>.old u11
    have p7 := ((ho7.old u8).old u9).old u10 |>.old u11
    have hL11 := ((((((hL.old u5).old u6).old u7).old u8).old u9).old u10).old u11
    refine Lot.app (M := w4.heap.size) (ns := [s3, s4, s5]) (nl := [P, P, Q]) hL11 hrow rfl rfl ⟨x5, x6, x7, trivial⟩ ?_ ?_ (fun x hx b hb => ((hL.owns x hx).blk b hb).2) (fun b hb => (hL.own.blk b hb).2) y4 (by omega) (by simp [hgl]; omega) (fun x hx => by have := hb x hx; omega) fun r w12 hL12 u12 => ?_
    · intro x hx
      simp at hx
      rcases hx with rfl | rfl | rfl
      · exact p5
      · exact p6.mono (by omega)
      · exact p7.mono (by omega)
    · have a1 := apt_of ho5 ho6 (Nat.le_refl _)
      have a2 := apt_of ho5 ho7 y6
      have a3 := apt_of ho6 ho7 (Nat.le_refl _)
      simp [a1, a2, a3]
    · refine ⟨rfl, rfl, rfl, hJ _ _ ⟨rfl, rfl, rfl, ⟨v11.step0 u12 (fun x hx => (hL.own.blk x hx).1), k + 1, _, _, wr_succ (by omega), by omega, hL12, by simp [hgl]; omega, ?_⟩, by rw [wr_succ (by omega)]; (try dsimp only); omega⟩⟩
      intro l hl
      rcases List.mem_append.1 hl with hl | hl
      · exact hls l hl
      · simp at hl; rcases hl with rfl | rfl <;> omega
  · have hll : ls.length = gs.length := hL.parts.len.symm
    have hfl : ls.flatten.length ≤ 40 * ls.length := by
      clear hll hL hgl
      induction ls with
      | nil => simp
      | cons x r ih =>
        have := hls x (by simp)
        have := ih (fun l hl => hls l (by simp [hl]))
        simp at *
        omega
    refine cApart hL.parts (fun x hx => (hL.owns x hx).mono (Nat.zero_le _)) hL.off hL.index (by omega) (by omega) fun w5 u5 => ⟨_, rfl, .inr ?_, brf (by decide) ?_⟩
    · intro x hx
      refine u5.keep x (by have := hb x hx; omega) (fun hm => ?_)
      have := (hL.blks x hm).1
      have := hb x hx
      omega
    have hbl : ∀ x ∈ gs.flatMap Sl.blk, w3.heap.size ≤ x := fun x hx => (hL.blks x hx).1
    have v5 := (v3.then u4).step0 u5 (fun x hx => by have := hbl x hx; omega)
    have W5 := W3.upd' (W3.old u4) u5 hbl
    refine c26' fun s6 w6 u6 hs6 ho6 => ⟨_, _, rfl, keeps_old u6, brt (by simp) ?_⟩
    refine c22 hs6 (W5.old u6) (by omega) fun w7 u7 => ?_
    rw [decide_eq_true rfl]
    refine ⟨_, rfl, keeps_old u7, brt (by decide) ?_⟩
    exact c13 fun w8 u8 => ⟨_, rfl, keeps_old u8, rfl, ((v5.then u6).then u7).then u8⟩

theorem walk12 {H : Type} {W : World} (svs : List SV) (ds : List (DataW H)) (h : ArgsD X W [41, 41, 3, 3] svs ds) :
    Ret Try.prog 12 svs W fun r w1 => r = .bool true ∧ Upd [] [] W w1 := by
  obtain ⟨x, _, d1, _, m1, rfl, rfl, h1, h⟩ := argsD_cons h
  obtain ⟨y, _, d2, _, m2, rfl, rfl, h2, h⟩ := argsD_cons h
  obtain ⟨z, _, d3, _, m3, rfl, rfl, h3, h⟩ := argsD_cons h
  obtain ⟨z', _, d4, _, m4, rfl, rfl, h4, h⟩ := argsD_cons h
  obtain ⟨rfl, rfl⟩ := argsD_nil h
  obtain ⟨sv, sa, rfl, _⟩ := deep_ip (t := 41) rfl h1
  obtain ⟨dv, da, rfl, _⟩ := deep_ip (t := 41) rfl h2
  obtain ⟨a, rfl, ha⟩ := deep_int (t := 3) (k := .i64) rfl h3
  obtain ⟨b, rfl, hb'⟩ := deep_int (t := 3) (k := .i64) rfl h4
  exact c12
end Go.Vc.S2
