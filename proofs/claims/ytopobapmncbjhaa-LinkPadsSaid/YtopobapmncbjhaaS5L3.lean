import Derived.Test.YtopobapmncbjhaaS5T3
import Derived.Test.YtopobapmncbjhaaS5A
import Derived.Test.YtopobapmncbjhaaMemE
import Derived.Test.YtopobapmncbjhaaRowB
open Go Go.Vc Go.Proofs
set_option linter.unusedVariables false
set_option linter.unusedSimpArgs false
set_option autoImplicit false
namespace Go.Vc.S5

set_option maxRecDepth 10000 in
theorem c3 {b : Sl} {l : List Int} {m : Nat → Int} {w : World} (h : SeesB w b l) (hb : Byt l) (hc : b.len ≤ b.cap) (hm : ∀ i, i < 6 → 0 ≤ m i ∧ m i < 256) :
    Ret Try.prog 3 [.slice b, .arr .u8 6 m] w fun r w1 => r = .bool true ∧ Upd [] [] w w1 := by
  refine f3_of _ _ _ _ ?_
  unfold vc3
  intro b1 b2 w1 u1 hrow
  have hb1 : ∀ x ∈ [b1], x < w1.heap.size := by simp; exact (u1.new (b := b1) (by simp)).2
  have s1 := rowB (n := 2) (cap := 2) hrow [1, 2] rfl rfl
  refine c13 s1 (by decide) fun one w2 u2 hs2 ho2 => ⟨_, rfl, kp u2, ?_⟩
  have e1 : padOf [1, 2] = 1 :: 2 :: List.replicate 58 0 := rfl
  rw [e1] at hs2
  have v2 := u1.forget.then u2
  intro J hJ
  have l2 := hs2.len
  simp at l2
  refine brf (by simp [l2]) (needCB hs2 0 (by simp) ⟨_, byteC hs2 0 (by simp), brf (by decide) (needCB hs2 2 (by simp) ⟨_, byteC hs2 2 (by simp), brf (by decide) (fun w3 u3 => ?_)⟩)⟩)
  refine c14 (hm 0 (by omega)) fun w4 u4 => ⟨_, rfl, kp u4, u3.then u4, ?_⟩
  refine c15 (hm 0 (by omega)) fun w5 u5 => ⟨_, rfl, kp u5, brf (by simp) ?_⟩
  refine c14 (by simp [fset]) fun w6 u6 => ⟨_, rfl, kp u6, brf (by decide) ⟨rfl, hJ _ ?_⟩⟩
  clear hJ
  have v6 := (((v2.then u3).then u4).then u5).then u6
  have A6 := (((hs2.old u3).old u4).old u5).old u6
  have a6 := (((ho2.old u3).old u4).old u5).old u6
  refine c16 (h.old v6) hc fun r w7 u7 hs7 ho7 => ⟨_, _, rfl, kp u7, ?_⟩
  have hcl := cut_len l
  have hin := laid_in hs7 ho7
  refine c17 hs7 (by simp; omega) fun was w8 u8 hs8 ho8 => ⟨_, rfl, kp u8, ?_⟩
  refine c13 (hin.old u8) (by omega) fun p w9 u9 hs9 ho9 => ⟨_, rfl, kp u9, ?_⟩
  refine c17 ((hin.old u8).old u9) (by omega) fun cp w10 u10 hs10 ho10 => ⟨_, rfl, kp u10, ?_⟩
  refine c18 hs10 (by omega) fun want w11 u11 hs11 ho11 => ⟨_, rfl, kp u11, ?_⟩
  have hpl : (padOf (cutOf l)).length ≤ 70060 := by simp [padOf]; omega
  refine cSameT ((hs9.old u10).old u11) hs11 (by omega) fun w12 u12 => ⟨_, rfl, kp u12, brf (by decide) ?_⟩
  have y2 := u2.size
  have y3 := u3.size
  have y4 := u4.size
  have y5 := u5.size
  have y6 := u6.size
  have y7 := u7.size
  have y8 := u8.size
  have y9 := u9.size
  have y10 := u10.size
  have y11 := u11.size
  have y12 := u12.size
  have v12 := (((((v6.then u7).then u8).then u9).then u10).then u11).then u12
  -- one, p, all, was, want: arrays of their own
  have A := (((((A6.old u7).old u8).old u9).old u10).old u11).old u12
  have a := (((((a6.old u7).old u8).old u9).old u10).old u11).old u12
  have B := ((hs9.old u10).old u11).old u12
  have bo := ((ho9.old u10).old u11).old u12
  have C := ((((hs7.old u8).old u9).old u10).old u11).old u12
  have D := (((hs8.old u9).old u10).old u11).old u12
  have E := hs11.old u12
  have zA := ho2.blk
  have zC := ho7.blk
  have zD := ho8.blk
  have zB := ho9.blk
  have zE := ho11.blk
  refine fill_loop A a (by simp) rfl (fun x hx hm => by have := zA x hx; have := hb1 x hm; omega) (fun I M n w w' h1 h2 => ⟨rfl, h1, h2⟩) fun w13 u13 A a => ?_
  have v13 := v12.step0 u13 (fun x hx => by have := zA x hx; have := u1.size; omega)
  have B := B.upd u13 (fun x hx hm => by have := zA x hm; have := zB x hx; omega)
  have bo := bo.upd u13 (fun x hx hm => by have := zA x hm; have := zB x hx; omega)
  have C := C.upd u13 (fun x hx hm => by have := zA x hm; have := zC x hx; omega)
  have D := D.upd u13 (fun x hx hm => by have := zA x hm; have := zD x hx; omega)
  have E := E.upd u13 (fun x hx hm => by have := zA x hm; have := zE x hx; omega)
  refine fill_loop B bo (by omega) rfl (fun x hx hm => by have := zB x hx; have := hb1 x hm; omega) (fun I M n w w' h1 h2 => ⟨rfl, h1, h2⟩) fun w14 u14 B bo => ?_
  have v14 := v13.step0 u14 (fun x hx => by have := zB x hx; have := u1.size; omega)
  have A := A.upd u14 (fun x hx hm => by have := zA x hx; have := zB x hm; omega)
  have a := a.upd u14 (fun x hx hm => by have := zA x hx; have := zB x hm; omega)
  have C := C.upd u14 (fun x hx hm => by have := zB x hm; have := zC x hx; omega)
  have D := D.upd u14 (fun x hx hm => by have := zB x hm; have := zD x hx; omega)
  have E := E.upd u14 (fun x hx hm => by have := zB x hm; have := zE x hx; omega)
  have y13 := u13.size
  have y14 := u14.size
  intro b15 w15 u15 hr15
  have y15 := u15.size
  have v15 := v14.then u15
  refine append_own (c := cU8) (new := [77, 77]) (A.old u15) (a.old u15) (rowB hr15 _ rfl rfl) (by omega) (fun x hx hm => by have := zA x hx; have := hb1 x hm; omega) (by decide) (by simp) fun g w16 A a u16 q16 => ?_
  have v16 := v15.step0 u16 (fun x hx => by have := zA x hx; have := u1.size; omega)
  have B := (B.old u15).upd u16 (fun x hx hm => by have := zA x hm; have := zB x hx; omega)
  have bo := (bo.old u15).upd u16 (fun x hx hm => by have := zA x hm; have := zB x hx; omega)
  have C := (C.old u15).upd u16 (fun x hx hm => by have := zA x hm; have := zC x hx; omega)
  have D := (D.old u15).upd u16 (fun x hx hm => by have := zA x hm; have := zD x hx; omega)
  have E := (E.old u15).upd u16 (fun x hx hm => by have := zA x hm; have := zE x hx; omega)
  have y16 := u16.size
  intro b17 w17 u17 hr17
  have y17 := u17.size
  have v17 := v16.then u17
  refine append_own (c := cU8) (new := [78, 78]) (B.old u17) (bo.old u17) (rowB hr17 _ rfl rfl) (by omega) (fun x hx hm => by have := zB x hx; have := hb1 x hm; omega) (by decide) (by simp; omega) fun g2 w18 B bo u18 q18 => ?_
  have v18 := v17.step0 u18 (fun x hx => by have := zB x hx; have := u1.size; omega)
  have A := (A.old u17).upd u18 (fun x hx hm => by
    have := zB x hm
    rcases q16 x hx with h | h
    · have := zA x h; omega
    · omega)
  have C := (C.old u17).upd u18 (fun x hx hm => by have := zB x hm; have := zC x hx; omega)
  have D := (D.old u17).upd u18 (fun x hx hm => by have := zB x hm; have := zD x hx; omega)
  have E := (E.old u17).upd u18 (fun x hx hm => by have := zB x hm; have := zE x hx; omega)
  refine c13 (laid_in C (Own.mono (N' := 0) (by
    have := ((((ho7.old u8).old u9).old u10).old u11).old u12
    have := this.upd u13 (fun x hx hm => by have := zA x hm; have := zC x hx; omega)
    have := this.upd u14 (fun x hx hm => by have := zB x hm; have := zC x hx; omega)
    have := (this.old u15).upd u16 (fun x hx hm => by have := zA x hm; have := zC x hx; omega)
    exact (this.old u17).upd u18 (fun x hx hm => by have := zB x hm; have := zC x hx; omega)) (Nat.zero_le _))) (by omega) fun q w19 u19 hs19 ho19 => ⟨_, rfl, kp u19, ?_⟩
  intro J hJ
  refine cSameT hs19 (E.old u19) (by omega) fun w20 u20 => ⟨_, rfl, kp u20, brf (by decide) ?_⟩
  refine cSameT ((C.old u19).old u20) ((D.old u19).old u20) (by simp; omega) fun w21 u21 => ⟨_, rfl, kp u21, brf (by decide) ⟨rfl, hJ _ ?_⟩⟩
  clear hJ
  have A := ((A.old u19).old u20).old u21
  have B := ((B.old u19).old u20).old u21
  refine all_loop (m := 62) A (by simp) (by simp [List.replicate_succ]) (fun I M n w h1 h2 => ⟨rfl, h1, h2⟩) ?_
  refine all_loop (m := (padOf (cutOf l)).length + 2) B (by simp; omega) (by rw [← rep_add]; rfl) (fun I M n w h1 h2 => ⟨rfl, h1, h2⟩) ?_
  exact ⟨rfl, ((v18.then u19).then u20).then u21⟩

theorem walk3 {H : Type} {W : World} (svs : List SV) (ds : List (DataW H)) (h : ArgsD X W [22, 24] svs ds) :
    Ret Try.prog 3 svs W fun r w1 => r = .bool true ∧ Upd [] [] W w1 := by
  obtain ⟨x, _, d1, _, m1, rfl, rfl, h1, h⟩ := argsD_cons h
  obtain ⟨y, _, d2, _, m2, rfl, rfl, h2, h⟩ := argsD_cons h
  obtain ⟨rfl, rfl⟩ := argsD_nil h
  obtain ⟨s, l, rfl, hs, hb, hc, _⟩ := deep_bytes (t := 22) (e := 5) rfl rfl h1
  obtain ⟨f, _, rfl, _, _, hf⟩ := dp_arr8 (n := 6) (show Deep X W m2 (.arr .u8 6) y d2 from h2)
  exact c3 hs hb hc hf
end Go.Vc.S5
