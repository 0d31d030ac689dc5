import Derived.Test.YtlohkdkgpajkaaaDoorS6TxtL7
import Derived.Test.YtlohkdkgpajkaaaDoorS6Deep
open Go Go.Vc Go.Proofs Go.ChangeShapes Go.WideShapes Go.ChangeAt Go.RowKit
set_option linter.unusedVariables false
set_option linter.unusedSimpArgs false
set_option autoImplicit false
namespace Go.Vc.S6
section
variable {v : IpV} {so sd : Sl} {os : List (Int × Sl)} {w : World}
set_option maxRecDepth 10000 in
theorem c7 (hg : Sees cI64 w wid4 widths4) (h : Hand w v so sd os) : Ret Tryd.prog 7 [ipSV v so sd] w fun r w1 => r = .bool true ∧ Upd [] [] w w1 := by
  refine f7_of _ _ _ _ _ _ _ _ _ _ _ _ _ _ _ ?_
  unfold vc7
  intro b w1 u1
  have hdl := h.data.len
  refine c18 (hg.old u1) fun w2 u2 => ⟨_, rfl, kp u2, ?_⟩
  have v2 := u1.then u2
  have h2 := h.old v2
  refine c26 h2.opts (by have := h.few; omega) (fun o ho => by have := h.small o ho; omega) h2.data (by have := h.dlen; omega) fun sc oc dc w3 u3 hsc hoc hocs hdc hodc => ⟨_, _, _, _, _, _, _, _, _, _, _, _, _, rfl, kp u3, ?_⟩
  have v3 := v2.then u3
  intro b4 w4 u4
  have v4 := v3.then u4
  refine c25H (hg.old v4) (h.old v4) fun s w5 u5 hs ho => ⟨_, _, rfl, kp u5, ?_⟩
  have v5 := v4.then u5
  intro J hJ
  refine brf rfl fun w6 u6 => c21 ⟨_, rfl, kp (Upd.refl _), u6.forget, ?_⟩
  have v6 := v5.then u6
  refine c33H (h.old v6) fun w7 u7 => ⟨_, rfl, kp u7, c21 ⟨_, rfl, kp (Upd.refl _), brf (by simp) ?_⟩⟩
  have v7 := v6.then u7
  (repeat refine And.intro rfl ?_)
  refine hJ _ ?_
  clear hJ
  have t57 := u6.then u7
  have hs7 := hs.old t57
  have hsl := hs7.len
  refine c21 ⟨_, rfl, kp (Upd.refl _), bre' (fun hne => ?_) (fun hc => ?_)⟩
  · unfold serL at hsl
    rw [if_neg hne] at hsl
    refine ⟨?_, v7⟩
    rw [show s.len = 0 from hsl]; rfl
  unfold serL at hs7 hsl
  rw [if_pos hc] at hs7 hsl
  have hsr := ser_len v
  obtain ⟨_, _, _, _, _, _, _, h8, h9, _⟩ := ipChk_ok hc
  have hr8 := hdL_r h8
  refine brf (by simp; omega) ?_
  have hsb := ser_byt hc h.fit
  refine c20' (hg.old v7) hs7 hsb ho.le (by omega) fun v8 s8 os8 d8 w8 hv8 hf8 u8 hO8 hD8 h40 hod8 _ _ _ _ _ => ⟨_, _, _, _, _, _, _, _, _, _, _, _, _, _, rfl, kp u8, ?_⟩
  have v8' := v7.then u8
  intro b7 w9 u9
  have v9 := v8'.then u9
  rw [ser_err hc h.fit]
  refine c21 ⟨_, rfl, kp (Upd.refl _), brt rfl ?_⟩
  have t39 := (((u4.then u5).then t57).then u8).then u9
  refine c29T (hv8.trans (ser_eq hc h.fit)) (hO8.old u9) (hsc.old t39) hf8.opts (by omega) (hD8.old u9) (hdc.old t39) hf8.data fun w10 u10 => ⟨_, rfl, kp u10, brt rfl ?_⟩
  have v10 := v9.then u10
  have t710 := (u8.then u9).then u10
  refine c43 (hg.old v10) (hs7.old t710) hsb ho.le (by omega) fun w11 u11 => ⟨_, rfl, kp u11, brt (canB_iff.2 (can_ser hc h.fit)) ?_⟩
  have v11 := v10.then u11
  have hcap := ho.le
  have e1 : wr .i64 ((s.len : Int) - sd.len) = (hdL v : Int) := by rw [wr_i64 (by omega) (by omega)]; omega
  rw [e1]
  refine need (by simp; omega) ?_
  intro b10 w12 u12 hr12
  rw [Int.toNat_natCast] at hr12
  have t712 := (t710.then u11).then u12
  have hsub := (hs7.old t712).subB (lo := 0) (hi := hdL v) (mx := s.cap) (by omega) (by omega) (by omega)
  rw [List.drop_zero, (ser_take hc).1] at hsub
  have hP := rowP (n := 1) (cap := 1) hr12 (ss := [s.sub 1 0 (hdL v) s.cap]) rfl rfl (ls := [ipHd v (ipCk v)]) ⟨hsub, trivial⟩
  refine c44 hP (by simpa using ipHd_byt hc h.fit _) (by simp) (by simp [ipHd_len]; omega) ⟨_, rfl, kp (Upd.refl _), ?_, v11.then u12⟩
  rw [flat1, (ipCk_r hc h.fit).2.2]
  rfl
theorem walk7 {H : Type} {W : World} (hg : Sees cI64 W wid4 widths4) (svs : List SV) (ds : List (DataW H)) (h : ArgsD X W [30] svs ds) (hw : (DataW.weightsEach Tryd.prog [30] ds).all (· ≤ reachBytes) = true) :
    Ret Tryd.prog 7 svs W fun r w1 => r = .bool true ∧ Upd [] [] W w1 := by
  obtain ⟨x, _, d1, _, m1, rfl, rfl, h1, h⟩ := argsD_cons h
  obtain ⟨rfl, rfl⟩ := argsD_nil h
  obtain ⟨v, so, sd, os, _, _, _, _, _, _, _, _, _, do_, dd, rfl, ho, hd, hf, hc, hc2, hc3, rfl, hdo, hsl, _⟩ := deep_ip4 h1
  exact c7 hg (hand_of ho hd hf hc hc2 hc3 hdo hsl (light_head (light_arg hw)).1)
end
end Go.Vc.S6
