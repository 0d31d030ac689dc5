import Derived.Test.YtmchllbemgnieaaDoorS9Deep
open Go Go.Vc Go.Proofs Go.ChangeShapes Go.WideShapes Go.ChangeAt Go.RowKit
set_option linter.unusedVariables false
set_option linter.unusedSimpArgs false
set_option autoImplicit false
namespace Go.Vc.S9
section
variable {e : Ends} {w : World}
theorem udOf_z {l : List Int} (h : udErr e l ≠ 0) : udOf e l = udZ := by unfold udOf; rw [if_neg h]
theorem tcOf_z {l : List Int} (h : tcErr e l ≠ 0) : tcOf e l = tcZ := by unfold tcOf; rw [if_neg h]
set_option maxRecDepth 10000 in
theorem c9 {b : Sl} {l : List Int} (hg : Tabs w) (o : e.Ok) (h : SeesB w b l) (hb : Byt l) (hc : b.len ≤ b.cap) (hl : l.length ≤ 140737488355328) : Ret Tryd.prog 9 [adr e.sv e.sa, adr e.dv e.da, .slice b] w fun r w1 => r = .bool true ∧ Upd [] [] w w1 := by
  refine f9_of _ _ _ _ _ _ _ ?_
  unfold vc9
  have hbl := h.len
  intro b1 b2 w1 u1
  refine c18 (hg.old u1) fun w2 u2 => ⟨_, rfl, kp u2, brf rfl ?_⟩
  have v2 := u1.then u2
  refine c21 (e := e) (hg.old v2) o (h.old v2) hb hc hl fun w3 u3 => ⟨_, _, _, _, _, rfl, kp u3, ?_⟩
  have v3 := v2.then u3
  have hD3 := dU_sees (e := e) (h.old v3)
  have hfu := udOf_fit (e := e) hb
  have hus := udOf_small (e := e) (l := l)
  intro b5 J hJ
  have main : ∀ w4, Upd [] [] w3 w4 → J w4 := fun w4 u4 => by
    refine hJ _ ?_
    have v4 := v3.then u4
    refine c27' (e := e) (hg.old v4) o (h.old v4) hb hc hl fun so w5 u5 hO5 hd5 ho5 => ⟨_, _, _, _, _, _, _, _, _, _, rfl, kp u5, ?_⟩
    have v5 := v4.then u5
    intro b6 w6 u6
    have v6 := v5.then u6
    have hO6 := hO5.old u6
    have hd6 := hd5.old u6
    have hft := tcOf_fit (e := e) hb
    obtain ⟨k1, k2, k3⟩ := tcOf_small (e := e) hb
    refine c20 ⟨_, rfl, kp (Upd.refl _), bre' (fun hne => ?_) (fun he => ?_)⟩
    · have ez := tcOf_z hne
      rw [ez] at hO6 hd6 ⊢
      refine c28T (t := tcZ) hO6 (Opts.nil _ _ _) (by simp [tcZ]) (by simp [tcZ]) hd6 (Sees.nil _ _ _ _) (by simp [tcZ, Byt]) fun w7 u7 => ⟨_, rfl, kp u7, brt rfl (c20 ⟨_, rfl, kp (Upd.refl _), ?_⟩)⟩
      have v7 := v6.then u7
      refine bre (fun hu => ⟨rfl, v7⟩) (fun hu => ?_)
      have ezu := udOf_z hu
      have t37 := (((u4.then u5).then u6).then u7)
      have hD7 := hD3.old t37
      rw [ezu] at hD7 ⊢
      exact c23T (u := udZ) hD7 (Sees.nil _ _ _ _) (by simp [udZ, Byt]) fun w8 u8 => ⟨_, rfl, kp u8, rfl, v7.then u8⟩
    · obtain ⟨f1, f2⟩ := tc_form hb he
      refine c26 (e := e) (hg.old v6) o hft hO6 (by omega) (fun o ho => by have := k2 o ho; omega) hd6 (by omega) fun s w7 u7 hs ho => ⟨_, _, rfl, kp u7, ?_⟩
      have v7 := v6.then u7
      unfold tcSerL at hs
      rw [if_pos f1] at hs
      rw [f1]
      have hsb := tcSer_byt (e := e) (tcPE_ok f1).2 hft
      obtain ⟨b1', b2'⟩ := tc_back o hft f1
      refine c27' (e := e) (hg.old v7) o hs hsb ho.le (by omega) fun so8 w8 u8 hO8 hd8 ho8 => ⟨_, _, _, _, _, _, _, _, _, _, rfl, kp u8, ?_⟩
      rw [b1']
      rw [b2'] at hO8 hd8 ⊢
      have v8 := v7.then u8
      intro b7 w9 u9
      have v9 := v8.then u9
      refine c26 (e := e) (hg.old v9) o hft (hO8.old u9) (by omega) (fun o ho => by have := k2 o ho; omega) (hd8.old u9) (by omega) fun s2 w10 u10 hs2 ho2 => ⟨_, _, rfl, kp u10, ?_⟩
      unfold tcSerL at hs2
      rw [if_pos f1] at hs2
      rw [f1]
      have v10 := v9.then u10
      refine c20 ⟨_, rfl, kp (Upd.refl _), brt rfl (c20 ⟨_, rfl, kp (Upd.refl _), brt rfl (c20 ⟨_, rfl, kp (Upd.refl _), brt rfl ?_⟩)⟩)⟩
      have t610 := ((u7.then u8).then u9).then u10
      have t810 := u9.forget.then u10
      refine c28T (hO6.old t610) (hO8.old t810) hft.opts (by omega) (hd6.old t610) (hd8.old t810) hft.data fun w11 u11 => ⟨_, rfl, kp u11, brt rfl ?_⟩
      have t711 := ((u8.then u9).then u10).then u11
      refine c30 (hs.old t711) (hs2.old u11) hsb hsb ⟨_, rfl, kp (Upd.refl _), brt (by simp) ⟨?_, v10.then u11⟩⟩
      have hsl := hs.len
      rw [decide_eq_true (by omega)]
  intro w4 u4
  have v4 := v3.then u4
  refine c20 ⟨_, rfl, kp (Upd.refl _), bre (fun he => ?_) (fun he => ?_)⟩
  · obtain ⟨f1, f2⟩ := ud_form hb he
    refine c19 (e := e) (hg.old v4) o hfu (hD3.old u4) fun s w5 u5 hs ho => ⟨_, _, rfl, kp u5, ?_⟩
    have v5 := v4.then u5
    unfold udSerL at hs
    rw [if_pos f1] at hs
    rw [f1]
    have hsb := udSer_byt (e := e) hfu
    obtain ⟨b1', b2'⟩ := ud_back o hfu f1
    refine c21 (e := e) (hg.old v5) o hs hsb ho.le (by omega) fun w6 u6 => ⟨_, _, _, _, _, rfl, kp u6, ?_⟩
    rw [b1']
    have hD6 := dU_sees (e := e) (hs.old u6)
    rw [b2'] at hD6 ⊢
    have v6 := v5.then u6
    intro b7 w7 u7
    have v7 := v6.then u7
    refine c19 (e := e) (hg.old v7) o hfu (hD6.old u7) fun s2 w8 u8 hs2 ho2 => ⟨_, _, rfl, kp u8, ?_⟩
    have v8 := v7.then u8
    unfold udSerL at hs2
    rw [if_pos f1] at hs2
    rw [f1]
    refine c20 ⟨_, rfl, kp (Upd.refl _), brf rfl (c20 ⟨_, rfl, kp (Upd.refl _), brf rfl (c20 ⟨_, rfl, kp (Upd.refl _), brf rfl ?_⟩)⟩)⟩
    have t38 := (((u4.forget.then u5).then u6).then u7).then u8
    refine c23T (hD3.old t38) ((hD6.old u7).old u8) hfu.data fun w9 u9 => ⟨_, rfl, kp u9, brf rfl ?_⟩
    have t59 := ((u6.then u7).then u8).then u9
    refine c30 (hs.old t59) (hs2.old u9) hsb hsb ⟨_, rfl, kp (Upd.refl _), brf (by simp) ?_⟩
    have hsl := hs.len
    refine brd (fun hx => absurd hx (by omega)) (fun _ => ?_)
    (repeat refine And.intro rfl ?_)
    exact main _ (t38.then u9)
  · (repeat refine And.intro rfl ?_)
    exact main _ u4.forget
end
section
variable {H : Type} {W : World}
theorem walk9 (hg : Tabs W) (svs : List SV) (ds : List (DataW H)) (h : ArgsD X W [27, 27, 28] svs ds) (hw : (DataW.weightsEach Tryd.prog [27, 27, 28] ds).all (· ≤ reachBytes) = true) :
    Ret Tryd.prog 9 svs W fun r w1 => r = .bool true ∧ Upd [] [] W w1 := by
  obtain ⟨x, _, d1, _, m1, rfl, rfl, h1, h⟩ := argsD_cons h
  obtain ⟨y, _, d2, _, m2, rfl, rfl, h2, h⟩ := argsD_cons h
  obtain ⟨z, _, d3, _, m3, rfl, rfl, h3, h⟩ := argsD_cons h
  obtain ⟨rfl, rfl⟩ := argsD_nil h
  obtain ⟨sv, sa, rfl, hsa⟩ := deep_adr h1
  obtain ⟨dv, da, rfl, hda⟩ := deep_adr h2
  obtain ⟨s, l, rfl, hs, hb, hc, hsl⟩ := deep_bytes' (t := 28) (e := 5) rfl rfl h3
  have hn := light_len (P := Tryd.prog) (t := 28) (e := 5) (by kernel_rfl) (by kernel_rfl) (light_head (light_head (light_head (light_arg hw)).2).2).1 hsl
  exact c9 (e := ⟨sv, sa, dv, da⟩) hg ⟨hsa, hda⟩ hs hb hc (by omega)
end
end Go.Vc.S9
