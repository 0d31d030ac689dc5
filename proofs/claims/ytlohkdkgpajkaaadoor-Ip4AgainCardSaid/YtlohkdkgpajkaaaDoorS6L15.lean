import Derived.Test.YtlohkdkgpajkaaaDoorS6TxtL15
import Derived.Test.YtlohkdkgpajkaaaDoorS6L16
open Go Go.Vc Go.Proofs Go.ChangeShapes Go.WideShapes Go.ChangeAt Go.RowKit
set_option linter.unusedVariables false
set_option linter.unusedSimpArgs false
set_option autoImplicit false
namespace Go.Vc.S6
/-- a hop keeps what is canonical -/
theorem hop_can {l : List Int} (hb : Byt l) (h : ipCan l) (ht : 2 ≤ bt l 8) : ipCan (ipHop l) := by
  obtain ⟨he, hl⟩ := h
  have hf := ipOf_fit hb
  have hc := (parse_chk hb he).1
  have ht2 : (ipOf l).ttl = bt l 8 := by rw [ipOf_ok he]; rfl
  rw [hl, hop_ser hc hf (by omega)]
  exact can_ser (less_chk hc (by omega)) (less_fit hf _)
theorem dOf_blk {b : Sl} {l : List Int} : ∀ x ∈ (dOf b l).blk, x ∈ b.blk := by
  unfold dOf
  split
  · exact sub_blk
  · simp [Sl.blk]
theorem osOf_blk {b : Sl} {l : List Int} : ∀ y ∈ osOf b l, ∀ x ∈ y.2.blk, x ∈ b.blk := by
  unfold osOf
  split
  · intro y hy x hx
    obtain ⟨p, _, rfl⟩ := List.mem_map.1 hy
    exact sub_blk x (sub_blk x hx)
  · simp
set_option maxRecDepth 10000 in
theorem c15 {b : Sl} {l : List Int} {w : World} (hg : Sees cI64 w wid4 widths4) (h : SeesB w b l) (hb : Byt l) (hl : l.length ≤ 140737488355328) : Ret Tryd.prog 15 [.slice b] w fun r w1 => r = .bool true ∧ Upd [] [] w w1 := by
  refine f15_of _ _ _ ?_
  unfold vc15
  refine c18 hg fun w1 u1 => ⟨_, rfl, ?_⟩
  refine c23 (h.old u1) hl fun s w2 u2 hs ho => ⟨_, rfl, ?_⟩
  have v2 := u1.then u2
  refine c23 (h.old v2) hl fun d w3 u3 hd hod => ⟨_, rfl, ?_⟩
  have v3 := v2.then u3
  refine c20' (hg.old v3) (hs.old u3) hb ho.le hl fun v so os sd w4 hv hf u4 hO hD ho40 hod4 _ hso4 _ esd eos => ⟨_, _, _, _, _, _, _, _, _, _, _, _, _, _, rfl, ?_⟩
  have v4 := v3.then u4
  intro b3 w5 u5
  have n3 := u5.new (b := b3) (by simp)
  have v5 := v4.then u5
  have t35 := u4.then u5
  have y2 := u2.size
  have y3 := u3.size
  have y4 := u4.size
  have y5 := u5.size
  have dblk := hod.blk
  have db : ∀ x ∈ d.blk, x ∉ [b3] := fun x hx hm => by have := dblk x hx; simp at hm; omega
  have ds : ∀ x ∈ s.blk, x ∉ d.blk := fun x hx hm => by have := (ho.blk x hx).2; have := dblk x hm; omega
  refine c46W (hg.old v5) (hd.old t35) (hod.old t35) hb hl fun w6 u6 hd6 hod6 => ⟨_, rfl, kpm u6 (by simp; omega) (fun x hx hm => db x hm hx), ?_⟩
  have v6 := v5.step0 u6 (fun x hx => by have := dblk x hx; have := v2.size; omega)
  have hs6 : SeesB w6 s l := ((hs.old u3).old t35).upd u6 ds
  refine brf rfl (c21 ⟨_, rfl, kp (Upd.refl _), ?_⟩)
  have hlen := hs6.len
  refine bre' (fun hne => ?_) (fun he => ?_)
  · have hE : hopE l = ipErr l := by unfold hopE; rw [if_pos hne]
    have hL : hopL l = l := by unfold hopL; rw [hE, if_neg hne]
    rw [hL] at hd6
    refine c21 ⟨_, rfl, kp (Upd.refl _), c21 ⟨_, rfl, kp (Upd.refl _), ?_⟩⟩
    rw [hE]
    refine brt (by simp) (c24 hd6 hs6 hb hb ⟨_, rfl, kp (Upd.refl _), by simp, v6⟩)
  have httl : v.ttl = bt l 8 := by rw [hv.ttl, ipOf_ok he]; rfl
  refine brd (fun hlt => ?_) (fun hge => ?_)
  · rw [httl] at hlt
    have hE : hopE l = 67 := by unfold hopE; rw [if_neg (by simpa using he), if_pos hlt]
    have hL : hopL l = l := by unfold hopL; rw [hE, if_neg (by decide)]
    rw [hL] at hd6
    refine c21 ⟨_, rfl, kp (Upd.refl _), ?_⟩
    rw [hE]
    refine brt (by simp) (c24 hd6 hs6 hb hb ⟨_, rfl, kp (Upd.refl _), by simp, v6⟩)
  rw [httl] at hge
  have hE : hopE l = 0 := by unfold hopE; rw [if_neg (by simpa using he), if_neg hge]
  have hL : hopL l = ipHop l := by unfold hopL; rw [if_pos hE]
  rw [hL] at hd6
  have h8 : 2 ≤ bt l 8 := by omega
  obtain ⟨k1, k2⟩ := hop_ok hb he h8
  have hbh := hop_byt hb h8
  have hhl := hop_len l
  obtain ⟨_, h20, _⟩ := ipErr_ok he
  refine c20' (hg.old v6) hd6 hbh hod6.le (by omega) fun v7 so7 os7 sd7 w7 hv7 hf7 u7 hO7 hD7 h407 hod7 _ _ _ _ _ => ⟨_, _, _, _, _, _, _, _, _, _, _, _, _, _, rfl, kp u7, ?_⟩
  have v7' := v6.then u7
  intro b6 w8 u8
  have v8 := v7'.then u8
  have sold : ∀ x ∈ so.blk, x ∉ d.blk := fun x hx hm => by have := (hso4.blk x hx).1; have := (dblk x hm).2; omega
  have oss : ∀ y ∈ os, ∀ x ∈ y.2.blk, x ∉ d.blk := fun y hy x hx => by rw [eos] at hy; exact ds x (osOf_blk y hy x hx)
  have sds : ∀ x ∈ sd.blk, x ∉ d.blk := fun x hx => by rw [esd] at hx; exact ds x (dOf_blk x hx)
  have hO6 := (hO.old u5).upd u6 sold oss
  have hD6 := (hD.old u5).upd u6 sds
  have t68 := u7.then u8
  have hdl := (hD6).len
  refine c26 (hO6.old t68) (by omega) (fun o ho => by have := hod4 o ho; omega) (hD6.old t68) (by have := hv.data; have := data_small l; rw [hv.data]; omega) fun so9 os9 sd9 w9 u9 hO9 _ _ hD9 _ => ⟨_, _, _, _, _, _, _, _, _, _, _, _, _, rfl, kp u9, ?_⟩
  have v9 := v8.then u9
  intro b9
  have t69 := t68.then u9
  have httl7 : wr .i64 (v.ttl - 1) = v.ttl - 1 := by have := hb.bt 8; rw [wr_i64 (by omega) (by omega)]
  refine ⟨fun i w' => Upd [] [] w9 w' ∧ ∃ t : Nat, i = t ∧ t ≤ l.length, fun i _ => (l.length - i).toNat, fun w10 u10 => ⟨u10.forget, 0, rfl, by omega⟩, ?_⟩
  rintro i w10 ⟨u10, t, rfl, ht⟩
  have t610 := t69.then u10
  have d10 := hd6.old t610
  have s10 := hs6.old t610
  refine brd (fun hlt => ?_) (fun hge' => ?_)
  · intro J hJ
    have ht2 : t < l.length := by omega
    refine needB d10 (by omega) (by omega) ⟨_, d10.byte (by omega) (by omega), needB s10 (by omega) (by omega) ⟨_, s10.byte (by omega) (by omega), ?_⟩⟩
    have next : ∀ w11, Upd [] [] w10 w11 → J w11 := fun w11 u11 => hJ _ (by
      (repeat refine And.intro rfl ?_)
      exact ⟨⟨u10.then u11, t + 1, wr_succ (by omega), by omega⟩, by rw [wr_succ (q := t) (by omega)]; (try dsimp only); omega⟩)
    have hbt := hop_bt h20 t
    refine bre' (fun hn => bre' (fun h8' => bre' (fun h10' => bre' (fun h11' => ?_) (fun _ w11 u11 => ?_)) (fun _ w11 u11 => ?_)) (fun _ w11 u11 => ?_)) (fun _ w11 u11 => ?_)
    · exact absurd (by rw [hbt, if_neg (by omega), if_neg (by omega), if_neg (by omega)]) hn
    all_goals
      (repeat refine And.intro rfl ?_)
      exact next w11 u11
  · have v10 := v9.then u10
    refine c21 ⟨_, rfl, kp (Upd.refl _), ?_⟩
    rw [hE, k1]
    refine brt rfl (c21 ⟨_, rfl, kp (Upd.refl _), brt rfl ?_⟩)
    have hE7 : IpEq v7 { v with ttl := wr .i64 (v.ttl - 1) } := by
      rw [httl7]
      rw [k2] at hv7
      have := hv.ttl
      exact ⟨hv7.tos.trans hv.tos.symm, hv7.id.trans hv.id.symm, hv7.df.trans hv.df.symm, hv7.mf.trans hv.mf.symm, hv7.off.trans hv.off.symm, hv7.ttl.trans (by show (ipOf l).ttl - 1 = v.ttl - 1; rw [this]), hv7.proto.trans hv.proto.symm, hv7.sv.trans hv.sv.symm, fun i hi => (hv7.sa i hi).trans (hv.sa i hi).symm, hv7.dv.trans hv.dv.symm, fun i hi => (hv7.da i hi).trans (hv.da i hi).symm, hv7.opts.trans hv.opts.symm, hv7.data.trans hv.data.symm⟩
    have t710 := (u8.then u9).then u10
    refine c29T (va := v7) (vb := { v with ttl := wr .i64 (v.ttl - 1) }) hE7 (hO7.old t710) (hO9.old u10) hf7.opts (by omega) (hD7.old t710) (hD9.old u10) hf7.data fun w11 u11 => ⟨_, rfl, kp u11, brt rfl ?_⟩
    have v11 := v10.then u11
    have t611 := t610.then u11
    refine c43 (hg.old v11) (hs6.old t611) hb ho.le hl fun w12 u12 => ⟨_, rfl, kp u12, ?_⟩
    have v12 := v11.then u12
    refine brn (fun hf => ⟨rfl, v12⟩) (fun hcn => ?_)
    refine c43 (hg.old v12) (hd6.old (t611.then u12)) hbh hod6.le (by omega) fun w13 u13 => ⟨_, rfl, kp u13, ?_, v12.then u13⟩
    rw [canB_iff.2 (hop_can hb (canB_iff.1 hcn) h8)]
theorem walk15 {H : Type} {W : World} (hg : Sees cI64 W wid4 widths4) (svs : List SV) (ds : List (DataW H)) (h : ArgsD X W [22] svs ds) (hw : (DataW.weightsEach Tryd.prog [22] ds).all (· ≤ reachBytes) = true) :
    Ret Tryd.prog 15 svs W fun r w1 => r = .bool true ∧ Upd [] [] W w1 := by
  obtain ⟨x, _, d1, _, m1, rfl, rfl, h1, h⟩ := argsD_cons h
  obtain ⟨rfl, rfl⟩ := argsD_nil h
  obtain ⟨s, l, rfl, hs, hb, hc, hsl⟩ := deep_bytes' (t := 22) (e := 5) rfl rfl h1
  have hn := light_len (P := Tryd.prog) (t := 22) (e := 5) (by kernel_rfl) (by kernel_rfl) (light_head (light_arg hw)).1 hsl
  exact c15 hg hs hb (by omega)
end Go.Vc.S6
