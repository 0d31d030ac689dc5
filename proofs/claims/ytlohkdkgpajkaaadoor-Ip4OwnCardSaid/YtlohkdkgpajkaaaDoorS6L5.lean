import Derived.Test.YtlohkdkgpajkaaaDoorS6TxtL5
import Derived.Test.YtlohkdkgpajkaaaDoorS6Deep
import Derived.Test.YtlohkdkgpajkaaaDoorS6Mark
open Go Go.Vc Go.Proofs Go.ChangeShapes Go.WideShapes Go.ChangeAt Go.RowKit
set_option linter.unusedVariables false
set_option linter.unusedSimpArgs false
set_option autoImplicit false
namespace Go.Vc.S6
section
variable {v : IpV} {so sd : Sl} {os : List (Int × Sl)} {w : World}
theorem serL_len (v : IpV) : (serL v).length ≤ 65535 := by
  unfold serL
  split
  · rename_i hc
    have hsl := ser_len v
    obtain ⟨_, _, _, _, _, _, _, h8, h9, _⟩ := ipChk_ok hc
    have hr8 := hdL_r h8
    omega
  · simp
set_option maxRecDepth 10000 in
theorem c5 {sl : Sl} {ll : List Opt} {ol : List (Int × Sl)} (hg : Sees cI64 w wid4 widths4) (h : Hand w v so sd os) (hl : Opts w sl ll ol) (hfew : ll.length ≤ 4398046511000) (hsm : ∀ o ∈ ll, o.data.length ≤ 140737488351232) (hby : ∀ o ∈ ll, Byt o.data) : Ret Tryd.prog 5 [ipSV v so sd, .slice sl] w fun r w1 => r = .bool true ∧ Upd [] [] w w1 := by
  refine f5_of _ _ _ _ _ _ _ _ _ _ _ _ _ _ _ _ ?_
  unfold vc5
  intro b w1 u1
  have n1 := u1.new (b := b) (by simp)
  refine c18 (hg.old u1) fun w2 u2 => ⟨_, rfl, kp u2, ?_⟩
  have v2 := u1.then u2
  have h2 := h.old v2
  refine c26 h2.opts (by have := h.few; omega) (fun o ho => by have := h.small o ho; omega) h2.data (by have := h.dlen; omega) fun sc oc dc w3 u3 hsc hoc hocs hdc hodc => ⟨_, _, _, _, _, _, _, _, _, _, _, _, _, rfl, kp u3, ?_⟩
  have v3 := v2.then u3
  intro b4 w4 u4
  have n4 := u4.new (b := b4) (by simp)
  have v4 := v3.then u4
  refine c25H (hg.old v4) (h.old v4) fun s w5 u5 hs ho => ⟨_, _, rfl, kp u5, ?_⟩
  have v5 := v4.then u5
  refine c25H (hg.old v5) (h.old v5) fun s' w6 u6 hs' ho' => ⟨_, _, rfl, kp u6, ?_⟩
  have v6 := v5.then u6
  refine c27 (hl.old v6) (by omega) (fun o ho => by have := hsm o ho; omega) fun c w7 u7 hc hoc7 => ⟨_, _, rfl, kp u7, ?_⟩
  have v7 := v6.then u7
  refine c27 (hl.old v7) (by omega) (fun o ho => by have := hsm o ho; omega) fun d w8 u8 hd hod8 => ⟨_, _, rfl, kp u8, ?_⟩
  have v8 := v7.then u8
  have hsL := serL_len v
  have hpL := putL_len ll
  refine c23 (((hs.old u6).old u7).old u8) (by omega) fun e w9 u9 he hoe => ⟨_, rfl, kp u9, ?_⟩
  have v9 := v8.then u9
  refine c23 ((hc.old u8).old u9) (by omega) fun f w10 u10 hf hof => ⟨_, rfl, kp u10, ?_⟩
  have v10 := v9.then u10
  have y2 := u2.size; have y3 := u3.size; have y4 := u4.size; have y5 := u5.size; have y6 := u6.size; have y7 := u7.size; have y8 := u8.size; have y9 := u9.size; have y10 := u10.size
  have z4 := v4.size
  have bs := ho.blk; have bs' := ho'.blk; have bc := hoc7.blk; have bd := hod8.blk; have be := hoe.blk; have bf := hof.blk
  refine c28 (((((hs.old u6).old u7).old u8).old u9).old u10) (((((ho.old u6).old u7).old u8).old u9).old u10) (by omega) (by omega) fun m1 w11 u11 hm1 => ⟨_, rfl, kpm u11 (by intro x hx; simp at hx; omega) (by intro x hx hm; have := bs x hm; simp at hx; omega), ?_⟩
  have v11 := v10.step0 u11 (fun x hx => by have := bs x hx; omega)
  have y11 := u11.size
  refine c28 ((((hc.old u8).old u9).old u10).upd u11 (fun x hx hm => by have := bc x hx; have := bs x hm; omega)) ((((hoc7.old u8).old u9).old u10).upd u11 (fun x hx hm => by have := bc x hx; have := bs x hm; omega)) (by omega) (by omega) fun m2 w12 u12 hm2 => ⟨_, rfl, kpm u12 (by intro x hx; simp at hx; omega) (by intro x hx hm; have := bc x hm; simp at hx; omega), ?_⟩
  have v12 := v11.step0 u12 (fun x hx => by have := bc x hx; omega)
  have y12 := u12.size
  have t1012 : Upd (s.blk ++ c.blk) [] w10 w12 := (u11.wide (m' := s.blk ++ c.blk) (fun x hx => List.mem_append_left _ hx)).step u12 (fun x hx => .inr (List.mem_append_right _ hx))
  intro J hJ
  have hs12 := ((((hs'.old u7).old u8).old u9).old u10).upd t1012 (fun x hx hm => by have := bs' x hx; rcases List.mem_append.1 hm with q | q; have := bs x q; omega; have := bc x q; omega)
  have ho12 := ((((ho'.old u7).old u8).old u9).old u10).upd t1012 (fun x hx hm => by have := bs' x hx; rcases List.mem_append.1 hm with q | q; have := bs x q; omega; have := bc x q; omega)
  have hd12 := ((hd.old u9).old u10).upd t1012 (fun x hx hm => by have := bd x hx; rcases List.mem_append.1 hm with q | q; have := bs x q; omega; have := bc x q; omega)
  have hod12 := ((hod8.old u9).old u10).upd t1012 (fun x hx hm => by have := bd x hx; rcases List.mem_append.1 hm with q | q; have := bs x q; omega; have := bc x q; omega)
  have he12 := (he.old u10).upd t1012 (fun x hx hm => by have := be x hx; rcases List.mem_append.1 hm with q | q; have := bs x q; omega; have := bc x q; omega)
  have hf12 := hf.upd t1012 (fun x hx hm => by have := bf x hx; rcases List.mem_append.1 hm with q | q; have := bs x q; omega; have := bc x q; omega)
  have hm1' := hm1.upd u12 (fun x hx => ⟨fun hm => by have := bc x hx; have := bs x hm; omega, by have := bc x hx; omega⟩)
  have bSer : Byt (serL v) := by
    unfold serL; split
    · rename_i hc; exact ser_byt hc h.fit
    · intro x hx; simp at hx
  have bPut : Byt (putL ll) := by
    unfold putL; split
    · exact putO_byt hby
    · intro x hx; simp at hx
  have hO : ∀ o ∈ v.opts, Byt o.data := h.fit.opts
  refine brf rfl (c24 hs12 he12 bSer bSer ⟨_, rfl, kp (Upd.refl _), brf (by simp) (c24 hd12 hf12 bPut bPut ⟨_, rfl, kp (Upd.refl _), brf (by simp) ?_⟩)⟩)
  have h12 := h.old v12
  have t312 : Upd [] [] w3 w12 := (((((((u4.forget.then u5).then u6).then u7).then u8).then u9).then u10).step0 u11 (fun x hx => by have := bs x hx; omega)).step0 u12 (fun x hx => by have := bc x hx; omega)
  refine c29T (IpEq.refl v) h12.opts (hsc.old t312) hO (by have := h.few; omega) h12.data (hdc.old t312) h.fit.data fun w13 u13 => ⟨_, rfl, kp u13, brf (by simp) ?_⟩
  have v13 := v12.then u13
  have y13 := u13.size
  (repeat refine And.intro rfl ?_)
  refine hJ _ ?_
  clear hJ
  refine c28 (hs12.old u13) (ho12.old u13) (by omega) (by omega) fun m3 w14 u14 hm3 => ⟨_, rfl, kpm u14 (by intro x hx; simp at hx; omega) (by intro x hx hm; have := bs' x hm; simp at hx; omega), ?_⟩
  have v14 := v13.step0 u14 (fun x hx => by have := bs' x hx; omega)
  have y14 := u14.size
  refine c28 ((hd12.old u13).upd u14 (fun x hx hm => by have := bd x hx; have := bs' x hm; omega)) ((hod12.old u13).upd u14 (fun x hx hm => by have := bd x hx; have := bs' x hm; omega)) (by omega) (by omega) fun m4 w15 u15 hm4 => ⟨_, rfl, kpm u15 (by intro x hx; simp at hx; omega) (by intro x hx hm; have := bd x hm; simp at hx; omega), ?_⟩
  have v15 := v14.step0 u15 (fun x hx => by have := bd x hx; omega)
  have y15 := u15.size
  refine c25H (hg.old v15) (h.old v15) fun g w16 u16 hgs hog => ⟨_, _, rfl, kp u16, ?_⟩
  have v16 := v15.then u16
  refine c27 (hl.old v16) (by omega) (fun o ho => by have := hsm o ho; omega) fun k w17 u17 hk hok => ⟨_, _, rfl, kp u17, ?_⟩
  have v17 := v16.then u17
  have t1517 := u16.then u17
  refine c21 ⟨_, rfl, kp (Upd.refl _), c21 ⟨_, rfl, kp (Upd.refl _), brt (by simp) (c21 ⟨_, rfl, kp (Upd.refl _), c21 ⟨_, rfl, kp (Upd.refl _), brt (by simp) ?_⟩⟩)⟩⟩
  have he17 := ((((he12.old u13).upd u14 (fun x hx hm => by have := be x hx; have := bs' x hm; omega)).upd u15 (fun x hx hm => by have := be x hx; have := bd x hm; omega))).old t1517
  have hf17 := ((((hf12.old u13).upd u14 (fun x hx hm => by have := bf x hx; have := bs' x hm; omega)).upd u15 (fun x hx hm => by have := bf x hx; have := bd x hm; omega))).old t1517
  refine c24 (hgs.old u17) he17 bSer bSer ⟨_, rfl, kp (Upd.refl _), brt (by simp) (c24 hk hf17 bPut bPut ⟨_, rfl, kp (Upd.refl _), brt (by simp) ?_⟩)⟩
  have hm1b := ((((hm1'.old u13).upd u14 (fun x hx => ⟨fun hm => by have := bs' x hx; have := bs x hm; omega, by have := bs' x hx; omega⟩)).upd u15 (fun x hx => ⟨fun hm => by have := bd x hx; have := bs x hm; omega, by have := bd x hx; omega⟩))).old t1517
  have hm2b := ((((hm2.old u13).upd u14 (fun x hx => ⟨fun hm => by have := bs' x hx; have := bc x hm; omega, by have := bs' x hx; omega⟩)).upd u15 (fun x hx => ⟨fun hm => by have := bd x hx; have := bc x hm; omega, by have := bd x hx; omega⟩))).old t1517
  have hm3b := (hm3.upd u15 (fun x hx => ⟨fun hm => by have := bd x hx; have := bs' x hm; omega, by have := bd x hx; omega⟩)).old t1517
  have hm4b := hm4.old t1517
  refine c30 hm1b ⟨_, rfl, kp (Upd.refl _), brt rfl (c30 hm2b ⟨_, rfl, kp (Upd.refl _), brt rfl (c30 hm3b ⟨_, rfl, kp (Upd.refl _), brt rfl (c30 hm4b ⟨_, rfl, kp (Upd.refl _), rfl, v17⟩)⟩)⟩)⟩
theorem walk5 {H : Type} {W : World} (hg : Sees cI64 W wid4 widths4) (svs : List SV) (ds : List (DataW H)) (h : ArgsD X W [30, 28] svs ds) (hw : (DataW.weightsEach Tryd.prog [30, 28] ds).all (· ≤ reachBytes) = true) :
    Ret Tryd.prog 5 svs W fun r w1 => r = .bool true ∧ Upd [] [] W w1 := by
  obtain ⟨x, _, d1, _, m1, rfl, rfl, h1, h⟩ := argsD_cons h
  obtain ⟨y, _, d2, _, m2, rfl, rfl, h2, h⟩ := argsD_cons h
  obtain ⟨rfl, rfl⟩ := argsD_nil h
  obtain ⟨v, so, sd, os, _, _, _, _, _, _, _, _, _, do_, dd, rfl, ho, hd, hf, hc, hc2, hc3, rfl, hdo, hsl, _⟩ := deep_ip4 h1
  obtain ⟨sl, ll, ol, rfl, hol, hob, hoc, hsc, hdl⟩ := deep_optsL h2
  have q := light_opts und28 bytes37 und37 und37t und22 bytes5 (light_head (light_head (light_arg hw)).2).1 hdl
  exact c5 hg (hand_of ho hd hf hc hc2 hc3 hdo hsl (light_head (light_arg hw)).1) hol q.1 q.2 hob
end
end Go.Vc.S6
