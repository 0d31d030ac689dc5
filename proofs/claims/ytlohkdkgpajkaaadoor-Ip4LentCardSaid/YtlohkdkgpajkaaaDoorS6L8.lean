import Derived.Test.YtlohkdkgpajkaaaDoorS6TxtL8
import Derived.Test.YtlohkdkgpajkaaaDoorG9
open Go Go.Vc Go.Proofs
set_option linter.unusedVariables false
set_option linter.unusedSimpArgs false
set_option autoImplicit false
namespace Go.Vc.S6
theorem c18 {w : World} {R : SV → World → Prop} (hg : Sees cI64 w wid4 widths4) (k : ∀ w1, Upd [] [] w w1 → R (.bool true) w1) : Ret Tryd.prog 18 [] w R := pl_err0 hg k

/-- everything that Parse answers, at hand -/
theorem c20' {b : Sl} {l : List Int} {w : World} {R : SV → World → Prop} (hg : Sees cI64 w wid4 widths4) (h : SeesB w b l) (hb : Byt l) (hc : b.len ≤ b.cap) (hl : l.length ≤ 140737488355328)
    (k : ∀ v s os d w1, IpEq v (ipOf l) → Fit v → Upd [] [] w w1 → Opts w1 s v.opts os → SeesB w1 d v.data → v.opts.length ≤ 40 → (∀ o ∈ v.opts, o.data.length ≤ 40) → v.data.length ≤ l.length → Own w.heap.size 2 w1 s → s.len ≤ s.cap → d = dOf b l → os = osOf b l → R (.tuple [ipSV v s d, .int .i64 (ipErr l)]) w1) : Ret Tryd.prog 20 [.slice b] w R := by
  refine c20 hg h hb hc hl fun v s w1 hv u hs ho => ?_
  have hO := osOf_opts hb (h.old u) hs
  have hD := dOf_sees (h.old u)
  have h40 := opts_small hb
  have hdl := data_small l
  rw [← hv.opts] at hO h40
  rw [← hv.data] at hD hdl
  exact k v s _ _ w1 hv (hv.fit (ipOf_fit hb)) u hO hD h40.1 h40.2 hdl ho ho.le rfl rfl

set_option maxRecDepth 10000 in
theorem c8 {b : Sl} {l : List Int} {w : World} (hg : Sees cI64 w wid4 widths4) (h : SeesB w b l) (hb : Byt l) (hc : b.len ≤ b.cap) (hl : l.length ≤ 140737488355328) : Ret Tryd.prog 8 [.slice b] w fun r w1 => r = .bool true ∧ Upd [] [] w w1 := by
  refine f8_of _ _ _ ?_
  unfold vc8
  have hblen := h.len
  refine c18 hg fun w1 u1 => ⟨_, rfl, ?_⟩
  have h1 := h.old u1
  refine c20' (hg.old u1) h1 hb hc hl fun v s os d w2 hv hf u2 hO hD ho40 hod hdl _ _ _ _ => ⟨_, _, _, _, _, _, _, _, _, _, _, _, _, _, rfl, ?_⟩
  have v2 := u1.then u2
  intro b4 J hJ
  refine brf rfl fun w3 u3 => ?_
  have v3 := v2.then u3
  have h3 := h.old v3
  have O3 := hO.old u3
  have D3 := hD.old u3
  refine c21 ⟨_, rfl, kp (Upd.refl _), ?_⟩
  refine bre' (fun hne => brt rfl ?_) (fun he => ?_)
  · have ez : ipOf l = ipZ := by unfold ipOf; rw [if_neg hne]
    have eo : v.opts = [] := by rw [hv.opts, ez]; rfl
    have ed : v.data = [] := by rw [hv.data, ez]; rfl
    refine c29T (va := v) (vb := ipZ) (ob := []) (by rw [← ez]; exact hv) O3 (Opts.nil _ _ _) hf.opts (by omega) D3 (Sees.nil _ _ _ _) hf.data fun w4 u4 => ⟨_, rfl, kp u4, brt rfl ?_⟩
    have v4 := v3.then u4
    refine c43 (hg.old v4) (h.old v4) hb hc hl fun w5 u5 => ⟨_, rfl, kp u5, ?_⟩
    have : canB l = false := by unfold canB; rw [decide_eq_false hne]; rfl
    rw [this]
    exact ⟨rfl, v4.then u5⟩
  · (repeat refine And.intro rfl ?_)
    refine hJ _ ?_
    clear hJ
    have hck : ipChk v = 0 := by rw [hv.chk]; exact (parse_chk hb he).1
    refine c25 (hg.old v3) O3 (by omega) (fun o ho => by have := hod o ho; omega) D3 (by omega) hf fun r w4 u4 hr ho => ⟨_, _, rfl, kp u4, ?_⟩
    rw [hck]
    have v4 := v3.then u4
    unfold serL at hr
    rw [if_pos hck] at hr
    have hsb := ser_byt hck hf
    have hsl := ser_len v
    have hsl2 : (ipSer v).length ≤ l.length := by rw [hv.ser]; exact parse_len hb he
    refine c20' (hg.old v4) hr hsb ho.le (by omega) fun v5 s5 os5 d5 w5 hv5 hf5 u5 hO5 hD5 h40 hod5 hdl5 _ _ _ _ => ⟨_, _, _, _, _, _, _, _, _, _, _, _, _, _, rfl, kp u5, ?_⟩
    rw [ser_err hck hf]
    have v5' := v4.then u5
    have hE : IpEq v5 v := hv5.trans (ser_eq hck hf)
    intro b7 J hJ w6 u6
    have v6 := v5'.then u6
    have t36 := (u4.then u5).then u6
    refine c33 (O3.old t36) (by omega) (fun o ho => by have := hod o ho; omega) (D3.old t36).len (by omega) fun w7 u7 => ⟨_, rfl, kp u7, c21 ⟨_, rfl, kp (Upd.refl _), ?_⟩⟩
    rw [hck]
    refine brf (by simp) (c21 ⟨_, rfl, kp (Upd.refl _), brf (by simp) (c21 ⟨_, rfl, kp (Upd.refl _), brf (by simp) ?_⟩)⟩)
    have t57 := u6.then u7
    have t37 := t36.then u7
    refine c29T hE (hO5.old t57) (O3.old t37) hf5.opts (by omega) (hD5.old t57) (D3.old t37) hf5.data fun w8 u8 => ⟨_, rfl, kp u8, brf rfl ?_⟩
    have t48 := (u5.then t57).then u8
    have v8 := (v6.then u7).then u8
    refine c43 (hg.old v8) (hr.old t48) hsb ho.le (by omega) fun w9 u9 => ⟨_, rfl, kp u9, brf ?_ ⟨rfl, rfl, hJ _ ?_⟩⟩
    · rw [canB_iff.2 (can_ser hck hf)]; rfl
    clear hJ
    have v9 := v8.then u9
    have hrl := hr.len
    refine brt (by simp; omega) ?_
    refine c43 (hg.old v9) (h.old v9) hb hc hl fun w10 u10 => ⟨_, rfl, kp u10, ?_⟩
    have v10 := v9.then u10
    refine c24 (h.old v10) ((hr.old t48).old (u9.then u10)) hb hsb ⟨_, rfl, kp (Upd.refl _), ?_, v10⟩
    have : canB l = decide (l = ipSer v) := by unfold canB; rw [decide_eq_true he, hv.ser]; rfl
    rw [this]
    simp
theorem walk8 {H : Type} {W : World} (hg : Sees cI64 W wid4 widths4) (svs : List SV) (ds : List (DataW H)) (h : ArgsD X W [22] svs ds) (hw : (DataW.weightsEach Tryd.prog [22] ds).all (· ≤ reachBytes) = true) :
    Ret Tryd.prog 8 svs W fun r w1 => r = .bool true ∧ Upd [] [] W w1 := by
  obtain ⟨x, _, d1, _, m1, rfl, rfl, h1, h⟩ := argsD_cons h
  obtain ⟨rfl, rfl⟩ := argsD_nil h
  obtain ⟨s, l, rfl, hs, hb, hc, hsl⟩ := deep_bytes' (t := 22) (e := 5) rfl rfl h1
  have hn := light_len (P := Tryd.prog) (t := 22) (e := 5) (by kernel_rfl) (by kernel_rfl) (light_head (light_arg hw)).1 hsl
  exact c8 hg hs hb hc (by omega)
end Go.Vc.S6
