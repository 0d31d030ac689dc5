import Derived.Test.YtmchllbemgnieaaDoorS9TxtL13
import Derived.Test.YtmchllbemgnieaaDoorS9Deep
open Go Go.Vc Go.Proofs Go.ChangeShapes Go.WideShapes Go.ChangeAt Go.RowKit
set_option linter.unusedVariables false
set_option linter.unusedSimpArgs false
set_option autoImplicit false
namespace Go.Vc.S9
theorem clamp_flat (y : Bool) (m : Int) : ∀ l : List Opt, ((l.map (clampO y m)).flatMap optB).length = (l.flatMap optB).length
  | [] => rfl
  | o :: r => by
    have := clamp_flat y m r
    simp only [List.map_cons, List.flatMap_cons, List.length_append, optB_len, clampO_len.1, this]
theorem clamp_putO (y : Bool) (m : Int) (l : List Opt) : (putO (l.map (clampO y m))).length = (putO l).length := by
  have := clamp_flat y m l
  unfold putO pad4
  rw [List.length_append, List.length_append, List.length_replicate, List.length_replicate, this]
theorem clamp_putOk9 (y : Bool) (m : Int) (l : List Opt) : putOk9 (l.map (clampO y m)) ↔ putOk9 l := by
  unfold putOk9 putOk okO
  rw [clamp_flat]
  refine and_congr (and_congr ?_ Iff.rfl) ?_
  · constructor
    · intro h o ho
      have := h _ (List.mem_map_of_mem ho)
      rw [clampO_len.1, clampO_len.2] at this
      exact this
    · intro h o ho
      obtain ⟨x, hx, rfl⟩ := List.mem_map.1 ho
      rw [clampO_len.1, clampO_len.2]
      exact h x hx
  · constructor
    · intro h o ho
      have := h _ (List.mem_map_of_mem ho)
      rw [clampO_len.1, clampO_len.2] at this
      exact this
    · intro h o ho
      obtain ⟨x, hx, rfl⟩ := List.mem_map.1 ho
      rw [clampO_len.1, clampO_len.2]
      exact h x hx
theorem clamp_chk (t : TcV) (most : Int) : tcChk (clampT t most) = tcChk t := by
  have e1 : badT (clampT t most) = badT t := rfl
  have e2 : putOk9 (clampT t most).opts ↔ putOk9 t.opts := clamp_putOk9 _ _ _
  have e3 : (putO (clampT t most).opts).length = (putO t.opts).length := clamp_putO _ _ _
  have e4 : (clampT t most).data = t.data := rfl
  unfold tcChk
  rw [e3, e4]
  by_cases h1 : badT t
  · rw [if_pos h1, if_pos (by rw [e1]; exact h1)]
  · rw [if_neg h1, if_neg (by rw [e1]; exact h1)]
    by_cases h2 : putOk9 t.opts
    · rw [if_neg (Classical.not_not.2 h2), if_neg (Classical.not_not.2 (e2.2 h2))]
    · rw [if_pos h2, if_pos (fun x => h2 (e2.1 x))]
theorem clamp_tells (y : Bool) (m : Int) (o : Opt) : tells (clampO y m o) ↔ tells o := by
  unfold tells
  rw [clampO_len.1, clampO_len.2]
/-- the greatest segment told behind clampO -/
theorem mss_clamp (y : Bool) (m : Int) : ∀ l : List Opt, mssO (l.map (clampO y m)) = (mssO l).map fun x => if m < x ∧ y = true then m / 256 % 256 * 256 + m % 256 else x
  | [] => rfl
  | o :: r => by
    rw [List.map_cons]
    unfold mssO
    by_cases ht : tells o
    · rw [if_pos ht, if_pos ((clamp_tells y m o).2 ht)]
      simp only [Option.map_some, Option.some.injEq]
      unfold clampO
      by_cases hc : m < W16 o.data 0 ∧ y = true
      · rw [if_pos ⟨ht, hc⟩, if_pos hc]; rfl
      · rw [if_neg (fun x => hc x.2), if_neg hc]
    · rw [if_neg ht, if_neg (fun x => ht ((clamp_tells y m o).1 x))]
      exact mss_clamp y m r
theorem mssI_r {l : List Opt} (hb : ∀ o ∈ l, Byt o.data) : 0 ≤ mssI l ∧ mssI l ≤ 65535 := by
  unfold mssI
  cases h : mssO l with
  | none => simp
  | some x =>
    have : ∀ (l : List Opt), (∀ o ∈ l, Byt o.data) → mssO l = some x → 0 ≤ x ∧ x ≤ 65535 := by
      intro l
      induction l with
      | nil => intro _ h; cases h
      | cons o r ih =>
        intro hb h
        unfold mssO at h
        split at h
        · injection h with h; subst h; exact W16_r (hb o (by simp)) 0
        · exact ih (fun o ho => hb o (by simp [ho])) h
    exact this l hb h
theorem clamp_mssB (t : TcV) (most : Int) : mssB (clampT t most).opts = mssB t.opts := by
  unfold mssB
  rw [show (clampT t most).opts = t.opts.map (clampO (synOf t.fl) (imax most 0)) from rfl, mss_clamp]
  cases mssO t.opts <;> rfl
theorem clamp_mssI (t : TcV) (most : Int) (hb : ∀ o ∈ t.opts, Byt o.data) : mssI (clampT t most).opts = if synOf t.fl = true ∧ most < mssI t.opts then imax most 0 else mssI t.opts := by
  have hr := mssI_r hb
  have hge := imax_ge most 0
  unfold mssI at *
  rw [show (clampT t most).opts = t.opts.map (clampO (synOf t.fl) (imax most 0)) from rfl, mss_clamp]
  generalize imax most 0 = M at *
  generalize mssO t.opts = q at *
  cases q with
  | none =>
    simp only [Option.map_none, Option.getD_none] at *
    by_cases h : synOf t.fl = true ∧ most < 0
    · rw [if_pos h]; omega
    · rw [if_neg h]
  | some x =>
    simp only [Option.map_some, Option.getD_some] at *
    by_cases hs : synOf t.fl = true
    · by_cases h1 : M < x
      · rw [if_pos ⟨h1, hs⟩, if_pos ⟨hs, by omega⟩]; omega
      · rw [if_neg (fun y => h1 y.1)]
        by_cases h2 : most < x
        · rw [if_pos ⟨hs, h2⟩]; omega
        · rw [if_neg (fun y => h2 y.2)]
    · rw [if_neg (fun y => hs y.2), if_neg (fun y => hs y.1)]
theorem clampO_idem {y : Bool} {m : Int} {o : Opt} (hm : 0 ≤ m) : clampO y m (clampO y m o) = clampO y m o := by
  by_cases h : tells o ∧ m < W16 o.data 0 ∧ y = true
  · have e : clampO y m o = ⟨o.kind, [m / 256 % 256, m % 256]⟩ := by unfold clampO; rw [if_pos h]
    rw [e]
    unfold clampO
    rw [if_neg]
    rintro ⟨_, h2, _⟩
    have : W16 [m / 256 % 256, m % 256] 0 = m / 256 % 256 * 256 + m % 256 := rfl
    rw [this] at h2
    omega
  · have e : clampO y m o = o := by unfold clampO; rw [if_neg h]
    rw [e, e]
theorem clampT_idem (t : TcV) (most : Int) : clampT (clampT t most) (imax most 0) = clampT t most := by
  have hge := imax_ge most 0
  have hge2 := imax_ge (imax most 0) 0
  have e : imax (imax most 0) 0 = imax most 0 := by omega
  unfold clampT
  simp only [e, List.map_map]
  have : (clampO (synOf t.fl) (imax most 0) ∘ clampO (synOf t.fl) (imax most 0)) = clampO (synOf t.fl) (imax most 0) := funext fun o => clampO_idem (by omega)
  rw [this]
section
variable {w : World} {t : TcV} {so sd : Sl} {os : List (Int × Sl)}
set_option maxRecDepth 10000 in
theorem c13 {most : Int} (hg : Tabs w) (h : HandT w t so sd os) : Ret Tryd.prog 13 [tcSV t so sd, .int .i64 most] w fun r w1 => r = .bool true ∧ Upd [] [] w w1 := by
  refine f13_of _ _ _ _ _ _ _ _ _ _ _ _ ?_
  unfold vc13
  intro b w1 u1
  have hob := h.fit.opts
  have hfew := h.few
  refine c18 (hg.old u1) fun w2 u2 => ⟨_, rfl, kp u2, ?_⟩
  have v2 := u1.then u2
  have h2 := h.old v2
  refine c35 (t := t) h2.opts hob (by omega) (fun o ho => by have := h.small o ho; omega) fun s so3 w3 u3 hs3 ho3 hos3 _ _ => ⟨_, _, _, _, _, _, _, _, _, rfl, kp u3, ?_⟩
  have v3 := v2.then u3
  have hcb : ∀ o ∈ (clampT t most).opts, Byt o.data := fun o ho => by
    obtain ⟨x, hx, rfl⟩ := List.mem_map.1 ho
    exact clampO_byt (hob x hx)
  have hcl : (clampT t most).opts.length = t.opts.length := by show (t.opts.map _).length = _; simp
  have hcd : ∀ o ∈ (clampT t most).opts, o.data.length ≤ 140737488351232 := fun o ho => by
    obtain ⟨x, hx, rfl⟩ := List.mem_map.1 ho
    rw [clampO_len.1]; exact h.small x hx
  intro b2 w4 u4
  have v4 := v3.then u4
  refine c36 (t := clampT t most) (hs3.old u4) hcb (by omega) fun w5 u5 => ⟨_, _, rfl, kp u5, ?_⟩
  have v5 := v4.then u5
  refine c36 (t := t) (h.old v5).opts hob (by omega) fun w6 u6 => ⟨_, _, rfl, kp u6, ?_⟩
  have v6 := v5.then u6
  have hs6 := ((hs3.old u4).old u5).old u6
  intro J hJ
  have hsl := hs6.slen
  have htl := h.opts.slen
  have hmr := mssI_r hob
  have emi := clamp_mssI t most hob
  refine brf rfl (brf (by rw [clamp_mssB]; simp) (brf (by simp; omega) (brf (by simp [clampT]) ?_)))
  (repeat refine And.intro rfl ?_)
  refine hJ _ ?_
  clear hJ
  intro J hJ
  by_cases hsy : synOf t.fl = true
  rotate_left
  · have hz : (iand .i64 t.fl 2 == 0) = true := by unfold synOf at hsy; simpa using hsy
    refine brt hz ?_
    rw [if_neg (fun x => hsy x.1)] at emi
    rw [emi]
    exact ⟨by simp, v6⟩
  have hz : (iand .i64 t.fl 2 == 0) = false := by unfold synOf at hsy; simpa using hsy
  refine brf hz (brd (fun hle => ?_) (fun hle => ?_))
  · rw [if_neg (fun x => by omega)] at emi
    rw [emi]
    exact ⟨by simp, v6⟩
  (repeat refine And.intro rfl ?_)
  refine hJ _ ?_
  clear hJ
  intro J hJ
  rw [if_pos ⟨hsy, by omega⟩] at emi
  have hge := imax_ge most 0
  have main : J (imax most 0) w6 := by
    refine hJ _ _ ?_
    refine c35 (t := clampT t most) hs6 hcb (by omega) (fun o ho => by have := hcd o ho; omega) fun s7 so7 w7 u7 hs7 _ _ _ _ => ⟨_, _, _, _, _, _, _, _, _, rfl, kp u7, ?_⟩
    rw [clampT_idem] at hs7
    have v7 := v6.then u7
    intro b5
    refine brt (by rw [emi]; simp) fun w8 u8 => ?_
    have eI : tcSV (clampT (clampT t most) (imax most 0)) s7 sd = tcSV (clampT t most) s7 sd := by rw [clampT_idem]
    have v8 := v7.then u8
    have hd8 := (h.old v8).data
    have eT := c28T (R := fun r w1_5 => ∃ b_6, r = SV.bool b_6 ∧ Keeps [b, b2, b5] w8 w1_5 ∧ Upd [] [] w7 w1_5 ∧ Br b_6
      (Ret Tryd.prog 29 [tcSV (clampT t most) s sd] w1_5 fun r w1 => ∃ n, r = SV.int .i64 n ∧ Keeps [b, b2, b5] w1_5 w1 ∧ Upd [] [] w7 w1 ∧ Ret Tryd.prog 20 [.int .i64 n] w1 fun r w1_6 => ∃ n, r = SV.int .i64 n ∧ Keeps [b, b2, b5] w1 w1_6 ∧ Upd [] [] w7 w1_6 ∧
        Ret Tryd.prog 29 [tcSV t so sd] w1_6 fun r w1 => ∃ n_17, r = SV.int .i64 n_17 ∧ Keeps [b, b2, b5] w1_6 w1 ∧ Ret Tryd.prog 20 [.int .i64 n_17] w1 fun r w1_7 => ∃ n_18, r = SV.int .i64 n_18 ∧ Keeps [b, b2, b5] w1 w1_7 ∧ (SV.bool (n == n_18) = .bool true ∧ Upd [] [] w w1_7))
      (SV.bool false = .bool true ∧ Upd [] [] w w1_5)) (t := clampT t most) (w := w8) (sa := s7) (sb := s) (da := sd) (db := sd) (hs7.old u8) ((hs6.old u7).old u8) hcb (by omega) hd8 hd8 h.fit.data fun w9 u9 => ⟨_, rfl, kp u9, u8.forget.then u9, brt rfl ?_⟩
    · exact eT
    · have v9 := v8.then u9
      have t69 := (u7.then u8).then u9
      refine c29 (t := clampT t most) (hg.old v9) (hs6.old t69) (by omega) (fun o ho => by have := hcd o ho; omega) (h.old v9).data.len (by have := h.dlen; show t.data.length ≤ _; omega) fun w10 u10 => ⟨_, rfl, kp u10, (u8.forget.then u9).then u10, ?_⟩
      refine c20 ⟨_, rfl, kp (Upd.refl _), (u8.forget.then u9).then u10, ?_⟩
      have v10 := v9.then u10
      refine c29H (hg.old v10) (h.old v10) fun w11 u11 => ⟨_, rfl, kp u11, c20 ⟨_, rfl, kp (Upd.refl _), ?_, v10.then u11⟩⟩
      rw [clamp_chk]; simp
  refine brd (fun h0 => ?_) (fun h0 => ?_)
  · (repeat refine And.intro rfl ?_)
    have e0 : imax most 0 = 0 := by omega
    rw [← e0]; exact main
  · (repeat refine And.intro rfl ?_)
    have e0 : imax most 0 = most := by omega
    rw [e0] at main; exact main
end
section
variable {H : Type} {W : World}
theorem walk13 (hg : Tabs W) (svs : List SV) (ds : List (DataW H)) (h : ArgsD X W [45, 3] svs ds) (hw : (DataW.weightsEach Tryd.prog [45, 3] ds).all (· ≤ reachBytes) = true) :
    Ret Tryd.prog 13 svs W fun r w1 => r = .bool true ∧ Upd [] [] W w1 := by
  obtain ⟨z, _, d3, _, m3, rfl, rfl, h3, h⟩ := argsD_cons h
  obtain ⟨y, _, d4, _, m4, rfl, rfl, h4, h⟩ := argsD_cons h
  obtain ⟨rfl, rfl⟩ := argsD_nil h
  obtain ⟨t, so, sd, os, _, _, _, _, _, _, _, do_, dd, rfl, ho, hd, hf, hc, hc2, hc3, rfl, hdo, hsl⟩ := deep_tcp h3
  obtain ⟨n, rfl, hn⟩ := deep_int (t := 3) rfl h4
  have hH := handT_of ho hd hf hc hc2 hc3 hdo hsl (light_head (light_arg hw)).1
  exact c13 hg hH
end
end Go.Vc.S9
