import Derived.Test.YtopobapmncbjhaaS5TxtC
import Derived.Test.YtopobapmncbjhaaS5G
import Derived.Test.YtopobapmncbjhaaS5Q
import Derived.Test.YtopobapmncbjhaaRowB
open Go Go.Vc Go.Proofs
set_option linter.unusedVariables false
set_option linter.unusedSimpArgs false
set_option autoImplicit false
namespace Go.Vc.S5

set_option maxRecDepth 10000 in
theorem c8 {b : Sl} {l : List Int} {w : World} (h : SeesB w b l) (hb : Byt l) (hc : b.len ≤ b.cap) : Ret Try.prog 8 [.slice b] w fun r w1 => r = .bool true ∧ Upd [] [] w w1 := by
  refine f8_of _ _ _ ?_
  unfold vc8
  refine c16 h hc fun r w1 u1 hs1 ho1 => ⟨_, _, rfl, ?_⟩
  have hin := laid_in hs1 ho1
  have hcb := cut_byt hb
  have hcl := cut_len l
  have hrl := hs1.len
  have hle := ho1.le
  simp at hrl
  refine c26 hin hcb (by simp [Sl.sub]; omega) (by omega) (fun e w2 he u2 => ⟨_, _, _, _, _, _, rfl, ?_⟩) (fun tags t f g ts w2 hp hf hg hlim htl u2 hts hto => ⟨_, _, _, _, _, _, rfl, ?_⟩)
  · have hne : e ≠ 0 := by
      intro e0
      subst e0
      unfold parse at he
      split at he; · cases he
      split at he; · cases he
      split at he; · cases he
      have : ∀ (f : Nat) (tags : List Tag) (t : Nat), ploop (cutOf l) f tags t ≠ .error 0 := by
        intro f
        induction f with
        | zero => intro tags t h; simp [ploop] at h
        | succ f ih =>
          intro tags t h
          unfold ploop at h
          split at h
          · split at h; · cases h
            split at h; · cases h
            split at h; · cases h
            exact ih _ _ h
          · split at h <;> cases h
      exact this _ _ _ he
    intro b3 w3 u3
    refine c25 fun w4 u4 => ⟨_, rfl, kp u4, brf rfl (brt (by simp [hne]) ?_)⟩
    refine c28T (tags := []) (data := []) (Sees.nil _ _ _ _) (Sees.nil _ _ _ _) (Sees.nil _ _ _ _) (Sees.nil _ _ _ _) (fun _ _ => rfl) (fun _ _ => rfl) (by decide) (by decide) fun w5 u5 => ⟨_, rfl, kp u5, rfl, ?_⟩
    exact (((u1.then u2).then u3).then u4).then u5
  · obtain ⟨hk0, hser⟩ := ser_parse hcb hp hf hg
    have hg0 : 0 ≤ g 0 ∧ g 0 < 256 := by rw [hg 0 (by omega)]; exact hcb.bt _
    intro b3 w3 u3
    refine c25 fun w4 u4 => ⟨_, rfl, kp u4, brf rfl (brf (by simp) ?_)⟩
    have v4 := (u2.then u3).then u4
    have hin4 := hin.old v4
    have hd : SeesB w4 ((r.sub 1 0 (cutOf l).length r.cap).sub 1 (t + 2) (cutOf l).length (cutOf l).length) ((cutOf l).drop (t + 2)) := by
      have := hin4.subB (lo := t + 2) (hi := (cutOf l).length) (mx := (cutOf l).length) hlim (Nat.le_refl _) (Nat.le_refl _)
      rwa [List.take_length] at this
    refine c31 ((hts.old u3).old u4) hd hg0 (by simp; omega) (fun w5 hne => absurd hk0 hne) fun s w5 _ u5 hs5 ho5 => ⟨_, _, rfl, kp u5, brt rfl ?_⟩
    rw [hser] at hs5
    refine c30 (((hts.old u3).old u4).old u5) (hd.old u5).len hg0 (by simp; omega) fun w6 u6 => ⟨_, rfl, kp u6, brt (by rw [hk0]; rfl) ?_⟩
    refine cSameT (hs5.old u6) ((hin4.old u5).old u6) (by omega) fun w7 u7 => ⟨_, rfl, kp u7, rfl, ?_⟩
    exact (((u1.then v4).then u5).then u6).then u7

theorem walk8 {H : Type} {W : World} (svs : List SV) (ds : List (DataW H)) (h : ArgsD X W [22] svs ds) :
    Ret Try.prog 8 svs W fun r w1 => r = .bool true ∧ Upd [] [] W w1 := by
  obtain ⟨x, _, d1, _, m1, rfl, rfl, h1, h⟩ := argsD_cons h
  obtain ⟨rfl, rfl⟩ := argsD_nil h
  obtain ⟨s, l, rfl, hs, hb, hc, _⟩ := deep_bytes (t := 22) (e := 5) rfl rfl h1
  exact c8 hs hb hc
end Go.Vc.S5
