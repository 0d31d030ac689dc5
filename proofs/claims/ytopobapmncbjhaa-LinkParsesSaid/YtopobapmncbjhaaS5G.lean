import Derived.Test.YtopobapmncbjhaaS5F
open Go Go.Vc Go.Proofs
set_option linter.unusedVariables false
set_option linter.unusedSimpArgs false
set_option autoImplicit false
namespace Go.Vc.S5

set_option maxRecDepth 10000 in
theorem c25 {w : World} {R : SV → World → Prop} (k : ∀ w1, Upd [] [] w w1 → R (.bool true) w1) : Ret Try.prog 25 [] w R := by
  refine f25_of _ _ ?_
  unfold vc25
  refine c49 fun w1 u1 => ⟨_, rfl, brf rfl ?_⟩
  refine c33 fun s w2 u2 hs2 hc2 => ⟨_, rfl, ?_⟩
  refine c26 hs2 small_byt hc2 (by decide) (fun e w3 he u3 => by rw [small_parse] at he; cases he) fun tags t f g ts w3 hp hf hg hlim htl u3 ht3 ho3 => ⟨_, _, _, _, _, _, rfl, ?_⟩
  have hpp := hp
  rw [small_parse] at hp
  injection hp with hp
  injection hp with e1 e2
  subst e1 e2
  intro b w4 u4
  refine c26 (l := []) (Sees.nil _ _ _ _) Byt.nil (by decide) (by decide) (fun e w5 he u5 => ?_) (fun tags t f g ts w3 hp => by simp [parse] at hp)
  have ee : e = 50 := by simp [parse] at he; exact he.symm
  subst ee
  refine ⟨_, _, _, _, _, _, rfl, kp u5, ?_⟩
  intro b2 w6 u6
  have v6 := ((u3.then u4).then u5).then u6
  have h6 := hs2.old v6
  have hd : SeesB w6 (s.sub 1 (12 + 2) smallB.length smallB.length) (smallB.drop (12 + 2)) := h6.subB (lo := 14) (hi := 15) (mx := 15) (by omega) (by decide) (by omega)
  obtain ⟨hk0, hser⟩ := ser_parse small_byt hpp hf hg
  have hg0 : 0 ≤ g 0 ∧ g 0 < 256 := by rw [hg 0 (by omega)]; exact small_byt.bt _
  refine c31 (((ht3.old u4).old u5).old u6) hd hg0 (by decide) (fun w7 hne => absurd hk0 hne) fun r w7 _ u7 hs7 ho7 => ⟨_, _, rfl, kp u7, ?_⟩
  rw [hser] at hs7
  have hw : w16 smallB 12 = 2048 := rfl
  refine brt rfl (brt rfl (brt rfl (brt (by rw [show ((12 : Nat) : Int) = 12 from rfl, hw]; rfl) (brt (by rfl) ?_))))
  have hd7 := hd.old u7
  refine needCB hd7 0 (by decide) ⟨_, byteC hd7 0 (by decide), brt (by rfl) ?_⟩
  refine c33 fun s2 w8 u8 hs8 _ => ⟨_, rfl, kp u8, ?_⟩
  refine cSameT (hs7.old u8) hs8 (by decide) fun w9 u9 => ⟨_, rfl, kp u9, ?_⟩
  exact k _ (((((u1.then u2).then v6).then u7).then u8).then u9)

theorem c29 {dst src : Nat → Int} {ts ds : Sl} {tags : List Tag} {type : Int} {data : List Int} {w : World} {R : SV → World → Prop} (h : Sees cTag w ts tags) (hd : SeesB w ds data) (hc : ds.len ≤ ds.cap) (ht : tags.length ≤ 4398046511104)
    (k : ∀ s d w1, Upd [] [] w w1 → Sees cTag w1 s tags → Own w.heap.size 4 w1 s → SeesB w1 d (cutOf data) → Own w.heap.size 1 w1 d → R (frSV dst src s type d) w1) : Ret Try.prog 29 [frSV dst src ts type ds] w R := by
  refine f29_of _ _ _ _ _ _ _ ?_
  unfold vc29
  intro b b2 J hJ
  have hlen := hd.len
  have main : ∀ d w1, Upd [] [b2, b] w w1 → SeesB w1 d (cutOf data) → J dst src ts type d w1 := by
    intro d w1 u1 hd1
    have hb := u1.new (b := b) (by simp)
    have hb2 := u1.new (b := b2) (by simp)
    have hcl := cut_len data
    refine hJ _ _ _ _ _ _ ?_
    refine c17 hd1 (by omega) fun s w2 u2 hs2 ho2 => ⟨_, rfl, kp u2, fun w3 u3 => ?_⟩
    have v3 := (u1.then u2).step0 u3 (by simp; omega)
    have y2 := u2.size
    have y3 := u3.size
    have k3 : ∀ x ∈ s.blk, x ∉ [b] := fun x hx hm => by have := (ho2.blk x hx); simp at hm; omega
    have hs3 := hs2.upd u3 k3
    have ho3 := ho2.upd u3 k3
    have z1 := u1.size
    refine append_own (c := cTag) (Sees.nil _ _ _ _) (Own.none w3.heap.size _ _) (h.old v3) (Nat.le_refl _) (by simp [Sl.blk]) (by decide) (by simp; omega) fun r w4 hr4 ho4 u4 hn4 => ?_
    intro w5 u5
    have u4' : Upd [] [] w3 w4 := u4
    have v5 := (v3.then u4').step0 u5 (by simp; omega)
    have k5 : ∀ x ∈ r.blk, x ∉ [b2, b] := fun x hx hm => by have := (ho4.blk x hx); simp at hm; omega
    have k6 : ∀ x ∈ s.blk, x ∉ [b2, b] := fun x hx hm => by have := (ho2.blk x hx); simp at hm; omega
    refine k _ _ _ v5 ?_ ((ho4.upd u5 k5).mono (by omega)) ((hs3.old u4').upd u5 k6) (((ho3.old u4').upd u5 k6).mono (by omega))
    simpa using hr4.upd u5 k5
  refine brd (fun hg => ?_) (fun hg => ?_)
  · refine needD (by omega) fun w1 u1 => ?_
    repeat refine And.intro rfl ?_
    refine main _ _ u1 ?_
    exact (hd.old u1).subB (lo := 0) (hi := 70000) (mx := ds.cap) (by omega) (by omega) (by omega)
  · intro w1 u1
    repeat refine And.intro rfl ?_
    refine main _ _ u1 ?_
    have : cutOf data = data := List.take_of_length_le (by omega)
    rw [this]
    exact hd.old u1
end Go.Vc.S5
