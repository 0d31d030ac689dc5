import Derived.Test.YtopobapmncbjhaaS5TxtC
import Derived.Test.YtopobapmncbjhaaS5G
import Derived.Test.YtopobapmncbjhaaS5Q
import Derived.Test.YtopobapmncbjhaaS5W
open Go Go.Vc Go.Proofs
set_option linter.unusedVariables false
set_option linter.unusedSimpArgs false
set_option autoImplicit false
namespace Go.Vc.S5

theorem ser_byt {f g : Nat → Int} {tags : List Tag} {type : Int} {data : List Int} (hf : ∀ i, i < 6 → 0 ≤ f i ∧ f i < 256) (hg : ∀ i, i < 6 → 0 ≤ g i ∧ g i < 256) (hd : Byt data) : Byt (ser f g tags type data) := by
  have ht : Byt (tags.flatMap tagB) := fun x hx => by
    obtain ⟨t, _, h⟩ := List.mem_flatMap.1 hx
    unfold tagB at h
    rcases List.mem_append.1 h with h | h
    · exact two_byt _ x h
    · exact two_byt _ x h
  exact ((((arrL_byt hf).app (arrL_byt hg)).app ht).app (two_byt _)).app hd

set_option maxRecDepth 10000 in
theorem c9 {dst src : Nat → Int} {ts ds : Sl} {tags : List Tag} {type : Int} {data : List Int} {w : World} (hf : ∀ i, i < 6 → 0 ≤ dst i ∧ dst i < 256) (hg : ∀ i, i < 6 → 0 ≤ src i ∧ src i < 256) (h : Sees cTag w ts tags) (hd : SeesB w ds data) (hb : Byt data) (hc : ds.len ≤ ds.cap) (ht : tags.length ≤ 4398046511104) :
    Ret Try.prog 9 [frSV dst src ts type ds] w fun r w1 => r = .bool true ∧ Upd [] [] w w1 := by
  refine f9_of _ _ _ _ _ _ _ ?_
  unfold vc9
  intro b1 w1 u1
  have hb1 := u1.new (b := b1) (by simp)
  refine c29 (h.old u1) (hd.old u1) hc ht fun s d w2 u2 hs2 ho2 hd2 hdo2 => ⟨_, _, _, _, _, rfl, kp u2, ?_⟩
  have hcb := cut_byt hb
  have hcl := cut_len data
  intro w3 u3
  have v3 := (u1.then u2).step0 u3 (by simp; omega)
  have hs3 := hs2.upd u3 (fun x hx hm => by have := (ho2.blk x hx).1; simp at hm; omega)
  have hd3 := hd2.upd u3 (fun x hx hm => by have := (hdo2.blk x hx).1; simp at hm; omega)
  have goal : ∀ (r : Sl) (e : Int) (w4 : World), chk (src 0) tags type (cutOf data).length = e → Upd [] [] w3 w4 → ∀ (J : World → Prop), (∀ w5, Upd [] [] w4 w5 → J w5) →
      Ret Try.prog 25 [] w4 fun r_1 w1 => ∃ (b_1 : Bool), r_1 = .bool b_1 ∧ Keeps [b1] w4 w1 ∧ Br (!b_1) (SV.bool false = .bool true ∧ Upd [] [] w w1) (Ret Try.prog 30 [.struct [.arr .u8 6 dst, .arr .u8 6 src, .slice s, .int .i64 type, .slice d]] w1 fun r_2 w1_3 => ∃ (n_2 : Int), r_2 = .int .i64 n_2 ∧ Keeps [b1] w1 w1_3 ∧ Br (e != n_2) (SV.bool false = .bool true ∧ Upd [] [] w w1_3) (J w1_3)) := by
    intro r e w4 he u4 J hJ
    refine c25 fun w5 u5 => ⟨_, rfl, kp u5, brf rfl ?_⟩
    refine c30 ((hs3.old u4).old u5) ((hd3.old u4).old u5).len (hg 0 (by omega)) (by omega) fun w6 u6 => ⟨_, rfl, kp u6, brf (by rw [he]; simp) (hJ _ (u5.then u6))⟩
  refine c31 hs3 hd3 (hg 0 (by omega)) (by omega) (fun w4 hne u4 => ⟨_, _, rfl, kp u4, ?_⟩) (fun r w4 he u4 hr ho => ⟨_, _, rfl, kp u4, ?_⟩)
  · intro J hJ
    refine goal nilS _ w4 rfl u4 _ fun w5 u5 => ⟨rfl, hJ _ (brt (by simp [hne]) ⟨rfl, (v3.then u4).then u5⟩)⟩
  · intro J hJ
    refine goal r _ w4 he u4 _ fun w5 u5 => ⟨rfl, hJ _ (brf rfl ?_)⟩
    obtain ⟨p1, p2, p3, p4, p5⟩ := parse_ser (f := dst) (g := src) he
    have hsb := ser_byt (tags := tags) (type := type) hf hg hcb
    obtain ⟨_, c2, _, _, _, _, _, c8⟩ := chk_ok he
    have hsl : (ser dst src tags type (cutOf data)).length ≤ 65535 := (parse_ok hsb p1).1
    refine c26 (hr.old u5) hsb ho.le (by omega) (fun e w6 he2 => by rw [p1] at he2; cases he2) fun tags2 t2 f2 g2 ts2 w6 hp2 hf2 hg2 hl2 _ u6 hs6 ho6 => ⟨_, _, _, _, _, _, rfl, kp u6, ?_⟩
    rw [p1] at hp2
    injection hp2 with hp2
    injection hp2 with q1 q2
    subst q1 q2
    intro b5
    refine brt rfl fun w7 u7 => ?_
    rw [p2]
    have hd6 : SeesB w7 (r.sub 1 (12 + 4 * tags.length + 2) (ser dst src tags type (cutOf data)).length (ser dst src tags type (cutOf data)).length) (cutOf data) := by
      have := (((hr.old u5).old u6).old u7).subB (lo := 12 + 4 * tags.length + 2) (hi := (ser dst src tags type (cutOf data)).length) (mx := (ser dst src tags type (cutOf data)).length) hl2 (Nat.le_refl _) (Nat.le_refl _)
      rwa [List.take_length, p3] at this
    refine c28T ((((hs3.old u4).old u5).old u6).old u7) (hs6.old u7) ((((hd3.old u4).old u5).old u6).old u7) hd6 (fun i hi => by rw [hf2 i hi, p4 i hi]) (fun i hi => by rw [hg2 i hi, p5 i hi]) (by omega) (by omega) fun w8 u8 => ⟨_, rfl, kp u8, rfl, ?_⟩
    exact ((((v3.then u4).then u5).then u6).then u7).then u8

theorem walk9 {H : Type} {W : World} (svs : List SV) (ds : List (DataW H)) (h : ArgsD X W [50] svs ds) (hsz : (DataW.weightsEach Try.prog [50] ds).all (· ≤ reachBytes) = true) :
    Ret Try.prog 9 svs W fun r w1 => r = .bool true ∧ Upd [] [] W w1 := by
  obtain ⟨x, _, d1, _, m1, rfl, rfl, h1, h⟩ := argsD_cons h
  obtain ⟨rfl, rfl⟩ := argsD_nil h
  obtain ⟨f, g, ts, ds', tags, type, data, rfl, hf, hg, hts, _, _, _, hd, hdb, hdc, _, _, _, _, _, rfl, hn⟩ := deep_frame h1
  exact c9 hf hg hts hd hdb hdc (few_tags hsz (hn.imp (fun h => ⟨h.1, by rw [h.2]; rfl⟩) id))
end Go.Vc.S5
