import Derived.Test.YtncgcdicadibbaaS2T7
import Derived.Test.YtncgcdicadibbaaS2E
import Derived.Test.YtncgcdicadibbaaRowB
open Go Go.Vc Go.Proofs
set_option linter.unusedVariables false
set_option linter.unusedSimpArgs false
set_option autoImplicit false
namespace Go.Vc.S2

theorem ps_v4 : psErr 4 (fun _ => 0) 4 (fun _ => 0) 17 1 = 0 ∧ psOf 4 (fun _ => 0) 4 (fun _ => 0) 17 1 = [0, 0, 0, 0, 0, 0, 0, 0, 0, 17, 0, 1] := by
  have hv : verOf 4 (fun _ => 0) = 4 := by unfold verOf; simp
  have h1 : psErr 4 (fun _ => 0) 4 (fun _ => 0) 17 1 = 0 := by unfold psErr; rw [hv]; simp
  refine ⟨h1, ?_⟩
  unfold psOf
  rw [h1, hv]
  simp [arrL, List.range, List.range.loop]
theorem needC {i n : Int} {o : Option Addr} {X : Prop} (h1 : i < n) (h2 : o.isSome = true) (x : X) : Need (decide (i < n) && o.isSome) X := need (by simp [h1, h2]) x
theorem byteC {w : World} {s : Sl} {l : List Int} (h : SeesB w s l) (i : Nat) (hi : i < l.length) : w.cell? (s.at 1 i) = some (.int .u8 (bt l i)) := by
  have := h.byte (i := (i : Int)) (by omega) (by omega)
  rwa [Int.toNat_natCast] at this

theorem c7 {sv : Int} {sa : Nat → Int} {dv : Int} {da : Nat → Int} {proto n : Int} {w : World} :
    Ret Try.prog 7 [.struct [.int .i64 sv, .arr .u8 16 sa], .struct [.int .i64 dv, .arr .u8 16 da], .int .i64 proto, .int .i64 n] w fun r w1 => r = .bool true ∧ Upd [] [] w w1 := by
  refine f7_of _ _ _ _ _ _ _ _ ?_
  unfold vc7
  intro b b1 b2 w1 u1
  have hb : ∀ x ∈ [b, b1, b2], x < w1.heap.size := by
    have h1 := u1.new (b := b) (by simp)
    have h2 := u1.new (b := b1) (by simp)
    have h3 := u1.new (b := b2) (by simp)
    intro x hx
    simp at hx
    rcases hx with rfl | rfl | rfl <;> omega
  refine c26 fun s w2 u2 hs2 ho2 => ?_
  rw [ps_v4.1]
  rw [ps_v4.2] at hs2
  refine ⟨_, _, rfl, keeps_old u2, ?_⟩
  have v2 := u1.then u2
  intro J hJ
  refine brf (by decide) (brf (by rw [hs2.len]; decide) (needC (by rw [hs2.len]; decide) (hs2.isSome (by decide) (by decide)) ⟨_, byteC hs2 9 (by decide), brf (by decide) (needC (by rw [hs2.len]; decide) (hs2.isSome (by decide) (by decide)) ⟨_, byteC hs2 11 (by decide), brf (by decide) ⟨rfl, rfl, rfl, hJ _ ?_⟩⟩)⟩))
  clear hJ
  refine c26 fun s1 w3 u3 hs3 ho3 => ⟨_, _, rfl, keeps_old u3, ?_⟩
  have v3 := v2.then u3
  refine c27 fun s2 w4 u4 hs4 ho4 => ⟨_, _, rfl, keeps_old u4, ?_⟩
  have v4 := v3.then u4
  have hps := psOf_len sv sa dv da proto n
  generalize hP : psOf sv sa dv da proto n = P at hs3 hs4 hps
  generalize hE : psErr sv sa dv da proto n = e
  intro J hJ
  refine brf (by simp) (c22 (hs3.old u4) hs4 (by omega) fun w5 u5 => ?_)
  rw [decide_eq_true rfl]
  refine ⟨_, rfl, keeps_old u5, brf (by decide) ⟨rfl, rfl, rfl, hJ _ ?_⟩⟩
  clear hJ
  have v5 := v4.then u5
  have A5 := (hs2.old u3 |>.old u4).old u5
  have a5 := (ho2.old u3 |>.old u4).old u5
  have B5 := (hs3.old u4).old u5
  have b5 := (ho3.old u4).old u5
  have C5 := hs4.old u5
  have c5 := ho4.old u5
  -- the three lists lie apart
  have z1 := u1.size
  have z2 := u2.size
  have z3 := u3.size
  have z4 := u4.size
  have z5 := u5.size
  have hA := fun x hx => ho2.blk x hx
  have hB := fun x hx => ho3.blk x hx
  have hC := fun x hx => ho4.blk x hx
  refine fill_loop A5 a5 (by decide) rfl (fun x hx hm => by have := hA x hx; have := hb x hm; omega) (fun I M n w w' h1 h2 => ⟨rfl, rfl, rfl, h1, h2⟩) fun w6 u6 A6 a6 => ?_
  have v6 := v5.step0 u6 (fun x hx => by have := hA x hx; omega)
  have B6 := B5.upd u6 (fun x hx hm => by have := hA x hm; have := hB x hx; omega)
  have b6 := b5.upd u6 (fun x hx hm => by have := hA x hm; have := hB x hx; omega)
  have C6 := C5.upd u6 (fun x hx hm => by have := hA x hm; have := hC x hx; omega)
  have z6 := u6.size
  refine fill_loop B6 b6 (by omega) rfl (fun x hx hm => by have := hB x hx; have := hb x hm; omega) (fun I M n w w' h1 h2 => ⟨rfl, rfl, rfl, h1, h2⟩) fun w7 u7 B7 b7 => ?_
  have v7 := v6.step0 u7 (fun x hx => by have := hB x hx; omega)
  have A7 := A6.upd u7 (fun x hx hm => by have := hA x hx; have := hB x hm; omega)
  have a7 := a6.upd u7 (fun x hx hm => by have := hA x hx; have := hB x hm; omega)
  have C7 := C6.upd u7 (fun x hx hm => by have := hC x hx; have := hB x hm; omega)
  have z7 := u7.size
  intro b8 w8 u8 r8
  have v8 := v7.then u8
  have z8 := u8.size
  refine append_own (c := cU8) (new := [77, 77]) (A7.old u8) (a7.old u8) (rowB r8 _ rfl rfl) (by omega) (fun x hx hm => by have := hA x hx; have := hb x hm; omega) (by decide) (by simp) fun r w9 A9 a9 u9 q9 => ?_
  have v9 := v8.step0 u9 (fun x hx => by have := hA x hx; omega)
  have B9 := (B7.old u8).upd u9 (fun x hx hm => by have := hA x hm; have := hB x hx; omega)
  have b9 := (b7.old u8).upd u9 (fun x hx hm => by have := hA x hm; have := hB x hx; omega)
  have C9 := (C7.old u8).upd u9 (fun x hx hm => by have := hA x hm; have := hC x hx; omega)
  have z9 := u9.size
  intro b10 w10 u10 r10
  have v10 := v9.then u10
  have z10 := u10.size
  refine append_own (c := cU8) (new := [78, 78]) (B9.old u10) (b9.old u10) (rowB r10 _ rfl rfl) (by omega) (fun x hx hm => by have := hB x hx; have := hb x hm; omega) (by decide) (by simp; omega) fun r1 w11 B11 b11 u11 q11 => ?_
  have v11 := v10.step0 u11 (fun x hx => by have := hB x hx; omega)
  have hR : ∀ x ∈ r.blk, x ∉ s1.blk := fun x hx hm => by
    have := hB x hm
    rcases q9 x hx with h | h
    · have := hA x h; omega
    · omega
  have A11 := (A9.old u10).upd u11 hR
  have C11 := (C9.old u10).upd u11 (fun x hx hm => by have := hB x hm; have := hC x hx; omega)
  refine c26 fun s3 w12 u12 hs12 ho12 => ?_
  rw [hP] at hs12
  rw [hE]
  refine ⟨_, _, rfl, keeps_old u12, ?_⟩
  have v12 := v11.then u12
  intro J hJ
  refine brf (by simp) (c22 hs12 (C11.old u12) (by omega) fun w13 u13 => ?_)
  rw [decide_eq_true rfl]
  refine ⟨_, rfl, keeps_old u13, brf (by decide) ⟨rfl, rfl, rfl, hJ _ ?_⟩⟩
  clear hJ
  have A13 := (A11.old u12).old u13
  have B13 := (B11.old u12).old u13
  refine all_loop (m := 14) A13 (by simp) rfl (fun I M n w h1 h2 => ⟨rfl, rfl, rfl, h1, h2⟩) ?_
  refine all_loop (m := P.length + 2) B13 (by simp; omega) (by rw [← List.replicate_append_replicate]; rfl) (fun I M n w h1 h2 => ⟨rfl, rfl, rfl, h1, h2⟩) ?_
  exact ⟨rfl, v12.then u13⟩

theorem walk7 {H : Type} {W : World} (svs : List SV) (ds : List (DataW H)) (h : ArgsD X W [41, 41, 3, 3] svs ds) (_ : (DataW.weightsEach Try.prog [41, 41, 3, 3] ds).all (· ≤ reachBytes) = true) :
    Ret Try.prog 7 svs W fun r w1 => r = .bool true ∧ Upd [] [] W w1 := by
  obtain ⟨x, _, d1, _, m1, rfl, rfl, h1, h⟩ := argsD_cons h
  obtain ⟨y, _, d2, _, m2, rfl, rfl, h2, h⟩ := argsD_cons h
  obtain ⟨z, _, d3, _, m3, rfl, rfl, h3, h⟩ := argsD_cons h
  obtain ⟨z', _, d4, _, m4, rfl, rfl, h4, h⟩ := argsD_cons h
  obtain ⟨rfl, rfl⟩ := argsD_nil h
  obtain ⟨sv, sa, rfl, _⟩ := deep_ip (t := 41) rfl h1
  obtain ⟨dv, da, rfl, _⟩ := deep_ip (t := 41) rfl h2
  obtain ⟨a, rfl, ha⟩ := deep_int (t := 3) (k := .i64) rfl h3
  obtain ⟨b, rfl, hb'⟩ := deep_int (t := 3) (k := .i64) rfl h4
  exact c7
end Go.Vc.S2
