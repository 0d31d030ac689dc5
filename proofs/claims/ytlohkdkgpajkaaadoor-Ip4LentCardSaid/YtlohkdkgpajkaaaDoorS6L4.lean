import Derived.Test.YtlohkdkgpajkaaaDoorS6TxtL4
import Derived.Test.YtlohkdkgpajkaaaDoorS6L8
open Go Go.Vc Go.Proofs
set_option linter.unusedVariables false
set_option linter.unusedSimpArgs false
set_option autoImplicit false
namespace Go.Vc.S6

section
variable {v : IpV} {so sd : Sl} {os : List (Int × Sl)} {w : World}
/-- a datagram that was handed in -/
structure Hand (w : World) (v : IpV) (so sd : Sl) (os : List (Int × Sl)) : Prop where
  opts : Opts w so v.opts os
  few : v.opts.length ≤ 4398046511000
  small : ∀ o ∈ v.opts, o.data.length ≤ 140737488351232
  data : SeesB w sd v.data
  dlen : v.data.length ≤ 140737488351232
  fit : Fit v
  dcap : sd.len ≤ sd.cap
  ocap : so.len ≤ so.cap
  ocaps : ∀ y ∈ os, y.2.len ≤ y.2.cap
theorem Hand.old {w1 : World} {n : List Nat} (h : Hand w v so sd os) (u : Upd [] n w w1) : Hand w1 v so sd os := ⟨h.opts.old u, h.few, h.small, h.data.old u, h.dlen, h.fit, h.dcap, h.ocap, h.ocaps⟩
theorem c25H {R : SV → World → Prop} (hg : Sees cI64 w wid4 widths4) (h : Hand w v so sd os) (k : ∀ r w1, Upd [] [] w w1 → SeesB w1 r (serL v) → Own w.heap.size 1 w1 r → R (.tuple [.slice r, .int .i64 (ipChk v)]) w1) : Ret Tryd.prog 25 [ipSV v so sd] w R :=
  c25 hg h.opts (by have := h.few; omega) (fun o ho => by have := h.small o ho; omega) h.data (by have := h.dlen; omega) h.fit k
theorem c33H {R : SV → World → Prop} (h : Hand w v so sd os) (k : ∀ w1, Upd [] [] w w1 → R (.int .i64 (ipChk v)) w1) : Ret Tryd.prog 33 [ipSV v so sd] w R :=
  c33 h.opts (by have := h.few; omega) (fun o ho => by have := h.small o ho; omega) h.data.len (by have := h.dlen; omega) k

set_option maxRecDepth 10000 in
theorem c4 {bit : Int} (hg : Sees cI64 w wid4 widths4) (h : Hand w v so sd os) (hb1 : -9223372036854775808 ≤ bit) (hb2 : bit ≤ 9223372036854775807) : Ret Tryd.prog 4 [ipSV v so sd, .int .i64 bit] w fun r w1 => r = .bool true ∧ Upd [] [] w w1 := by
  refine f4_of _ _ _ _ _ _ _ _ _ _ _ _ _ _ _ _ ?_
  unfold vc4
  intro b w1 u1
  have n1 := u1.new (b := b) (by simp)
  refine c18 (hg.old u1) fun w2 u2 => ⟨_, rfl, kp u2, ?_⟩
  have v2 := u1.then u2
  refine c25H (hg.old v2) (h.old v2) fun s w3 u3 hs ho => ⟨_, _, rfl, kp u3, ?_⟩
  have v3 := v2.then u3
  intro J hJ
  refine brf rfl (c21 ⟨_, rfl, kp (Upd.refl _), ?_⟩)
  refine bre' (fun hne => ⟨rfl, v3⟩) (fun hc => ?_)
  unfold serL at hs
  rw [if_pos hc] at hs
  have hsl := ser_len v
  have hl := hs.len
  have hdl := h.data.len
  obtain ⟨_, _, _, _, _, _, _, h8, h9, _⟩ := ipChk_ok hc
  have hr8 := hdL_r h8
  rw [wr_i64 (x := (s.len : Int) - sd.len) (by omega) (by omega), wr_i64 (by omega) (by omega)]
  refine brd (fun _ => ⟨rfl, v3⟩) (fun h0 => brd (fun _ => ⟨rfl, v3⟩) (fun hlt => ?_))
  have main : ¬ (4 ≤ bit ∧ bit < 8) → J w3 := fun hne => by
    refine hJ _ ?_
    have e1 : wr .i64 (Int.tdiv bit 8) = ((bit / 8).toNat : Int) := by rw [tdiv_pos (by omega), wr_i64 (by omega) (by omega)]; omega
    have e2 : Int.tmod bit 8 = ((bit % 8).toNat : Int) := by rw [tmod_pos (by omega)]; omega
    rw [e1, e2]
    have hq : (bit / 8).toNat < hdL v := by omega
    have hq2 : (bit / 8).toNat < (ipSer v).length := by omega
    have hk : (bit % 8).toNat < 8 := by omega
    generalize hqd : (bit / 8).toNat = q at *
    generalize hkd : (bit % 8).toNat = k at *
    refine needB hs (by omega) (by omega) ⟨_, (by rw [Int.toNat_natCast]; exact byteC hs q hq2), need (by simp) (needB hs (by omega) (by omega) fun w4 u4 => ?_)⟩
    have hsb := ser_byt hc h.fit
    have hx := hsb.bt (q : Int)
    rw [Int.toNat_natCast, bit_mask k hk, ixor_u8 (b := ((2 ^ (7 - k) : Nat) : Int)) hx.1 hx.2 (Int.natCast_nonneg _) (by exact_mod_cast (Nat.pow_lt_pow_right (a := 2) (by omega) (show 7 - k < 8 by omega))), Int.toNat_natCast]
    have hy : bt (ipSer v) (q : Int) = (ipSer v)[q] := bt_nat hq2
    rw [hy]
    refine own_set (c := cU8) (x := (((ipSer v)[q].toNat ^^^ 2 ^ (7 - k) : Nat) : Int)) (hs.old u4) (ho.old u4) (by decide) hq2 rfl (fun x hx hm => by have := (ho.blk x hx).1; have := u2.size; simp at hm; omega) fun w5 h5 o5 u5 => ?_
    have hfl := flip_err hc h.fit hq (k := 7 - k) (by omega) (fun e => by omega) hq2
    have hb5 : Byt ((ipSer v).set q (((ipSer v)[q].toNat ^^^ 2 ^ (7 - k) : Nat) : Int)) := hsb.set _ ⟨by omega, by
      have h1 := hsb _ (List.getElem_mem hq2)
      have := xor_lt ⟨(ipSer v)[q].toNat, by omega⟩ ⟨7 - k, by omega⟩
      simp only at this
      omega⟩
    have v5 := (v3.then u4).step0 u5 (fun x hx => by have := (ho.blk x hx).1; have := v2.size; omega)
    refine c20' (hg.old v5) h5 hb5 o5.le (by simp; omega) fun v6 s6 os6 d6 w6 hv6 _ u6 _ _ _ _ _ _ _ _ _ => ⟨_, _, _, _, _, _, _, _, _, _, _, _, _, _, rfl, kp u6, ?_⟩
    intro b7 w7 u7
    refine c21 ⟨_, rfl, kp (Upd.refl _), ?_, (v5.then u6).then u7⟩
    rw [show (ipErr ((ipSer v).set q (((ipSer v)[q].toNat ^^^ 2 ^ (7 - k) : Nat) : Int)) != 0) = true by simpa using hfl]
  refine brd (fun h4 => brd (fun h8 => ⟨rfl, v3⟩) (fun h8 => ?_)) (fun h4 => ?_)
  · (repeat refine And.intro rfl ?_)
    exact main (by omega)
  · (repeat refine And.intro rfl ?_)
    exact main (by omega)
end
end Go.Vc.S6
