import Derived.Test.YtncgcdicadibbaaS2T4
import Derived.Test.YtncgcdicadibbaaS2P
import Derived.Test.YtncgcdicadibbaaRowA
open Go Go.Vc Go.Proofs
set_option linter.unusedVariables false
set_option linter.unusedSimpArgs false
set_option autoImplicit false
namespace Go.Vc.S2

theorem c4 {b : Sl} {l : List Int} {at_ bit : Int} {w : World} (h : SeesB w b l) (hb : Byt l) (hc : b.len ≤ b.cap) (ha : -9223372036854775808 ≤ at_ ∧ at_ ≤ 9223372036854775807) (hbit : -9223372036854775808 ≤ bit ∧ bit ≤ 9223372036854775807) :
    Ret Try.prog 4 [.slice b, .int .i64 at_, .int .i64 bit] w fun r w1 => r = .bool true ∧ Upd [] [] w w1 := by
  refine f4_of _ _ _ _ _ ?_
  unfold vc4
  refine c23 h hc fun s w1 u1 hs ho => ⟨_, rfl, ?_⟩
  intro J hJ
  have hev := evenOf_len l
  have hbe := evenOf_byt hb
  -- the law of a slice that is the call's own
  have main : ∀ (s : Sl) (l : List Int) (w1 : World), Upd [] [] w w1 → SeesB w1 s l → Own w.heap.size 1 w1 s → Byt l → l.length % 2 = 0 → l.length ≠ 0 → l.length ≤ 131072 → J s w1 := by
    clear hs ho hev hbe h hb u1
    intro s l w1 u1 hs ho hb he hne hle
    refine hJ s w1 ?_
    clear hJ
    have hsl := hs.len
    have hpl := placeOf_range (n := s.len) at_ (by omega) (by omega)
    refine c24 (by omega) (by omega) (by omega) ha ⟨_, rfl, ?_⟩
    generalize placeOf s.len at_ = p at hpl ⊢
    rw [hsl] at hpl
    refine c25 hs ho hpl.1 hpl.2.1 (by omega) fun w2 u2 hs2 ho2 => ⟨rfl, ?_⟩
    have v2 := u1.step0 u2 (fun b hb => (ho.blk b hb).1)
    have hb2 := putOf_byt hb p 0
    intro b3 w3 u3 h3
    have hs3 := hs2.old u3
    have p3 := rowP (n := 1) (cap := 1) h3 (ss := [s]) rfl rfl (ls := [_]) ⟨hs3, trivial⟩
    have ho3 := ho2.old u3
    have v3 := v2.then u3
    refine c17 p3 (by simpa using hb2) (by simp) (by simp [putOf_len]; omega) ⟨_, rfl, ?_⟩
    simp only [List.flatten_cons, List.flatten_nil, List.append_nil]
    have hcr := fd_range (ws_nonneg true hb2).1
    have hgood := own_good hb hpl.1 hpl.2.1 hpl.2.2
    have hcr2 : 0 ≤ 65535 - sumOf (putOf l p 0) ∧ 65535 - sumOf (putOf l p 0) ≤ 65535 := by unfold sumOf; omega
    generalize 65535 - sumOf (putOf l p 0) = c at hgood hcr2 ⊢
    intro J2 hJ2
    refine brd (fun g => by omega) (fun _ => brd (fun g => by omega) (fun _ => hJ2 _ ?_))
    clear hJ2
    refine c25 hs3 ho3 hpl.1 (by rw [putOf_len]; exact hpl.2.1) (by rw [putOf_len]; omega) fun w4 u4 hs4 ho4 => ⟨rfl, ?_⟩
    have hb4 := putOf_byt hb2 p c
    have v4 := v3.step0 u4 (fun b hb => (ho3.blk b hb).1)
    have hl4 : (putOf (putOf l p 0) p c).length = l.length := by rw [putOf_len, putOf_len]
    generalize putOf (putOf l p 0) p c = l4 at *
    intro J3 hJ3
    intro b5 w5 u5 h5
    have hs5 := hs4.old u5
    have ho5 := ho4.old u5
    have v5 := v4.then u5
    have p5 := rowP (n := 1) (cap := 1) h5 (ss := [s]) rfl rfl (ls := [_]) ⟨hs5, trivial⟩
    refine c18 p5 (by simpa using hb4) (by simp) (by simp; omega) ⟨_, rfl, ?_⟩
    simp only [List.flatten_cons, List.flatten_nil, List.append_nil, hgood]
    refine brf (by decide) ?_
    refine c13 fun w6 u6 => ⟨_, rfl, brf (by decide) ?_⟩
    have v6 := v5.then u6
    have hs6 := hs5.old u6
    have ho6 := ho5.old u6
    refine hJ3 _ ?_
    clear hJ3
    intro J4 hJ4
    have key : ∀ n : Int, 0 ≤ n → J4 n w6 := by
      intro n hn
      refine hJ4 n w6 ?_
      rw [hsl, wr_i64 (x := 8 * (l.length : Int)) (by omega) (by omega)]
      refine needNe (by omega) ?_
      rw [tmod_pos (b := 8 * (l.length : Int)) hn]
      have hm0 := Int.emod_nonneg n (show (8 * (l.length : Int)) ≠ 0 by omega)
      have hm1 := Int.emod_lt_of_pos n (show 0 < (8 * (l.length : Int)) by omega)
      generalize n % (8 * (l.length : Int)) = m at hm0 hm1 ⊢
      rw [tdiv_pos hm0, tmod_pos hm0, wr_i64 (x := m / 8) (by omega) (by omega)]
      rw [show (l.length : Int) = (s.len : Int) by rw [hsl]]
      refine needB hs6 (by omega) (by omega) ⟨_, hs6.byte (by omega) (by omega), needD (by omega) (needB hs6 (by omega) (by omega) ?_)⟩
      intro w7 u7
      have hs7 := hs6.old u7
      have ho7 := ho6.old u7
      have hbt := hb4.bt (m / 8)
      obtain ⟨k, hk⟩ := Int.eq_ofNat_of_zero_le (show 0 ≤ m % 8 by omega)
      have hk8 : k < 8 := by omega
      have hpk : (2 : Nat) ^ k < 2 ^ 8 := Nat.pow_lt_pow_right (by omega) hk8
      have hsh : gshl .u8 1 (m % 8) = ((2 ^ k : Nat) : Int) := by
        unfold gshl
        rw [hk, Int.toNat_natCast, Nat.min_eq_left (by simp only [IntKind.bits]; omega)]
        have := wr_u8 (1 * 2 ^ k)
        unfold wr at this
        rw [this]
        push_cast
        have h2 : (2 : Int) ^ k < 2 ^ 8 := by exact_mod_cast hpk
        have h3 : (0 : Int) ≤ 2 ^ k := Int.pow_nonneg (by decide)
        omega
      rw [hsh, ixor_u8 hbt.1 hbt.2 (Int.natCast_nonneg _) (Int.ofNat_lt.2 hpk), Int.toNat_natCast]
      have hbad := flip_bad (q := (m / 8).toNat) hb4 (by omega) hk8 hgood
      rw [← bt_int (by omega)] at hbad
      have hxb : 0 ≤ (((bt l4 (m / 8)).toNat ^^^ 2 ^ k : Nat) : Int) ∧ (((bt l4 (m / 8)).toNat ^^^ 2 ^ k : Nat) : Int) < 256 := by
        have : (bt l4 (m / 8)).toNat ^^^ 2 ^ k < 2 ^ 8 := Nat.xor_lt_two_pow (by omega) (by omega)
        omega
      refine own_set (c := cU8) hs7 ho7 (by decide) (by omega) (x := (((bt l4 (m / 8)).toNat ^^^ 2 ^ k : Nat) : Int)) rfl (by simp) fun w8 hs8 ho8 u8 => ?_
      intro b9 w9 u9 h9
      have p9 := rowP (n := 1) (cap := 1) h9 (ss := [s]) rfl rfl (ls := [_]) ⟨hs8.old u9, trivial⟩
      refine c18 p9 (by simpa using hb4.set _ hxb) (by simp) (by simp; omega) ⟨_, rfl, ?_⟩
      simp only [List.flatten_cons, List.flatten_nil, List.append_nil]
      refine ⟨?_, ((v6.then u7).step0 u8 (fun b hb => (ho7.blk b hb).1)).then u9⟩
      have : (sumOf (l4.set (m / 8).toNat (((bt l4 (m / 8)).toNat ^^^ 2 ^ k : Nat) : Int)) == 65535) = false := by rw [beq_eq_false_iff_ne]; exact hbad
      rw [this]; rfl
    refine brd (fun hlt => ?_) (fun hge => key _ (by omega))
    rw [wr_i64 (x := bit + 1) (by omega) (by omega), wr_i64 (by omega) (by omega)]
    exact key _ (by omega)
  rw [hs.len]
  refine bre (fun h0 => ?_) (fun h0 => main s _ w1 u1 hs ho hbe hev.1 (by omega) hev.2)
  intro b2 w2 u2 h2
  refine main _ [0, 0] w2 (u1.then u2) (rowB h2 [0, 0] rfl rfl) (own_row h2 ?_ rfl (by omega)) (by simp [Byt]) (by decide) (by decide) (by decide)
  have := u1.size
  have := u2.new (b := b2) (by simp)
  omega

theorem walk4 {H : Type} {W : World} (svs : List SV) (ds : List (DataW H)) (h : ArgsD X W [24, 3, 3] svs ds) (_ : (DataW.weightsEach Try.prog [24, 3, 3] ds).all (· ≤ reachBytes) = true) :
    Ret Try.prog 4 svs W fun r w1 => r = .bool true ∧ Upd [] [] W w1 := by
  obtain ⟨x, _, d1, _, m1, rfl, rfl, h1, h⟩ := argsD_cons h
  obtain ⟨y, _, d2, _, m2, rfl, rfl, h2, h⟩ := argsD_cons h
  obtain ⟨z, _, d3, _, m3, rfl, rfl, h3, h⟩ := argsD_cons h
  obtain ⟨rfl, rfl⟩ := argsD_nil h
  obtain ⟨s, l, rfl, hs, hb, hc, _⟩ := deep_bytes (t := 24) (e := 5) rfl rfl h1
  obtain ⟨a, rfl, ha⟩ := deep_int (t := 3) (k := .i64) rfl h2
  obtain ⟨b, rfl, hb'⟩ := deep_int (t := 3) (k := .i64) rfl h3
  exact c4 hs hb hc (wf_i64 ha) (wf_i64 hb')
end Go.Vc.S2
