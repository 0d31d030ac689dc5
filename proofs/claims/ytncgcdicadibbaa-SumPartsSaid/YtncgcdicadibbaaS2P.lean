import Derived.Test.YtncgcdicadibbaaS2C
open Go Go.Vc Go.Proofs
set_option linter.unusedVariables false
set_option linter.unusedSimpArgs false
set_option autoImplicit false
namespace Go.Vc.S2

theorem ws_put {l : List Int} {p n : Int} (h0 : 0 ≤ p) (h1 : p + 1 < l.length) (h2 : p % 2 = 0) (hn : 0 ≤ n ∧ n ≤ 65535) :
    ws true (putOf l p n) = ws true l - (256 * bt l p + bt l (p + 1)) + n := by
  obtain ⟨q, rfl⟩ := Int.eq_ofNat_of_zero_le h0
  unfold putOf
  have e1 : ((q : Int) + 1).toNat = q + 1 := by omega
  rw [e1, Int.toNat_natCast]
  rw [ws_set _ _ _ _ (by simp; omega), ws_set _ _ _ _ (by omega)]
  rw [List.getElem_set_ne (by omega)]
  have hb1 : bt l ((q : Int) + 1) = l[q + 1]'(by omega) := by rw [bt_int (by omega) (by rw [e1]; omega)]; simp [e1]
  rw [hb1, bt_nat (by omega)]
  rw [wt_even (by omega), wt_even (by omega), wt_odd (by omega), wt_odd (by omega)]
  omega
theorem bt_put {l : List Int} {p n : Int} (h0 : 0 ≤ p) (h1 : p + 1 < l.length) : bt (putOf l p n) p = n / 256 % 256 ∧ bt (putOf l p n) (p + 1) = n % 256 := by
  have e1 : (p + 1).toNat = p.toNat + 1 := by omega
  constructor
  · rw [bt_int h0 (by rw [putOf_len]; omega)]
    unfold putOf
    rw [List.getElem_set_ne (by omega)]
    simp
  · rw [bt_int (by omega) (by rw [putOf_len]; omega)]
    unfold putOf
    simp

theorem own_good {l : List Int} {p : Int} (hb : Byt l) (h0 : 0 ≤ p) (h1 : p + 1 < l.length) (h2 : p % 2 = 0) :
    sumOf (putOf (putOf l p 0) p (65535 - sumOf (putOf l p 0))) = 65535 := by
  have hb0 := putOf_byt hb p 0
  have hw := ws_nonneg true hb0
  have hr := fd_range hw.1
  have hp := bt_put (n := 0) h0 h1
  have e := ws_put (l := putOf l p 0) (n := 65535 - sumOf (putOf l p 0)) h0 (by rw [putOf_len]; exact h1) h2 (by unfold sumOf; omega)
  rw [hp.1, hp.2] at e
  unfold sumOf at e ⊢
  rw [e]
  rw [fd_most (by omega)]
  unfold fd
  split <;> omega

theorem flip_bad {l : List Int} {q k : Nat} (hb : Byt l) (hq : q < l.length) (hk : k < 8) (h : sumOf l = 65535) :
    sumOf (l.set q ((l[q].toNat ^^^ 2 ^ k : Nat) : Int)) ≠ 65535 := by
  have hx := hb _ (List.getElem_mem hq)
  have hb1 : Byt (l.set q ((l[q].toNat ^^^ 2 ^ k : Nat) : Int)) := hb.set _ ⟨by omega, by
    have : l[q].toNat ^^^ 2 ^ k < 2 ^ 8 := Nat.xor_lt_two_pow (by omega) (Nat.pow_lt_pow_right (by omega) hk)
    omega⟩
  have hw := ws_nonneg true hb
  have hw1 := ws_nonneg true hb1
  have e := ws_set l q ((l[q].toNat ^^^ 2 ^ k : Nat) : Int) true hq
  have hx2 := xor_bit ⟨l[q].toNat, by omega⟩ ⟨k, hk⟩
  have hp := pow_mod ⟨k, hk⟩
  simp only at hx2 hp
  unfold sumOf at h ⊢
  rw [fd_most hw.1] at h
  intro h2
  rw [fd_most hw1.1] at h2
  generalize hv : l[q].toNat ^^^ 2 ^ k = v at *
  generalize hy : (2 : Nat) ^ k = y at *
  unfold wt at e
  split at e <;> rcases hx2 with hx2 | hx2 <;> omega
end Go.Vc.S2
