import Derived.Test.YtopobapmncbjhaaMemB
namespace Go.Vc
set_option linter.unusedVariables false
set_option linter.unusedSimpArgs false
set_option autoImplicit false

/-! ### steps of a statement -/
section
variable {X Y : Prop}
theorem brd {p : Prop} [Decidable p] (h1 : p → X) (h2 : ¬p → Y) : Br (decide p) X Y := Br_iff.2 ⟨fun h => h1 (of_decide_eq_true h), fun h => h2 (of_decide_eq_false h)⟩
theorem brb {c : Bool} (h1 : c = true → X) (h2 : c = false → Y) : Br c X Y := Br_iff.2 ⟨h1, h2⟩
theorem brn {c : Bool} (h1 : c = false → X) (h2 : c = true → Y) : Br (!c) X Y := Br_iff.2 ⟨fun h => h1 (by simpa using h), fun h => h2 (by simpa using h)⟩
theorem bre {α : Type} [BEq α] [LawfulBEq α] {a b : α} (h1 : a = b → X) (h2 : a ≠ b → Y) : Br (a == b) X Y := Br_iff.2 ⟨fun h => h1 (by simpa using h), fun h => h2 (by simpa using h)⟩
theorem bre' {α : Type} [BEq α] [LawfulBEq α] {a b : α} (h1 : a ≠ b → X) (h2 : a = b → Y) : Br (a != b) X Y := Br_iff.2 ⟨fun h => h1 (by simpa using h), fun h => h2 (by simpa using h)⟩
theorem brt {c : Bool} (h : c = true) (x : X) : Br c X Y := by subst h; exact x
theorem brf {c : Bool} (h : c = false) (y : Y) : Br c X Y := by subst h; exact y
theorem need {c : Bool} (h : c = true) (x : X) : Need c X := Need_iff.2 ⟨h, x⟩
theorem needIx {i n : Int} {o : Option Addr} (h0 : 0 ≤ i) (h1 : i < n) (h2 : o.isSome = true) (x : X) : Need (decide (0 ≤ i) && decide (i < n) && o.isSome) X := need (by simp [h0, h1, h2]) x
theorem needIx2 {i n : Int} (h0 : 0 ≤ i) (h1 : i < n) (x : X) : Need (decide (0 ≤ i) && decide (i < n)) X := need (by simp [h0, h1]) x
theorem needIxLe {i n : Int} (h0 : 0 ≤ i) (h1 : i ≤ n) (x : X) : Need (decide (0 ≤ i) && decide (i ≤ n)) X := need (by simp [h0, h1]) x
theorem needD {p : Prop} [Decidable p] (h : p) (x : X) : Need (decide p) X := need (by simp [h]) x
theorem needNe {a b : Int} (h : a ≠ b) (x : X) : Need (a != b) X := need (by simp [h]) x
theorem needSl {l h m : Int} (a : 0 ≤ h) (b : h ≤ m) (c : 0 ≤ l) (d : l ≤ h) (x : X) : Need (decide (0 ≤ h) && decide (h ≤ m) && (decide (0 ≤ l) && decide (l ≤ (h.toNat : Int)))) X :=
  need (by simp [a, b, c]; omega) x
end

theorem Ret.mono {P : Program} {f : Nat} {args : List SV} {w : World} {R R' : SV → World → Prop} (h : Ret P f args w R) (k : ∀ r w1, R r w1 → R' r w1) : Ret P f args w R' := by
  unfold Ret at *
  exact h.mono fun e w' ⟨r, h1, h2⟩ => ⟨r, h1, k r w' h2⟩

/-! ### numbers -/
theorem wr_i64 {x : Int} (h1 : -9223372036854775808 ≤ x) (h2 : x ≤ 9223372036854775807) : wr .i64 x = x := by
  unfold wr IntKind.wrap
  simp only [IntKind.bits, IntKind.signed, Bool.true_and, decide_eq_true_eq, ge_iff_le]
  split <;> omega
theorem wr_succ {q : Nat} (h : q < 9223372036854775807) : wr .i64 ((q : Int) + 1) = ((q + 1 : Nat) : Int) := by rw [wr_i64 (by omega) (by omega)]; omega
theorem wr_u64 {x : Int} (h1 : 0 ≤ x) (h2 : x ≤ 18446744073709551615) : wr .u64 x = x := by
  unfold wr IntKind.wrap
  simp only [IntKind.bits, IntKind.signed, Bool.false_and, Bool.false_eq_true, if_false]
  omega
theorem wr_u32 (x : Int) : wr .u32 x = x % 4294967296 := by
  unfold wr IntKind.wrap
  simp only [IntKind.bits, IntKind.signed, Bool.false_and, Bool.false_eq_true, if_false]
  omega
theorem wr_u16 (x : Int) : wr .u16 x = x % 65536 := by
  unfold wr IntKind.wrap
  simp only [IntKind.bits, IntKind.signed, Bool.false_and, Bool.false_eq_true, if_false]
  omega
theorem wr_u8 (x : Int) : wr .u8 x = x % 256 := by
  unfold wr IntKind.wrap
  simp only [IntKind.bits, IntKind.signed, Bool.false_and, Bool.false_eq_true, if_false]
  omega
theorem wr_range (k : IntKind) (x : Int) : k.min ≤ wr k x ∧ wr k x ≤ k.max := by
  cases k <;> simp only [wr, IntKind.wrap, IntKind.min, IntKind.max, IntKind.bits, IntKind.signed, Bool.true_and, Bool.false_and, decide_eq_true_eq, Bool.false_eq_true, if_false, if_true, ge_iff_le] <;> (try split) <;> omega
theorem wr_u8_range (x : Int) : 0 ≤ wr .u8 x ∧ wr .u8 x < 256 := by rw [wr_u8]; omega

theorem ofInt_toNat {n : Nat} {a : Int} (h : 0 ≤ a) (h1 : a < 2 ^ n) : (BitVec.ofInt n a).toNat = a.toNat := by
  rw [BitVec.toNat_ofInt]
  rw [Int.emod_eq_of_lt h (by exact_mod_cast h1)]
theorem wr_nat_i64 {n : Nat} (h : n < 9223372036854775808) : (IntKind.i64).wrap (n : Int) = n := by have := wr_i64 (x := n) (by omega) (by omega); exact this

theorem iand_nat {a b : Int} (ha : 0 ≤ a) (ha1 : a < 9223372036854775808) (hb : 0 ≤ b) (hb1 : b < 9223372036854775808) : iand .i64 a b = ((a.toNat &&& b.toNat : Nat) : Int) := by
  unfold iand ibits
  rw [BitVec.toNat_and, ofInt_toNat ha (by simp only [IntKind.bits]; omega), ofInt_toNat hb (by simp only [IntKind.bits]; omega)]
  have : a.toNat &&& b.toNat ≤ a.toNat := Nat.and_le_left
  exact wr_nat_i64 (by omega)
theorem ior_nat {a b : Int} (ha : 0 ≤ a) (ha1 : a < 9223372036854775808) (hb : 0 ≤ b) (hb1 : b < 9223372036854775808) : ior .i64 a b = ((a.toNat ||| b.toNat : Nat) : Int) := by
  unfold ior ibits
  rw [BitVec.toNat_or, ofInt_toNat ha (by simp only [IntKind.bits]; omega), ofInt_toNat hb (by simp only [IntKind.bits]; omega)]
  have : a.toNat ||| b.toNat < 2 ^ 63 := Nat.or_lt_two_pow (by omega) (by omega)
  exact wr_nat_i64 (by omega)
theorem ixor_nat {a b : Int} (ha : 0 ≤ a) (ha1 : a < 9223372036854775808) (hb : 0 ≤ b) (hb1 : b < 9223372036854775808) : ixor .i64 a b = ((a.toNat ^^^ b.toNat : Nat) : Int) := by
  unfold ixor ibits
  rw [BitVec.toNat_xor, ofInt_toNat ha (by simp only [IntKind.bits]; omega), ofInt_toNat hb (by simp only [IntKind.bits]; omega)]
  have : a.toNat ^^^ b.toNat < 2 ^ 63 := Nat.xor_lt_two_pow (by omega) (by omega)
  exact wr_nat_i64 (by omega)
theorem ixor_u8 {a b : Int} (ha : 0 ≤ a) (ha1 : a < 256) (hb : 0 ≤ b) (hb1 : b < 256) : ixor .u8 a b = ((a.toNat ^^^ b.toNat : Nat) : Int) := by
  unfold ixor ibits
  rw [BitVec.toNat_xor, ofInt_toNat ha (by simp only [IntKind.bits]; omega), ofInt_toNat hb (by simp only [IntKind.bits]; omega)]
  have : a.toNat ^^^ b.toNat < 2 ^ 8 := Nat.xor_lt_two_pow (by omega) (by omega)
  have h := wr_u8 ((a.toNat ^^^ b.toNat : Nat) : Int)
  unfold wr at h
  rw [h]; omega
theorem iand_u8 {a b : Int} (ha : 0 ≤ a) (ha1 : a < 256) (hb : 0 ≤ b) (hb1 : b < 256) : iand .u8 a b = ((a.toNat &&& b.toNat : Nat) : Int) := by
  unfold iand ibits
  rw [BitVec.toNat_and, ofInt_toNat ha (by simp only [IntKind.bits]; omega), ofInt_toNat hb (by simp only [IntKind.bits]; omega)]
  have : a.toNat &&& b.toNat ≤ a.toNat := Nat.and_le_left
  have h := wr_u8 ((a.toNat &&& b.toNat : Nat) : Int)
  unfold wr at h
  rw [h]; omega
theorem ior_u8 {a b : Int} (ha : 0 ≤ a) (ha1 : a < 256) (hb : 0 ≤ b) (hb1 : b < 256) : ior .u8 a b = ((a.toNat ||| b.toNat : Nat) : Int) := by
  unfold ior ibits
  rw [BitVec.toNat_or, ofInt_toNat ha (by simp only [IntKind.bits]; omega), ofInt_toNat hb (by simp only [IntKind.bits]; omega)]
  have : a.toNat ||| b.toNat < 2 ^ 8 := Nat.or_lt_two_pow (by omega) (by omega)
  have h := wr_u8 ((a.toNat ||| b.toNat : Nat) : Int)
  unfold wr at h
  rw [h]; omega

/-- a mask of low bits, of any number -/
theorem iand_mask {a : Int} (m : Nat) (hm : m < 63) : iand .i64 a (2 ^ m - 1) = a % 2 ^ m := by
  have hp : (2 : Int) ^ m < 2 ^ 63 := by exact_mod_cast Nat.pow_lt_pow_right (by omega) hm
  have hp' : (2 : Nat) ^ m < 2 ^ 63 := Nat.pow_lt_pow_right (by omega) hm
  have h1 : (1 : Nat) ≤ 2 ^ m := Nat.one_le_two_pow
  unfold iand ibits
  rw [BitVec.toNat_and]
  have e1 : (BitVec.ofInt (IntKind.i64).bits (2 ^ m - 1)).toNat = 2 ^ m - 1 := by
    rw [ofInt_toNat (by have : (1 : Int) ≤ 2 ^ m := by exact_mod_cast h1
                        omega) (by simp only [IntKind.bits]; omega)]
    have : ((2 : Int) ^ m - 1) = ((2 ^ m - 1 : Nat) : Int) := by push_cast [h1]; rfl
    rw [this]; rfl
  rw [e1, Nat.and_two_pow_sub_one_eq_mod]
  have e2 : (((BitVec.ofInt (IntKind.i64).bits a).toNat % 2 ^ m : Nat) : Int) = a % 2 ^ m := by
    rw [BitVec.toNat_ofInt]
    push_cast
    rw [Int.toNat_of_nonneg (Int.emod_nonneg _ (by simp [IntKind.bits]))]
    exact Int.emod_emod_of_dvd a (by simp only [IntKind.bits]; exact ⟨2 ^ (64 - m), by rw [← Int.pow_add]; congr 1; omega⟩)
  rw [e2]
  have h3 : 0 ≤ a % 2 ^ m := Int.emod_nonneg _ (by exact_mod_cast (Nat.pos_iff_ne_zero.1 h1))
  have h4 : a % 2 ^ m < 2 ^ m := Int.emod_lt_of_pos _ (by exact_mod_cast h1)
  exact wr_i64 (by omega) (by omega)
theorem and_65535 (a : Int) : iand .i64 a 65535 = a % 65536 := iand_mask 16 (by omega)
theorem and_255 (a : Int) : iand .i64 a 255 = a % 256 := iand_mask 8 (by omega)
theorem and_1 (a : Int) : iand .i64 a 1 = a % 2 := iand_mask 1 (by omega)
theorem and_4095 (a : Int) : iand .i64 a 4095 = a % 4096 := iand_mask 12 (by omega)
theorem and_15 (a : Int) : iand .i64 a 15 = a % 16 := iand_mask 4 (by omega)

theorem gshr_i64 (a b : Int) (h : b ≤ 64) : gshr .i64 a b = a.fdiv (2 ^ b.toNat) := by
  unfold gshr
  rw [Nat.min_eq_left (by simp only [IntKind.bits]; omega)]
theorem gshr8 (a : Int) : gshr .i64 a 8 = a / 256 := by rw [gshr_i64 _ _ (by omega)]; exact Int.fdiv_eq_ediv_of_nonneg _ (by decide)
theorem gshr16 (a : Int) : gshr .i64 a 16 = a / 65536 := by rw [gshr_i64 _ _ (by omega)]; exact Int.fdiv_eq_ediv_of_nonneg _ (by decide)
theorem gshr12 (a : Int) : gshr .i64 a 12 = a / 4096 := by rw [gshr_i64 _ _ (by omega)]; exact Int.fdiv_eq_ediv_of_nonneg _ (by decide)
theorem gshr13 (a : Int) : gshr .i64 a 13 = a / 8192 := by rw [gshr_i64 _ _ (by omega)]; exact Int.fdiv_eq_ediv_of_nonneg _ (by decide)
theorem gshr4 (a : Int) : gshr .i64 a 4 = a / 16 := by rw [gshr_i64 _ _ (by omega)]; exact Int.fdiv_eq_ediv_of_nonneg _ (by decide)
theorem gshr24 (a : Int) : gshr .i64 a 24 = a / 16777216 := by rw [gshr_i64 _ _ (by omega)]; exact Int.fdiv_eq_ediv_of_nonneg _ (by decide)
theorem gshl_i64 (a b : Int) (h : b ≤ 64) : gshl .i64 a b = wr .i64 (a * 2 ^ b.toNat) := by
  unfold gshl
  rw [Nat.min_eq_left (by simp only [IntKind.bits]; omega)]; rfl
theorem gshl8 (a : Int) : gshl .i64 a 8 = wr .i64 (a * 256) := gshl_i64 a 8 (by omega)
theorem gshl16 (a : Int) : gshl .i64 a 16 = wr .i64 (a * 65536) := gshl_i64 a 16 (by omega)
theorem gshl24 (a : Int) : gshl .i64 a 24 = wr .i64 (a * 16777216) := gshl_i64 a 24 (by omega)
theorem gshl12 (a : Int) : gshl .i64 a 12 = wr .i64 (a * 4096) := gshl_i64 a 12 (by omega)
theorem gshl13 (a : Int) : gshl .i64 a 13 = wr .i64 (a * 8192) := gshl_i64 a 13 (by omega)

/-- high and low bits together -/
theorem ior_add {a b : Int} (m : Nat) (ha : 0 ≤ a) (ha1 : a < 9223372036854775808) (hd : a % 2 ^ m = 0) (hb : 0 ≤ b) (hb1 : b < 2 ^ m) (hm : m < 63) : ior .i64 a b = a + b := by
  have hp : (2 : Int) ^ m < 2 ^ 63 := by exact_mod_cast Nat.pow_lt_pow_right (by omega) hm
  rw [ior_nat ha ha1 hb (by omega)]
  have e : a.toNat = 2 ^ m * (a.toNat / 2 ^ m) := by
    have h1 : a.toNat % 2 ^ m = 0 := by
      have : ((a.toNat % 2 ^ m : Nat) : Int) = 0 := by push_cast; rw [Int.toNat_of_nonneg ha]; exact hd
      exact_mod_cast this
    have := Nat.div_add_mod a.toNat (2 ^ m)
    omega
  have hb2 : b.toNat < 2 ^ m := by
    have : ((b.toNat : Nat) : Int) < ((2 ^ m : Nat) : Int) := by push_cast; omega
    exact_mod_cast this
  rw [e, ← Nat.two_pow_add_eq_or_of_lt hb2, ← e]
  push_cast
  omega

theorem tmod_pos {a b : Int} (h : 0 ≤ a) : Int.tmod a b = a % b := Int.tmod_eq_emod_of_nonneg h
theorem tdiv_pos {a b : Int} (h : 0 ≤ a) : Int.tdiv a b = a / b := Int.tdiv_eq_ediv_of_nonneg h
end Go.Vc
