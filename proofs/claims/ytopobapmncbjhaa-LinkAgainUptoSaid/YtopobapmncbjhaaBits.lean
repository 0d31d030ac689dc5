import Derived.Test.YtopobapmncbjhaaG4
namespace Go.Vc
set_option linter.unusedVariables false
set_option linter.unusedSimpArgs false
set_option autoImplicit false

/-! ### bits of bytes -/
theorem par2 (y : Int) (n : Nat) : y % 2 ^ (n + 1) = y / 2 % 2 ^ n * 2 + y % 2 := by
  have hp : (2 : Int) ^ (n + 1) = 2 * 2 ^ n := by rw [Int.pow_succ, Int.mul_comm]
  have h0 : (0 : Int) < 2 ^ n := Int.pow_pos (by decide)
  have e1 : y = y / 2 * 2 + y % 2 := by omega
  have e2 : y / 2 = 2 ^ n * (y / 2 / 2 ^ n) + y / 2 % 2 ^ n := by have := Int.mul_ediv_add_emod (y / 2) (2 ^ n); omega
  have h1 := Int.emod_nonneg (y / 2) (Int.ne_of_gt h0)
  have h2 := Int.emod_lt_of_pos (y / 2) h0
  have e3 : y = 2 ^ (n + 1) * (y / 2 / 2 ^ n) + (y / 2 % 2 ^ n * 2 + y % 2) := by
    rw [hp, Int.mul_assoc]
    have : 2 * (2 ^ n * (y / 2 / 2 ^ n)) = 2 * (y / 2) - 2 * (y / 2 % 2 ^ n) := by omega
    omega
  have h3 : 0 ≤ y / 2 % 2 ^ n * 2 + y % 2 ∧ y / 2 % 2 ^ n * 2 + y % 2 < 2 ^ (n + 1) := by omega
  calc y % 2 ^ (n + 1) = (2 ^ (n + 1) * (y / 2 / 2 ^ n) + (y / 2 % 2 ^ n * 2 + y % 2)) % 2 ^ (n + 1) := by rw [← e3]
    _ = (y / 2 % 2 ^ n * 2 + y % 2) % 2 ^ (n + 1) := by rw [Int.add_comm, Int.add_mul_emod_self_left]
    _ = _ := Int.emod_eq_of_lt h3.1 h3.2

def bitAt (l : List Int) (j : Nat) : Int := bt l ((j / 8 : Nat) : Int) / 2 ^ (7 - j % 8) % 2
/-- n bits from o on, as a number -/
def bitsN (l : List Int) (o : Nat) : Nat → Int
  | 0 => 0
  | n + 1 => bitsN l o n * 2 + bitAt l (o + n)
theorem bitAt_r (l : List Int) (j : Nat) : 0 ≤ bitAt l j ∧ bitAt l j ≤ 1 := by unfold bitAt; omega
theorem bitsN_r (l : List Int) (o : Nat) : ∀ n, 0 ≤ bitsN l o n ∧ bitsN l o n < 2 ^ n
  | 0 => by simp [bitsN]
  | n + 1 => by
    have := bitsN_r l o n
    have := bitAt_r l (o + n)
    rw [Int.pow_succ]
    unfold bitsN
    omega
theorem bitsN_add (l : List Int) (o n : Nat) : ∀ m, bitsN l o (n + m) = bitsN l o n * 2 ^ m + bitsN l (o + n) m
  | 0 => by simp [bitsN]
  | m + 1 => by
    rw [← Nat.add_assoc, bitsN, bitsN_add l o n m, bitsN, Int.pow_succ, Nat.add_assoc, Int.add_mul, Int.mul_assoc]
    omega
/-- bits within one byte -/
theorem bitsN_in (l : List Int) (o q r : Nat) (ho : o = 8 * q + r) : ∀ n, r + n ≤ 8 → bitsN l o n = bt l (q : Int) / 2 ^ (8 - r - n) % 2 ^ n
  | 0, _ => by simp only [bitsN]; omega
  | n + 1, h => by
    subst ho
    have ih := bitsN_in l _ q r rfl n (by omega)
    have e1 : (8 * q + r + n) / 8 = q := by omega
    have e2 : 7 - (8 * q + r + n) % 8 = 8 - r - (n + 1) := by omega
    rw [bitsN, ih, bitAt, e1, e2, par2]
    have e3 : bt l (q : Int) / 2 ^ (8 - r - (n + 1)) / 2 = bt l (q : Int) / 2 ^ (8 - r - n) := by
      rw [show 8 - r - n = (8 - r - (n + 1)) + 1 by omega, Int.pow_succ]
      rw [Int.ediv_ediv_of_nonneg (by exact Int.le_of_lt (Int.pow_pos (by decide)))]
    rw [e3]
theorem bitsN_byte {l : List Int} (hb : Byt l) (q : Nat) : bitsN l (8 * q) 8 = bt l (q : Int) := by
  have := bitsN_in l (8 * q) q 0 (by omega) 8 (by omega)
  have := hb.bt (q : Int)
  simp at *
  omega
theorem bitsN_two {l : List Int} (hb : Byt l) (q : Nat) : bitsN l (8 * q) 16 = bt l (q : Int) * 256 + bt l ((q + 1 : Nat) : Int) := by
  have := bitsN_add l (8 * q) 8 8
  rw [bitsN_byte hb, show 8 * q + 8 = 8 * (q + 1) by omega, bitsN_byte hb] at this
  simpa using this
theorem bitsN_four {l : List Int} (hb : Byt l) (q : Nat) : bitsN l (8 * q) 32 = ((bt l (q : Int) * 256 + bt l ((q + 1 : Nat) : Int)) * 256 + bt l ((q + 2 : Nat) : Int)) * 256 + bt l ((q + 3 : Nat) : Int) := by
  have := bitsN_add l (8 * q) 16 16
  rw [bitsN_two hb, show 8 * q + 16 = 8 * (q + 2) by omega, bitsN_two hb] at this
  have e : ((q + 2 + 1 : Nat) : Int) = ((q + 3 : Nat) : Int) := rfl
  rw [show (2 : Int) ^ 16 = 65536 from rfl] at this
  show bitsN l (8 * q) (16 + 16) = _
  rw [this, e]
  omega

/-- the widths' sum -/
def wsum : List Int → Nat
  | [] => 0
  | w :: r => w.toNat + wsum r
theorem wsum_app : ∀ (a b : List Int), wsum (a ++ b) = wsum a + wsum b
  | [], b => by simp [wsum]
  | x :: a, b => by simp [wsum, wsum_app a b]; omega
theorem wsum_take_succ {l : List Int} {k : Nat} (h : k < l.length) : wsum (l.take (k + 1)) = wsum (l.take k) + (l[k]).toNat := by
  rw [take_snoc h, wsum_app]; simp [wsum]
theorem wsum_take_le (l : List Int) (k : Nat) : wsum (l.take k) ≤ wsum l := by
  have := congrArg wsum (List.take_append_drop k l)
  rw [wsum_app] at this
  omega
/-- the fields of these widths from bit o on -/
def fieldsOf (l : List Int) : Nat → List Int → List Int
  | _, [] => []
  | o, w :: r => bitsN l o w.toNat :: fieldsOf l (o + w.toNat) r
theorem fieldsOf_len (l : List Int) : ∀ (o : Nat) (ws : List Int), (fieldsOf l o ws).length = ws.length
  | _, [] => rfl
  | o, w :: r => by simp [fieldsOf, fieldsOf_len l _ r]
theorem fieldsOf_app (l : List Int) : ∀ (a b : List Int) (o : Nat), fieldsOf l o (a ++ b) = fieldsOf l o a ++ fieldsOf l (o + wsum a) b
  | [], b, o => by simp [fieldsOf, wsum]
  | x :: a, b, o => by simp [fieldsOf, wsum, fieldsOf_app l a b, Nat.add_assoc]
theorem fieldsOf_snoc (l : List Int) {ws : List Int} {k : Nat} (h : k < ws.length) : fieldsOf l 0 (ws.take (k + 1)) = fieldsOf l 0 (ws.take k) ++ [bitsN l (wsum (ws.take k)) (ws[k]).toNat] := by
  rw [take_snoc h, fieldsOf_app]; simp [fieldsOf]

/-! ### fields put together -/
/-- bit j of the fields that are written -/
def strm : List Int → List Int → Nat → Int
  | w :: ws, v :: vs, j => if j < w.toNat then v / 2 ^ (w.toNat - 1 - j) % 2 else strm ws vs (j - w.toNat)
  | _, _, _ => 0
theorem strm_r : ∀ (ws vs : List Int) (j : Nat), 0 ≤ strm ws vs j ∧ strm ws vs j ≤ 1
  | [], _, _ => by simp [strm]
  | _ :: _, [], _ => by simp [strm]
  | w :: ws, v :: vs, j => by
    unfold strm
    split
    · omega
    · exact strm_r ws vs _
theorem strm_at : ∀ (ws vs : List Int) (i m : Nat) (h : i < ws.length) (h2 : i < vs.length), m < (ws[i]).toNat → strm ws vs (wsum (ws.take i) + m) = vs[i] / 2 ^ ((ws[i]).toNat - 1 - m) % 2
  | w :: ws, v :: vs, 0, m, _, _, hm => by
    simp at hm
    simp [strm, wsum]
    intro h; omega
  | w :: ws, v :: vs, i + 1, m, h, h2, hm => by
    have := strm_at ws vs i m (by simpa using h) (by simpa using h2) (by simpa using hm)
    simp only [List.take_succ_cons, wsum, strm]
    rw [if_neg (by omega), show w.toNat + wsum (List.take i ws) + m - w.toNat = wsum (ws.take i) + m by omega, this]
    simp
/-- byte i, of which t bits are written -/
def byteT (S : Nat → Int) (t i : Nat) : Int :=
  let g := fun k : Nat => if 8 * i + k < t then S (8 * i + k) else 0
  g 0 * 128 + g 1 * 64 + g 2 * 32 + g 3 * 16 + g 4 * 8 + g 5 * 4 + g 6 * 2 + g 7
def bytesT (S : Nat → Int) (n t : Nat) : List Int := (List.range n).map (byteT S t)
theorem bytesT_len (S : Nat → Int) (n t : Nat) : (bytesT S n t).length = n := by simp [bytesT]
theorem byteT_r {S : Nat → Int} (hS : ∀ j, 0 ≤ S j ∧ S j ≤ 1) (t i : Nat) : 0 ≤ byteT S t i ∧ byteT S t i < 256 := by
  have g : ∀ k : Nat, 0 ≤ (if 8 * i + k < t then S (8 * i + k) else 0) ∧ (if 8 * i + k < t then S (8 * i + k) else 0) ≤ 1 := fun k => by
    split
    · exact hS _
    · omega
  have := g 0; have := g 1; have := g 2; have := g 3; have := g 4; have := g 5; have := g 6; have := g 7
  simp only [byteT]
  omega
theorem bytesT_byt {S : Nat → Int} (hS : ∀ j, 0 ≤ S j ∧ S j ≤ 1) (n t : Nat) : Byt (bytesT S n t) := fun x hx => by
  obtain ⟨i, _, rfl⟩ := List.mem_map.1 hx
  exact byteT_r hS t i
theorem bytesT_zero (S : Nat → Int) (n : Nat) : bytesT S n 0 = List.replicate n 0 := by
  refine List.ext_getElem (by simp [bytesT]) fun i h1 h2 => ?_
  simp [bytesT, byteT]
/-- one more bit -/
theorem byteT_step {S : Nat → Int} (hS : ∀ j, 0 ≤ S j ∧ S j ≤ 1) (t : Nat) : byteT S (t + 1) (t / 8) = byteT S t (t / 8) + S t * 2 ^ (7 - t % 8) ∧ byteT S t (t / 8) % 2 ^ (8 - t % 8) = 0 := by
  obtain ⟨q, r, hr, rfl⟩ : ∃ q r, r < 8 ∧ t = 8 * q + r := ⟨t / 8, t % 8, by omega, by omega⟩
  have e1 : (8 * q + r) / 8 = q := by omega
  have e2 : (8 * q + r) % 8 = r := by omega
  rw [e1, e2]
  have d : ∀ a b : Nat, (8 * q + a < 8 * q + b) = (a < b) := fun a b => by apply propext; omega
  have d2 : ∀ a b : Nat, (8 * q + a < 8 * q + b + 1) = (a < b + 1) := fun a b => by apply propext; omega
  simp only [byteT, d, d2]
  rcases (by omega : r = 0 ∨ r = 1 ∨ r = 2 ∨ r = 3 ∨ r = 4 ∨ r = 5 ∨ r = 6 ∨ r = 7) with rfl | rfl | rfl | rfl | rfl | rfl | rfl | rfl <;> simp <;> omega
theorem byteT_off (S : Nat → Int) (t i : Nat) (h : i ≠ t / 8) : byteT S (t + 1) i = byteT S t i := by
  have d : ∀ k : Nat, k < 8 → ((8 * i + k < t + 1) = (8 * i + k < t)) := fun k hk => by apply propext; omega
  simp only [byteT, d 0 (by omega), d 1 (by omega), d 2 (by omega), d 3 (by omega), d 4 (by omega), d 5 (by omega), d 6 (by omega), d 7 (by omega)]
theorem bytesT_set {S : Nat → Int} (hS : ∀ j, 0 ≤ S j ∧ S j ≤ 1) (n t : Nat) : (bytesT S n t).set (t / 8) (byteT S t (t / 8) + S t * 2 ^ (7 - t % 8)) = bytesT S n (t + 1) := by
  refine List.ext_getElem (by simp [bytesT]) fun i h1 h2 => ?_
  rw [List.getElem_set]
  split
  · rename_i h
    subst h
    simp only [bytesT, List.getElem_map, List.getElem_range]
    exact (byteT_step hS t).1.symm
  · rename_i h
    simp only [bytesT, List.getElem_map, List.getElem_range]
    exact (byteT_off S t i (fun e => h e.symm)).symm
/-- the fields' bytes -/
def packB (ws vs : List Int) (n : Nat) : List Int := bytesT (strm ws vs) n (8 * n)
theorem packB_len (ws vs : List Int) (n : Nat) : (packB ws vs n).length = n := bytesT_len _ _ _
theorem packB_byt (ws vs : List Int) (n : Nat) : Byt (packB ws vs n) := bytesT_byt (strm_r ws vs) _ _
end Go.Vc
