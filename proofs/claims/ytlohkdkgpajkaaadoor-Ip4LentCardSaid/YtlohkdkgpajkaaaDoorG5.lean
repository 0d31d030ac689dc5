import Derived.Test.YtlohkdkgpajkaaaDoorG4
import Derived.Test.YtlohkdkgpajkaaaDoorG3
import Derived.OpenShut
import Derived.ProofKit
import Derived.ChangeOld
import Derived.JoinedCond
import Derived.Carry
import Derived.SizedLaws
import Derived.Deep.CondSized
section
namespace Go.Vc
set_option linter.unusedVariables false
set_option linter.unusedSimpArgs false
set_option autoImplicit false
theorem needC {i n : Int} {o : Option Addr} {X : Prop} (h1 : i < n) (h2 : o.isSome = true) (x : X) : Need (decide (i < n) && o.isSome) X := need (by simp [h1, h2]) x
theorem needIxT {i n : Int} {X : Prop} (h0 : 0 ≤ i) (h1 : i < n) (x : X) : Need (decide (0 ≤ i) && decide (i < n) && true) X := need (by simp [h0, h1]) x
theorem byteC {w : World} {s : Sl} {l : List Int} (h : SeesB w s l) (i : Nat) (hi : i < l.length) : w.cell? (s.at 1 i) = some (.int .u8 (bt l i)) := by
  have := h.byte (i := (i : Int)) (by omega) (by omega)
  rwa [Int.toNat_natCast] at this
/-- a byte at a place that is written as a number -/
theorem needCB {w : World} {s : Sl} {l : List Int} (h : SeesB w s l) (i : Nat) {X : Prop} (hi : i < l.length) (x : X) : Need (decide ((i : Int) < (s.len : Int)) && s.ptr.isSome) X :=
  needC (by rw [h.len]; omega) (h.isSome (by decide) (by omega)) x
theorem flat1 {α : Type} (l : List α) : [l].flatten = l := by simp
theorem kp {bs : List Nat} {w w1 : World} {n : List Nat} (u : Upd [] n w w1) : Keeps bs w w1 := .inl u.forget
/-- blocks that stood, kept -/
theorem kpm {bs m n : List Nat} {w w1 : World} (u : Upd m n w w1) (h : ∀ b ∈ bs, b < w.heap.size) (hd : ∀ b ∈ bs, b ∉ m) : Keeps bs w w1 := .inr fun b hb => u.keep b (h b hb) (hd b hb)
theorem Own.blk_lt {N sz : Nat} {w : World} {s : Sl} (h : Own N sz w s) : ∀ b ∈ s.blk, b < w.heap.size := fun b hb => (h.blk b hb).2
theorem rep_add (n m : Nat) (v : Int) : List.replicate n v ++ List.replicate m v = List.replicate (n + m) v := List.replicate_append_replicate
end Go.Vc
end

section
namespace Go.Vc
set_option linter.unusedVariables false
set_option linter.unusedSimpArgs false
set_option autoImplicit false

/-! ### bits of bytes -/
theorem par2 (y : Int) (n : Nat) : y % 2 ^ (n + 1) = y / 2 % 2 ^ n * 2 + y % 2 := by
  have hp : (2 : Int) ^ (n + 1) = 2 * 2 ^ n := by rw [Int.pow_succ, Int.mul_comm]
  have h0 : (0 : Int) < 2 ^ n := Int.pow_pos (by decide)
  have e1 : y = y / 2 * 2 + y % 2 := by omega
  have e2 : y / 2 = 2 ^ n * (y / 2 / 2 ^ n) + y / 2 % 2 ^ n := by have := Int.mul_ediv_add_emod (y / 2) (2 ^ n); omega
  have h1 := Int.emod_nonneg (y / 2) (Int.ne_of_gt h0)
  have h2 := Int.emod_lt_of_pos (y / 2) h0
  have e3 : y = 2 ^ (n + 1) * (y / 2 / 2 ^ n) + (y / 2 % 2 ^ n * 2 + y % 2) := by
    rw [hp, Int.mul_assoc]
    have : 2 * (2 ^ n * (y / 2 / 2 ^ n)) = 2 * (y / 2) - 2 * (y / 2 % 2 ^ n) := by omega
    omega
  have h3 : 0 ≤ y / 2 % 2 ^ n * 2 + y % 2 ∧ y / 2 % 2 ^ n * 2 + y % 2 < 2 ^ (n + 1) := by omega
  calc y % 2 ^ (n + 1) = (2 ^ (n + 1) * (y / 2 / 2 ^ n) + (y / 2 % 2 ^ n * 2 + y % 2)) % 2 ^ (n + 1) := by rw [← e3]
    _ = (y / 2 % 2 ^ n * 2 + y % 2) % 2 ^ (n + 1) := by rw [Int.add_comm, Int.add_mul_emod_self_left]
    _ = _ := Int.emod_eq_of_lt h3.1 h3.2

def bitAt (l : List Int) (j : Nat) : Int := bt l ((j / 8 : Nat) : Int) / 2 ^ (7 - j % 8) % 2
/-- n bits from o on, as a number -/
def bitsN (l : List Int) (o : Nat) : Nat → Int
  | 0 => 0
  | n + 1 => bitsN l o n * 2 + bitAt l (o + n)
theorem bitAt_r (l : List Int) (j : Nat) : 0 ≤ bitAt l j ∧ bitAt l j ≤ 1 := by unfold bitAt; omega
theorem bitsN_r (l : List Int) (o : Nat) : ∀ n, 0 ≤ bitsN l o n ∧ bitsN l o n < 2 ^ n
  | 0 => by simp [bitsN]
  | n + 1 => by
    have := bitsN_r l o n
    have := bitAt_r l (o + n)
    rw [Int.pow_succ]
    unfold bitsN
    omega
theorem bitsN_add (l : List Int) (o n : Nat) : ∀ m, bitsN l o (n + m) = bitsN l o n * 2 ^ m + bitsN l (o + n) m
  | 0 => by simp [bitsN]
  | m + 1 => by
    rw [← Nat.add_assoc, bitsN, bitsN_add l o n m, bitsN, Int.pow_succ, Nat.add_assoc, Int.add_mul, Int.mul_assoc]
    omega
/-- bits within one byte -/
theorem bitsN_in (l : List Int) (o q r : Nat) (ho : o = 8 * q + r) : ∀ n, r + n ≤ 8 → bitsN l o n = bt l (q : Int) / 2 ^ (8 - r - n) % 2 ^ n
  | 0, _ => by simp only [bitsN]; omega
  | n + 1, h => by
    subst ho
    have ih := bitsN_in l _ q r rfl n (by omega)
    have e1 : (8 * q + r + n) / 8 = q := by omega
    have e2 : 7 - (8 * q + r + n) % 8 = 8 - r - (n + 1) := by omega
    rw [bitsN, ih, bitAt, e1, e2, par2]
    have e3 : bt l (q : Int) / 2 ^ (8 - r - (n + 1)) / 2 = bt l (q : Int) / 2 ^ (8 - r - n) := by
      rw [show 8 - r - n = (8 - r - (n + 1)) + 1 by omega, Int.pow_succ]
      rw [Int.ediv_ediv_of_nonneg (by exact Int.le_of_lt (Int.pow_pos (by decide)))]
    rw [e3]
theorem bitsN_byte {l : List Int} (hb : Byt l) (q : Nat) : bitsN l (8 * q) 8 = bt l (q : Int) := by
  have := bitsN_in l (8 * q) q 0 (by omega) 8 (by omega)
  have := hb.bt (q : Int)
  simp at *
  omega
theorem bitsN_two {l : List Int} (hb : Byt l) (q : Nat) : bitsN l (8 * q) 16 = bt l (q : Int) * 256 + bt l ((q + 1 : Nat) : Int) := by
  have := bitsN_add l (8 * q) 8 8
  rw [bitsN_byte hb, show 8 * q + 8 = 8 * (q + 1) by omega, bitsN_byte hb] at this
  simpa using this
theorem bitsN_four {l : List Int} (hb : Byt l) (q : Nat) : bitsN l (8 * q) 32 = ((bt l (q : Int) * 256 + bt l ((q + 1 : Nat) : Int)) * 256 + bt l ((q + 2 : Nat) : Int)) * 256 + bt l ((q + 3 : Nat) : Int) := by
  have := bitsN_add l (8 * q) 16 16
  rw [bitsN_two hb, show 8 * q + 16 = 8 * (q + 2) by omega, bitsN_two hb] at this
  have e : ((q + 2 + 1 : Nat) : Int) = ((q + 3 : Nat) : Int) := rfl
  rw [show (2 : Int) ^ 16 = 65536 from rfl] at this
  show bitsN l (8 * q) (16 + 16) = _
  rw [this, e]
  omega

/-- the widths' sum -/
def wsum : List Int → Nat
  | [] => 0
  | w :: r => w.toNat + wsum r
theorem wsum_app : ∀ (a b : List Int), wsum (a ++ b) = wsum a + wsum b
  | [], b => by simp [wsum]
  | x :: a, b => by simp [wsum, wsum_app a b]; omega
theorem wsum_take_succ {l : List Int} {k : Nat} (h : k < l.length) : wsum (l.take (k + 1)) = wsum (l.take k) + (l[k]).toNat := by
  rw [take_snoc h, wsum_app]; simp [wsum]
theorem wsum_take_le (l : List Int) (k : Nat) : wsum (l.take k) ≤ wsum l := by
  have := congrArg wsum (List.take_append_drop k l)
  rw [wsum_app] at this
  omega
/-- the fields of these widths from bit o on -/
def fieldsOf (l : List Int) : Nat → List Int → List Int
  | _, [] => []
  | o, w :: r => bitsN l o w.toNat :: fieldsOf l (o + w.toNat) r
theorem fieldsOf_len (l : List Int) : ∀ (o : Nat) (ws : List Int), (fieldsOf l o ws).length = ws.length
  | _, [] => rfl
  | o, w :: r => by simp [fieldsOf, fieldsOf_len l _ r]
theorem fieldsOf_app (l : List Int) : ∀ (a b : List Int) (o : Nat), fieldsOf l o (a ++ b) = fieldsOf l o a ++ fieldsOf l (o + wsum a) b
  | [], b, o => by simp [fieldsOf, wsum]
  | x :: a, b, o => by simp [fieldsOf, wsum, fieldsOf_app l a b, Nat.add_assoc]
theorem fieldsOf_snoc (l : List Int) {ws : List Int} {k : Nat} (h : k < ws.length) : fieldsOf l 0 (ws.take (k + 1)) = fieldsOf l 0 (ws.take k) ++ [bitsN l (wsum (ws.take k)) (ws[k]).toNat] := by
  rw [take_snoc h, fieldsOf_app]; simp [fieldsOf]

/-! ### fields put together -/
/-- bit j of the fields that are written -/
def strm : List Int → List Int → Nat → Int
  | w :: ws, v :: vs, j => if j < w.toNat then v / 2 ^ (w.toNat - 1 - j) % 2 else strm ws vs (j - w.toNat)
  | _, _, _ => 0
theorem strm_r : ∀ (ws vs : List Int) (j : Nat), 0 ≤ strm ws vs j ∧ strm ws vs j ≤ 1
  | [], _, _ => by simp [strm]
  | _ :: _, [], _ => by simp [strm]
  | w :: ws, v :: vs, j => by
    unfold strm
    split
    · omega
    · exact strm_r ws vs _
theorem strm_at : ∀ (ws vs : List Int) (i m : Nat) (h : i < ws.length) (h2 : i < vs.length), m < (ws[i]).toNat → strm ws vs (wsum (ws.take i) + m) = vs[i] / 2 ^ ((ws[i]).toNat - 1 - m) % 2
  | w :: ws, v :: vs, 0, m, _, _, hm => by
    simp at hm
    simp [strm, wsum]
    intro h; omega
  | w :: ws, v :: vs, i + 1, m, h, h2, hm => by
    have := strm_at ws vs i m (by simpa using h) (by simpa using h2) (by simpa using hm)
    simp only [List.take_succ_cons, wsum, strm]
    rw [if_neg (by omega), show w.toNat + wsum (List.take i ws) + m - w.toNat = wsum (ws.take i) + m by omega, this]
    simp
/-- byte i, of which t bits are written -/
def byteT (S : Nat → Int) (t i : Nat) : Int :=
  let g := fun k : Nat => if 8 * i + k < t then S (8 * i + k) else 0
  g 0 * 128 + g 1 * 64 + g 2 * 32 + g 3 * 16 + g 4 * 8 + g 5 * 4 + g 6 * 2 + g 7
def bytesT (S : Nat → Int) (n t : Nat) : List Int := (List.range n).map (byteT S t)
theorem bytesT_len (S : Nat → Int) (n t : Nat) : (bytesT S n t).length = n := by simp [bytesT]
theorem byteT_r {S : Nat → Int} (hS : ∀ j, 0 ≤ S j ∧ S j ≤ 1) (t i : Nat) : 0 ≤ byteT S t i ∧ byteT S t i < 256 := by
  have g : ∀ k : Nat, 0 ≤ (if 8 * i + k < t then S (8 * i + k) else 0) ∧ (if 8 * i + k < t then S (8 * i + k) else 0) ≤ 1 := fun k => by
    split
    · exact hS _
    · omega
  have := g 0; have := g 1; have := g 2; have := g 3; have := g 4; have := g 5; have := g 6; have := g 7
  simp only [byteT]
  omega
theorem bytesT_byt {S : Nat → Int} (hS : ∀ j, 0 ≤ S j ∧ S j ≤ 1) (n t : Nat) : Byt (bytesT S n t) := fun x hx => by
  obtain ⟨i, _, rfl⟩ := List.mem_map.1 hx
  exact byteT_r hS t i
theorem bytesT_zero (S : Nat → Int) (n : Nat) : bytesT S n 0 = List.replicate n 0 := by
  refine List.ext_getElem (by simp [bytesT]) fun i h1 h2 => ?_
  simp [bytesT, byteT]
/-- one more bit -/
theorem byteT_step {S : Nat → Int} (hS : ∀ j, 0 ≤ S j ∧ S j ≤ 1) (t : Nat) : byteT S (t + 1) (t / 8) = byteT S t (t / 8) + S t * 2 ^ (7 - t % 8) ∧ byteT S t (t / 8) % 2 ^ (8 - t % 8) = 0 := by
  obtain ⟨q, r, hr, rfl⟩ : ∃ q r, r < 8 ∧ t = 8 * q + r := ⟨t / 8, t % 8, by omega, by omega⟩
  have e1 : (8 * q + r) / 8 = q := by omega
  have e2 : (8 * q + r) % 8 = r := by omega
  rw [e1, e2]
  have d : ∀ a b : Nat, (8 * q + a < 8 * q + b) = (a < b) := fun a b => by apply propext; omega
  have d2 : ∀ a b : Nat, (8 * q + a < 8 * q + b + 1) = (a < b + 1) := fun a b => by apply propext; omega
  simp only [byteT, d, d2]
  rcases (by omega : r = 0 ∨ r = 1 ∨ r = 2 ∨ r = 3 ∨ r = 4 ∨ r = 5 ∨ r = 6 ∨ r = 7) with rfl | rfl | rfl | rfl | rfl | rfl | rfl | rfl <;> simp <;> omega
theorem byteT_off (S : Nat → Int) (t i : Nat) (h : i ≠ t / 8) : byteT S (t + 1) i = byteT S t i := by
  have d : ∀ k : Nat, k < 8 → ((8 * i + k < t + 1) = (8 * i + k < t)) := fun k hk => by apply propext; omega
  simp only [byteT, d 0 (by omega), d 1 (by omega), d 2 (by omega), d 3 (by omega), d 4 (by omega), d 5 (by omega), d 6 (by omega), d 7 (by omega)]
theorem bytesT_set {S : Nat → Int} (hS : ∀ j, 0 ≤ S j ∧ S j ≤ 1) (n t : Nat) : (bytesT S n t).set (t / 8) (byteT S t (t / 8) + S t * 2 ^ (7 - t % 8)) = bytesT S n (t + 1) := by
  refine List.ext_getElem (by simp [bytesT]) fun i h1 h2 => ?_
  rw [List.getElem_set]
  split
  · rename_i h
    subst h
    simp only [bytesT, List.getElem_map, List.getElem_range]
    exact (byteT_step hS t).1.symm
  · rename_i h
    simp only [bytesT, List.getElem_map, List.getElem_range]
    exact (byteT_off S t i (fun e => h e.symm)).symm
/-- the fields' bytes -/
def packB (ws vs : List Int) (n : Nat) : List Int := bytesT (strm ws vs) n (8 * n)
theorem packB_len (ws vs : List Int) (n : Nat) : (packB ws vs n).length = n := bytesT_len _ _ _
theorem packB_byt (ws vs : List Int) (n : Nat) : Byt (packB ws vs n) := bytesT_byt (strm_r ws vs) _ _
end Go.Vc
end

section
namespace Go.Vc
set_option linter.unusedVariables false
set_option linter.unusedSimpArgs false
set_option autoImplicit false

/-! ### boxes: slices of one element -/
abbrev bxS (b : Nat) : Sl := ⟨some ⟨b, 0, none⟩, 1, 1⟩
section
variable {α : Type} {c : Cod α} {w w1 : World} {b N : Nat} {x y : α}
structure Box (c : Cod α) (w : World) (b : Nat) (x : α) : Prop where
  sees : Sees c w (bxS b) [x]
  own : Own 0 c.sz w (bxS b)
theorem Box.mk' {e : Nat} {cs : List Value} (h : w.heap[b]? = some (.cells cs.toArray e (0, 0))) (hc : cs = c.enc x) : Box c w b x :=
  ⟨sees_row h [x] (by rw [hc]; simp [Cod.cells]) rfl, own_row h (Nat.zero_le _) (by rw [hc, c.len, Nat.one_mul]) (Nat.le_refl _)⟩
theorem Box.upd {m n : List Nat} (h : Box c w b x) (u : Upd m n w w1) (hm : b ∉ m) : Box c w1 b x := ⟨h.sees.upd u (by simpa [Sl.blk] using hm), h.own.upd u (by simpa [Sl.blk] using hm)⟩
theorem Box.old {n : List Nat} (h : Box c w b x) (u : Upd [] n w w1) : Box c w1 b x := h.upd u (by simp)
theorem Box.lt (h : Box c w b x) : b < w.heap.size := (h.own.blk b (by simp [Sl.blk])).2
theorem Box.at_ : (bxS b).at c.sz 0 = ⟨b, 0, none⟩ := by simp [Sl.at]
theorem Box.get (h : Box c w b x) (j : Nat) (hj : j < (c.enc x).length) : w.cell? ((⟨b, 0, none⟩ : Addr).add j) = some (c.enc x)[j] := by
  have := h.sees.elem (i := 0) (by simp) j (by simpa using hj)
  rw [Box.at_] at this
  simpa using this
theorem Box.set {bs : List Nat} {vs : List Value} {F : World → Prop} (h : Box c w b x) (hz : 0 < c.sz) (hv : vs = c.enc y) (hbs : b ∉ bs) (k : ∀ w1, Box c w1 b y → Upd [b] [] w w1 → F w1) : Store w ⟨b, 0, none⟩ vs bs F := by
  have := own_set (i := 0) (x := y) (vs := vs) (bs := bs) (F := F) h.sees h.own hz (by simp) hv (by simpa [Sl.blk] using hbs) fun w1 h1 o1 u1 => k w1 ⟨by simpa using h1, o1⟩ (by simpa [Sl.blk] using u1)
  rwa [Box.at_] at this
end
theorem Box.sl {w : World} {b : Nat} {s : Sl} (h : Box cSl w b s) : w.cell? ⟨b, 0, none⟩ = some s.val := by
  have := h.get 0 (by simp [cSl])
  rwa [add_zero] at this
theorem Box.i64 {w : World} {b : Nat} {n : Int} (h : Box cI64 w b n) : w.cell? ⟨b, 0, none⟩ = some (.int .i64 n) := by
  have := h.get 0 (by simp [cI64])
  rwa [add_zero] at this
theorem intAt {w : World} {s : Sl} {l : List Int} (h : Sees cI64 w s l) (i : Nat) (hi : i < l.length) : w.cell? (s.at 1 i) = some (.int .i64 l[i]) := by
  have := h.elem (i := i) hi 0 (by simp [cI64])
  rwa [add_zero] at this
theorem needI {X : Prop} {w : World} {s : Sl} {l : List Int} (h : Sees cI64 w s l) {i : Int} (h0 : 0 ≤ i) (h1 : i < l.length) (x : X) : Need (decide (0 ≤ i) && decide (i < (s.len : Int)) && s.ptr.isSome) X :=
  needIx h0 (by rw [h.len]; exact h1) (h.isSome (by decide) (by omega)) x
theorem row_ne {w : World} {a b e f : Nat} {x y : Array Value} {g g' : Nat × Nat} (h : w.heap[a]? = some (.cells x e g)) (k : w.heap[b]? = some (.cells y f g')) (hn : e ≠ f) : a ≠ b := by
  rintro rfl
  rw [h] at k
  injection k with k
  injection k with k1 k2 k3
  exact hn k2

/-! ### one bit more -/
theorem u64_id {n : Int} (h : 0 ≤ n) (h1 : n < 64) : wr .u64 n = n := wr_u64 h (by omega)
theorem bit_of {x : Int} {t : Nat} (hx : 0 ≤ x ∧ x < 256) : wr .i64 (iand .u8 (gshr .u8 x (wr .u64 (7 - wr .u64 (Int.tmod (t : Int) 8)))) 1) = x / 2 ^ (7 - t % 8) % 2 := by
  rw [tmod_pos (by omega), u64_id (n := (t : Int) % 8) (by omega) (by omega), u64_id (by omega) (by omega)]
  have e1 : gshr .u8 x (7 - (t : Int) % 8) = x / 2 ^ (7 - t % 8) := by
    unfold gshr
    rw [Int.fdiv_eq_ediv_of_nonneg _ (Int.le_of_lt (Int.pow_pos (by decide)))]
    congr 2
    simp only [IntKind.bits]
    omega
  have h1 : 0 ≤ x / 2 ^ (7 - t % 8) := Int.ediv_nonneg hx.1 (Int.le_of_lt (Int.pow_pos (by decide)))
  have h2 : x / 2 ^ (7 - t % 8) ≤ x := Int.ediv_le_self _ hx.1
  rw [e1, iand_u8 h1 (by omega) (by omega) (by omega)]
  have e2 : ((x / 2 ^ (7 - t % 8)).toNat &&& (1 : Int).toNat : Nat) = (x / 2 ^ (7 - t % 8)).toNat % 2 := Nat.and_one_is_mod _
  rw [e2, wr_i64 (by omega) (by omega)]
  omega
theorem bit_step {x v : Int} {t : Nat} (hx : 0 ≤ x ∧ x < 256) (hv : 0 ≤ v ∧ v < 4294967296) :
    ior .i64 (gshl .i64 v 1) (wr .i64 (iand .u8 (gshr .u8 x (wr .u64 (7 - wr .u64 (Int.tmod (t : Int) 8)))) 1)) = v * 2 + x / 2 ^ (7 - t % 8) % 2 := by
  rw [bit_of hx, gshl_i64 _ _ (by omega)]
  rw [show (2 : Int) ^ (1 : Int).toNat = 2 from rfl, wr_i64 (by omega) (by omega)]
  have : 0 ≤ x / 2 ^ (7 - t % 8) % 2 ∧ x / 2 ^ (7 - t % 8) % 2 < 2 := by omega
  rw [ior_add 1 (by omega) (by omega) (by omega) (by omega) (by omega) (by omega)]
theorem wsum_le {l : List Int} {m : Nat} (h : ∀ x ∈ l, x ≤ m) : wsum l ≤ m * l.length := by
  induction l with
  | nil => simp [wsum]
  | cons x l ih =>
    have := h x (by simp)
    have := ih fun y hy => h y (by simp [hy])
    simp only [wsum, List.length_cons, Nat.mul_add]
    omega
/-- a bit is laid in -/
theorem bit_put {x v : Int} {t : Nat} (hx : 0 ≤ x ∧ x < 256) (hd : x % 2 ^ (8 - t % 8) = 0) {m : Nat} (hm : m < 63) :
    ior .u8 x (gshl .u8 (wr .u8 (iand .i64 (gshr .i64 v (wr .u64 (m : Int))) 1)) (wr .u64 (7 - wr .u64 (Int.tmod (t : Int) 8)))) = x + v / 2 ^ m % 2 * 2 ^ (7 - t % 8) := by
  rw [tmod_pos (by omega), u64_id (n := (t : Int) % 8) (by omega) (by omega), u64_id (n := (m : Int)) (by omega) (by omega), u64_id (n := 7 - (t : Int) % 8) (by omega) (by omega), and_1]
  have e1 : gshr .i64 v (m : Int) = v / 2 ^ m := by
    rw [gshr_i64 _ _ (by omega), Int.fdiv_eq_ediv_of_nonneg _ (Int.le_of_lt (Int.pow_pos (by decide))), Int.toNat_natCast]
  rw [e1]
  have hb : 0 ≤ v / 2 ^ m % 2 ∧ v / 2 ^ m % 2 < 2 := by omega
  generalize v / 2 ^ m % 2 = y at *
  have e2 : wr .u8 y = y := by rw [wr_u8]; omega
  rw [e2]
  have e3 : gshl .u8 y (7 - (t : Int) % 8) = y * 2 ^ (7 - t % 8) := by
    unfold gshl
    have : min (7 - (t : Int) % 8).toNat (IntKind.u8).bits = 7 - t % 8 := by simp only [IntKind.bits]; omega
    rw [this]
    have hr : t % 8 < 8 := by omega
    have : 0 ≤ y * 2 ^ (7 - t % 8) ∧ y * 2 ^ (7 - t % 8) < 256 := by
      generalize t % 8 = r at hr
      rcases (by omega : r = 0 ∨ r = 1 ∨ r = 2 ∨ r = 3 ∨ r = 4 ∨ r = 5 ∨ r = 6 ∨ r = 7) with rfl | rfl | rfl | rfl | rfl | rfl | rfl | rfl <;> simp <;> omega
    have h2 := wr_u8 (y * 2 ^ (7 - t % 8))
    unfold wr at h2
    rw [h2]; omega
  rw [e3]
  have hr : t % 8 < 8 := by omega
  generalize t % 8 = r at *
  have fin : ∀ a b : Int, ∀ k : Nat, k < 8 → 0 ≤ a → a < 256 → a % 2 ^ (k + 1) = 0 → (b = 0 ∨ b = 2 ^ k) → ior .u8 a b = a + b := by
    intro a b k hk ha ha1 hm hb
    have key : ∀ a : Fin 256, ∀ k : Fin 8, a.val % 2 ^ (k.val + 1) = 0 → (a.val ||| 2 ^ k.val) = a.val + 2 ^ k.val := by decide +kernel
    have hp : (2 : Int) ^ k = ((2 ^ k : Nat) : Int) := by push_cast; rfl
    have hlt : (2 : Nat) ^ k < 256 := Nat.lt_of_lt_of_le (Nat.pow_lt_pow_right (by omega) hk) (by decide)
    rcases hb with rfl | rfl
    · rw [ior_u8 ha ha1 (by omega) (by omega)]
      simp; omega
    · rw [hp, ior_u8 ha ha1 (by omega) (by omega)]
      have := key ⟨a.toNat, by omega⟩ ⟨k, hk⟩ (by
        simp only
        have : ((a.toNat % 2 ^ (k + 1) : Nat) : Int) = 0 := by push_cast; rw [Int.toNat_of_nonneg ha]; exact hm
        omega)
      simp only at this
      rw [Int.toNat_natCast, this]
      omega
  refine fin x _ (7 - r) (by omega) hx.1 hx.2 (by rw [show 7 - r + 1 = 8 - r by omega]; exact hd) ?_
  rcases (by omega : y = 0 ∨ y = 1) with rfl | rfl
  · left; simp
  · right; simp
end Go.Vc
end

section
namespace Go.Vc
open Go.ChangeShapes Go.WideShapes Go.ChangeAt Go.RowKit
set_option linter.unusedVariables false
set_option linter.unusedSimpArgs false
set_option autoImplicit false

/-! ### an argument that can be read as data, in the words of SV -/
mutual
def Ty.rd (f : Nat → Bool) : Ty → Bool
  | .int _ => true | .bool => true | .str => true | .arr _ _ => true
  | .slice e => f e
  | .struct _ ts => Ty.rds f ts
  | _ => false
def Ty.rds (f : Nat → Bool) : List Ty → Bool
  | [] => true
  | t :: r => t.rd f && Ty.rds f r
end
def rdN (X : Tab) : Nat → Nat → Bool
  | 0, _ => false
  | n + 1, t => (X.T t).rd (rdN X n)

section
variable {H : Type}
def All3 (R : Ty → SV → DataW H → Prop) : List Ty → List SV → List (DataW H) → Prop
  | [], [], [] => True
  | t :: ts, x :: xs, d :: ds => R t x d ∧ All3 R ts xs ds
  | _, _, _ => False

def Deep (X : Tab) (w : World) : Nat → Ty → SV → DataW H → Prop
  | 0, _, _, _ => False
  | m + 1, t, sv, d => match t with
    | .int k => ∃ n, sv = .int k n ∧ d = .lit (.int k n) ∧ (Lit.int k n).wf = true
    | .bool => ∃ b, sv = .bool b ∧ d = .lit (.bool b)
    | .str => ∃ s : ByteArray, sv = .str s ∧ d = .lit (.string s.data.toList) ∧ s.size ≤ maxLen
    | .arr k n => ∃ (f : Nat → Int) (l : List (DataW H)), sv = .arr k n f ∧ d = .agg l ∧ l.length = n ∧ ∀ i, i < n → l[i]? = some (.lit (.int k (f i))) ∧ (Lit.int k (f i)).wf = true
    | .struct _ ts => ∃ fs l, sv = .struct fs ∧ d = .agg l ∧ All3 (Deep X w m) ts fs l
    | .slice e => (sv = .slice ⟨none, 0, 0⟩ ∧ d = .nil) ∨ ∃ (a : Addr) (len cap : Nat) (vs : List SV) (ds : List (DataW H)), sv = .slice ⟨some a, len, cap⟩ ∧ d = .slice (ds.take len) (ds.drop len) ∧
        len ≤ cap ∧ cap ≤ maxLen ∧ vs.length = cap ∧ ds.length = cap ∧
        ∀ i sv d, vs[i]? = some sv → ds[i]? = some d → sv.shape (X.T e) = true ∧ Cells w (some (a.add (i * (X.T e).size))) sv.cells ∧ Deep X w m (X.T e) sv d
    | _ => False

variable {X : Tab} (ok : TabOK X) {enc : TypeId × Value → H} {w : World}
include ok in
theorem cellsOf_eq {t : Nat} (ht : isData (X.T t) = true) : X.P.cellsOf t = (X.T t).size := by
  obtain ⟨i, h1, h2, _⟩ := ok.info t ht
  simp [Program.cellsOf, h1, h2]

theorem rd_data {f : Nat → Bool} {t : Ty} (h : t.rd f = true) : isData t = true := by cases t <;> simp [Ty.rd] at h <;> rfl

theorem drop_take_split {cs : List Value} {o n : Nat} (h : o + n ≤ cs.length) : cs.drop o = (cs.drop o).take n ++ cs.drop (o + n) := by
  rw [← List.drop_drop, List.take_append_drop]

include ok in
theorem fields_deep {fuel m : Nat} {cs : List Value} {xs : List (DataW H × List MemPlace)}
    (ih : ∀ t cs d ps, (X.T t).rd (rdN X m) = true → DataW.trod enc X.P w 0 (fun _ => true) true fuel t cs = some (d, ps) → ∃ sv, cs = sv.cells ∧ sv.shape (X.T t) = true ∧ Deep X w fuel (X.T t) sv d) :
    ∀ (fs : List Field) (ts : List Ty) (off : Nat) (k : Nat), fieldsOK X fs ts off → Ty.rds (rdN X m) ts = true → xs.length = k + fs.length → cs.length = off + Ty.sizes ts →
    (∀ i f, fs[i]? = some f → DataW.trod enc X.P w 0 (fun _ => true) true fuel f.type (List.take (X.P.cellsOf f.type) (List.drop f.offset cs)) = xs[k + i]?) →
    ∃ svs, cs.drop off = SV.cellsL svs ∧ SV.shapes svs ts = true ∧ All3 (Deep X w fuel) ts svs ((xs.drop k).map (·.1))
  | [], [], off, k, _, _, hx, hc, _ => by
    simp [Ty.sizes] at hc hx
    exact ⟨[], by simp [SV.cellsL, hc], rfl, by rw [List.drop_of_length_le (by omega)]; exact trivial⟩
  | f :: fr, t :: tr, off, k, hf, hr, hx, hc, hk => by
    obtain ⟨h1, rfl, _, h4⟩ := hf
    simp only [Ty.rds, Bool.and_eq_true] at hr
    have hsz := cellsOf_eq ok (rd_data hr.1)
    simp only [Ty.sizes] at hc
    simp at hx
    have h0 := hk 0 f rfl
    rw [hsz, h1] at h0
    have hlt : k < xs.length := by omega
    rw [Nat.add_zero, List.getElem?_eq_getElem hlt] at h0
    obtain ⟨sv, e1, e2, e3⟩ := ih f.type _ _ _ hr.1 h0
    obtain ⟨svs, g1, g2, g3⟩ := fields_deep (cs := cs) (xs := xs) ih fr tr (off + (X.T f.type).size) (k + 1) h4 hr.2 (by omega) (by omega) (fun i g hg => by
      have := hk (i + 1) g (by simpa using hg)
      rwa [show k + 1 + i = k + (i + 1) by omega])
    refine ⟨sv :: svs, ?_, by simp [SV.shapes, e2, g2], ?_⟩
    · rw [drop_take_split (cs := cs) (o := off) (n := (X.T f.type).size) (by omega), e1, g1]
      rfl
    · rw [List.drop_eq_getElem_cons hlt]
      exact ⟨e3, g3⟩
  | [], _ :: _, _, _, hf, _, _, _, _ => by simp [fieldsOK] at hf
  | _ :: _, [], _, _, hf, _, _, _, _ => by simp [fieldsOK] at hf

include ok in
theorem elems_deep {fuel m e n : Nat} {cs : List Value} {xs : List (DataW H × List MemPlace)}
    (ih : ∀ t cs d ps, (X.T t).rd (rdN X m) = true → DataW.trod enc X.P w 0 (fun _ => true) true fuel t cs = some (d, ps) → ∃ sv, cs = sv.cells ∧ sv.shape (X.T t) = true ∧ Deep X w fuel (X.T t) sv d)
    (hr : (X.T e).rd (rdN X m) = true) (hx : xs.length = n) (hk : ∀ i, i < n → DataW.trod enc X.P w 0 (fun _ => true) true fuel e (List.take (X.P.cellsOf e) (List.drop (i * X.P.cellsOf e) cs)) = xs[i]?) :
    ∀ (j k : Nat), k + j = n → cs.length = n * (X.T e).size → 
    ∃ svs, cs.drop (k * (X.T e).size) = SV.cellsL svs ∧ SV.shapes svs (List.replicate j (X.T e)) = true ∧ All3 (Deep X w fuel) (List.replicate j (X.T e)) svs ((xs.drop k).map (·.1))
  | 0, k, hn, hc => by
    have : k = n := by omega
    subst this
    exact ⟨[], by simp [SV.cellsL, hc], rfl, by rw [List.drop_of_length_le (by omega)]; exact trivial⟩
  | j + 1, k, hn, hc => by
    have hsz := cellsOf_eq ok (rd_data hr)
    have hlt : k < xs.length := by omega
    have h0 := hk k (by omega)
    rw [hsz, List.getElem?_eq_getElem hlt] at h0
    obtain ⟨sv, e1, e2, e3⟩ := ih e _ _ _ hr h0
    obtain ⟨svs, g1, g2, g3⟩ := elems_deep ih hr hx hk j (k + 1) (by omega) hc
    have hm : (k + 1) * (X.T e).size ≤ n * (X.T e).size := Nat.mul_le_mul_right _ (by omega)
    rw [Nat.add_mul] at hm g1
    refine ⟨sv :: svs, ?_, by simp [List.replicate_succ, SV.shapes, e2, g2], ?_⟩
    · rw [drop_take_split (cs := cs) (o := k * (X.T e).size) (n := (X.T e).size) (by omega), e1]
      rw [Nat.one_mul] at g1
      rw [g1]; rfl
    · rw [List.drop_eq_getElem_cons hlt, List.replicate_succ]
      exact ⟨e3, g3⟩

theorem all3_ints {R : Ty → SV → DataW H → Prop} {k : IntKind} (hR : ∀ sv d, R (.int k) sv d → ∃ n, sv = .int k n ∧ d = .lit (.int k n) ∧ (Lit.int k n).wf = true) :
    ∀ (n : Nat) (svs : List SV) (ds : List (DataW H)), All3 R (List.replicate n (.int k)) svs ds →
    ∃ f : Nat → Int, SV.cellsL svs = (List.range n).map (fun i => .int k (f i)) ∧ ds.length = n ∧ ∀ i, i < n → ds[i]? = some (.lit (.int k (f i))) ∧ (Lit.int k (f i)).wf = true
  | 0, [], [], _ => ⟨fun _ => 0, by simp [SV.cellsL], rfl, by simp⟩
  | n + 1, sv :: svs, d :: ds, h => by
    rw [List.replicate_succ] at h
    obtain ⟨h1, h2⟩ := h
    obtain ⟨x, rfl, rfl, hw⟩ := hR _ _ h1
    obtain ⟨f, g1, g2, g3⟩ := all3_ints hR n svs ds h2
    refine ⟨fun i => if i = 0 then x else f (i - 1), ?_, by simp [g2], ?_⟩
    · rw [List.range_succ_eq_map, SV.cellsL, g1]
      simp [SV.cells, Function.comp_def]
    · intro i hi
      cases i with
      | zero => simp [hw]
      | succ i => simpa using g3 i (by omega)
  | 0, [], _ :: _, h => by simp [All3] at h
  | 0, _ :: _, _, h => by simp [All3] at h
  | n + 1, [], _, h => by simp [List.replicate_succ, All3] at h
  | n + 1, _ :: _, [], h => by simp [List.replicate_succ, All3] at h

include ok in
theorem deep_of_trod : ∀ (fuel m : Nat) (t : Nat) (cs : List Value) (d : DataW H) (ps : List MemPlace), (X.T t).rd (rdN X m) = true → DataW.trod enc X.P w 0 (fun _ => true) true fuel t cs = some (d, ps) →
    ∃ sv, cs = sv.cells ∧ sv.shape (X.T t) = true ∧ Deep X w fuel (X.T t) sv d := by
  intro fuel
  induction fuel with
  | zero => intro m t cs d ps _ h; simp [DataW.trod] at h
  | succ fuel ih =>
    intro m t cs d ps hr h
    have hty := ok.ty t
    have hsz := cellsOf_eq ok (rd_data hr)
    cases hT : X.T t with
    | int k =>
      rw [hT] at hty
      obtain ⟨n, rfl, hx, hw⟩ := DataW.trod_int (t := t) hty h
      simp at hx
      exact ⟨.int k n, rfl, by simp [SV.shape, ksame_refl], by simp only [Deep]; exact ⟨n, rfl, hx.1, hw⟩⟩
    | bool =>
      rw [hT] at hty
      obtain ⟨n, rfl, hx⟩ := DataW.trod_bool (t := t) hty h
      simp at hx
      exact ⟨.bool n, rfl, by simp [SV.shape], by simp only [Deep]; exact ⟨n, rfl, hx.1⟩⟩
    | str =>
      rw [hT] at hty
      obtain ⟨n, rfl, hx, hw⟩ := DataW.trod_string (t := t) hty h
      simp at hx
      exact ⟨.str n, rfl, by simp [SV.shape], by simp only [Deep]; exact ⟨n, rfl, hx.1, hw⟩⟩
    | arr k n =>
      rw [hT] at hty hsz
      obtain ⟨e, hu, he⟩ := hty
      obtain ⟨xs, m', hm', hx, hlen, hxs, hk⟩ := DataW.trod_array hu h
      have hm'' : fuel = m' := by omega
      subst hm''
      simp only [Prod.mk.injEq] at hx
      have hee : (X.T e).rd (rdN X m) = true := by rw [he]; rfl
      obtain ⟨svs, g1, g2, g3⟩ := elems_deep ok (ih m) hee hxs hk n 0 (by omega) (by rw [hlen, hsz, he]; simp [Ty.size])
      rw [he] at g3
      obtain ⟨f, q1, q2, q3⟩ := all3_ints (fun sv d hd => by
        cases fuel with
        | zero => simp [Deep] at hd
        | succ q => simpa only [Deep] using hd) n svs _ g3
      refine ⟨.arr k n f, ?_, by simp [SV.shape, ksame_refl], ?_⟩
      · simp at g1; rw [g1, q1]; rfl
      · simp only [Deep]
        exact ⟨f, _, rfl, hx.1, by simpa using q2, by simpa using q3⟩
    | struct b ts =>
      rw [hT] at hty hsz hr
      cases b with
      | false =>
        obtain ⟨fs, hu, hfo, _⟩ := hty
        obtain ⟨xs, m', hm', hx, hlen, hxs, hk⟩ := DataW.trod_struct hu h
        have hm'' : fuel = m' := by omega
        subst hm''
        simp only [Prod.mk.injEq] at hx
        obtain ⟨svs, g1, g2, g3⟩ := fields_deep ok (ih m) fs.toList ts 0 0 hfo (by simpa only [Ty.rd] using hr) (by simpa using hxs) (by rw [hlen, hsz]; simp [Ty.size]) (fun i f hf => by simpa using hk i f (by simpa using hf))
        refine ⟨.struct svs, by simpa [SV.cells] using g1, by simpa [SV.shape] using g2, ?_⟩
        simp only [Deep]
        exact ⟨svs, _, rfl, hx.1, by simpa using g3⟩
      | true =>
        obtain ⟨n, e, hu, rfl, hde⟩ := hty
        obtain ⟨xs, m', hm', hx, hlen, hxs, hk⟩ := DataW.trod_array hu h
        have hm'' : fuel = m' := by omega
        subst hm''
        simp only [Prod.mk.injEq] at hx
        have hss : ∀ n : Nat, Ty.sizes (List.replicate n (X.T e)) = n * (X.T e).size := by
          intro n
          induction n with
          | zero => simp [Ty.sizes]
          | succ n ihn => rw [List.replicate_succ, Ty.sizes, ihn, Nat.add_mul]; omega
        cases n with
        | zero =>
          have : cs = [] := by
            rw [hsz] at hlen
            simp [Ty.size, Ty.sizes] at hlen
            exact hlen
          subst this
          have hx0 : xs = [] := by simpa using hxs
          subst hx0
          exact ⟨.struct [], rfl, rfl, by simp only [Deep]; exact ⟨[], _, rfl, hx.1, by simp [All3]⟩⟩
        | succ n =>
          have hee : (X.T e).rd (rdN X m) = true := by simp only [Ty.rd, List.replicate_succ, Ty.rds, Bool.and_eq_true] at hr; exact hr.1
          obtain ⟨svs, g1, g2, g3⟩ := elems_deep ok (ih m) hee hxs hk (n + 1) 0 (by omega) (by rw [hlen, hsz, Ty.size, hss])
          refine ⟨.struct svs, by simpa [SV.cells] using g1, by simpa [SV.shape] using g2, ?_⟩
          simp only [Deep]
          exact ⟨svs, _, rfl, hx.1, by simpa using g3⟩
    | slice e =>
      rw [hT] at hty hsz hr
      have hre : rdN X m e = true := by simpa only [Ty.rd] using hr
      cases m with
      | zero => simp [rdN] at hre
      | succ m =>
        simp only [rdN] at hre
        have hse := cellsOf_eq ok (rd_data hre)
        rcases DataW.trod_slice (t := t) hty h with ⟨rfl, hx⟩ | ⟨a, len, cap, elems, rest, n, hn, rfl, hx, _, hl, hm, hel, hk, hsp, _⟩
        · simp at hx
          exact ⟨.slice ⟨none, 0, 0⟩, rfl, rfl, by unfold Deep; exact .inl ⟨rfl, hx.1⟩⟩
        · have hn' : fuel = n := by omega
          subst hn'
          obtain ⟨hrl, hrk⟩ := hsp rfl
          simp only [Prod.mk.injEq] at hx
          have each : ∀ i, i < cap → ∃ sv, sv.shape (X.T e) = true ∧ Cells w (some (a.add (i * (X.T e).size))) sv.cells ∧ ∃ d, ((elems ++ rest).map (·.1))[i]? = some d ∧ Deep X w fuel (X.T e) sv d := by
            intro i hi
            have hb : (w.cells? 0 (a.add (i * X.P.cellsOf e)) (X.P.cellsOf e)).bind (DataW.trod enc X.P w 0 (fun _ => true) true fuel e) = (elems ++ rest)[i]? := by
              by_cases hil : i < len
              · rw [hk i hil, List.getElem?_append_left (by omega)]
              · have := hrk (i - len) (by omega)
                rw [show len + (i - len) = i by omega] at this
                rw [this, List.getElem?_append_right (by omega), hel]
            have hlt : i < (elems ++ rest).length := by simp; omega
            rw [List.getElem?_eq_getElem hlt, Option.bind_eq_some_iff] at hb
            obtain ⟨cs', hcs, hy⟩ := hb
            obtain ⟨sv, e1, e2, e3⟩ := ih m e cs' _ _ hre hy
            refine ⟨sv, e2, ?_, _, by rw [List.getElem?_map, List.getElem?_eq_getElem hlt]; rfl, e3⟩
            rw [hse] at hcs
            obtain ⟨_, c2, c3⟩ := World.cells?_some hcs
            intro j hj
            rw [c3 j (by rw [← c2, e1]; exact hj), e1]
            simp [hj]
          have hds : ((elems ++ rest).map (·.1)).length = cap := by simp; omega
          let vs : List SV := (List.range cap).map fun i => if hi : i < cap then Classical.choose (each i hi) else .bool true
          refine ⟨.slice ⟨some a, len, cap⟩, rfl, rfl, ?_⟩
          simp only [Deep]
          refine .inr ⟨a, len, cap, vs, (elems ++ rest).map (·.1), rfl, ?_, hl, hm, by simp [vs], hds, ?_⟩
          · rw [hx.1, ← hel, ← (show (elems.map (·.1)).length = elems.length by simp), List.map_append, List.take_left, List.drop_left]
          · intro i sv d h1 h2
            have hi : i < cap := by
              have := (List.getElem?_eq_some_iff.1 h1).1
              simpa [vs] using this
            have hsv : sv = Classical.choose (each i hi) := by
              have : vs[i]? = some (Classical.choose (each i hi)) := by simp [vs, hi]
              rw [this] at h1
              simpa using h1.symm
            obtain ⟨k1, k2, d', k3, k4⟩ := Classical.choose_spec (each i hi)
            rw [k3] at h2
            obtain rfl : d' = d := by simpa using h2
            rw [hsv]
            exact ⟨k1, k2, k4⟩
    | ptr e => rw [hT] at hr; simp [Ty.rd] at hr
    | map => rw [hT] at hr; simp [Ty.rd] at hr
    | tuple ts => rw [hT] at hr; simp [Ty.rd] at hr
    | other => rw [hT] at hr; simp [Ty.rd] at hr
end
end Go.Vc
end

section
namespace Go.Vc
open Go.ChangeShapes Go.WideShapes Go.ChangeAt Go.RowKit
set_option linter.unusedVariables false
set_option linter.unusedSimpArgs false
set_option autoImplicit false

section
variable {H : Type} {X : Tab} (ok : TabOK X) {enc : TypeId × Value → H} {w : World}

def ArgsD (X : Tab) (w : World) : List Nat → List SV → List (DataW H) → Prop
  | [], [], [] => True
  | t :: ts, x :: xs, d :: ds => (∃ m, Deep X w m (X.T t) x d) ∧ x.shape (X.T t) = true ∧ ArgsD X w ts xs ds
  | _, _, _ => False

include ok in
theorem value_enc {t : Nat} {v : Value} {sv : SV} (hv : Value.okWide X.P w .any 0 t v ∨ ∃ b, Value.okWide X.P w .any b t v) (hs : sv.shape (X.T t) = true) (hr : isData (X.T t) = true) (hc : v.cells.toList = sv.cells) (hnp : ∀ e, X.T t ≠ .ptr e) (hnm : X.T t ≠ .map) : v = sv.enc := by
  obtain ⟨b, hv⟩ : ∃ b, Value.okWide X.P w .any b t v := by rcases hv with h | h; exact ⟨0, h⟩; exact h
  have hty := ok.ty t
  cases hT : X.T t with
  | int k =>
    rw [hT] at hty hs
    obtain ⟨n, rfl⟩ := okWide_int (t := t) hty hv
    rw [enc_scalar hs rfl] at hc
    simpa [Value.cells] using hc
  | bool =>
    rw [hT] at hty hs
    obtain ⟨n, rfl⟩ := okWide_bool (t := t) hty hv
    rw [enc_scalar hs rfl] at hc
    simpa [Value.cells] using hc
  | str =>
    rw [hT] at hty hs
    obtain ⟨n, rfl⟩ := okWide_string (t := t) hty hv
    rw [enc_scalar hs rfl] at hc
    simpa [Value.cells] using hc
  | slice e =>
    rw [hT] at hty hs
    obtain ⟨a, l, c, rfl⟩ := okWide_slice (t := t) hty hv
    rw [enc_scalar hs rfl] at hc
    simpa [Value.cells] using hc
  | arr k n =>
    rw [hT] at hty hs
    obtain ⟨e, hu, _⟩ := hty
    unfold Value.okWide at hv
    rw [hu] at hv
    obtain ⟨cs, rfl, _⟩ := hv
    rw [enc_agg hs rfl]
    simp only [Value.cells] at hc
    rw [← hc]
  | struct bb ts =>
    rw [hT] at hty hs
    have hu : ∃ cs, v = .agg cs := by
      cases bb with
      | false =>
        obtain ⟨fs, hu, _⟩ := hty
        unfold Value.okWide at hv
        rw [hu] at hv
        obtain ⟨cs, h, _⟩ := hv
        exact ⟨cs, h⟩
      | true =>
        obtain ⟨n, e, hu, _⟩ := hty
        unfold Value.okWide at hv
        rw [hu] at hv
        obtain ⟨cs, h, _⟩ := hv
        exact ⟨cs, h⟩
    obtain ⟨cs, rfl⟩ := hu
    rw [enc_agg hs rfl]
    simp only [Value.cells] at hc
    rw [← hc]
  | ptr e => exact absurd hT (hnp e)
  | map => exact absurd hT hnm
  | tuple ts => rw [hT] at hr; cases hr
  | other => rw [hT] at hr; cases hr

theorem rd_noptr {f : Nat → Bool} {t : Ty} (h : t.rd f = true) : (∀ e, t ≠ .ptr e) ∧ t ≠ .map := by cases t <;> simp [Ty.rd] at h <;> simp

include ok in
theorem args_deep {m : Nat} : ∀ {ts : List TypeId} {vs : List Value} {ds : List (DataW H)} {ps : List MemPlace}, DataW.TrodAll enc X.P w 0 (fun _ => true) true ts vs ds ps →
    (∀ (j : Nat) t v, ts[j]? = some t → vs[j]? = some v → ∃ b, Value.okWide X.P w .any b t v) → (ts.all fun t => (X.T t).rd (rdN X m)) = true →
    ∃ svs, vs = SV.encL svs ∧ ArgsD X w ts svs ds
  | [], vs, ds, ps, h, _, _ => by
    obtain ⟨rfl, rfl, rfl⟩ := trodAll_nil h
    exact ⟨[], rfl, trivial⟩
  | t :: ts, vs, ds, ps, h, hv, hr => by
    obtain ⟨v, vs', d, ds', p, q, rfl, rfl, rfl, ⟨fuel, hd⟩, hrest⟩ := trodAll_cons h
    simp only [List.all_cons, Bool.and_eq_true] at hr
    obtain ⟨sv, e1, e2, e3⟩ := deep_of_trod ok fuel m t _ _ _ hr.1 hd
    obtain ⟨svs, g1, g2⟩ := args_deep hrest (fun j t v h1 h2 => hv (j + 1) t v (by simpa using h1) (by simpa using h2)) hr.2
    have hve := value_enc ok (.inr (hv 0 t v rfl rfl)) e2 (rd_data hr.1) e1 (rd_noptr hr.1).1 (rd_noptr hr.1).2
    exact ⟨sv :: svs, by rw [hve, g1]; rfl, ⟨fuel, e3⟩, e2, g2⟩

/-- the arguments read as they did -/
theorem args_same {P : Program} (hl : laidOutB P = true) {W W' : World} (hb : Below W.heap.size W W') : ∀ {ts : List TypeId} {vs : List Value} {ds : List (DataW H)} {ps : List MemPlace},
    DataW.TrodAll enc P W 0 (fun _ => true) true ts vs ds ps → (ts.all fun t => P.readableRec t && decide (t < P.types.size)) = true →
    DataW.TrodAll enc P W' 0 (fun b => decide (b < W.heap.size)) true ts vs ds ps
  | [], vs, ds, ps, h, _ => by
    obtain ⟨rfl, rfl, rfl⟩ := trodAll_nil h
    exact trodAll_mk0
  | t :: ts, vs, ds, ps, h, hr => by
    obtain ⟨v, vs', d, ds', p, q, rfl, rfl, rfl, hd, hrest⟩ := trodAll_cons h
    simp only [List.all_cons, Bool.and_eq_true, decide_eq_true_eq] at hr
    have hlt : ∀ x ∈ p, x.block < W.heap.size := by obtain ⟨m, hm⟩ := hd; exact DataW.trod_lt m _ _ _ hm
    exact ⟨p, q, Below.trod hl hr.1.1 hr.1.2 hd hb hlt, args_same hl hb hrest hr.2, rfl⟩

include ok in
/-- a law's call, out of its contract -/
theorem law_post {fn : Func} {f : Nat} {spec : ChangeSpec} {ts : List TypeId} {tb : TypeId} {m : Nat} (hl : laidOutB X.P = true) (hts : fn.params.toList = ts) (hres : fn.resultTypes = #[tb]) (htb : X.P.underlying tb = some .bool)
    (hvars : spec.vars = []) (hspec : ∀ ds : List (DataW H), ds.length = ts.length → spec.fn H ds = { results := [.lit (.bool true)], args := ds })
    (hr : (ts.all fun t => (X.T t).rd (rdN X m)) = true) (hr2 : (ts.all fun t => X.P.readableRec t && decide (t < X.P.types.size)) = true)
    {W : World} {args : Array Value} {ds gs : List (DataW H)} {before : List MemPlace} {base : Nat}
    (hval : ∀ (j : Nat) t v, fn.params[j]? = some t → args[j]? = some v → Value.okWide X.P W .any base t v)
    (hW : DataW.Whole enc X.P fn.params.toList spec.vars false W args.toList ds gs before)
    (walk : ∀ svs, ArgsD X W ts svs ds → Ret X.P f svs W fun r w1 => r = .bool true ∧ Upd [] [] W w1) :
    Calls X.P f args W fun e W' => ∃ v, e = .returned v ∧ spec.post enc X.P fn false true false false W args v W' := by
  have hW' := hW
  obtain ⟨p, q, hA, hV, rfl, hfz, hnd⟩ := hW
  rw [hvars] at hV
  obtain ⟨rfl, rfl⟩ := trodVars_none hV
  rw [hts] at hA
  obtain ⟨svs, h1, h2⟩ := args_deep ok hA (fun j t v g1 g2 => ⟨base, hval j t v (by simpa [← hts] using g1) (by simpa using g2)⟩) hr
  have hargs : args = (SV.encL svs).toArray := by cases args; simp_all
  have hlen : ds.length = ts.length := by
    have : ∀ (ts : List Nat) (svs : List SV) (ds : List (DataW H)), ArgsD X W ts svs ds → ds.length = ts.length := by
      intro ts
      induction ts with
      | nil => intro svs ds h; cases svs <;> cases ds <;> simp [ArgsD] at h <;> rfl
      | cons t ts ih => intro svs ds h; cases svs <;> cases ds <;> simp [ArgsD] at h; simp [ih _ _ h.2.2]
    exact this _ _ _ h2
  have hw := walk svs h2
  unfold Ret at hw
  rw [← hargs] at hw
  refine hw.mono fun e W' ⟨r, he, hr', hu⟩ => ?_
  subst hr'
  subst he
  have hb := hu.below (by simp)
  have hsp := hspec ds hlen
  refine ⟨_, rfl, _, _, _, [], p, [], hW', ?_, ?_, ?_, hb.frame _, fun h => by cases h⟩
  · rw [hres, List.append_nil, hsp]
    exact trodAll_mk1 (shut_bool htb _)
  · rw [List.append_nil, hsp, hts]
    exact args_same hl hb hA hr2
  · rw [List.append_nil, hsp, hvars]
    rfl
end

/-! ### what is known of arguments -/
section
variable {H : Type} {X : Tab} {w : World}
theorem argsD_nil {svs : List SV} {ds : List (DataW H)} (h : ArgsD X w [] svs ds) : svs = [] ∧ ds = [] := by
  cases svs <;> cases ds <;> simp [ArgsD] at h
  exact ⟨rfl, rfl⟩
theorem argsD_cons {t : Nat} {ts : List Nat} {svs : List SV} {ds : List (DataW H)} (h : ArgsD X w (t :: ts) svs ds) :
    ∃ x xs d ds' m, svs = x :: xs ∧ ds = d :: ds' ∧ Deep X w m (X.T t) x d ∧ ArgsD X w ts xs ds' := by
  cases svs <;> cases ds <;> simp [ArgsD] at h
  obtain ⟨⟨m, h1⟩, h2, h3⟩ := h
  exact ⟨_, _, _, _, m, rfl, rfl, h1, h3⟩
theorem deep_int {m : Nat} {k : IntKind} {t : Nat} {x : SV} {d : DataW H} (hT : X.T t = .int k) (h : Deep X w m (X.T t) x d) : ∃ n, x = .int k n ∧ (Lit.int k n).wf = true := by
  rw [hT] at h
  cases m with
  | zero => exact h.elim
  | succ m => simp only [Deep] at h; obtain ⟨n, h1, h2, h3⟩ := h; exact ⟨n, h1, h3⟩
theorem deep_bool {m : Nat} {t : Nat} {x : SV} {d : DataW H} (hT : X.T t = .bool) (h : Deep X w m (X.T t) x d) : ∃ b, x = .bool b := by
  rw [hT] at h
  cases m with
  | zero => exact h.elim
  | succ m => simp only [Deep] at h; obtain ⟨n, h1, h2⟩ := h; exact ⟨n, h1⟩
theorem wf_i64 {n : Int} (h : (Lit.int .i64 n).wf = true) : -9223372036854775808 ≤ n ∧ n ≤ 9223372036854775807 := by
  simpa [Lit.wf, IntKind.min, IntKind.max, IntKind.signed, IntKind.bits] using h
theorem wf_u8 {n : Int} (h : (Lit.int .u8 n).wf = true) : 0 ≤ n ∧ n < 256 := by
  have : 0 ≤ n ∧ n ≤ 255 := by simpa [Lit.wf, IntKind.min, IntKind.max, IntKind.signed, IntKind.bits] using h
  omega
/-- bytes -/
theorem deep_bytes {m t e : Nat} {x : SV} {d : DataW H} (hT : X.T t = .slice e) (hE : X.T e = .int .u8) (h : Deep X w m (X.T t) x d) :
    ∃ (s : Sl) (l : List Int), x = .slice s ∧ SeesB w s l ∧ Byt l ∧ s.len ≤ s.cap ∧ s.cap ≤ maxLen ∧ (d = .nil ∧ s = ⟨none, 0, 0⟩ ∨ ∃ els sp, d = .slice els sp ∧ els.length = l.length ∧ els.length + sp.length = s.cap) := by
  rw [hT] at h
  cases m with
  | zero => exact h.elim
  | succ m =>
    simp only [Deep] at h
    rcases h with ⟨rfl, rfl⟩ | ⟨a, len, cap, vs, ds, rfl, rfl, hl, hm, hv, hd, h⟩
    · exact ⟨⟨none, 0, 0⟩, [], rfl, Sees.nil _ _ _ _, Byt.nil, Nat.le_refl _, by simp [maxLen], .inl ⟨rfl, rfl⟩⟩
    · rw [hE] at h
      let num : SV → Int := fun v => match v with | .int _ n => n | _ => 0
      have each : ∀ i (hi : i < cap), w.cell? (a.add i) = some (.int .u8 (num (vs[i]'(by omega)))) ∧ 0 ≤ num (vs[i]'(by omega)) ∧ num (vs[i]'(by omega)) < 256 := by
        intro i hi
        obtain ⟨h1, h2, h3⟩ := h i _ _ (List.getElem?_eq_getElem (by omega)) (List.getElem?_eq_getElem (by omega))
        cases m with
        | zero => exact h3.elim
        | succ m =>
          simp only [Deep] at h3
          obtain ⟨n, g1, _, g3⟩ := h3
          have := h2 0 (by rw [g1]; simp [SV.cells])
          rw [g1]
          simp [g1, SV.cells, Ty.size] at this
          exact ⟨this, wf_u8 g3⟩
      refine ⟨⟨some a, len, cap⟩, (vs.take len).map num, rfl, ⟨by simp; omega, ?_⟩, ?_, hl, hm, .inr ⟨_, _, rfl, by simp; omega, by simp; omega⟩⟩
      · intro i hi
        have hc : cU8.cells ((vs.take len).map num) = ((vs.take len).map num).map fun n => Value.int .u8 n := Cod.cells_map1 (fun _ => rfl) _
        simp only [hc, List.getElem_map, List.getElem_take]
        rw [hc] at hi
        simp at hi
        exact (each i (by omega)).1
      · intro y hy
        obtain ⟨v, hv', rfl⟩ := List.mem_map.1 hy
        obtain ⟨i, hi, rfl⟩ := List.getElem_of_mem hv'
        simp at hi
        simp only [List.getElem_take]
        exact (each i (by omega)).2
end
end Go.Vc
end

section
namespace Go.Vc
set_option linter.unusedVariables false
set_option linter.unusedSimpArgs false
set_option autoImplicit false
section
variable {H : Type} {X : Tab} {w : World}
theorem all3_nil {R : Ty → SV → DataW H → Prop} {xs : List SV} {ds : List (DataW H)} (h : All3 R [] xs ds) : xs = [] ∧ ds = [] := by
  cases xs <;> cases ds <;> simp [All3] at h
  exact ⟨rfl, rfl⟩
theorem all3_cons {R : Ty → SV → DataW H → Prop} {t : Ty} {ts : List Ty} {xs : List SV} {ds : List (DataW H)} (h : All3 R (t :: ts) xs ds) :
    ∃ x xs' d ds', xs = x :: xs' ∧ ds = d :: ds' ∧ R t x d ∧ All3 R ts xs' ds' := by
  cases xs <;> cases ds <;> simp [All3] at h
  exact ⟨_, _, _, _, rfl, rfl, h.1, h.2⟩
theorem dp_struct {m : Nat} {b : Bool} {ts : List Ty} {x : SV} {d : DataW H} (h : Deep X w m (.struct b ts) x d) : ∃ fs l m', x = .struct fs ∧ d = .agg l ∧ All3 (Deep X w m') ts fs l := by
  cases m with
  | zero => exact h.elim
  | succ m => simp only [Deep] at h; obtain ⟨fs, l, h1, h2, h3⟩ := h; exact ⟨fs, l, m, h1, h2, h3⟩
theorem dp_int {m : Nat} {k : IntKind} {x : SV} {d : DataW H} (h : Deep X w m (.int k) x d) : ∃ n, x = .int k n ∧ d = .lit (.int k n) ∧ (Lit.int k n).wf = true := by
  cases m with
  | zero => exact h.elim
  | succ m => simpa only [Deep] using h
theorem dp_bool {m : Nat} {x : SV} {d : DataW H} (h : Deep X w m .bool x d) : ∃ n, x = .bool n ∧ d = .lit (.bool n) := by
  cases m with
  | zero => exact h.elim
  | succ m => simpa only [Deep] using h
theorem dp_arr8 {m n : Nat} {x : SV} {d : DataW H} (h : Deep X w m (.arr .u8 n) x d) : ∃ f l, x = .arr .u8 n f ∧ d = .agg l ∧ l.length = n ∧ ∀ i, i < n → 0 ≤ f i ∧ f i < 256 := by
  cases m with
  | zero => exact h.elim
  | succ m =>
    simp only [Deep] at h
    obtain ⟨f, l, h1, h2, h3, h4⟩ := h
    exact ⟨f, l, h1, h2, h3, fun i hi => wf_u8 (h4 i hi).2⟩
/-- an address -/
theorem dp_ip {m : Nat} {x : SV} {d : DataW H} (h : Deep X w m (.struct false [.int .i64, .arr .u8 16]) x d) :
    ∃ (v : Int) (a : Nat → Int), x = .struct [.int .i64 v, .arr .u8 16 a] ∧ (-9223372036854775808 ≤ v ∧ v ≤ 9223372036854775807) ∧ ∀ i, i < 16 → 0 ≤ a i ∧ a i < 256 := by
  obtain ⟨fs, l, m', rfl, rfl, q⟩ := dp_struct h
  obtain ⟨x, _, _, _, rfl, rfl, h1, q⟩ := all3_cons q
  obtain ⟨y, _, _, _, rfl, rfl, h2, q⟩ := all3_cons q
  obtain ⟨rfl, rfl⟩ := all3_nil q
  obtain ⟨v, rfl, _, hw⟩ := dp_int h1
  obtain ⟨a, _, rfl, _, _, ha⟩ := dp_arr8 h2
  exact ⟨v, a, rfl, wf_i64 hw, ha⟩
theorem deep_ip {m t : Nat} {x : SV} {d : DataW H} (hT : X.T t = .struct false [.int .i64, .arr .u8 16]) (h : Deep X w m (X.T t) x d) :
    ∃ (v : Int) (a : Nat → Int), x = .struct [.int .i64 v, .arr .u8 16 a] ∧ (-9223372036854775808 ≤ v ∧ v ≤ 9223372036854775807) ∧ ∀ i, i < 16 → 0 ≤ a i ∧ a i < 256 := by
  rw [hT] at h; exact dp_ip h
/-- slices of bytes -/
theorem deep_parts {m t e e2 : Nat} {x : SV} {d : DataW H} (hT : X.T t = .slice e) (hE : X.T e = .slice e2) (hE2 : X.T e2 = .int .u8) (h : Deep X w m (X.T t) x d) :
    ∃ (s : Sl) (ls : List (List Int)) (ss : List Sl), x = .slice s ∧ Parts w s ls ss ∧ (∀ l ∈ ls, Byt l) ∧ s.len ≤ s.cap ∧ s.cap ≤ maxLen ∧ (∀ y ∈ ss, y.len ≤ y.cap) ∧
      (d = .nil ∧ ls = [] ∨ ∃ els sp, d = .slice els sp ∧ els.length = ls.length ∧ ∀ i (hi : i < ls.length), ∃ m', Deep X w m' (X.T e) (.slice (ss.getD i Sl.nil)) (els.getD i .nil)) := by
  rw [hT] at h
  cases m with
  | zero => exact h.elim
  | succ m =>
    simp only [Deep] at h
    rcases h with ⟨rfl, rfl⟩ | ⟨a, len, cap, vs, ds, rfl, rfl, hl, hm, hv, hd, h⟩
    · exact ⟨⟨none, 0, 0⟩, [], [], rfl, Parts.nil _ _ _, by simp, Nat.le_refl _, by simp [maxLen], by simp, .inl ⟨rfl, rfl⟩⟩
    · have each : ∀ i (hi : i < cap), ∃ (s : Sl) (l : List Int), vs[i]'(by omega) = .slice s ∧ SeesB w s l ∧ Byt l ∧ s.len ≤ s.cap ∧ w.cell? (a.add i) = some s.val ∧ Deep X w m (X.T e) (.slice s) (ds[i]'(by omega)) := by
        intro i hi
        obtain ⟨h1, h2, h3⟩ := h i _ _ (List.getElem?_eq_getElem (by omega)) (List.getElem?_eq_getElem (by omega))
        obtain ⟨s, l, g1, g2, g3, g4, _⟩ := deep_bytes hE hE2 h3
        refine ⟨s, l, g1, g2, g3, g4, ?_, g1 ▸ h3⟩
        have := h2 0 (by rw [g1]; simp [SV.cells])
        rw [hE] at this
        simpa [g1, SV.cells, Ty.size] using this
      let sl : SV → Sl := fun v => match v with | .slice s => s | _ => ⟨none, 0, 0⟩
      have hsl : ∀ i (hi : i < cap), vs[i]'(by omega) = .slice (sl (vs[i]'(by omega))) := by
        intro i hi
        obtain ⟨s, _, g1, _⟩ := each i hi
        rw [g1]
      let F : Nat → List Int := fun i => if hi : i < cap then Classical.choose (Classical.choose_spec (each i hi)) else []
      have hF : ∀ i (hi : i < cap), SeesB w (sl (vs[i]'(by omega))) (F i) ∧ Byt (F i) ∧ (sl (vs[i]'(by omega))).len ≤ (sl (vs[i]'(by omega))).cap ∧ w.cell? (a.add i) = some (sl (vs[i]'(by omega))).val ∧ Deep X w m (X.T e) (.slice (sl (vs[i]'(by omega)))) (ds[i]'(by omega)) := by
        intro i hi
        have hs := Classical.choose_spec (Classical.choose_spec (each i hi))
        have e1 : sl (vs[i]'(by omega)) = Classical.choose (each i hi) := congrArg sl hs.1
        have e2 : F i = Classical.choose (Classical.choose_spec (each i hi)) := by simp [F, hi]
        rw [e1, e2]
        exact hs.2
      refine ⟨⟨some a, len, cap⟩, (List.range len).map F, (vs.take len).map sl, rfl, ⟨⟨by simp; omega, ?_⟩, by simp; omega, ?_⟩, ?_, hl, hm, ?_, .inr ⟨_, _, rfl, by simp; omega, ?_⟩⟩
      · intro i hi
        have hc : cSl.cells ((vs.take len).map sl) = ((vs.take len).map sl).map Sl.val := Cod.cells_map1 (fun _ => rfl) _
        simp only [hc, List.getElem_map, List.getElem_take]
        rw [hc] at hi
        simp at hi
        exact (hF i (by omega)).2.2.2.1
      · intro i hi
        simp at hi
        simp only [List.getElem_map, List.getElem_take, List.getElem_range]
        exact (hF i (by omega)).1
      · intro l hl'
        obtain ⟨i, hi, rfl⟩ := List.mem_map.1 hl'
        exact (hF i (by have := List.mem_range.1 hi; omega)).2.1
      · intro y hy
        obtain ⟨v, hv', rfl⟩ := List.mem_map.1 hy
        obtain ⟨i, hi, rfl⟩ := List.getElem_of_mem hv'
        simp at hi
        simp only [List.getElem_take]
        exact (hF i (by omega)).2.2.1
      · intro i hi
        simp at hi
        have e1 : ((vs.take len).map sl).getD i Sl.nil = sl (vs[i]'(by omega)) := by
          rw [List.getD_eq_getElem?_getD, List.getElem?_eq_getElem (by simp; omega)]
          simp
        have e2 : (ds.take len).getD i .nil = ds[i]'(by omega) := by
          rw [List.getD_eq_getElem?_getD, List.getElem?_eq_getElem (by simp; omega)]
          simp
        rw [e1, e2]
        exact ⟨m, (hF i (by omega)).2.2.2.2⟩
end
end Go.Vc
end

section
namespace Go.Vc
set_option linter.unusedVariables false
set_option linter.unusedSimpArgs false
set_option autoImplicit false

/-! ### options: a kind and bytes -/
structure Opt where
  kind : Int
  data : List Int
  deriving DecidableEq
def cOpt : Cod (Int × Sl) := ⟨2, fun p => [.int .i64 p.1, p.2.val], fun _ => rfl, by simp [Value.oneCell', Sl.val]⟩
/-- a slice of options -/
structure Opts (w : World) (s : Sl) (l : List Opt) (os : List (Int × Sl)) : Prop where
  row : Sees cOpt w s os
  len : os.length = l.length
  kind : ∀ i (h : i < l.length), (os[i]'(by rw [len]; exact h)).1 = l[i].kind
  each : ∀ i (h : i < l.length), SeesB w (os[i]'(by rw [len]; exact h)).2 l[i].data

section
variable {w w1 : World} {s : Sl} {l : List Opt} {os : List (Int × Sl)}
theorem Opts.slen (h : Opts w s l os) : s.len = l.length := by rw [h.row.len, h.len]
theorem Opts.nil (w : World) (p : Option Addr) (cap : Nat) : Opts w ⟨p, 0, cap⟩ [] [] := ⟨Sees.nil _ _ _ _, rfl, by simp, by simp⟩
theorem Opts.upd {m n : List Nat} (h : Opts w s l os) (u : Upd m n w w1) (h1 : ∀ b ∈ s.blk, b ∉ m) (h2 : ∀ x ∈ os, ∀ b ∈ x.2.blk, b ∉ m) : Opts w1 s l os where
  row := h.row.upd u h1
  len := h.len
  kind := h.kind
  each i hi := (h.each i hi).upd u (h2 _ (List.getElem_mem _))
theorem Opts.old {n : List Nat} (h : Opts w s l os) (u : Upd [] n w w1) : Opts w1 s l os := h.upd u (by simp) (by simp)
theorem Opts.upd' {w0 : World} {m n : List Nat} (h0 : Opts w0 s l os) (h : Opts w s l os) (u : Upd m n w w1) (hm : ∀ b ∈ m, w0.heap.size ≤ b) : Opts w1 s l os :=
  ⟨h0.row.upd' h.row u hm, h.len, h.kind, fun i hi => (h0.each i hi).upd' (h.each i hi) u hm⟩
/-- an option's cells -/
theorem Opts.get (h : Opts w s l os) (i : Nat) (hi : i < l.length) :
    w.cell? (s.at 2 i) = some (.int .i64 (l[i]).kind) ∧ w.cell? ((s.at 2 i).add 1) = some ((os[i]'(by rw [h.len]; exact hi)).2).val ∧ SeesB w (os[i]'(by rw [h.len]; exact hi)).2 l[i].data ∧ s.ptr.isSome = true := by
  have hi' : i < os.length := by rw [h.len]; exact hi
  have he := h.row.elem hi'
  have h1 := he 0 (by simp [cOpt])
  have h2 := he 1 (by simp [cOpt])
  rw [add_zero] at h1
  rw [show cOpt.sz = 2 from rfl] at h1 h2
  refine ⟨?_, h2, h.each i hi, h.row.isSome (by decide) (by omega)⟩
  rw [h1]
  simp [cOpt, h.kind i hi]
theorem needO {X : Prop} (h : Opts w s l os) {i : Int} (h0 : 0 ≤ i) (h1 : i < l.length) (x : X) : Need (decide (0 ≤ i) && decide (i < (s.len : Int)) && s.ptr.isSome) X :=
  needIx h0 (by rw [h.slen]; exact h1) (h.get i.toNat (by omega)).2.2.2 x
theorem needO' {X : Prop} (h : Opts w s l os) {i : Int} (h0 : 0 ≤ i) (h1 : i < l.length) (x : X) : Need (decide (0 ≤ i) && decide (i < (l.length : Int)) && s.ptr.isSome) X :=
  needIx h0 h1 (h.get i.toNat (by omega)).2.2.2 x
/-- one more option -/
theorem Opts.snoc {r : Sl} {o : Opt} {x : Sl} (h : Opts w s l os) (hr : Sees cOpt w1 r (os ++ [(o.kind, x)])) (hx : SeesB w1 x o.data) (he : ∀ i (h2 : i < l.length), SeesB w1 (os[i]'(by rw [h.len]; exact h2)).2 l[i].data) : Opts w1 r (l ++ [o]) (os ++ [(o.kind, x)]) where
  row := hr
  len := by simp [h.len]
  kind i hi := by
    by_cases e : i < l.length
    · have hl := h.len
      rw [List.getElem_append_left (by omega), List.getElem_append_left (by omega)]; exact h.kind i e
    · have : i = l.length := by simp at hi; omega
      subst this
      have hl := h.len
      rw [List.getElem_append_right (by omega), List.getElem_append_right (by omega)]
      simp [h.len]
  each i hi := by
    by_cases e : i < l.length
    · have hl := h.len
      rw [List.getElem_append_left (by omega), List.getElem_append_left (by omega)]; exact he i e
    · have : i = l.length := by simp at hi; omega
      subst this
      have hl := h.len
      rw [List.getElem_append_right (by omega), List.getElem_append_right (by omega)]
      simp [h.len]
      exact hx
theorem Opts.take (h : Opts w s l os) {n : Nat} (hn : n ≤ l.length) (cap : Nat) : Opts w ⟨s.ptr, n, cap⟩ (l.take n) (os.take n) where
  row := h.row.take (by rw [h.len]; exact hn) cap
  len := by simp [h.len]
  kind i hi := by simp at hi; simp only [List.getElem_take]; exact h.kind i (by omega)
  each i hi := by simp at hi; simp only [List.getElem_take]; exact h.each i (by omega)
end

/-! ### options read -/
/-- where the options stand: each one's place and end. ok: may kind and length be? -/
def opos (ok : Int → Int → Bool) (l : List Int) : Nat → Nat → List (Nat × Nat) → Option (List (Nat × Nat))
  | 0, _, _ => none
  | f + 1, t, acc =>
    if l.length ≤ t then some acc
    else if bt l (t : Int) = 0 then some acc
    else if bt l (t : Int) = 1 then opos ok l f (t + 1) acc
    else if t + 1 = l.length then none
    else if ok (bt l (t : Int)) (bt l ((t + 1 : Nat) : Int)) = false then none
    else if l.length < t + (bt l ((t + 1 : Nat) : Int)).toNat then none
    else opos ok l f (t + (bt l ((t + 1 : Nat) : Int)).toNat) (acc ++ [(t, t + (bt l ((t + 1 : Nat) : Int)).toNat)])
def optsP (ok : Int → Int → Bool) (l : List Int) : Option (List (Nat × Nat)) := if 40 < l.length then none else opos ok l (l.length + 1) 0 []
def optAt (l : List Int) (p : Nat × Nat) : Opt := ⟨bt l (p.1 : Int), (l.take p.2).drop (p.1 + 2)⟩
/-- the slices of the options' data, windows of b -/
def osAt (b : Sl) (l : List Int) (p : Nat × Nat) : Int × Sl := (bt l (p.1 : Int), b.sub 1 (p.1 + 2) p.2 p.2)
/-- may these be the places of options? -/
def Places (l : List Int) (ps : List (Nat × Nat)) : Prop := ∀ p ∈ ps, p.1 + 2 ≤ p.2 ∧ p.2 ≤ l.length ∧ bt l ((p.1 + 1 : Nat) : Int) = ((p.2 - p.1 : Nat) : Int) ∧ bt l (p.1 : Int) ≠ 0 ∧ bt l (p.1 : Int) ≠ 1
theorem opos_places {ok : Int → Int → Bool} (hok : ∀ k n, ok k n = true → 2 ≤ n) {l : List Int} (hb : Byt l) : ∀ (f t : Nat) (acc ps : List (Nat × Nat)), Places l acc → opos ok l f t acc = some ps → Places l ps
  | 0, t, acc, ps, ha, h => by simp [opos] at h
  | f + 1, t, acc, ps, ha, h => by
    unfold opos at h
    split at h
    · injection h with h; subst h; exact ha
    split at h
    · injection h with h; subst h; exact ha
    split at h
    · exact opos_places hok hb f _ _ _ ha h
    split at h
    · cases h
    split at h
    · cases h
    rename_i h5
    split at h
    · cases h
    rename_i h6
    have h7 := hok (bt l (t : Int)) (bt l ((t + 1 : Nat) : Int)) (by simpa using h5)
    refine opos_places hok hb f _ _ _ (fun p hp => ?_) h
    rcases List.mem_append.1 hp with hp | hp
    · exact ha p hp
    · rw [List.mem_singleton] at hp
      subst hp
      refine ⟨?_, ?_, ?_, ?_, ?_⟩
      · show t + 2 ≤ t + _
        omega
      · show t + _ ≤ _
        omega
      · show bt l ((t + 1 : Nat) : Int) = _
        rw [Nat.add_sub_cancel_left]; omega
      · assumption
      · assumption
theorem optsP_places {ok : Int → Int → Bool} (hok : ∀ k n, ok k n = true → 2 ≤ n) {l : List Int} (hb : Byt l) {ps : List (Nat × Nat)} (h : optsP ok l = some ps) : Places l ps ∧ l.length ≤ 40 := by
  unfold optsP at h
  split at h
  · cases h
  · exact ⟨opos_places hok hb _ _ _ _ (by simp [Places]) h, by omega⟩
/-- the options out of places: windows -/
theorem opts_win {w : World} {b s : Sl} {l : List Int} {ps : List (Nat × Nat)} (hs : Sees cOpt w s (ps.map (osAt b l))) (hb : SeesB w b l) (hp : Places l ps) : Opts w s (ps.map (optAt l)) (ps.map (osAt b l)) where
  row := hs
  len := by simp
  kind i hi := by simp [osAt, optAt]
  each i hi := by
    simp only [List.getElem_map, osAt, optAt]
    have := hp _ (List.getElem_mem (by simpa using hi : i < ps.length))
    exact hb.subB (by omega) this.2.1 (Nat.le_refl _)

/-! ### options written -/
def optB (o : Opt) : List Int := [o.kind % 256, ((2 + o.data.length : Nat) : Int) % 256] ++ o.data
def pad4 (b : List Int) : List Int := b ++ List.replicate ((4 - b.length % 4) % 4) 0
def putO (l : List Opt) : List Int := pad4 (l.flatMap optB)
def okO (o : Opt) : Prop := 2 ≤ o.kind ∧ o.kind ≤ 255 ∧ o.data.length ≤ 38
instance (o : Opt) : Decidable (okO o) := by unfold okO; infer_instance
def putOk (l : List Opt) : Prop := (∀ o ∈ l, okO o) ∧ (l.flatMap optB).length ≤ 40
instance (l : List Opt) : Decidable (putOk l) := by unfold putOk; infer_instance
theorem optB_len (o : Opt) : (optB o).length = 2 + o.data.length := by simp [optB]; omega
theorem pad4_len (b : List Int) : (pad4 b).length % 4 = 0 ∧ b.length ≤ (pad4 b).length ∧ (pad4 b).length < b.length + 4 := by
  simp [pad4]; omega
theorem putO_len {l : List Opt} (h : putOk l) : (putO l).length ≤ 40 ∧ (putO l).length % 4 = 0 := by
  have := pad4_len (l.flatMap optB)
  have := h.2
  unfold putO
  omega
theorem optB_byt {o : Opt} (h : Byt o.data) : Byt (optB o) := by
  unfold optB
  refine Byt.app ?_ h
  simp [Byt]; omega
theorem flatMap_byt {l : List Opt} (h : ∀ o ∈ l, Byt o.data) : Byt (l.flatMap optB) := fun x hx => by
  obtain ⟨o, ho, hx⟩ := List.mem_flatMap.1 hx
  exact optB_byt (h o ho) x hx
theorem putO_byt {l : List Opt} (h : ∀ o ∈ l, Byt o.data) : Byt (putO l) := (flatMap_byt h).app (fun x hx => by have := List.eq_of_mem_replicate hx; omega)
end Go.Vc
end

section
namespace Go.Vc
set_option linter.unusedVariables false
set_option linter.unusedSimpArgs false
set_option autoImplicit false

theorem bt_app_r (a b : List Int) (i : Nat) : bt (a ++ b) ((a.length + i : Nat) : Int) = bt b (i : Int) := by
  simp only [bt, Int.toNat_natCast, List.getD_eq_getElem?_getD]
  rw [List.getElem?_append_right (by omega), Nat.add_sub_cancel_left]
theorem bt_app_l {a b : List Int} {i : Nat} (h : i < a.length) : bt (a ++ b) (i : Int) = bt a (i : Int) := by
  simp only [bt, Int.toNat_natCast, List.getD_eq_getElem?_getD]
  rw [List.getElem?_append_left h]
theorem bt_zeros {z : List Int} (hz : ∀ x ∈ z, x = 0) (i : Int) : bt z i = 0 := by
  simp only [bt, List.getD_eq_getElem?_getD]
  by_cases h : i.toNat < z.length
  · rw [List.getElem?_eq_getElem h]; exact hz _ (List.getElem_mem h)
  · rw [List.getElem?_eq_none (by omega)]; rfl

def optPs : Nat → List Opt → List (Nat × Nat)
  | _, [] => []
  | t, o :: r => (t, t + (2 + o.data.length)) :: optPs (t + (2 + o.data.length)) r
theorem opos_put {ok : Int → Int → Bool} {z : List Int} (hz : ∀ x ∈ z, x = 0) : ∀ (rest : List Opt) (pre : List Int) (f : Nat) (acc : List (Nat × Nat)), rest.length + 1 ≤ f →
    (∀ o ∈ rest, okO o ∧ ok o.kind ((2 + o.data.length : Nat) : Int) = true) → opos ok (pre ++ (rest.flatMap optB ++ z)) f pre.length acc = some (acc ++ optPs pre.length rest)
  | [], pre, f, acc, hf, _ => by
    obtain ⟨f, rfl⟩ : ∃ g, f = g + 1 := ⟨f - 1, by omega⟩
    unfold opos
    by_cases h : (pre ++ (([] : List Opt).flatMap optB ++ z)).length ≤ pre.length
    · rw [if_pos h]; simp [optPs]
    · rw [if_neg h, if_pos]
      · simp [optPs]
      · have := bt_app_r pre (([] : List Opt).flatMap optB ++ z) 0
        rw [Nat.add_zero] at this
        rw [this]
        exact bt_zeros (by simpa using hz) _
  | o :: r, pre, f, acc, hf, ho => by
    obtain ⟨f, rfl⟩ : ∃ g, f = g + 1 := ⟨f - 1, by omega⟩
    have hf' : r.length + 1 ≤ f := by simp at hf; omega
    obtain ⟨⟨h1, h2, h3⟩, hk⟩ := ho o (by simp)
    have e0 : (o :: r).flatMap optB ++ z = o.kind % 256 :: (((2 + o.data.length : Nat) : Int) % 256) :: (o.data ++ (r.flatMap optB ++ z)) := by simp [optB]
    have b0 : bt (pre ++ ((o :: r).flatMap optB ++ z)) (pre.length : Int) = o.kind := by
      have := bt_app_r pre ((o :: r).flatMap optB ++ z) 0
      rw [Nat.add_zero] at this
      rw [this, e0]
      simp [bt]
      omega
    have b1 : bt (pre ++ ((o :: r).flatMap optB ++ z)) ((pre.length + 1 : Nat) : Int) = ((2 + o.data.length : Nat) : Int) := by
      rw [bt_app_r, e0]
      simp [bt]
      omega
    have ih := opos_put hz r (pre ++ optB o) f (acc ++ [(pre.length, pre.length + (2 + o.data.length))]) hf' (fun x hx => ho x (by simp [hx]))
    have e1 : pre ++ optB o ++ (r.flatMap optB ++ z) = pre ++ ((o :: r).flatMap optB ++ z) := by simp
    have e2 : (pre ++ optB o).length = pre.length + (2 + o.data.length) := by rw [List.length_append, optB_len]
    rw [e1, e2] at ih
    have hlen : (pre ++ ((o :: r).flatMap optB ++ z)).length = pre.length + (2 + o.data.length) + (r.flatMap optB ++ z).length := by rw [← e1, List.length_append, e2]
    unfold opos
    rw [b0, b1, if_neg (by omega), if_neg (by omega), if_neg (by omega), if_neg (by omega), hk, if_neg (by simp), Int.toNat_natCast, if_neg (by omega), ih]
    simp [optPs]
theorem optAt_put (pre tail : List Int) (o : Opt) (h : okO o) : optAt (pre ++ (optB o ++ tail)) (pre.length, pre.length + (2 + o.data.length)) = o := by
  obtain ⟨h1, h2, h3⟩ := h
  have b0 : bt (pre ++ (optB o ++ tail)) (pre.length : Int) = o.kind := by
    have := bt_app_r pre (optB o ++ tail) 0
    rw [Nat.add_zero] at this
    rw [this]
    simp [optB, bt]
    omega
  have e : ((pre ++ (optB o ++ tail)).take (pre.length + (2 + o.data.length))).drop (pre.length + 2) = o.data := by
    have e1 : pre ++ (optB o ++ tail) = (pre ++ [o.kind % 256, ((2 + o.data.length : Nat) : Int) % 256]) ++ o.data ++ tail := by simp [optB]
    have e2 : pre.length + (2 + o.data.length) = ((pre ++ [o.kind % 256, ((2 + o.data.length : Nat) : Int) % 256]) ++ o.data).length := by simp; omega
    have e3 : pre.length + 2 = (pre ++ [o.kind % 256, ((2 + o.data.length : Nat) : Int) % 256]).length := by simp
    rw [e1, e2, List.take_left, e3, List.drop_left]
  unfold optAt
  rw [b0, e]
theorem optPs_map (z : List Int) : ∀ (rest : List Opt) (pre : List Int), (∀ o ∈ rest, okO o) → (optPs pre.length rest).map (optAt (pre ++ (rest.flatMap optB ++ z))) = rest
  | [], _, _ => rfl
  | o :: r, pre, h => by
    have ih := optPs_map z r (pre ++ optB o) (fun x hx => h x (by simp [hx]))
    have e1 : pre ++ optB o ++ (r.flatMap optB ++ z) = pre ++ (optB o ++ (r.flatMap optB ++ z)) := by simp
    have e2 : (pre ++ optB o).length = pre.length + (2 + o.data.length) := by rw [List.length_append, optB_len]
    rw [e1, e2] at ih
    simp only [optPs, List.map_cons, List.flatMap_cons, List.append_assoc]
    rw [optAt_put _ _ _ (h o (by simp)), ih]
theorem flat_ge (l : List Opt) : l.length ≤ (l.flatMap optB).length := by
  induction l with
  | nil => simp
  | cons o r ih => simp only [List.flatMap_cons, List.length_append, optB_len, List.length_cons]; omega
/-- what is written is read as it was -/
theorem optsP_put {ok : Int → Int → Bool} {l : List Opt} (h : putOk l) (hk : ∀ o ∈ l, ok o.kind ((2 + o.data.length : Nat) : Int) = true) : ∃ ps, optsP ok (putO l) = some ps ∧ ps.map (optAt (putO l)) = l := by
  have hl := putO_len h
  refine ⟨optPs 0 l, ?_, ?_⟩
  · unfold optsP
    rw [if_neg (by omega)]
    have := opos_put (ok := ok) (z := List.replicate ((4 - (l.flatMap optB).length % 4) % 4) 0) (fun x hx => List.eq_of_mem_replicate hx) l [] ((putO l).length + 1) [] (by
      have := flat_ge l
      have := (pad4_len (l.flatMap optB)).2.1
      unfold putO
      omega) (fun o ho => ⟨h.1 o ho, hk o ho⟩)
    simpa [putO, pad4] using this
  · have := optPs_map (List.replicate ((4 - (l.flatMap optB).length % 4) % 4) 0) l [] h.1
    simpa [putO, pad4] using this

def psLen (ps : List (Nat × Nat)) : Nat := (ps.map fun p => p.2 - p.1).sum
theorem opos_len {ok : Int → Int → Bool} {l : List Int} : ∀ (f t : Nat) (acc ps : List (Nat × Nat)), psLen acc ≤ t → t ≤ l.length → opos ok l f t acc = some ps → psLen ps ≤ l.length
  | 0, t, acc, ps, _, _, h => by simp [opos] at h
  | f + 1, t, acc, ps, ha, ht, h => by
    unfold opos at h
    split at h
    · injection h with h; subst h; omega
    split at h
    · injection h with h; subst h; omega
    split at h
    · exact opos_len f _ _ _ (by omega) (by omega) h
    split at h
    · cases h
    split at h
    · cases h
    split at h
    · cases h
    refine opos_len f _ _ _ ?_ (by omega) h
    simp [psLen] at ha ⊢
    omega
theorem flat_psLen {l : List Int} : ∀ {ps : List (Nat × Nat)}, Places l ps → ((ps.map (optAt l)).flatMap optB).length = psLen ps
  | [], _ => rfl
  | p :: ps, h => by
    have ih := flat_psLen (l := l) (ps := ps) (fun x hx => h x (by simp [hx]))
    have hp := h p (by simp)
    simp only [List.map_cons, List.flatMap_cons, List.length_append, optB_len, ih, psLen, List.sum_cons, optAt, List.length_drop, List.length_take]
    omega
/-- what is read may be written, and is no longer -/
theorem optsP_ok {ok : Int → Int → Bool} (hok : ∀ k n, ok k n = true → 2 ≤ n) {l : List Int} (hb : Byt l) {ps : List (Nat × Nat)} (h : optsP ok l = some ps) :
    putOk (ps.map (optAt l)) ∧ ((ps.map (optAt l)).flatMap optB).length ≤ l.length := by
  obtain ⟨hp, hl⟩ := optsP_places hok hb h
  unfold optsP at h
  rw [if_neg (by omega)] at h
  have h1 := opos_len _ _ _ _ (by simp [psLen]) (by omega) h
  have h2 := flat_psLen hp
  refine ⟨⟨fun o ho => ?_, by omega⟩, by omega⟩
  obtain ⟨p, hpm, rfl⟩ := List.mem_map.1 ho
  have := hp p hpm
  have := hb.bt (p.1 : Int)
  unfold okO optAt
  simp only [List.length_drop, List.length_take]
  omega
theorem putO_le {ok : Int → Int → Bool} (hok : ∀ k n, ok k n = true → 2 ≤ n) {l : List Int} (hb : Byt l) (h4 : l.length % 4 = 0) {ps : List (Nat × Nat)} (h : optsP ok l = some ps) : (putO (ps.map (optAt l))).length ≤ l.length := by
  have := (optsP_ok hok hb h).2
  have := pad4_len ((ps.map (optAt l)).flatMap optB)
  unfold putO
  omega
/-- an option's kind and length were let by -/
theorem opos_ok {ok : Int → Int → Bool} (hok : ∀ k n, ok k n = true → 2 ≤ n) {l : List Int} : ∀ (f t : Nat) (acc ps : List (Nat × Nat)), (∀ p ∈ acc, ok (bt l (p.1 : Int)) ((p.2 - p.1 : Nat) : Int) = true) → opos ok l f t acc = some ps → ∀ p ∈ ps, ok (bt l (p.1 : Int)) ((p.2 - p.1 : Nat) : Int) = true
  | 0, t, acc, ps, _, h => by simp [opos] at h
  | f + 1, t, acc, ps, ha, h => by
    unfold opos at h
    split at h
    · injection h with h; subst h; exact ha
    split at h
    · injection h with h; subst h; exact ha
    split at h
    · exact opos_ok hok f _ _ _ ha h
    split at h
    · cases h
    split at h
    · cases h
    rename_i h5
    split at h
    · cases h
    refine opos_ok hok f _ _ _ (fun p hp => ?_) h
    rcases List.mem_append.1 hp with hp | hp
    · exact ha p hp
    · rw [List.mem_singleton] at hp
      subst hp
      have h5' : ok (bt l (t : Int)) (bt l ((t + 1 : Nat) : Int)) = true := by simpa using h5
      have := hok _ _ h5'
      rw [show ((t + (bt l ((t + 1 : Nat) : Int)).toNat - t : Nat) : Int) = bt l ((t + 1 : Nat) : Int) by omega]
      exact h5'
end Go.Vc
end
