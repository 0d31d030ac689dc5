import Derived.Test.YtlohkdkgpajkaaaDoorMarkA
import Derived.Test.YtlohkdkgpajkaaaDoorG8
import Derived.Test.YtlohkdkgpajkaaaDoorG9
namespace Go.Vc
set_option linter.unusedVariables false
set_option linter.unusedSimpArgs false
set_option autoImplicit false
/-- a window of q bytes in s, from p on -/
structure Win (s o : Sl) (p q : Nat) : Prop where
  len : o.len = q
  le : p + q ≤ s.len
  at_ : ∀ k, k < q → o.at 1 k = s.at 1 (p + k)
  blk : ∀ b ∈ o.blk, b ∈ s.blk
  isS : 0 < q → o.ptr.isSome = true
  sees : ∀ (w : World) (l : List Int), SeesB w s l → SeesB w o ((l.drop p).take q)
theorem Win.sub {s o : Sl} {p q lo hi mx : Nat} (h : Win s o p q) (h1 : lo ≤ hi) (h2 : hi ≤ q) (h3 : hi ≤ mx) : Win s (o.sub 1 lo hi mx) (p + lo) (hi - lo) where
  len := by simp [Sl.sub]
  le := by have := h.le; omega
  at_ k hk := by
    have e : (o.sub 1 lo hi mx).at 1 k = o.at 1 (lo + k) := by
      unfold Sl.sub Sl.at
      have : mx ≠ lo := by omega
      simp only [if_neg this]
      obtain ⟨a, ha⟩ := Option.isSome_iff_exists.1 (h.isS (by omega))
      rw [ha]
      show (a.add (lo * 1)).add (k * 1) = a.add ((lo + k) * 1)
      rw [add_add]; congr 1; omega
    rw [e, h.at_ _ (by omega)]; congr 1; omega
  blk b hb := h.blk b (sub_blk b hb)
  isS hq := by
    have := h.isS (by omega)
    unfold Sl.sub
    simp only
    split
    · exact this
    · rw [Option.isSome_map]; exact this
  sees w l hl := by
    have hs := h.sees w l hl
    have hll := hl.len
    have hle := h.le
    have := hs.subB (lo := lo) (hi := hi) (mx := mx) h1 (by simp; omega) h3
    rw [List.take_take, Nat.min_eq_left h2, List.drop_take, List.drop_drop] at this
    exact this
theorem Win.whole0 {s : Sl} {n m : Nat} (h : n ≤ s.len) (hm : n ≤ m) (hs : s.ptr.isSome = true) : Win s (s.sub 1 0 n m) 0 n where
  len := by simp [Sl.sub]
  le := by omega
  at_ k hk := by
    rw [Nat.zero_add]
    unfold Sl.sub Sl.at
    simp only
    split
    · rfl
    · cases s.ptr <;> simp [Addr.add]
  blk b hb := sub_blk b hb
  isS hq := by
    unfold Sl.sub
    simp only
    split
    · exact hs
    · rw [Option.isSome_map]; exact hs
  sees w l hl := by
    have hll := hl.len
    have := hl.subB (lo := 0) (hi := n) (mx := m) (by omega) (by omega) hm
    simpa using this
theorem Win.ix {s o : Sl} {p q k : Nat} {w : World} {L : List Int} {X : Prop} (h : Win s o p q) (hs : SeesB w s L) (hk : k < q) (x : X) : Need (decide (0 ≤ (k : Int)) && decide ((k : Int) < (o.len : Int)) && o.ptr.isSome) X := by
  have := h.sees w L hs
  have := hs.len
  have := h.le
  exact needB (h.sees w L hs) (by omega) (by simp; omega) x
theorem Win.cell {s o : Sl} {p q k : Nat} {w : World} {L : List Int} (h : Win s o p q) (hs : SeesB w s L) (hk : k < q) : w.cell? (o.at 1 (Int.toNat (k : Int))) = some (.int .u8 (bt L ((p + k : Nat) : Int))) := by
  rw [Int.toNat_natCast, h.at_ k hk]
  exact byteC hs (p + k) (by have := hs.len; have := h.le; omega)
theorem Win.store {s o : Sl} {p q k N : Nat} {w : World} {L : List Int} {x : Int} {bs : List Nat} {F : World → Prop} (h : Win s o p q) (hs : SeesB w s L) (ho : Own N 1 w s) (hk : k < q) (hbs : ∀ b ∈ s.blk, b ∉ bs)
    (kk : ∀ w1, SeesB w1 s (L.set (p + k) x) → Own N 1 w1 s → Upd s.blk [] w w1 → F w1) : Store w (o.at 1 (Int.toNat (k : Int))) [.int .u8 x] bs F := by
  rw [Int.toNat_natCast, h.at_ k hk]
  exact own_set (c := cU8) hs ho (by decide) (by have := hs.len; have := h.le; omega) rfl hbs kk

/-- k bytes from p on, turned by c -/
def xs (c : Int) (p k : Nat) (l : List Int) : List Int := (List.range l.length).map fun i => if p ≤ i ∧ i < p + k then ixor .u8 (bt l (i : Int)) c else bt l (i : Int)
theorem xs_len (c : Int) (p k : Nat) (l : List Int) : (xs c p k l).length = l.length := by simp [xs]
theorem xs_bt {c : Int} {p k i : Nat} {l : List Int} (h : i < l.length) : bt (xs c p k l) (i : Int) = if p ≤ i ∧ i < p + k then ixor .u8 (bt l (i : Int)) c else bt l (i : Int) := by
  rw [bt_nat (by rw [xs_len]; exact h)]
  simp [xs]
theorem xs_zero (c : Int) (p : Nat) (l : List Int) : xs c p 0 l = l :=
  bt_ext (xs_len _ _ _ _) fun i hi => by rw [xs_len] at hi; rw [xs_bt hi, if_neg (by omega)]
theorem xs_set {c : Int} {p k : Nat} {l : List Int} (h : p + k < l.length) : (xs c p k l).set (p + k) (ixor .u8 (bt (xs c p k l) ((p + k : Nat) : Int)) c) = xs c p (k + 1) l :=
  bt_ext (by simp [xs_len]) fun i hi => by
    have hi' : i < l.length := by simpa [xs_len] using hi
    have e0 : bt (xs c p k l) ((p + k : Nat) : Int) = bt l ((p + k : Nat) : Int) := by rw [xs_bt h, if_neg (by omega)]
    rw [bt_set (by rw [xs_len]; exact h), e0]
    by_cases e : i = p + k
    · subst e; rw [if_pos rfl, xs_bt h, if_pos (by omega)]
    · rw [if_neg e, xs_bt hi', xs_bt hi']
      by_cases e2 : p ≤ i ∧ i < p + k
      · rw [if_pos e2, if_pos (by omega)]
      · rw [if_neg e2, if_neg (by omega)]
theorem ixor_r {a c : Int} (ha : 0 ≤ a ∧ a < 256) (hc : 0 ≤ c ∧ c < 256) : 0 ≤ ixor .u8 a c ∧ ixor .u8 a c < 256 := by
  rw [ixor_u8 ha.1 ha.2 hc.1 hc.2]
  have : a.toNat ^^^ c.toNat < 2 ^ 8 := Nat.xor_lt_two_pow (by omega) (by omega)
  omega
theorem ixor_inv {a c : Int} (ha : 0 ≤ a ∧ a < 256) (hc : 0 ≤ c ∧ c < 256) : ixor .u8 (ixor .u8 a c) c = a := by
  have h := ixor_r ha hc
  rw [ixor_u8 h.1 h.2 hc.1 hc.2, ixor_u8 ha.1 ha.2 hc.1 hc.2, Int.toNat_natCast, Nat.xor_assoc, Nat.xor_self, Nat.xor_zero]
  omega
theorem xs_byt {c : Int} {p k : Nat} {l : List Int} (hb : Byt l) (hc : 0 ≤ c ∧ c < 256) : Byt (xs c p k l) := by
  intro x hx
  obtain ⟨i, hi, rfl⟩ := List.mem_map.1 hx
  have := hb.bt (i : Int)
  split
  · exact ixor_r this hc
  · exact this
theorem xs_inv {c : Int} {p k : Nat} {l : List Int} (hb : Byt l) (hc : 0 ≤ c ∧ c < 256) : xs c p k (xs c p k l) = l :=
  bt_ext (by simp [xs_len]) fun i hi => by
    have hi' : i < l.length := by simpa [xs_len] using hi
    rw [xs_bt (by rw [xs_len]; exact hi'), xs_bt hi']
    by_cases e : p ≤ i ∧ i < p + k
    · rw [if_pos e, if_pos e]; exact ixor_inv (hb.bt _) hc
    · rw [if_neg e, if_neg e]
theorem not_self : ∀ x : Fin 256, x.val ^^^ 255 ≠ x.val := by decide +kernel
theorem ixor_ne {a : Int} (ha : 0 ≤ a ∧ a < 256) : a ≠ ixor .u8 a 255 := by
  rw [ixor_u8 ha.1 ha.2 (by decide) (by decide)]
  have := not_self ⟨a.toNat, by omega⟩
  simp only at this
  have e : (255 : Int).toNat = 255 := rfl
  rw [e]; omega
/-- reading looks at the data's length alone -/
theorem ipErr_data {l l2 : List Int} (hl : l2.length = l.length) (h20 : 20 ≤ hdN l) (hh : l2.take (hdN l) = l.take (hdN l)) : ipErr l2 = ipErr l ∧ hdN l2 = hdN l ∧ totN l2 = totN l := by
  have hb : ∀ i : Nat, i < 20 → bt l2 (i : Int) = bt l (i : Int) := fun i hi => by
    rw [← bt_take (l := l2) (n := hdN l) (by omega), hh, bt_take (by omega)]
  have b0 : bt l2 0 = bt l 0 := hb 0 (by omega)
  have b2 : bt l2 2 = bt l 2 := hb 2 (by omega)
  have b3 : bt l2 3 = bt l 3 := hb 3 (by omega)
  have b6 : bt l2 6 = bt l 6 := hb 6 (by omega)
  have b7 : bt l2 7 = bt l 7 := hb 7 (by omega)
  have e1 : hdN l2 = hdN l := by unfold hdN; rw [b0]
  have e2 : W16 l2 2 = W16 l 2 := by unfold W16; first | rw [show ((2 : Int) + 1) = 3 from rfl, b2, b3] | (simp [b2, b3]) 
  have e3 : totN l2 = totN l := by unfold totN; rw [e2]
  have e4 : obL l2 = obL l := by unfold obL; rw [e1, hh]
  have e5 : mfOf l2 = mfOf l := by unfold mfOf; rw [b6]
  have e6 : offOf l2 = offOf l := by unfold offOf; rw [b6, b7]
  refine ⟨?_, e1, e3⟩
  unfold ipErr
  rw [e1, e3, e4, e5, e6, hl, hh, b0]
end Go.Vc
