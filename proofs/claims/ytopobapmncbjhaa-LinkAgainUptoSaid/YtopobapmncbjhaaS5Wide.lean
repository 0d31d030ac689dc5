import Derived.Test.YtopobapmncbjhaaS5TxtJ
import Derived.Test.YtopobapmncbjhaaG5
open Go Go.Vc Go.Proofs
set_option linter.unusedVariables false
set_option linter.unusedSimpArgs false
set_option autoImplicit false
namespace Go.Vc.S5

/-- the mark behind, at place i -/
def bh (i : Int) : Int := wr .u8 (wr .i64 (203 - wr .i64 (5 * i)))
theorem bh_r (i : Int) : 0 ≤ bh i ∧ bh i < 256 := wr_u8_range _
theorem c55 {i : Int} {w : World} {R : SV → World → Prop} (k : R (.int .u8 (bh i)) w) : Ret Try.prog 55 [.int .i64 i] w R := by
  refine f55_of _ _ _ ?_
  unfold vc55
  exact k
/-- a place below n -/
def plc (i n : Int) : Int := Int.tmod (iand .i64 i 1099511627775) n
theorem plc_r (i : Int) {n : Int} (h : 0 < n) : 0 ≤ plc i n ∧ plc i n < n := by
  have e : iand .i64 i 1099511627775 = i % 1099511627776 := iand_mask 40 (by omega)
  unfold plc
  rw [e, tmod_pos (by omega)]
  exact ⟨Int.emod_nonneg _ (by omega), Int.emod_lt_of_pos _ h⟩
theorem c56 {i n : Int} {w : World} {R : SV → World → Prop} (h : 0 < n) (k : R (.int .i64 (plc i n)) w) : Ret Try.prog 56 [.int .i64 i, .int .i64 n] w R := by
  refine f56_of _ _ _ _ ?_
  unfold vc56
  exact needNe (by omega) k
/-- the bytes, and marks in the room behind them -/
def wideL (l : List Int) : List Int := l ++ (List.range (l.length + 70)).map fun (j : Nat) => bh (j : Int)
abbrev wideS (bk n : Nat) : Sl := ⟨some ⟨bk, 0, none⟩, n, n⟩
theorem set_wide {l : List Int} {n k : Nat} (hk : k < n) : (l ++ (((List.range k).map fun (j : Nat) => bh (j : Int)) ++ List.replicate (n - k) 0)).set (l.length + k) (bh (k : Int)) = l ++ (((List.range (k + 1)).map fun (j : Nat) => bh (j : Int)) ++ List.replicate (n - (k + 1)) 0) := by
  rw [List.set_append_right _ _ (by omega), List.set_append_right _ _ (by simp)]
  have e1 : l.length + k - l.length - ((List.range k).map fun (j : Nat) => bh (j : Int)).length = 0 := by simp
  rw [e1, show n - k = (n - (k + 1)) + 1 by omega, List.replicate_succ, List.set_cons_zero, List.range_succ, List.map_append, List.append_assoc]
  rfl
theorem c36 {b : Sl} {l : List Int} {w : World} {R : SV → World → Prop} (h : SeesB w b l) (hl : l.length ≤ 70368744177000)
    (k : ∀ bk w1, Upd [] [] w w1 → w.heap.size ≤ bk → SeesB w1 (wideS bk (2 * l.length + 70)) (wideL l) → Own w.heap.size 1 w1 (wideS bk (2 * l.length + 70)) → R (.slice (Sl.sub (wideS bk (2 * l.length + 70)) 1 0 l.length (2 * l.length + 70))) w1) : Ret Try.prog 36 [.slice b] w R := by
  refine f36_of _ _ _ ?_
  unfold vc36
  have hlen := h.len
  have e0 : wr .i64 (wr .i64 (2 * (b.len : Int)) + 70) = ((2 * l.length + 70 : Nat) : Int) := by rw [wr_i64 (x := 2 * (b.len : Int)) (by omega) (by omega), wr_i64 (by omega) (by omega)]; omega
  rw [e0]
  refine need (by simp; omega) ?_
  intro bk w1 u1 hrow
  rw [Int.toNat_natCast, zeros_cells] at hrow
  rw [Int.toNat_natCast]
  have hb := u1.new (b := bk) (by simp)
  have s1 := rowB (n := 2 * l.length + 70) (cap := 2 * l.length + 70) hrow (List.replicate (2 * l.length + 70) 0) rfl (by simp)
  have o1 := own_row (n := 2 * l.length + 70) (cap := 2 * l.length + 70) (sz := 1) hrow hb.1 (by simp [Cod.cells_length, cU8]) (Nat.le_refl _)
  refine copy_own (c := cU8) s1 o1 (h.old u1) (by simp) fun w2 s2 o2 u2 => ?_
  have e1 : l.take (List.replicate (2 * l.length + 70) (0 : Int)).length ++ (List.replicate (2 * l.length + 70) (0 : Int)).drop l.length = l ++ List.replicate (l.length + 70) 0 := by
    rw [List.take_of_length_le (by simp; omega), List.drop_replicate]
    congr 2; omega
  rw [e1] at s2
  have v2 : Upd [] [] w w2 := u1.forget.step0 u2 (fun x hx => by simp [Sl.blk] at hx; omega)
  refine ⟨fun n w' => Upd [] [] w w' ∧ Own w.heap.size 1 w' (wideS bk (2 * l.length + 70)) ∧ ∃ t : Nat, n = ((l.length + t : Nat) : Int) ∧ t ≤ l.length + 70 ∧ SeesB w' (wideS bk (2 * l.length + 70)) (l ++ (((List.range t).map fun (j : Nat) => bh (j : Int)) ++ List.replicate (l.length + 70 - t) 0)),
    fun n _ => (2 * l.length + 70 - n).toNat, ⟨v2, o2, 0, by omega, by omega, by simpa using s2⟩, ?_⟩
  rintro n w3 ⟨u3, o3, t, rfl, ht, s3⟩
  refine brd (fun hlt => ?_) (fun hge => ?_)
  · have e2 : wr .i64 (((l.length + t : Nat) : Int) - (b.len : Int)) = (t : Int) := by rw [wr_i64 (by omega) (by omega)]; omega
    rw [e2]
    refine c55 ⟨_, rfl, needIxT (by omega) (by omega) ?_⟩
    refine own_set (c := cU8) (x := bh (t : Int)) s3 o3 (by decide) (by rw [Int.toNat_natCast]; simp only [List.length_append, List.length_map, List.length_range, List.length_replicate]; omega) rfl (by simp) fun w4 s4 o4 u4 => ?_
    rw [Int.toNat_natCast, set_wide (by omega)] at s4
    exact ⟨⟨u3.step0 u4 (fun x hx => (o3.blk x hx).1), o4, t + 1, by rw [wr_i64 (by omega) (by omega)]; omega, by omega, s4⟩, by rw [wr_i64 (by omega) (by omega)]; (try dsimp only); omega⟩
  · have ht2 : t = l.length + 70 := by omega
    subst ht2
    rw [Nat.sub_self, List.replicate_zero, List.append_nil] at s3
    refine needIxLe (by omega) (by omega) ?_
    rw [hlen, Int.toNat_natCast]
    exact k bk w3 u3 hb.1 s3 o3
theorem sub_wide (bk k n m : Nat) : Sl.sub ⟨some ⟨bk, 0, none⟩, k, n⟩ 1 0 m n = ⟨some ⟨bk, 0, none⟩, m, n⟩ := by
  simp [Sl.sub, add_none]
theorem wideL_len (l : List Int) : (wideL l).length = 2 * l.length + 70 := by simp [wideL]; omega
theorem wideL_lo {l : List Int} {t : Nat} (h : t < l.length) : bt (wideL l) (t : Nat) = l[t] := by
  rw [bt_nat (by rw [wideL_len]; omega)]
  simp only [wideL]
  rw [List.getElem_append_left h]
theorem wideL_hi {l : List Int} {t : Nat} (h : l.length ≤ t) (h2 : t < 2 * l.length + 70) : bt (wideL l) (t : Nat) = bh ((t - l.length : Nat) : Int) := by
  rw [bt_nat (by rw [wideL_len]; omega)]
  simp only [wideL]
  rw [List.getElem_append_right h]
  simp
/-- the room stands as it was laid -/
theorem c38T {b : Sl} {l : List Int} {bk : Nat} {w : World} {R : SV → World → Prop} (hw : SeesB w (wideS bk (2 * l.length + 70)) (wideL l)) (h : SeesB w b l) (hl : l.length ≤ 70368744177000) (k : ∀ w1, Upd [] [] w w1 → R (.bool true) w1) :
    Ret Try.prog 38 [.slice ⟨some ⟨bk, 0, none⟩, l.length, 2 * l.length + 70⟩, .slice b] w R := by
  refine f38_of _ _ _ _ ?_
  unfold vc38
  have hlen := h.len
  have e0 : wr .i64 (wr .i64 (2 * (b.len : Int)) + 70) = ((2 * l.length + 70 : Nat) : Int) := by rw [wr_i64 (x := 2 * (b.len : Int)) (by omega) (by omega), wr_i64 (by omega) (by omega)]; omega
  rw [e0, Int.toNat_natCast]
  simp only [sub_wide]
  refine brf (by simp [hlen]) (needIxLe (by omega) (by omega) ?_)
  refine ⟨fun n w' => Upd [] [] w w' ∧ ∃ t : Nat, n = t ∧ t ≤ 2 * l.length + 70, fun n _ => (2 * l.length + 70 - n).toNat, ⟨Upd.refl _, 0, rfl, by omega⟩, ?_⟩
  rintro n w1 ⟨u1, t, rfl, ht⟩
  have hw1 := hw.old u1
  have h1 := h.old u1
  refine brd (fun hlt => ?_) (fun hge => k w1 u1)
  intro J hJ
  have fin : ∀ w2, Upd [] [] w1 w2 → J w2 := fun w2 u2 => hJ _ ⟨⟨u1.then u2, t + 1, wr_succ (by omega), by omega⟩, by rw [wr_succ (by omega)]; (try dsimp only); omega⟩
  have hwl := wideL_len l
  have nd : ∀ {X : Prop}, X → Need (decide (0 ≤ (t : Int)) && decide ((t : Int) < ((2 * l.length + 70 : Nat) : Int)) && (some (⟨bk, 0, none⟩ : Addr)).isSome) X := fun x => need (by simp; omega) x
  have hi : (t : Int) ≥ b.len → ∀ w2, Upd [] [] w1 w2 → Ret Try.prog 55 [.int .i64 (wr .i64 ((t : Int) - b.len))] w2 fun r w3 => ∃ n : Int, r = .int .u8 n ∧ Upd [] [] w1 w3 ∧ Br (bt (wideL l) (t : Nat) != n) (R (.bool false) w3) (J w3) := by
    intro hge w2 u2
    rw [wr_i64 (by omega) (by omega)]
    refine c55 ⟨_, rfl, u2, ?_⟩
    rw [wideL_hi (by omega) (by omega)]
    refine brf ?_ (fin _ u2)
    have : ((t : Int) - b.len) = ((t - l.length : Nat) : Int) := by omega
    rw [this]; simp
  refine brd (fun hlo => ?_) (fun hlo => ?_)
  · refine nd ⟨_, byteC hw1 t (by omega), needB h1 (by omega) (by omega) ⟨_, h1.byte (by omega) (by omega), ?_⟩⟩
    refine brf ?_ (brf (by simp; omega) fun w2 u2 => fin w2 u2)
    rw [wideL_lo (by omega), bt_nat (by omega)]
    simp
  · refine brt (by simp; omega) (nd ⟨_, byteC hw1 t (by omega), fun w2 u2 => hi (by omega) w2 u2⟩)
end Go.Vc.S5
