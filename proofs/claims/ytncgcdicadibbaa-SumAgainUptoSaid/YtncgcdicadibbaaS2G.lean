import Derived.Test.YtncgcdicadibbaaS2F
open Go Go.Vc Go.Proofs
set_option linter.unusedVariables false
set_option linter.unusedSimpArgs false
set_option autoImplicit false
namespace Go.Vc.S2

/-- is it a 16-bit word? -/
def isW (n : Int) : Prop := 0 ≤ n ∧ n ≤ 65535
instance (n : Int) : Decidable (isW n) := inferInstanceAs (Decidable (_ ∧ _))
theorem c43 {n : Int} {w : World} {R : SV → World → Prop} (k : R (.bool (decide (isW n))) w) : Ret Try.prog 43 [.int .i64 n] w R := by
  refine f43_of _ _ _ ?_
  unfold vc43
  refine brd (fun h => ?_) (fun h => ?_)
  · have : decide (isW n) = decide (n ≤ 65535) := by
      rw [Bool.eq_iff_iff, decide_eq_true_iff, decide_eq_true_iff]; unfold isW; omega
    rw [this] at k; exact k
  · have : decide (isW n) = false := by rw [decide_eq_false_iff_not]; unfold isW; omega
    rw [this] at k; exact k

/-- one word turned -/
def fix1 (c a b : Int) : Int := 65535 - fd (131070 - c - a + b)
def fixErr (c a b : Int) : Int := if isW c ∧ isW a ∧ isW b then 0 else 21
def fixOf (c a b : Int) : Int := if isW c ∧ isW a ∧ isW b then fix1 c a b else 0
theorem fix1_w {c a b : Int} (hc : isW c) (ha : isW a) (hb : isW b) : isW (fix1 c a b) := by
  unfold isW at *
  unfold fix1
  have := fd_range (n := 131070 - c - a + b) (by omega)
  omega
theorem c28 {c a b : Int} {w : World} {R : SV → World → Prop} (k : R (.tuple [.int .i64 (fixOf c a b), .int .i64 (fixErr c a b)]) w) : Ret Try.prog 28 [.int .i64 c, .int .i64 a, .int .i64 b] w R := by
  refine f28_of _ _ _ _ _ ?_
  unfold vc28
  let g : Int → Int := fset (fset (fset (fun (x : Nat) => 0) 0 c) 1 a) 2 b ∘ Int.toNat
  have g0 : g 0 = c := rfl
  have g1 : g 1 = a := rfl
  have g2 : g 2 = b := rfl
  refine ⟨fun i w1 => w1 = w ∧ 0 ≤ i ∧ i ≤ 3 ∧ ∀ j, 0 ≤ j → j < i → isW (g j), fun i _ => (3 - i).toNat, ⟨rfl, by omega, by omega, fun j h1 h2 => by omega⟩, ?_⟩
  rintro i w1 ⟨rfl, h0, h3, hj⟩
  refine brd (fun hlt => needIx2 h0 hlt ?_) (fun hge => ?_)
  · show Br (decide (g i < 0)) _ (Br (decide (g i > 65535)) _ _)
    have bad : ¬ isW (g i) → R (.tuple [.int .i64 0, .int .i64 21]) w1 := by
      intro hn
      have : ¬ (isW c ∧ isW a ∧ isW b) := by
        intro hh
        apply hn
        have : i = 0 ∨ i = 1 ∨ i = 2 := by omega
        rcases this with rfl | rfl | rfl
        · rw [g0]; exact hh.1
        · rw [g1]; exact hh.2.1
        · rw [g2]; exact hh.2.2
      unfold fixOf fixErr at k
      rw [if_neg this, if_neg this] at k
      exact k
    refine brd (fun h => bad (by unfold isW; omega)) (fun h => brd (fun h4 => bad (by unfold isW; omega)) (fun h4 => ?_))
    rw [wr_i64 (by omega) (by omega)]
    refine ⟨⟨rfl, by omega, by omega, fun j h1 h2 => ?_⟩, by (try dsimp only); omega⟩
    by_cases hji : j = i
    · subst hji; unfold isW; omega
    · exact hj j h1 (by omega)
  · have hc := hj 0 (by omega) (by omega)
    have ha := hj 1 (by omega) (by omega)
    have hb := hj 2 (by omega) (by omega)
    rw [g0] at hc; rw [g1] at ha; rw [g2] at hb
    unfold fixOf fixErr at k
    rw [if_pos ⟨hc, ha, hb⟩, if_pos ⟨hc, ha, hb⟩] at k
    have hf := fix1_w hc ha hb
    unfold isW at *
    rw [wr_i64 (x := 65535 - c) (by omega) (by omega), wr_i64 (x := 65535 - c + 65535) (by omega) (by omega), wr_i64 (x := 65535 - c + 65535 - a) (by omega) (by omega), wr_i64 (by omega) (by omega)]
    refine c39 (by omega) (by omega) ⟨_, rfl, ?_⟩
    have e : 65535 - c + 65535 - a + b = 131070 - c - a + b := by omega
    rw [e]
    unfold fix1 at k hf
    rw [wr_i64 (by omega) (by omega)]
    exact k
theorem c29 {c a b : Int} {w : World} {R : SV → World → Prop} (k : R (.tuple [.int .i64 (fixOf c a b), .int .i64 (fixErr c a b)]) w) : Ret Try.prog 29 [.int .i64 c, .int .i64 a, .int .i64 b] w R := by
  refine f29_of _ _ _ _ _ ?_
  unfold vc29
  intro J hJ
  have bad : ¬ (isW c ∧ isW a ∧ isW b) → R (.tuple [.int .i64 0, .int .i64 21]) w := by
    intro hn
    unfold fixOf fixErr at k
    rw [if_neg hn, if_neg hn] at k
    exact k
  refine c43 ⟨_, rfl, brn (fun h => bad (fun hh => by simp [hh.1] at h)) (fun h => ?_)⟩
  refine c43 ⟨_, rfl, brn (fun h => bad (fun hh => by simp [hh.2.1] at h)) (fun h2 => ?_)⟩
  refine c43 ⟨_, rfl, brn (fun h => bad (fun hh => by simp [hh.2.2] at h)) (fun h3 => hJ _ ?_)⟩
  clear hJ bad
  have hc := of_decide_eq_true h
  have ha := of_decide_eq_true h2
  have hb := of_decide_eq_true h3
  unfold fixOf fixErr at k
  rw [if_pos ⟨hc, ha, hb⟩, if_pos ⟨hc, ha, hb⟩] at k
  have hf := fix1_w hc ha hb
  unfold isW at hc ha hb hf
  rw [wr_i64 (x := 65535 - c) (by omega) (by omega), wr_i64 (x := 65535 - c + 65535) (by omega) (by omega), wr_i64 (x := 65535 - c + 65535 - a) (by omega) (by omega), wr_i64 (by omega) (by omega)]
  refine c40 (by omega) (by omega) ⟨_, rfl, ?_⟩
  have e : 65535 - c + 65535 - a + b = 131070 - c - a + b := by omega
  rw [e]
  unfold fix1 at k hf
  rw [wr_i64 (by omega) (by omega)]
  exact k

/-- the word at an even place, a zero behind the end -/
def wordAt (l : List Int) (i : Int) : Int := bt l i * 256 + (if i + 1 < l.length then bt l (i + 1) else 0)
theorem wordAt_w {l : List Int} (h : Byt l) (i : Int) : isW (wordAt l i) := by
  unfold wordAt isW
  have := h.bt i
  have := h.bt (i + 1)
  split <;> omega
theorem c44 {b : Sl} {l : List Int} {i : Int} {w : World} {R : SV → World → Prop} (h : SeesB w b l) (hb : Byt l) (h0 : 0 ≤ i) (hi : i < l.length) (hl : l.length < 9223372036854775807) (k : R (.int .i64 (wordAt l i)) w) : Ret Try.prog 44 [.slice b, .int .i64 i] w R := by
  refine f44_of _ _ _ _ ?_
  unfold vc44
  have h1 := hb.bt i
  have h2 := hb.bt (i + 1)
  have hlen := h.len
  refine needB h h0 hi ⟨_, h.byte h0 hi, ?_⟩
  rw [wr_i64 (x := i + 1) (by omega) (by omega), wr_i64 (x := bt l i) (by omega) (by omega), gshl8, wr_i64 (x := bt l i * 256) (by omega) (by omega)]
  unfold wordAt at k
  refine brd (fun hlt => ?_) (fun hge => ?_)
  · refine needB h (by omega) (by omega) ⟨_, h.byte (by omega) (by omega), ?_⟩
    rw [if_pos (by omega)] at k
    rw [wr_i64 (x := bt l (i + 1)) (by omega) (by omega), wr_i64 (by omega) (by omega)]
    exact k
  · rw [if_neg (by omega)] at k
    simpa using k
theorem c45 {b : Sl} {l : List Int} {i : Int} {w : World} {R : SV → World → Prop} (h : SeesB w b l) (hb : Byt l) (h0 : 0 ≤ i) (hi : i < l.length) (hl : l.length < 9223372036854775807) (k : ∀ w1, Upd [] [] w w1 → R (.int .i64 (wordAt l i)) w1) : Ret Try.prog 45 [.slice b, .int .i64 i] w R := by
  refine f45_of _ _ _ _ ?_
  unfold vc45
  have h1 := hb.bt i
  have h2 := hb.bt (i + 1)
  have hlen := h.len
  rw [wr_i64 (x := i + 1) (by omega) (by omega)]
  unfold wordAt at k
  refine brd (fun hlt => ?_) (fun hge => ?_)
  · refine needB h h0 hi ⟨_, h.byte h0 hi, needB h (by omega) (by omega) ⟨_, h.byte (by omega) (by omega), ?_⟩⟩
    rw [if_pos (by omega)] at k
    rw [wr_i64 (x := bt l i) (by omega) (by omega), wr_i64 (x := bt l (i + 1)) (by omega) (by omega), wr_i64 (x := bt l i * 256) (by omega) (by omega), wr_i64 (by omega) (by omega)]
    exact k
  · refine needB h h0 hi ⟨_, h.byte h0 hi, ?_⟩
    rw [if_neg (by omega)] at k
    rw [wr_i64 (x := bt l i) (by omega) (by omega), wr_i64 (by omega) (by omega)]
    have := k w (Upd.refl w)
    simpa using this

/-- a run of bytes turned, word by word -/
def fixL : Int → List Int → List Int → Int
  | c, a :: b :: r, x :: y :: s => fixL (fix1 c (a * 256 + b) (x * 256 + y)) r s
  | c, [a], [x] => fix1 c (a * 256) (x * 256)
  | c, _, _ => c
def fixLErr (c : Int) (a b : List Int) : Int := if isW c then (if a.length = b.length then 0 else 22) else 21
def fixLOf (c : Int) (a b : List Int) : Int := if fixLErr c a b = 0 then fixL c a b else 0
theorem fixL_step {c : Int} {a b : List Int} {t : Nat} (hl : a.length = b.length) (ht : t < a.length) : fixL c (a.drop t) (b.drop t) = fixL (fix1 c (wordAt a (t : Int)) (wordAt b (t : Int))) (a.drop (t + 2)) (b.drop (t + 2)) := by
  rw [List.drop_eq_getElem_cons ht, List.drop_eq_getElem_cons (show t < b.length by omega)]
  unfold wordAt
  rw [bt_nat ht, bt_nat (show t < b.length by omega)]
  by_cases h : t + 1 < a.length
  · rw [List.drop_eq_getElem_cons h, List.drop_eq_getElem_cons (show t + 1 < b.length by omega)]
    have e : (t : Int) + 1 = ((t + 1 : Nat) : Int) := by omega
    rw [e, bt_nat h, bt_nat (show t + 1 < b.length by omega), if_pos (by omega), if_pos (by omega)]
    rfl
  · rw [if_neg (by omega), if_neg (by omega), List.drop_of_length_le (by omega), List.drop_of_length_le (show b.length ≤ t + 1 by omega), List.drop_of_length_le (by omega), List.drop_of_length_le (show b.length ≤ t + 2 by omega)]
    simp [fixL]
theorem fixL_nil (c : Int) : fixL c [] [] = c := by simp [fixL]

theorem c30 {c : Int} {old now : Sl} {a b : List Int} {w : World} {R : SV → World → Prop} (ha : SeesB w old a) (hb : SeesB w now b) (hba : Byt a) (hbb : Byt b) (hl : a.length < 9223372036854775806) (hl2 : b.length < 9223372036854775806)
    (k : R (.tuple [.int .i64 (fixLOf c a b), .int .i64 (fixLErr c a b)]) w) : Ret Try.prog 30 [.int .i64 c, .slice old, .slice now] w R := by
  refine f30_of _ _ _ _ _ ?_
  unfold vc30
  intro J hJ
  have hla := ha.len
  have hlb := hb.len
  refine brd (fun h => ?_) (fun h => brd (fun h2 => ?_) (fun h2 => bre' (fun h3 => ?_) (fun h3 => hJ _ ?_)))
  · have e : fixLErr c a b = 21 := by unfold fixLErr; rw [if_neg (by unfold isW; omega)]
    unfold fixLOf at k; rw [e] at k; exact k
  · have e : fixLErr c a b = 21 := by unfold fixLErr; rw [if_neg (by unfold isW; omega)]
    unfold fixLOf at k; rw [e] at k; exact k
  · have e : fixLErr c a b = 22 := by unfold fixLErr; rw [if_pos (by unfold isW; omega), if_neg (by omega)]
    unfold fixLOf at k; rw [e] at k; exact k
  · clear hJ
    have hab : a.length = b.length := by omega
    have e : fixLErr c a b = 0 := by unfold fixLErr; rw [if_pos (by unfold isW; omega), if_pos hab]
    unfold fixLOf at k; rw [e, if_pos rfl] at k
    refine ⟨fun n i w1 => w1 = w ∧ isW n ∧ ∃ t : Nat, i = t ∧ fixL n (a.drop t) (b.drop t) = fixL c a b ∧ t ≤ a.length + 1, fun _ i _ => (a.length + 2 - i).toNat, ⟨rfl, by unfold isW; omega, 0, rfl, by simp, by omega⟩, ?_⟩
    rintro n i w1 ⟨rfl, hn, t, rfl, he, ht⟩
    refine brd (fun hlt => ?_) (fun hge => ?_)
    · refine c44 ha hba (by omega) (by omega) (by omega) ⟨_, rfl, c44 hb hbb (by omega) (by omega) (by omega) ⟨_, rfl, c28 ⟨_, _, rfl, ?_⟩⟩⟩
      have hw1 := wordAt_w hba (t : Int)
      have hw2 := wordAt_w hbb (t : Int)
      have e2 : fixOf n (wordAt a t) (wordAt b t) = fix1 n (wordAt a t) (wordAt b t) := by unfold fixOf; rw [if_pos ⟨hn, hw1, hw2⟩]
      rw [e2]
      refine ⟨⟨rfl, fix1_w hn hw1 hw2, t + 2, ?_, ?_, by omega⟩, ?_⟩
      · rw [wr_i64 (by omega) (by omega)]; omega
      · rw [← he]; exact (fixL_step hab (by omega)).symm
      · rw [wr_i64 (by omega) (by omega)]; (try dsimp only); omega
    · rw [List.drop_of_length_le (by omega), List.drop_of_length_le (by omega), fixL_nil] at he
      rw [he]; exact k
theorem c31 {c : Int} {old now : Sl} {a b : List Int} {w : World} {R : SV → World → Prop} (ha : SeesB w old a) (hb : SeesB w now b) (hba : Byt a) (hbb : Byt b) (hl : a.length < 9223372036854775806) (hl2 : b.length < 9223372036854775806)
    (k : ∀ w1, Upd [] [] w w1 → R (.tuple [.int .i64 (fixLOf c a b), .int .i64 (fixLErr c a b)]) w1) : Ret Try.prog 31 [.int .i64 c, .slice old, .slice now] w R := by
  refine f31_of _ _ _ _ _ ?_
  unfold vc31
  have hla := ha.len
  have hlb := hb.len
  refine c43 ⟨_, rfl, brn (fun h => ?_) (fun h => bre' (fun h3 => ?_) (fun h3 => ?_))⟩
  · have e : fixLErr c a b = 21 := by unfold fixLErr; rw [if_neg (by simpa using h)]
    unfold fixLOf at k; rw [e] at k; exact k _ (Upd.refl w)
  · have e : fixLErr c a b = 22 := by unfold fixLErr; rw [if_pos (of_decide_eq_true h), if_neg (by omega)]
    unfold fixLOf at k; rw [e] at k; exact k _ (Upd.refl w)
  · have hab : a.length = b.length := by omega
    have e : fixLErr c a b = 0 := by unfold fixLErr; rw [if_pos (of_decide_eq_true h), if_pos hab]
    unfold fixLOf at k; rw [e, if_pos rfl] at k
    refine ⟨fun n i w1 => Upd [] [] w w1 ∧ isW n ∧ ∃ t : Nat, i = t ∧ fixL n (a.drop t) (b.drop t) = fixL c a b ∧ t ≤ a.length + 1, fun _ i _ => (a.length + 2 - i).toNat, ⟨Upd.refl w, of_decide_eq_true h, 0, rfl, by simp, by omega⟩, ?_⟩
    rintro n i w1 ⟨u, hn, t, rfl, he, ht⟩
    refine brd (fun hlt => ?_) (fun hge => ?_)
    · refine c45 (ha.old u) hba (by omega) (by omega) (by omega) fun w2 u2 => ⟨_, rfl, c45 ((hb.old u).old u2) hbb (by omega) (by omega) (by omega) fun w3 u3 => ⟨_, rfl, c29 ⟨_, _, rfl, ?_⟩⟩⟩
      have hw1 := wordAt_w hba (t : Int)
      have hw2 := wordAt_w hbb (t : Int)
      have e2 : fixOf n (wordAt a t) (wordAt b t) = fix1 n (wordAt a t) (wordAt b t) := by unfold fixOf; rw [if_pos ⟨hn, hw1, hw2⟩]
      rw [e2]
      refine ⟨⟨(u.then u2).then u3, fix1_w hn hw1 hw2, t + 2, ?_, ?_, by omega⟩, ?_⟩
      · rw [wr_i64 (by omega) (by omega)]; omega
      · rw [← he]; exact (fixL_step hab (by omega)).symm
      · rw [wr_i64 (by omega) (by omega)]; (try dsimp only); omega
    · rw [List.drop_of_length_le (by omega), List.drop_of_length_le (by omega), fixL_nil] at he
      rw [he]; exact k _ u
end Go.Vc.S2
