import Derived.Test.YtkkdnnpnbmpifaaG7
namespace Go.Vc
set_option linter.unusedVariables false
set_option linter.unusedSimpArgs false
set_option autoImplicit false
/-- is the place in a hole? -/
def inG (i : Int) : List (Int × Int) → Bool
  | [] => false
  | g :: r => (decide (g.1 ≤ i) && decide (i < g.2)) || inG i r
theorem inG_low {top i : Int} : ∀ {l : List (Int × Int)} {b : Int}, Rise top b l → i ≤ b → inG i l = false
  | [], _, _, _ => rfl
  | g :: r, b, ⟨h1, h2, h3, h4⟩, hi => by
    unfold inG
    rw [inG_low h4 (by omega), Bool.or_false, decide_eq_false (by omega), Bool.false_and]
theorem inG_app {i : Int} : ∀ (a b : List (Int × Int)), inG i (a ++ b) = (inG i a || inG i b)
  | [], b => by simp [inG]
  | g :: r, b => by simp only [List.cons_append, inG, inG_app r b, Bool.or_assoc]
/-- the holes behind a piece: what was a hole and is not covered -/
theorem inG_cut {top off e i : Int} (hoe : off < e) : ∀ {l : List (Int × Int)} {b : Int}, Rise top b l → inG i (cutG off e l) = (inG i l && !(decide (off ≤ i) && decide (i < e)))
  | [], _, _ => rfl
  | g :: r, b, ⟨h1, h2, h3, h4⟩ => by
    have ih := inG_cut (i := i) hoe h4
    unfold cutG
    split
    · rename_i q
      simp only [inG]
      by_cases a : i < e
      · have e1 : inG i r = false := inG_low h4 (by omega)
        rw [e1]
        rw [decide_eq_false (show ¬ g.1 ≤ i by omega)]; simp
      · rw [decide_eq_false a]; simp
    · split
      · rename_i q1 q2
        simp only [inG, ih]
        by_cases a : g.1 ≤ i ∧ i < g.2
        · rw [decide_eq_true a.1, decide_eq_true a.2, decide_eq_false (show ¬ off ≤ i by omega)]; simp
        · have : (decide (g.1 ≤ i) && decide (i < g.2)) = false := by simp; omega
          rw [this]; simp
      · rename_i q1 q2
        rw [inG_app, inG_app, ih]
        simp only [inG]
        have e1 : inG i (if g.1 < max g.1 off then [(g.1, max g.1 off)] else []) = decide (g.1 ≤ i ∧ i < max g.1 off) := by
          split
          · simp [inG]
          · simp only [inG]; symm; apply decide_eq_false; omega
        have e2 : inG i (if min g.2 e < g.2 then [(min g.2 e, g.2)] else []) = decide (min g.2 e ≤ i ∧ i < g.2) := by
          split
          · simp [inG]
          · simp only [inG]; symm; apply decide_eq_false; omega
        rw [e1, e2]
        cases hr : inG i r
        · simp only [Bool.false_and, Bool.or_false]
          rw [Bool.eq_iff_iff]
          simp
          omega
        · have : g.2 < i := by
            rcases Int.lt_or_le g.2 i with q | q
            · exact q
            · rw [inG_low h4 q] at hr; cases hr
          simp only [Bool.true_and, Bool.or_true]
          rw [Bool.eq_iff_iff]
          simp
          omega
theorem blit_bt {b d : List Int} {p : Nat} {i : Int} (h : p + d.length ≤ b.length) (h0 : 0 ≤ i) : bt (blit b p d) i = if (p : Int) ≤ i ∧ i < p + d.length then bt d (i - p) else bt b i := by
  obtain ⟨n, rfl⟩ := Int.eq_ofNat_of_zero_le h0
  unfold bt blit
  simp only [List.getD_eq_getElem?_getD]
  by_cases a : (p : Int) ≤ (n : Int) ∧ (n : Int) < p + d.length
  · rw [if_pos a, List.append_assoc, List.getElem?_append_right (by simp; omega), List.getElem?_append_left (by simp; omega)]
    congr 2
    simp; omega
  · rw [if_neg a]
    by_cases c : n < p
    · rw [List.append_assoc, List.getElem?_append_left (by simp; omega)]
      rw [List.getElem?_take, Int.toNat_natCast, if_pos c]
    · rw [List.getElem?_append_right (by simp; omega), List.getElem?_drop]
      congr 2
      simp; omega
/-- the bytes behind a piece: the piece's where a hole was covered, the elder ones elsewhere -/
theorem putB_bt {top off e : Int} {l : List Int} (h0 : 0 ≤ off) (he : off + l.length = e) (hl : 0 < l.length) : ∀ {gs : List (Int × Int)} {b : Int} {bf : List Int}, Rise top b gs → -1 ≤ b → e.toNat ≤ bf.length → ∀ i : Int, 0 ≤ i → bt (putB off e l gs bf) i = if inG i gs && (decide (off ≤ i) && decide (i < e)) then bt l (i - off) else bt bf i
  | [], _, _, _, _, _, i, _ => by simp [putB, inG]
  | g :: r, b, bf, ⟨h1, h2, h3, h4⟩, hb, hbf, i, hi => by
    unfold putB
    split
    · rename_i q
      have : (inG i (g :: r) && (decide (off ≤ i) && decide (i < e))) = false := by
        by_cases a : i < e
        · have e1 : inG i r = false := inG_low h4 (by omega)
          simp only [inG, e1]
          rw [decide_eq_false (show ¬ g.1 ≤ i by omega)]; rfl
        · rw [decide_eq_false a]; simp
      rw [this]; rfl
    · split
      · rename_i q1 q2
        rw [putB_bt h0 he hl h4 (by omega) hbf i hi]
        have : (inG i (g :: r) && (decide (off ≤ i) && decide (i < e))) = (inG i r && (decide (off ≤ i) && decide (i < e))) := by
          simp only [inG]
          by_cases a : g.1 ≤ i ∧ i < g.2
          · rw [decide_eq_false (show ¬ off ≤ i by omega)]; simp
          · have : (decide (g.1 ≤ i) && decide (i < g.2)) = false := by simp; omega
            rw [this]; simp
        rw [this]
      · rename_i q1 q2
        have pl : ((l.take (min g.2 e - off).toNat).drop (max g.1 off - off).toNat).length = (min g.2 e - max g.1 off).toNat := by simp; omega
        have hfit : (max g.1 off).toNat + ((l.take (min g.2 e - off).toNat).drop (max g.1 off - off).toNat).length ≤ bf.length := by rw [pl]; omega
        have bl : (blit bf (max g.1 off).toNat ((l.take (min g.2 e - off).toNat).drop (max g.1 off - off).toNat)).length = bf.length := by simp [blit]; omega
        rw [putB_bt h0 he hl h4 (by omega) (by rw [bl]; exact hbf) i hi, blit_bt hfit hi, pl]
        by_cases a : g.1 ≤ i ∧ i < g.2
        · have e1 : inG i r = false := inG_low h4 (by omega)
          simp only [inG, e1]
          rw [decide_eq_true a.1, decide_eq_true a.2]
          simp only [Bool.and_self, Bool.or_false, Bool.true_and, Bool.false_and, Bool.false_eq_true, if_false]
          by_cases c : off ≤ i ∧ i < e
          · rw [if_pos (by omega), decide_eq_true c.1, decide_eq_true c.2]
            simp only [Bool.and_self, if_true]
            unfold bt
            simp only [List.getD_eq_getElem?_getD, List.getElem?_drop, List.getElem?_take]
            rw [if_pos (by omega)]
            congr 2
            omega
          · have : (decide (off ≤ i) && decide (i < e)) = false := by simp; omega
            rw [this, if_neg (by omega)]; rfl
        · have : (decide (g.1 ≤ i) && decide (i < g.2)) = false := by simp; omega
          simp only [inG, this, Bool.false_or]
          rw [if_neg (show ¬ (((max g.1 off).toNat : Int) ≤ i ∧ i < ((max g.1 off).toNat : Int) + (((min g.2 e - max g.1 off).toNat : Nat) : Int)) by omega)]
end Go.Vc
