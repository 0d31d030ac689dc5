import Derived.Test.YtkkdnnpnbmpifaaS11Many
open Go Go.Vc Go.Proofs
set_option linter.unusedVariables false
set_option linter.unusedSimpArgs false
set_option autoImplicit false
namespace Go.Vc.S11
/-! ### the document's Holes -/
structure Wh where
  max : Int
  has : List Bool
  data : List Int
  fin : Int
  pcs : List (Int × Int × Bool)
def hasAt (W : Wh) (i : Nat) : Bool := W.has.getD i false
def errW (W : Wh) (off : Int) (n : Nat) (more : Bool) : Int :=
  if 65535 < n then 2 else if off < 0 ∨ off.tmod 8 ≠ 0 ∨ (more = true ∧ n % 8 ≠ 0) then 110 else if n = 0 then 111
  else if W.max < off ∨ W.max < off + n then 112 else if 0 ≤ W.fin ∧ more = false ∧ off + n ≠ W.fin then 114
  else if 0 ≤ W.fin ∧ more = true ∧ W.fin < off + n then 113 else if W.fin < 0 ∧ more = false ∧ off + n < W.has.length then 114 else 0
/-- is a place in the piece? -/
def inP (o n i : Nat) : Bool := decide (o ≤ i) && decide (i < o + n)
def hasT (W : Wh) (L o t : Nat) : List Bool := (List.range L).map fun i => hasAt W i || inP o t i
def dataT (W : Wh) (L o : Nat) (l : List Int) (t : Nat) : List Int := (List.range L).map fun i => if !hasAt W i && inP o t i then bt l ((i : Int) - o) else bt W.data i
def putW (W : Wh) (off : Int) (l : List Int) (more : Bool) : Wh :=
  let o := off.toNat
  let L := Max.max W.has.length (o + l.length)
  { max := W.max, has := hasT W L o l.length, data := dataT W L o l l.length, fin := if more = false then off + l.length else W.fin, pcs := W.pcs ++ [(off, (l.length : Int), more)] }
/-- how many of the first t places of the piece are new -/
def newC (W : Wh) (o : Nat) : Nat → Nat
  | 0 => 0
  | t + 1 => newC W o t + if hasAt W (o + t) then 0 else 1
def sameC (W : Wh) (o : Nat) (l : List Int) (t : Nat) : Bool := (List.range t).all fun j => !hasAt W (o + j) || decide (bt W.data ((o + j : Nat) : Int) = bt l (j : Int))
theorem newC_le (W : Wh) (o : Nat) : ∀ t, newC W o t ≤ t
  | 0 => Nat.le_refl _
  | t + 1 => by have := newC_le W o t; unfold newC; split <;> omega
theorem sameC_succ (W : Wh) (o : Nat) (l : List Int) (t : Nat) : sameC W o l (t + 1) = (sameC W o l t && (!hasAt W (o + t) || decide (bt W.data ((o + t : Nat) : Int) = bt l (t : Int)))) := by
  unfold sameC
  rw [List.range_succ, List.all_append]
  simp
theorem hasT_get {W : Wh} {L o t i : Nat} (h : i < L) : (hasT W L o t)[i]? = some (hasAt W i || inP o t i) := by
  unfold hasT; rw [List.getElem?_map, List.getElem?_range h]; rfl
theorem dataT_get {W : Wh} {L o t i : Nat} {l : List Int} (h : i < L) : (dataT W L o l t)[i]? = some (if !hasAt W i && inP o t i then bt l ((i : Int) - o) else bt W.data i) := by
  unfold dataT; rw [List.getElem?_map, List.getElem?_range h]; rfl
theorem hasT_len (W : Wh) (L o t : Nat) : (hasT W L o t).length = L := by simp [hasT]
theorem dataT_len (W : Wh) (L o t : Nat) (l : List Int) : (dataT W L o l t).length = L := by simp [dataT]
theorem ext_opt {α : Type} {a b : List α} (h : a.length = b.length) (k : ∀ i, i < a.length → a[i]? = b[i]?) : a = b := by
  refine List.ext_getElem? fun i => ?_
  by_cases c : i < a.length
  · exact k i c
  · rw [List.getElem?_eq_none (by omega), List.getElem?_eq_none (by omega)]
theorem hasT_succ_new {W : Wh} {L o t : Nat} (h : o + t < L) : (hasT W L o t).set (o + t) true = hasT W L o (t + 1) := by
  refine ext_opt (by simp [hasT]) fun i hi => ?_
  rw [List.length_set, hasT_len] at hi
  rw [hasT_get hi]
  by_cases e : o + t = i
  · subst e
    rw [List.getElem?_set_self (by rw [hasT_len]; exact h)]
    unfold inP; simp
  · rw [List.getElem?_set_ne e, hasT_get hi]
    congr 2
    unfold inP
    rw [Bool.eq_iff_iff]; simp; omega
theorem hasT_succ_old {W : Wh} {L o t : Nat} (h : hasAt W (o + t) = true) : hasT W L o (t + 1) = hasT W L o t := by
  refine ext_opt (by simp [hasT]) fun i hi => ?_
  rw [hasT_len] at hi
  rw [hasT_get hi, hasT_get hi]
  by_cases e : o + t = i
  · subst e; rw [h]; rfl
  · congr 2
    unfold inP
    rw [Bool.eq_iff_iff]; simp; omega
theorem dataT_succ_new {W : Wh} {L o t : Nat} {l : List Int} (h : o + t < L) (hn : hasAt W (o + t) = false) : (dataT W L o l t).set (o + t) (bt l (t : Int)) = dataT W L o l (t + 1) := by
  refine ext_opt (by simp [dataT]) fun i hi => ?_
  rw [List.length_set, dataT_len] at hi
  rw [dataT_get hi]
  by_cases e : o + t = i
  · subst e
    rw [List.getElem?_set_self (by rw [dataT_len]; exact h), hn]
    have : inP o (t + 1) (o + t) = true := by unfold inP; simp
    rw [this]
    simp only [Bool.not_false, Bool.and_self, if_true]
    congr 2; omega
  · rw [List.getElem?_set_ne e, dataT_get hi]
    have : inP o (t + 1) i = inP o t i := by
      unfold inP
      rw [Bool.eq_iff_iff]; simp; omega
    rw [this]
theorem dataT_succ_old {W : Wh} {L o t : Nat} {l : List Int} (h : hasAt W (o + t) = true) : dataT W L o l (t + 1) = dataT W L o l t := by
  refine ext_opt (by simp [dataT]) fun i hi => ?_
  rw [dataT_len] at hi
  rw [dataT_get hi, dataT_get hi]
  by_cases e : o + t = i
  · subst e; rw [h]; rfl
  · have : inP o (t + 1) i = inP o t i := by
      unfold inP
      rw [Bool.eq_iff_iff]; simp; omega
    rw [this]
theorem hasT_zero {W : Wh} {L o : Nat} (h : W.has.length ≤ L) : hasT W L o 0 = W.has ++ List.replicate (L - W.has.length) false := by
  refine ext_opt (by simp [hasT]; omega) fun i hi => ?_
  rw [hasT_len] at hi
  have e0 : inP o 0 i = false := by unfold inP; simp
  rw [hasT_get hi, e0, Bool.or_false]
  unfold hasAt
  rw [List.getD_eq_getElem?_getD]
  by_cases c : i < W.has.length
  · rw [List.getElem?_append_left c, List.getElem?_eq_getElem c]; rfl
  · rw [List.getElem?_append_right (by omega), List.getElem?_replicate, if_pos (by omega), List.getElem?_eq_none (by omega)]; rfl
theorem dataT_zero {W : Wh} {L o : Nat} {l : List Int} (h : W.data.length ≤ L) : dataT W L o l 0 = W.data ++ List.replicate (L - W.data.length) 0 := by
  refine ext_opt (by simp [dataT]; omega) fun i hi => ?_
  rw [dataT_len] at hi
  have e0 : inP o 0 i = false := by unfold inP; simp
  rw [dataT_get hi, e0, Bool.and_false]
  simp only [Bool.false_eq_true, if_false]
  unfold bt
  rw [List.getD_eq_getElem?_getD, Int.toNat_natCast]
  by_cases c : i < W.data.length
  · rw [List.getElem?_append_left c, List.getElem?_eq_getElem c]; rfl
  · rw [List.getElem?_append_right (by omega), List.getElem?_replicate, if_pos (by omega), List.getElem?_eq_none (by omega)]; rfl
/-! ### counting places -/
def cntI (f : Nat → Bool) : Nat → Int
  | 0 => 0
  | n + 1 => cntI f n + if f n then 1 else 0
theorem cntI_congr {f g : Nat → Bool} : ∀ {n : Nat}, (∀ i, i < n → f i = g i) → cntI f n = cntI g n
  | 0, _ => rfl
  | n + 1, h => by
    unfold cntI
    rw [cntI_congr fun i hi => h i (by omega), h n (by omega)]
theorem cntI_add {f g : Nat → Bool} : ∀ {n : Nat}, (∀ i, i < n → ¬ (f i = true ∧ g i = true)) → cntI (fun i => f i || g i) n = cntI f n + cntI g n
  | 0, _ => rfl
  | n + 1, h => by
    have := h n (by omega)
    unfold cntI
    rw [cntI_add fun i hi => h i (by omega)]
    cases hf : f n <;> cases hg : g n <;> simp_all <;> omega
theorem cntI_false {f : Nat → Bool} : ∀ {n : Nat}, (∀ i, i < n → f i = false) → cntI f n = 0
  | 0, _ => rfl
  | n + 1, h => by
    unfold cntI
    rw [cntI_false fun i hi => h i (by omega), h n (by omega)]
    rfl
theorem cntI_between {a b : Int} (ha : 0 ≤ a) (hab : a ≤ b) : ∀ {n : Nat}, cntI (fun i => decide (a ≤ (i : Int)) && decide ((i : Int) < b)) n = min (n : Int) b - min (n : Int) a
  | 0 => by simp [cntI]; omega
  | n + 1 => by
    unfold cntI
    rw [cntI_between ha hab]
    by_cases h1 : a ≤ (n : Int)
    · by_cases h2 : (n : Int) < b
      · rw [decide_eq_true h1, decide_eq_true h2]; simp only [Bool.and_self, if_true]; omega
      · rw [decide_eq_false h2]; simp only [Bool.and_false, Bool.false_eq_true, if_false]; omega
    · rw [decide_eq_false h1]; simp only [Bool.false_and, Bool.false_eq_true, if_false]; omega
theorem lens_cnt {top : Int} : ∀ {l : List (Int × Int)} {b : Int} {n : Nat}, Rise top b l → -1 ≤ b → top ≤ n → lens l = cntI (fun i => inG (i : Int) l) n
  | [], _, _, _, _, _ => (cntI_false (f := fun i => inG (i : Int) []) fun i _ => rfl).symm
  | g :: r, b, n, ⟨h1, h2, h3, h4⟩, hb, hn => by
    have ih := lens_cnt (n := n) h4 (by omega) hn
    simp only [lens, ih]
    have e : cntI (fun i => inG (i : Int) (g :: r)) n = cntI (fun i => decide (g.1 ≤ (i : Int)) && decide ((i : Int) < g.2)) n + cntI (fun i => inG (i : Int) r) n := by
      have hd : ∀ i, i < n → ¬ ((decide (g.1 ≤ (i : Int)) && decide ((i : Int) < g.2)) = true ∧ inG (i : Int) r = true) := fun i hi ⟨q1, q2⟩ => by
        simp only [Bool.and_eq_true, decide_eq_true_eq] at q1
        rw [inG_low h4 (by omega)] at q2
        cases q2
      rw [← cntI_add hd]
      exact cntI_congr fun i _ => rfl
    rw [e, cntI_between (by omega) (by omega)]
    omega

theorem cntI_not {f : Nat → Bool} : ∀ {n : Nat}, cntI (fun i => !f i) n = n - cntI f n
  | 0 => rfl
  | n + 1 => by
    unfold cntI
    rw [cntI_not]
    cases f n <;> simp <;> omega
theorem cntI_more {f : Nat → Bool} {m : Nat} : ∀ {n : Nat}, m ≤ n → (∀ i, m ≤ i → i < n → f i = false) → cntI f n = cntI f m
  | 0, h, _ => by rw [show m = 0 by omega]
  | n + 1, h, k => by
    by_cases e : m = n + 1
    · rw [e]
    · show cntI f n + (if f n = true then 1 else 0) = _
      rw [cntI_more (n := n) (by omega) fun i a b => k i a (by omega), k n (by omega) (by omega)]
      simp
end Go.Vc.S11
