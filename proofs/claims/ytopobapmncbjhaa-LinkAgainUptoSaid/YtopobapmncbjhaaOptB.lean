import Derived.Test.YtopobapmncbjhaaOptA
namespace Go.Vc
set_option linter.unusedVariables false
set_option linter.unusedSimpArgs false
set_option autoImplicit false

theorem bt_app_r (a b : List Int) (i : Nat) : bt (a ++ b) ((a.length + i : Nat) : Int) = bt b (i : Int) := by
  simp only [bt, Int.toNat_natCast, List.getD_eq_getElem?_getD]
  rw [List.getElem?_append_right (by omega), Nat.add_sub_cancel_left]
theorem bt_app_l {a b : List Int} {i : Nat} (h : i < a.length) : bt (a ++ b) (i : Int) = bt a (i : Int) := by
  simp only [bt, Int.toNat_natCast, List.getD_eq_getElem?_getD]
  rw [List.getElem?_append_left h]
theorem bt_zeros {z : List Int} (hz : ∀ x ∈ z, x = 0) (i : Int) : bt z i = 0 := by
  simp only [bt, List.getD_eq_getElem?_getD]
  by_cases h : i.toNat < z.length
  · rw [List.getElem?_eq_getElem h]; exact hz _ (List.getElem_mem h)
  · rw [List.getElem?_eq_none (by omega)]; rfl

def optPs : Nat → List Opt → List (Nat × Nat)
  | _, [] => []
  | t, o :: r => (t, t + (2 + o.data.length)) :: optPs (t + (2 + o.data.length)) r
theorem opos_put {ok : Int → Int → Bool} {z : List Int} (hz : ∀ x ∈ z, x = 0) : ∀ (rest : List Opt) (pre : List Int) (f : Nat) (acc : List (Nat × Nat)), rest.length + 1 ≤ f →
    (∀ o ∈ rest, okO o ∧ ok o.kind ((2 + o.data.length : Nat) : Int) = true) → opos ok (pre ++ (rest.flatMap optB ++ z)) f pre.length acc = some (acc ++ optPs pre.length rest)
  | [], pre, f, acc, hf, _ => by
    obtain ⟨f, rfl⟩ : ∃ g, f = g + 1 := ⟨f - 1, by omega⟩
    unfold opos
    by_cases h : (pre ++ (([] : List Opt).flatMap optB ++ z)).length ≤ pre.length
    · rw [if_pos h]; simp [optPs]
    · rw [if_neg h, if_pos]
      · simp [optPs]
      · have := bt_app_r pre (([] : List Opt).flatMap optB ++ z) 0
        rw [Nat.add_zero] at this
        rw [this]
        exact bt_zeros (by simpa using hz) _
  | o :: r, pre, f, acc, hf, ho => by
    obtain ⟨f, rfl⟩ : ∃ g, f = g + 1 := ⟨f - 1, by omega⟩
    have hf' : r.length + 1 ≤ f := by simp at hf; omega
    obtain ⟨⟨h1, h2, h3⟩, hk⟩ := ho o (by simp)
    have e0 : (o :: r).flatMap optB ++ z = o.kind % 256 :: (((2 + o.data.length : Nat) : Int) % 256) :: (o.data ++ (r.flatMap optB ++ z)) := by simp [optB]
    have b0 : bt (pre ++ ((o :: r).flatMap optB ++ z)) (pre.length : Int) = o.kind := by
      have := bt_app_r pre ((o :: r).flatMap optB ++ z) 0
      rw [Nat.add_zero] at this
      rw [this, e0]
      simp [bt]
      omega
    have b1 : bt (pre ++ ((o :: r).flatMap optB ++ z)) ((pre.length + 1 : Nat) : Int) = ((2 + o.data.length : Nat) : Int) := by
      rw [bt_app_r, e0]
      simp [bt]
      omega
    have ih := opos_put hz r (pre ++ optB o) f (acc ++ [(pre.length, pre.length + (2 + o.data.length))]) hf' (fun x hx => ho x (by simp [hx]))
    have e1 : pre ++ optB o ++ (r.flatMap optB ++ z) = pre ++ ((o :: r).flatMap optB ++ z) := by simp
    have e2 : (pre ++ optB o).length = pre.length + (2 + o.data.length) := by rw [List.length_append, optB_len]
    rw [e1, e2] at ih
    have hlen : (pre ++ ((o :: r).flatMap optB ++ z)).length = pre.length + (2 + o.data.length) + (r.flatMap optB ++ z).length := by rw [← e1, List.length_append, e2]
    unfold opos
    rw [b0, b1, if_neg (by omega), if_neg (by omega), if_neg (by omega), if_neg (by omega), hk, if_neg (by simp), Int.toNat_natCast, if_neg (by omega), ih]
    simp [optPs]
theorem optAt_put (pre tail : List Int) (o : Opt) (h : okO o) : optAt (pre ++ (optB o ++ tail)) (pre.length, pre.length + (2 + o.data.length)) = o := by
  obtain ⟨h1, h2, h3⟩ := h
  have b0 : bt (pre ++ (optB o ++ tail)) (pre.length : Int) = o.kind := by
    have := bt_app_r pre (optB o ++ tail) 0
    rw [Nat.add_zero] at this
    rw [this]
    simp [optB, bt]
    omega
  have e : ((pre ++ (optB o ++ tail)).take (pre.length + (2 + o.data.length))).drop (pre.length + 2) = o.data := by
    have e1 : pre ++ (optB o ++ tail) = (pre ++ [o.kind % 256, ((2 + o.data.length : Nat) : Int) % 256]) ++ o.data ++ tail := by simp [optB]
    have e2 : pre.length + (2 + o.data.length) = ((pre ++ [o.kind % 256, ((2 + o.data.length : Nat) : Int) % 256]) ++ o.data).length := by simp; omega
    have e3 : pre.length + 2 = (pre ++ [o.kind % 256, ((2 + o.data.length : Nat) : Int) % 256]).length := by simp
    rw [e1, e2, List.take_left, e3, List.drop_left]
  unfold optAt
  rw [b0, e]
theorem optPs_map (z : List Int) : ∀ (rest : List Opt) (pre : List Int), (∀ o ∈ rest, okO o) → (optPs pre.length rest).map (optAt (pre ++ (rest.flatMap optB ++ z))) = rest
  | [], _, _ => rfl
  | o :: r, pre, h => by
    have ih := optPs_map z r (pre ++ optB o) (fun x hx => h x (by simp [hx]))
    have e1 : pre ++ optB o ++ (r.flatMap optB ++ z) = pre ++ (optB o ++ (r.flatMap optB ++ z)) := by simp
    have e2 : (pre ++ optB o).length = pre.length + (2 + o.data.length) := by rw [List.length_append, optB_len]
    rw [e1, e2] at ih
    simp only [optPs, List.map_cons, List.flatMap_cons, List.append_assoc]
    rw [optAt_put _ _ _ (h o (by simp)), ih]
theorem flat_ge (l : List Opt) : l.length ≤ (l.flatMap optB).length := by
  induction l with
  | nil => simp
  | cons o r ih => simp only [List.flatMap_cons, List.length_append, optB_len, List.length_cons]; omega
/-- what is written is read as it was -/
theorem optsP_put {ok : Int → Int → Bool} {l : List Opt} (h : putOk l) (hk : ∀ o ∈ l, ok o.kind ((2 + o.data.length : Nat) : Int) = true) : ∃ ps, optsP ok (putO l) = some ps ∧ ps.map (optAt (putO l)) = l := by
  have hl := putO_len h
  refine ⟨optPs 0 l, ?_, ?_⟩
  · unfold optsP
    rw [if_neg (by omega)]
    have := opos_put (ok := ok) (z := List.replicate ((4 - (l.flatMap optB).length % 4) % 4) 0) (fun x hx => List.eq_of_mem_replicate hx) l [] ((putO l).length + 1) [] (by
      have := flat_ge l
      have := (pad4_len (l.flatMap optB)).2.1
      unfold putO
      omega) (fun o ho => ⟨h.1 o ho, hk o ho⟩)
    simpa [putO, pad4] using this
  · have := optPs_map (List.replicate ((4 - (l.flatMap optB).length % 4) % 4) 0) l [] h.1
    simpa [putO, pad4] using this

def psLen (ps : List (Nat × Nat)) : Nat := (ps.map fun p => p.2 - p.1).sum
theorem opos_len {ok : Int → Int → Bool} {l : List Int} : ∀ (f t : Nat) (acc ps : List (Nat × Nat)), psLen acc ≤ t → t ≤ l.length → opos ok l f t acc = some ps → psLen ps ≤ l.length
  | 0, t, acc, ps, _, _, h => by simp [opos] at h
  | f + 1, t, acc, ps, ha, ht, h => by
    unfold opos at h
    split at h
    · injection h with h; subst h; omega
    split at h
    · injection h with h; subst h; omega
    split at h
    · exact opos_len f _ _ _ (by omega) (by omega) h
    split at h
    · cases h
    split at h
    · cases h
    split at h
    · cases h
    refine opos_len f _ _ _ ?_ (by omega) h
    simp [psLen] at ha ⊢
    omega
theorem flat_psLen {l : List Int} : ∀ {ps : List (Nat × Nat)}, Places l ps → ((ps.map (optAt l)).flatMap optB).length = psLen ps
  | [], _ => rfl
  | p :: ps, h => by
    have ih := flat_psLen (l := l) (ps := ps) (fun x hx => h x (by simp [hx]))
    have hp := h p (by simp)
    simp only [List.map_cons, List.flatMap_cons, List.length_append, optB_len, ih, psLen, List.sum_cons, optAt, List.length_drop, List.length_take]
    omega
/-- what is read may be written, and is no longer -/
theorem optsP_ok {ok : Int → Int → Bool} (hok : ∀ k n, ok k n = true → 2 ≤ n) {l : List Int} (hb : Byt l) {ps : List (Nat × Nat)} (h : optsP ok l = some ps) :
    putOk (ps.map (optAt l)) ∧ ((ps.map (optAt l)).flatMap optB).length ≤ l.length := by
  obtain ⟨hp, hl⟩ := optsP_places hok hb h
  unfold optsP at h
  rw [if_neg (by omega)] at h
  have h1 := opos_len _ _ _ _ (by simp [psLen]) (by omega) h
  have h2 := flat_psLen hp
  refine ⟨⟨fun o ho => ?_, by omega⟩, by omega⟩
  obtain ⟨p, hpm, rfl⟩ := List.mem_map.1 ho
  have := hp p hpm
  have := hb.bt (p.1 : Int)
  unfold okO optAt
  simp only [List.length_drop, List.length_take]
  omega
theorem putO_le {ok : Int → Int → Bool} (hok : ∀ k n, ok k n = true → 2 ≤ n) {l : List Int} (hb : Byt l) (h4 : l.length % 4 = 0) {ps : List (Nat × Nat)} (h : optsP ok l = some ps) : (putO (ps.map (optAt l))).length ≤ l.length := by
  have := (optsP_ok hok hb h).2
  have := pad4_len ((ps.map (optAt l)).flatMap optB)
  unfold putO
  omega
/-- an option's kind and length were let by -/
theorem opos_ok {ok : Int → Int → Bool} (hok : ∀ k n, ok k n = true → 2 ≤ n) {l : List Int} : ∀ (f t : Nat) (acc ps : List (Nat × Nat)), (∀ p ∈ acc, ok (bt l (p.1 : Int)) ((p.2 - p.1 : Nat) : Int) = true) → opos ok l f t acc = some ps → ∀ p ∈ ps, ok (bt l (p.1 : Int)) ((p.2 - p.1 : Nat) : Int) = true
  | 0, t, acc, ps, _, h => by simp [opos] at h
  | f + 1, t, acc, ps, ha, h => by
    unfold opos at h
    split at h
    · injection h with h; subst h; exact ha
    split at h
    · injection h with h; subst h; exact ha
    split at h
    · exact opos_ok hok f _ _ _ ha h
    split at h
    · cases h
    split at h
    · cases h
    rename_i h5
    split at h
    · cases h
    refine opos_ok hok f _ _ _ (fun p hp => ?_) h
    rcases List.mem_append.1 hp with hp | hp
    · exact ha p hp
    · rw [List.mem_singleton] at hp
      subst hp
      have h5' : ok (bt l (t : Int)) (bt l ((t + 1 : Nat) : Int)) = true := by simpa using h5
      have := hok _ _ h5'
      rw [show ((t + (bt l ((t + 1 : Nat) : Int)).toNat - t : Nat) : Int) = bt l ((t + 1 : Nat) : Int) by omega]
      exact h5'
end Go.Vc
