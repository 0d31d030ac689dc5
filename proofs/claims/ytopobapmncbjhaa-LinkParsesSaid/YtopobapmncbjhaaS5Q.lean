import Derived.Test.YtopobapmncbjhaaS5P
open Go Go.Vc Go.Proofs
set_option linter.unusedVariables false
set_option linter.unusedSimpArgs false
set_option autoImplicit false
namespace Go.Vc.S5

theorem w16_mid (A B : List Int) {n : Int} (h : 0 ≤ n ∧ n ≤ 65535) {i : Int} (hi : i = A.length) : w16 (A ++ (two n ++ B)) i = n := by
  subst hi
  unfold w16 bt two
  have e1 : ((A.length : Int)).toNat = A.length := by omega
  have e2 : ((A.length : Int) + 1).toNat = A.length + 1 := by omega
  rw [e1, e2]
  simp [List.getElem?_append_right]
  omega
theorem tci_r {t : Tag} (h : tagV t) : 0 ≤ tci t ∧ tci t ≤ 65535 ∧ tci t % 4096 = t.vid ∧ tci t / 8192 = t.pcp ∧ (tci t / 4096 % 2 == 1) = t.dei := by
  unfold tagV at h
  unfold tci
  cases hd : t.dei <;> simp <;> omega
theorem ploop_ser {type : Int} {data : List Int} (h1 : 1536 ≤ type) (h2 : type ≤ 65535) (h3 : isTagN type = false) : ∀ (rest done : List Tag) (A : List Int) (fuel : Nat), fuel + done.length = 3 → done.length + rest.length ≤ 2 →
    tagsT (done ++ rest) → (∀ x ∈ rest, tagV x) → ploop (A ++ (rest.flatMap tagB ++ (two type ++ data))) fuel done A.length = .ok (done ++ rest, A.length + 4 * rest.length)
  | [], done, A, fuel, hf, hl, hT, hV => by
    obtain ⟨f, rfl⟩ : ∃ f, fuel = f + 1 := ⟨fuel - 1, by omega⟩
    unfold ploop
    rw [List.flatMap_nil, List.nil_append, w16_mid A data ⟨by omega, h2⟩ rfl, if_neg (by simp [h3]), if_neg (by omega)]
    simp
  | x :: r, done, A, fuel, hf, hl, hT, hV => by
    obtain ⟨f, rfl⟩ : ∃ f, fuel = f + 1 := ⟨fuel - 1, by omega⟩
    simp at hl
    have hx := hT done.length (by simp)
    rw [List.getElem_append_right (Nat.le_refl _)] at hx
    simp only [Nat.sub_self, List.getElem_cons_zero] at hx
    have hv := hV x (by simp)
    obtain ⟨c1, c2, c3, c4, c5⟩ := tci_r hv
    have e0 : A ++ ((x :: r).flatMap tagB ++ (two type ++ data)) = A ++ (two x.tpid ++ (two (tci x) ++ (r.flatMap tagB ++ (two type ++ data)))) := by
      rw [List.flatMap_cons]
      unfold tagB
      simp only [List.append_assoc]
    have e1 : w16 (A ++ ((x :: r).flatMap tagB ++ (two type ++ data))) A.length = x.tpid := by rw [e0]; exact w16_mid _ _ (by omega) rfl
    have e2 : w16 (A ++ ((x :: r).flatMap tagB ++ (two type ++ data))) ((A.length + 2 : Nat) : Int) = tci x := by
      rw [e0, ← List.append_assoc]
      exact w16_mid _ _ ⟨c1, c2⟩ (by simp [two])
    have ih := ploop_ser (data := data) h1 h2 h3 r (done ++ [x]) (A ++ tagB x) f (by simp; omega) (by simp; omega) (by simpa using hT) (fun y hy => hV y (by simp [hy]))
    have e3 : A ++ tagB x ++ (r.flatMap tagB ++ (two type ++ data)) = A ++ ((x :: r).flatMap tagB ++ (two type ++ data)) := by simp [List.append_assoc]
    rw [e3] at ih
    unfold ploop
    rw [e1, e2, if_pos (by unfold isTagN; simp; omega), if_neg (by omega), if_neg (by simp [two, tagB_len]; omega), if_neg (by unfold tagV at hv; omega), c3, c4, c5]
    rw [List.length_append, tagB_len] at ih
    rw [show (⟨x.tpid, x.pcp, x.dei, x.vid⟩ : Tag) = x from rfl, ih]
    simp
    omega
theorem bt_app1 {A B : List Int} {i : Nat} (h : i < A.length) : bt (A ++ B) (i : Nat) = bt A (i : Nat) := by
  simp [bt, List.getElem?_append_left h]
theorem bt_app2 {A B : List Int} {i : Nat} : bt (A ++ B) ((A.length + i : Nat) : Int) = bt B (i : Nat) := by
  have : ((A.length : Int) + (i : Int)).toNat = A.length + i := by omega
  simp [bt, List.getElem?_append_right, this]
/-- what was written is read as it was -/
theorem parse_ser {f g : Nat → Int} {tags : List Tag} {type : Int} {data : List Int} (h : chk (g 0) tags type data.length = 0) :
    parse (ser f g tags type data) = .ok (tags, 12 + 4 * tags.length) ∧ w16 (ser f g tags type data) ((12 + 4 * tags.length : Nat) : Int) = type ∧ (ser f g tags type data).drop (12 + 4 * tags.length + 2) = data ∧
    (∀ i, i < 6 → bt (ser f g tags type data) (i : Nat) = f i) ∧ (∀ i, i < 6 → bt (ser f g tags type data) ((6 + i : Nat) : Int) = g i) := by
  obtain ⟨h1, h2, h3, h4, h5, h6, h7, h8⟩ := chk_ok (src := g) h
  have hlen : (ser f g tags type data).length = 14 + 4 * tags.length + data.length := by
    unfold ser
    simp only [List.length_append, arrL_len, tags_len, two, List.length_cons, List.length_nil]; omega
  have e0 : ser f g tags type data = (arrL 6 f ++ arrL 6 g) ++ (tags.flatMap tagB ++ (two type ++ data)) := by
    unfold ser
    simp only [List.append_assoc]
  have l12 : (arrL 6 f ++ arrL 6 g).length = 12 := by simp [arrL_len]
  have hf : ∀ i, i < 6 → bt (ser f g tags type data) (i : Nat) = f i := fun i hi => by
    rw [e0, bt_app1 (by omega), bt_app1 (by rw [arrL_len]; exact hi), arrL_bt (by omega) (by omega)]
    simp
  have hg : ∀ i, i < 6 → bt (ser f g tags type data) ((6 + i : Nat) : Int) = g i := fun i hi => by
    have : bt (arrL 6 f ++ arrL 6 g) ((6 + i : Nat) : Int) = bt (arrL 6 g) (i : Nat) := by
      have := bt_app2 (A := arrL 6 f) (B := arrL 6 g) (i := i)
      rwa [arrL_len] at this
    rw [e0, bt_app1 (by omega), this, arrL_bt (by omega) (by omega)]
    simp
  refine ⟨?_, ?_, ?_, hf, hg⟩
  · unfold parse
    rw [if_neg (by omega), if_neg (by omega)]
    have h60 := hg 0 (by omega)
    rw [if_neg (by rw [show ((6 : Int)) = ((6 + 0 : Nat) : Int) from rfl, h60]; exact h1)]
    have := ploop_ser (type := type) (data := data) h5 h6 h7 tags [] (arrL 6 f ++ arrL 6 g) 3 rfl (by simpa using h2) (by simpa using h3) h4
    rw [e0]
    rw [l12] at this
    simpa using this
  · rw [e0, ← List.append_assoc]
    exact w16_mid _ _ ⟨by omega, h6⟩ (by rw [List.length_append, l12, tags_len])
  · rw [e0, ← List.append_assoc, ← List.append_assoc]
    exact List.drop_left' (by simp only [List.length_append, arrL_len, tags_len, two, List.length_cons, List.length_nil])
end Go.Vc.S5
