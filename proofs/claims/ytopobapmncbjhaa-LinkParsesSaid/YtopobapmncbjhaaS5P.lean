import Derived.Test.YtopobapmncbjhaaS5E
open Go Go.Vc Go.Proofs
set_option linter.unusedVariables false
set_option linter.unusedSimpArgs false
set_option autoImplicit false
namespace Go.Vc.S5

theorem two_w16 {l : List Int} (hb : Byt l) {i : Nat} (h : i + 1 < l.length) : two (w16 l (i : Nat)) = [l[i], l[i + 1]] := by
  have h1 := hb.bt (i : Nat)
  have h2 := hb.bt ((i : Int) + 1)
  have e1 := bt_nat (l := l) (i := i) (by omega)
  have e2 : bt l ((i : Int) + 1) = l[i + 1] := by
    have := bt_nat (l := l) (i := i + 1) h
    simpa using this
  unfold two w16
  rw [← e1, ← e2]
  congr 1
  · omega
  · congr 1
    omega
theorem take_two {l : List Int} (hb : Byt l) {i : Nat} (h : i + 2 ≤ l.length) : l.take (i + 2) = l.take i ++ two (w16 l (i : Nat)) := by
  rw [two_w16 hb (by omega), take_snoc (show i + 1 < l.length by omega), take_snoc (show i < l.length by omega), List.append_assoc]
  rfl
theorem tci_of {v : Int} (h : 0 ≤ v ∧ v ≤ 65535) (n : Int) : tci ⟨n, v / 8192, v / 4096 % 2 == 1, v % 4096⟩ = v := by
  unfold tci
  by_cases e : v / 4096 % 2 = 1
  · simp [e]; omega
  · simp [e]; omega

structure Good (l : List Int) (tags : List Tag) (t : Nat) : Prop where
  pos : t = 12 + 4 * tags.length
  lim : t + 2 ≤ l.length
  tpid : tagsT tags
  val : ∀ x ∈ tags, tagV x
  pre : l.take t = l.take 12 ++ tags.flatMap tagB
theorem ploop_ok {l : List Int} (hb : Byt l) : ∀ (f : Nat) (tags : List Tag) (t : Nat) (tags' : List Tag) (t' : Nat), f + tags.length = 3 → Good l tags t → ploop l f tags t = .ok (tags', t') →
    Good l tags' t' ∧ tags'.length ≤ 2 ∧ isTagN (w16 l t') = false ∧ 1536 ≤ w16 l t'
  | 0, tags, t, tags', t', hf, hg, h => by simp [ploop] at h
  | f + 1, tags, t, tags', t', hf, hg, h => by
    unfold ploop at h
    split at h
    · rename_i hT
      split at h; · cases h
      split at h; · cases h
      split at h; · cases h
      rename_i h1 h2 h3
      have hr := w16_r hb ((t + 2 : Nat) : Int)
      refine ploop_ok hb f _ _ _ _ (by simp; omega) ⟨by have := hg.pos; simp; omega, by omega, fun i hi => ?_, fun x hx => ?_, ?_⟩ h
      · rcases Nat.lt_or_ge i tags.length with hlt | hge
        · rw [List.getElem_append_left hlt]; exact hg.tpid i hlt
        · rw [List.getElem_append_right hge]
          simp at hi
          simp only [List.getElem_singleton]
          simp [isTagN] at hT
          have : i = tags.length := by omega
          omega
      · rcases List.mem_append.1 hx with hx | hx
        · exact hg.val x hx
        · obtain rfl := List.mem_singleton.1 hx
          unfold tagV
          dsimp only
          omega
      · rw [show t + 4 = (t + 2) + 2 by omega, take_two hb (by omega), take_two hb (by omega), hg.pre, List.flatMap_append]
        have e : tagB ⟨w16 l t, w16 l ((t + 2 : Nat) : Int) / 8192, w16 l ((t + 2 : Nat) : Int) / 4096 % 2 == 1, w16 l ((t + 2 : Nat) : Int) % 4096⟩ = two (w16 l t) ++ two (w16 l ((t + 2 : Nat) : Int)) := by
          unfold tagB
          rw [tci_of hr]
        simp only [List.flatMap_cons, List.flatMap_nil, List.append_nil, e, List.append_assoc]
    · rename_i hT
      split at h; · cases h
      rename_i h1
      injection h with h
      injection h with h2 h3
      subst h2 h3
      exact ⟨hg, by omega, by simpa using hT, by omega⟩
theorem parse_ok {l : List Int} (hb : Byt l) {tags : List Tag} {t : Nat} (h : parse l = .ok (tags, t)) : l.length ≤ 65535 ∧ 14 ≤ l.length ∧ bt l 6 % 2 ≠ 1 ∧ Good l tags t ∧ tags.length ≤ 2 ∧ isTagN (w16 l t) = false ∧ 1536 ≤ w16 l t := by
  unfold parse at h
  split at h; · cases h
  split at h; · cases h
  split at h; · cases h
  rename_i h1 h2 h3
  exact ⟨by omega, by omega, h3, ploop_ok hb 3 [] 12 tags t rfl ⟨rfl, by omega, fun i hi => by simp at hi, by simp, by simp⟩ h⟩
theorem chk_zero {s0 type : Int} {tags : List Tag} {n : Nat} (h1 : s0 % 2 ≠ 1) (h2 : tags.length ≤ 2) (h3 : tagsT tags) (h4 : ∀ t ∈ tags, tagV t) (h5 : 1536 ≤ type) (h6 : type ≤ 65535) (h7 : isTagN type = false) (h8 : 14 + 4 * tags.length + n ≤ 65535) :
    chk s0 tags type n = 0 := by
  unfold chk
  rw [if_neg h1, if_neg (by omega), if_neg (not_not_intro h3), if_neg (not_not_intro h4), if_neg (by simp [h7]; omega), if_neg (by omega)]
theorem arr6 {l : List Int} {f : Nat → Int} {k : Nat} (h : k + 6 ≤ l.length) (hf : ∀ i, i < 6 → f i = bt l ((k + i : Nat) : Int)) : arrL 6 f = (l.take (k + 6)).drop k := by
  refine List.ext_getElem (by rw [arrL_len]; simp; omega) fun i h1 h2 => ?_
  rw [arrL_len] at h1
  have h3 : k + i < l.length := by omega
  simp only [arrL, List.getElem_map, List.getElem_range, List.getElem_drop, List.getElem_take]
  rw [hf i h1, bt_nat h3]
/-- what was read is written as it was -/
theorem ser_parse {l : List Int} (hb : Byt l) {tags : List Tag} {t : Nat} (h : parse l = .ok (tags, t)) {f g : Nat → Int} (hf : ∀ i, i < 6 → f i = bt l (i : Nat)) (hg : ∀ i, i < 6 → g i = bt l ((6 + i : Nat) : Int)) :
    chk (g 0) tags (w16 l t) (l.drop (t + 2)).length = 0 ∧ ser f g tags (w16 l t) (l.drop (t + 2)) = l := by
  obtain ⟨h1, h2, h3, h4, h5, h6, h7⟩ := parse_ok hb h
  have hp := h4.pos
  have hlim := h4.lim
  have hr := w16_r hb t
  refine ⟨chk_zero (by rw [hg 0 (by omega)]; exact h3) h5 h4.tpid h4.val h7 hr.2 h6 (by rw [List.length_drop]; omega), ?_⟩
  unfold ser
  rw [arr6 (l := l) (f := f) (k := 0) (by omega) (fun i hi => by rw [hf i hi]; congr 1; omega), arr6 (l := l) (f := g) (k := 6) (by omega) hg]
  have e12 : (l.take (0 + 6)).drop 0 ++ (l.take (6 + 6)).drop 6 = l.take 12 := by
    rw [List.drop_zero, show l.take (0 + 6) = (l.take (6 + 6)).take 6 by rw [List.take_take]; rfl, List.take_append_drop]
  rw [e12, ← h4.pre, ← take_two hb hlim, List.take_append_drop]
/-- and read as it was -/
theorem small_parse : parse [255, 255, 255, 255, 255, 255, 2, 0, 0, 0, 0, 1, 8, 0, 7] = .ok ([], 12) := by
  simp [parse, ploop, w16, bt, isTagN]
end Go.Vc.S5
