import Derived.Test.YtlohkdkgpajkaaaDoorS6L15
open Go Go.Vc Go.Proofs
set_option linter.unusedVariables false
set_option linter.unusedSimpArgs false
set_option autoImplicit false
namespace Go.Vc.S6
theorem hopL_ok {l : List Int} (hb : Byt l) : Byt (hopL l) ∧ (hopL l).length = l.length := by
  unfold hopL
  split
  · rename_i h
    have h8 : 2 ≤ bt l 8 := by
      unfold hopE at h
      split at h
      · rename_i h1; exact absurd h h1
      · split at h
        · cases h
        · omega
    exact ⟨hop_byt hb h8, hop_len l⟩
  · exact ⟨hb, rfl⟩
theorem optsP_few {l : List Int} (hb : Byt l) {ps : List (Nat × Nat)} (h : optsP ok4 l = some ps) : ps.length ≤ 40 := by
  have hp := optsP_places ok4_two hb h
  have h2 := flat_psLen hp.1
  unfold optsP at h
  split at h
  · cases h
  have h1 := opos_len _ _ _ _ (by simp [psLen]) (by omega) h
  have h3 := flat_ge (ps.map (optAt l))
  rw [List.length_map] at h3
  omega
end Go.Vc.S6
