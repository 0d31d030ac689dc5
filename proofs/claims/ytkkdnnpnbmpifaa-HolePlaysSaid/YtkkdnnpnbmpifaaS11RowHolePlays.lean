/- weirlaw11.HolePlays returns true for every input: two Holes, every call in every order, each answers as the document's; what was handed in is written over, what was told is written full. No condition. -/
import Derived.Test.YtkkdnnpnbmpifaaS11W5
import Derived.Test.YtkkdnnpnbmpifaaG4
import Derived.Test.YtkkdnnpnbmpifaaRows
open Go Go.Vc Go.Proofs Go.ChangeShapes Go.WideShapes Go.ChangeAt Go.RowKit
set_option linter.unusedVariables false
set_option maxRecDepth 100000
namespace Go.Proofs.Ytkkdnnpnbmpifaa.rowHolePlays
theorem own : ownKnob Try.prog.godebug = none := by kernel_rfl
theorem laidOut : laidOutB Try.prog = true := by kernel_rfl
theorem lifted (os : Os) (started : os.Started) (H : Type) (enc : TypeId × Value → H) :
    ReturnsInHanded {} Try.checked os 5 .any (Rows.holePlaysSpec.pre6 enc Try.prog Try.f5 Rows.holePlaysRow.domain false) (Rows.holePlaysSpec.post enc Try.prog Try.f5 false true false false) := by
  refine returnsInHanded_of_change_sized (C := Try.checked) own started (by kernel_rfl) Try.func5
    (ChangeSpec.witness6 (enc := enc) (C := Try.checked) false ⟨#[], #[.int .i64 0, .slice none 0 0], []⟩ 8 (by kernel_rfl) (by kernel_rfl) (by kernel_rfl) (by kernel_rfl)) ?_
  intro W base args ds gs before hval hW hcnd hsz _
  have hgs : gs = [] := by obtain ⟨_, _, _, hV, _⟩ := hW; exact (trodVars_none hV).1
  subst hgs
  exact law_post (X := S11.X) S11.X_ok (f := 5) (spec := Rows.holePlaysSpec) (ts := [3, 50]) (tb := 4) (m := 12) laidOut (by rw [Try.params5]) (by kernel_rfl) Try.underlying4 rfl
    (fun ds h => by match ds, h with | [_, _], _ => rfl) (by kernel_rfl) (by kernel_rfl) hval hW (fun svs h => S11.walk5 svs ds h)
theorem over : Rows.holePlaysRow.holds Try.pinned (OpenSpec.ofChange Rows.holePlaysSpec) :=
  OpenClaim.holds_of_wide 5 Try.f5 rfl rfl rfl rfl rfl rfl rfl ⟨rfl, rfl, rfl, rfl, rfl⟩ rfl rfl rfl rfl rfl (by kernel_rfl) Try.func5 (by kernel_rfl)
    (of_decide_eq_true (by kernel_rfl)) (by unfold Func.isWrapper; first | (rw [if_pos (by decide +kernel)]; kernel_rfl) | (rw [if_neg (by decide +kernel)]; exact ⟨rfl, rfl⟩))
    (fun os started H enc _ => lifted os started H enc)
theorem proved : Rows.HolePlaysSaid := over
end Go.Proofs.Ytkkdnnpnbmpifaa.rowHolePlays
