/- weirlaw11.HoleMany returns true for every input: up to 65535 bytes in pieces, each second one first, then the others from behind: each is taken, none is there before; between them are as many holes as pieces are wanting; it is whole with the last one and no sooner; the bytes are what was cut. No condition. -/
import Derived.Test.YtkkdnnpnbmpifaaS11W9
import Derived.Test.YtkkdnnpnbmpifaaG4
import Derived.Test.YtkkdnnpnbmpifaaRows
open Go Go.Vc Go.Proofs Go.ChangeShapes Go.WideShapes Go.ChangeAt Go.RowKit
set_option linter.unusedVariables false
set_option maxRecDepth 100000
namespace Go.Proofs.Ytkkdnnpnbmpifaa.rowHoleMany
theorem own : ownKnob Try.prog.godebug = none := by kernel_rfl
theorem laidOut : laidOutB Try.prog = true := by kernel_rfl
theorem lifted (os : Os) (started : os.Started) (H : Type) (enc : TypeId × Value → H) :
    ReturnsInHanded {} Try.checked os 9 .any (Rows.holeManySpec.pre6 enc Try.prog Try.f9 Rows.holeManyRow.domain false) (Rows.holeManySpec.post enc Try.prog Try.f9 false true false false) := by
  refine returnsInHanded_of_change_sized (C := Try.checked) own started (by kernel_rfl) Try.func9
    (ChangeSpec.witness6 (enc := enc) (C := Try.checked) false ⟨#[], #[.int .i64 0, .int .i64 0], []⟩ 8 (by kernel_rfl) (by kernel_rfl) (by kernel_rfl) (by kernel_rfl)) ?_
  intro W base args ds gs before hval hW hcnd hsz _
  have hgs : gs = [] := by obtain ⟨_, _, _, hV, _⟩ := hW; exact (trodVars_none hV).1
  subst hgs
  exact law_post (X := S11.X) S11.X_ok (f := 9) (spec := Rows.holeManySpec) (ts := [3, 3]) (tb := 4) (m := 12) laidOut (by rw [Try.params9]) (by kernel_rfl) Try.underlying4 rfl
    (fun ds h => by match ds, h with | [_, _], _ => rfl) (by kernel_rfl) (by kernel_rfl) hval hW (fun svs h => S11.walk9 svs ds h)
theorem over : Rows.holeManyRow.holds Try.pinned (OpenSpec.ofChange Rows.holeManySpec) :=
  OpenClaim.holds_of_wide 9 Try.f9 rfl rfl rfl rfl rfl rfl rfl ⟨rfl, rfl, rfl, rfl, rfl⟩ rfl rfl rfl rfl rfl (by kernel_rfl) Try.func9 (by kernel_rfl)
    (of_decide_eq_true (by kernel_rfl)) (by unfold Func.isWrapper; first | (rw [if_pos (by decide +kernel)]; kernel_rfl) | (rw [if_neg (by decide +kernel)]; exact ⟨rfl, rfl⟩))
    (fun os started H enc _ => lifted os started H enc)
theorem proved : Rows.HoleManySaid := over
end Go.Proofs.Ytkkdnnpnbmpifaa.rowHoleMany
