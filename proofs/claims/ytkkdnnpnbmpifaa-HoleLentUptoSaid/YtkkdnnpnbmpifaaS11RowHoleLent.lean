/- weirlaw11.HoleLent returns true for every input of bulk at most 1048576 (the condition of the given statement): bytes and holes that were asked for twice are their caller's own, and the Holes is as it was. -/
import Derived.Test.YtkkdnnpnbmpifaaS11W8
import Derived.Test.YtkkdnnpnbmpifaaG4
import Derived.Test.YtkkdnnpnbmpifaaRows
open Go Go.Vc Go.Proofs Go.ChangeShapes Go.WideShapes Go.ChangeAt Go.RowKit
set_option linter.unusedVariables false
set_option maxRecDepth 100000
namespace Go.Proofs.Ytkkdnnpnbmpifaa.rowHoleLent
theorem own : ownKnob Try.prog.godebug = none := by kernel_rfl
theorem laidOut : laidOutB Try.prog = true := by kernel_rfl
theorem lifted (os : Os) (started : os.Started) (H : Type) (enc : TypeId × Value → H) (F : Stop.Interp) :
    ReturnsInHanded {} Try.checked os 8 .any ((Rows.OpenSpec.upto Rows.holeLentSpec).pre6 enc Try.prog Try.f8 Rows.holeLentUptoRow.domain false) (((Rows.OpenSpec.upto Rows.holeLentSpec).at F).post enc Try.prog Try.f8 false true false false) := by
  refine returnsInHanded_of_cond (C := Try.checked) (s := Rows.OpenSpec.upto Rows.holeLentSpec) (k := Rows.uptoSmall) rfl own started (by kernel_rfl) Try.func8
    (OpenSpec.witness (enc := enc) (C := Try.checked) (s := Rows.OpenSpec.upto Rows.holeLentSpec) (k := Rows.uptoSmall) rfl false ⟨#[], #[.int .i64 0, .slice none 0 0], []⟩ 8 (by kernel_rfl) (by kernel_rfl) (by kernel_rfl)
      (x := ([.lit (.int .i64 0), .nil], [], [])) (by kernel_rfl) rfl (by kernel_rfl)) ?_
  intro W base args ds gs before hval hW hcnd hk _
  have hgs : gs = [] := by obtain ⟨_, _, _, hV, _⟩ := hW; exact (trodVars_none hV).1
  subst hgs
  exact law_post (X := S11.X) S11.X_ok (f := 8) (spec := Rows.holeLentSpec) (ts := [3, 22]) (tb := 4) (m := 12) laidOut (by rw [Try.params8]) (by kernel_rfl) Try.underlying4 rfl
    (fun ds h => by match ds, h with | [_, _], _ => rfl) (by kernel_rfl) (by kernel_rfl) hval hW (fun svs h => S11.walk8 svs ds h)
theorem over : Rows.holeLentUptoRow.holds Try.pinned (Rows.OpenSpec.upto Rows.holeLentSpec) :=
  OpenClaim.holds_of_cond 8 Try.f8 rfl rfl rfl rfl rfl rfl rfl ⟨rfl, rfl, rfl, rfl, rfl⟩ rfl rfl rfl rfl rfl (by kernel_rfl) Try.func8 (by kernel_rfl)
    (of_decide_eq_true (by kernel_rfl)) (by unfold Func.isWrapper; first | (rw [if_pos (by decide +kernel)]; kernel_rfl) | (rw [if_neg (by decide +kernel)]; exact ⟨rfl, rfl⟩))
    (fun os started H enc _ F => lifted os started H enc F)
theorem proved : Rows.HoleLentUptoSaid := over
end Go.Proofs.Ytkkdnnpnbmpifaa.rowHoleLent
