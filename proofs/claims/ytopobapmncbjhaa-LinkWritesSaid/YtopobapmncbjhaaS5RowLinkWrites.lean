/- weirlaw5.LinkWrites returns true for every input: what Check answers and Serialise writes is the document's, in new memory, and nothing is written to what was handed in. No condition. -/
import Derived.Test.YtopobapmncbjhaaS5L7
import Derived.Test.YtopobapmncbjhaaRowA
import Derived.Test.YtopobapmncbjhaaRows
open Go Go.Vc Go.Proofs Go.ChangeShapes Go.WideShapes Go.ChangeAt Go.RowKit
set_option linter.unusedVariables false
set_option maxRecDepth 100000
namespace Go.Proofs.Ytopobapmncbjhaa.rowLinkWrites
theorem own : ownKnob Try.prog.godebug = none := by kernel_rfl
theorem laidOut : laidOutB Try.prog = true := by kernel_rfl
theorem lifted (os : Os) (started : os.Started) (H : Type) (enc : TypeId × Value → H) :
    ReturnsInHanded {} Try.checked os 7 .any (Rows.linkWritesSpec.pre6 enc Try.prog Try.f7 Rows.linkWritesRow.domain false) (Rows.linkWritesSpec.post enc Try.prog Try.f7 false true false false) := by
  refine returnsInHanded_of_change_sized (C := Try.checked) own started (by kernel_rfl) Try.func7
    (ChangeSpec.witness6 (enc := enc) (C := Try.checked) false ⟨#[], #[.agg #[.int .u8 0, .int .u8 0, .int .u8 0, .int .u8 0, .int .u8 0, .int .u8 0, .int .u8 0, .int .u8 0, .int .u8 0, .int .u8 0, .int .u8 0, .int .u8 0, .slice none 0 0, .int .i64 0, .slice none 0 0]], []⟩ 8 (by kernel_rfl) (by kernel_rfl) (by kernel_rfl) (by kernel_rfl)) ?_
  intro W base args ds gs before hval hW hcnd hsz _
  have hgs : gs = [] := by obtain ⟨_, _, _, hV, _⟩ := hW; exact (trodVars_none hV).1
  subst hgs
  exact law_post (X := S5.X) S5.X_ok (f := 7) (spec := Rows.linkWritesSpec) (ts := [50]) (tb := 4) (m := 12) laidOut (by rw [Try.params7]) (by kernel_rfl) Try.underlying4 rfl
    (fun ds h => by match ds, h with | [_], _ => rfl) (by kernel_rfl) (by kernel_rfl) hval hW (fun svs h => S5.walk7 svs ds h (by rw [Try.params7, List.append_nil] at hsz; exact hsz))
theorem over : Rows.linkWritesRow.holds Try.pinned (OpenSpec.ofChange Rows.linkWritesSpec) :=
  OpenClaim.holds_of_wide 7 Try.f7 rfl rfl rfl rfl rfl rfl rfl ⟨rfl, rfl, rfl, rfl, rfl⟩ rfl rfl rfl rfl rfl (by kernel_rfl) Try.func7 (by kernel_rfl)
    (of_decide_eq_true (by kernel_rfl)) (by unfold Func.isWrapper; first | (rw [if_pos (by decide +kernel)]; kernel_rfl) | (rw [if_neg (by decide +kernel)]; exact ⟨rfl, rfl⟩))
    (fun os started H enc _ => lifted os started H enc)
theorem proved : Rows.LinkWritesSaid := over
end Go.Proofs.Ytopobapmncbjhaa.rowLinkWrites
