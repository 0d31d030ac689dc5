/- weirlaw5.LinkParses returns true for every input: what Parse answers to any bytes is the document's; its Data is a window into them, which an append leaves alone, and its tags are new memory. No condition. -/
import Derived.Test.YtopobapmncbjhaaS5L6
import Derived.Test.YtopobapmncbjhaaRowA
import Derived.Test.YtopobapmncbjhaaRows
open Go Go.Vc Go.Proofs Go.ChangeShapes Go.WideShapes Go.ChangeAt Go.RowKit
set_option linter.unusedVariables false
set_option maxRecDepth 100000
namespace Go.Proofs.Ytopobapmncbjhaa.rowLinkParses
theorem own : ownKnob Try.prog.godebug = none := by kernel_rfl
theorem laidOut : laidOutB Try.prog = true := by kernel_rfl
theorem lifted (os : Os) (started : os.Started) (H : Type) (enc : TypeId × Value → H) :
    ReturnsInHanded {} Try.checked os 6 .any (Rows.linkParsesSpec.pre6 enc Try.prog Try.f6 Rows.linkParsesRow.domain false) (Rows.linkParsesSpec.post enc Try.prog Try.f6 false true false false) := by
  refine returnsInHanded_of_change_sized (C := Try.checked) own started (by kernel_rfl) Try.func6
    (ChangeSpec.witness6 (enc := enc) (C := Try.checked) false ⟨#[], #[.slice none 0 0], []⟩ 8 (by kernel_rfl) (by kernel_rfl) (by kernel_rfl) (by kernel_rfl)) ?_
  intro W base args ds gs before hval hW hcnd hsz _
  have hgs : gs = [] := by obtain ⟨_, _, _, hV, _⟩ := hW; exact (trodVars_none hV).1
  subst hgs
  exact law_post (X := S5.X) S5.X_ok (f := 6) (spec := Rows.linkParsesSpec) (ts := [22]) (tb := 4) (m := 12) laidOut (by rw [Try.params6]) (by kernel_rfl) Try.underlying4 rfl
    (fun ds h => by match ds, h with | [_], _ => rfl) (by kernel_rfl) (by kernel_rfl) hval hW (fun svs h => S5.walk6 svs ds h)
theorem over : Rows.linkParsesRow.holds Try.pinned (OpenSpec.ofChange Rows.linkParsesSpec) :=
  OpenClaim.holds_of_wide 6 Try.f6 rfl rfl rfl rfl rfl rfl rfl ⟨rfl, rfl, rfl, rfl, rfl⟩ rfl rfl rfl rfl rfl (by kernel_rfl) Try.func6 (by kernel_rfl)
    (of_decide_eq_true (by kernel_rfl)) (by unfold Func.isWrapper; first | (rw [if_pos (by decide +kernel)]; kernel_rfl) | (rw [if_neg (by decide +kernel)]; exact ⟨rfl, rfl⟩))
    (fun os started H enc _ => lifted os started H enc)
theorem proved : Rows.LinkParsesSaid := over
end Go.Proofs.Ytopobapmncbjhaa.rowLinkParses
