/- weirlaw2.SumAdds returns true for every input of bulk at most 1048576 (the condition of the given statement): the sum of any parts is the document's, and the array out of which they are cut stays as it was. -/
import Derived.Test.YtncgcdicadibbaaS2L3
import Derived.Test.YtncgcdicadibbaaRowA
import Derived.Test.YtncgcdicadibbaaRows
open Go Go.Vc Go.Proofs Go.ChangeShapes Go.WideShapes Go.ChangeAt Go.RowKit
set_option linter.unusedVariables false
set_option maxRecDepth 100000
namespace Go.Proofs.Ytncgcdicadibbaa.rowSumAdds
theorem own : ownKnob Try.prog.godebug = none := by kernel_rfl
theorem laidOut : laidOutB Try.prog = true := by kernel_rfl
theorem lifted (os : Os) (started : os.Started) (H : Type) (enc : TypeId × Value → H) (F : Stop.Interp) :
    ReturnsInHanded {} Try.checked os 3 .any ((Rows.OpenSpec.upto Rows.sumAddsSpec).pre6 enc Try.prog Try.f3 Rows.sumAddsUptoRow.domain false) (((Rows.OpenSpec.upto Rows.sumAddsSpec).at F).post enc Try.prog Try.f3 false true false false) := by
  refine returnsInHanded_of_cond (C := Try.checked) (s := Rows.OpenSpec.upto Rows.sumAddsSpec) (k := Rows.uptoSmall) rfl own started (by kernel_rfl) Try.func3
    (OpenSpec.witness (enc := enc) (C := Try.checked) (s := Rows.OpenSpec.upto Rows.sumAddsSpec) (k := Rows.uptoSmall) rfl false ⟨#[], #[.slice none 0 0], []⟩ 8 (by kernel_rfl) (by kernel_rfl) (by kernel_rfl)
      (x := ([.nil], [], [])) (by kernel_rfl) rfl (by kernel_rfl)) ?_
  intro W base args ds gs before hval hW hcnd hk _
  have hgs : gs = [] := by obtain ⟨_, _, _, hV, _⟩ := hW; exact (trodVars_none hV).1
  subst hgs
  exact law_post (X := S2.X) S2.X_ok (f := 3) (spec := Rows.sumAddsSpec) (ts := [22]) (tb := 4) (m := 12) laidOut (by rw [Try.params3]) (by kernel_rfl) Try.underlying4 rfl
    (fun ds h => by match ds, h with | [_], _ => rfl) (by kernel_rfl) (by kernel_rfl) hval hW (fun svs h => S2.walk3 svs ds h)
theorem over : Rows.sumAddsUptoRow.holds Try.pinned (Rows.OpenSpec.upto Rows.sumAddsSpec) :=
  OpenClaim.holds_of_cond 3 Try.f3 rfl rfl rfl rfl rfl rfl rfl ⟨rfl, rfl, rfl, rfl, rfl⟩ rfl rfl rfl rfl rfl (by kernel_rfl) Try.func3 (by kernel_rfl)
    (of_decide_eq_true (by kernel_rfl)) (by unfold Func.isWrapper; first | (rw [if_pos (by decide +kernel)]; kernel_rfl) | (rw [if_neg (by decide +kernel)]; exact ⟨rfl, rfl⟩))
    (fun os started H enc _ F => lifted os started H enc F)
theorem proved : Rows.SumAddsUptoSaid := over
end Go.Proofs.Ytncgcdicadibbaa.rowSumAdds
