/- weirlaw2.SumAgain returns true for every input of bulk at most 1048576 (the condition of the given statement): however often it is asked, of the same parts in any order of calls the sum is the document's, and turned along it is the sum reckoned anew. -/
import Derived.Test.YtncgcdicadibbaaS2W10
import Derived.Test.YtncgcdicadibbaaG5
import Derived.Test.YtncgcdicadibbaaRows
open Go Go.Vc Go.Proofs Go.ChangeShapes Go.WideShapes Go.ChangeAt Go.RowKit
set_option linter.unusedVariables false
set_option maxRecDepth 100000
namespace Go.Proofs.Ytncgcdicadibbaa.rowSumAgain
theorem own : ownKnob Try.prog.godebug = none := by kernel_rfl
theorem laidOut : laidOutB Try.prog = true := by kernel_rfl
theorem lifted (os : Os) (started : os.Started) (H : Type) (enc : TypeId × Value → H) (F : Stop.Interp) :
    ReturnsInHanded {} Try.checked os 10 .any ((Rows.OpenSpec.upto Rows.sumAgainSpec).pre6 enc Try.prog Try.f10 Rows.sumAgainUptoRow.domain false) (((Rows.OpenSpec.upto Rows.sumAgainSpec).at F).post enc Try.prog Try.f10 false true false false) := by
  refine returnsInHanded_of_cond (C := Try.checked) (s := Rows.OpenSpec.upto Rows.sumAgainSpec) (k := Rows.uptoSmall) rfl own started (by kernel_rfl) Try.func10
    (OpenSpec.witness (enc := enc) (C := Try.checked) (s := Rows.OpenSpec.upto Rows.sumAgainSpec) (k := Rows.uptoSmall) rfl false ⟨#[], #[.slice none 0 0, .int .i64 0, .slice none 0 0], []⟩ 8 (by kernel_rfl) (by kernel_rfl) (by kernel_rfl)
      (x := ([.nil, .lit (.int .i64 0), .nil], [], [])) (by kernel_rfl) rfl (by kernel_rfl)) ?_
  intro W base args ds gs before hval hW hcnd hk _
  have hgs : gs = [] := by obtain ⟨_, _, _, hV, _⟩ := hW; exact (trodVars_none hV).1
  subst hgs
  exact law_post (X := S2.X) S2.X_ok (f := 10) (spec := Rows.sumAgainSpec) (ts := [22, 3, 58]) (tb := 4) (m := 12) laidOut (by rw [Try.params10]) (by kernel_rfl) Try.underlying4 rfl
    (fun ds h => by match ds, h with | [_, _, _], _ => rfl) (by kernel_rfl) (by kernel_rfl) hval hW (fun svs h => S2.walk10 svs ds h (by rw [List.append_nil] at hk; exact hk))
theorem over : Rows.sumAgainUptoRow.holds Try.pinned (Rows.OpenSpec.upto Rows.sumAgainSpec) :=
  OpenClaim.holds_of_cond 10 Try.f10 rfl rfl rfl rfl rfl rfl rfl ⟨rfl, rfl, rfl, rfl, rfl⟩ rfl rfl rfl rfl rfl (by kernel_rfl) Try.func10 (by kernel_rfl)
    (of_decide_eq_true (by kernel_rfl)) (by unfold Func.isWrapper; first | (rw [if_pos (by decide +kernel)]; kernel_rfl) | (rw [if_neg (by decide +kernel)]; exact ⟨rfl, rfl⟩))
    (fun os started H enc _ F => lifted os started H enc F)
theorem proved : Rows.SumAgainUptoSaid := over
end Go.Proofs.Ytncgcdicadibbaa.rowSumAgain
