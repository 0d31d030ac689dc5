/- weirlaw5.LinkAgain returns true for every input of bulk at most 1048576 (the condition of the given statement): however the caller changes its own list and its own frame between calls, each answer is the document's of what they hold now, and the rooms behind them stay as they were. -/
import Derived.Test.YtopobapmncbjhaaS5W11
import Derived.Test.YtopobapmncbjhaaRowA
import Derived.Test.YtopobapmncbjhaaRows
open Go Go.Vc Go.Proofs Go.ChangeShapes Go.WideShapes Go.ChangeAt Go.RowKit
set_option linter.unusedVariables false
set_option maxRecDepth 100000
namespace Go.Proofs.Ytopobapmncbjhaa.rowLinkAgain
theorem own : ownKnob Try.prog.godebug = none := by kernel_rfl
theorem laidOut : laidOutB Try.prog = true := by kernel_rfl
theorem lifted (os : Os) (started : os.Started) (H : Type) (enc : TypeId × Value → H) (F : Stop.Interp) :
    ReturnsInHanded {} Try.checked os 11 .any ((Rows.OpenSpec.upto Rows.linkAgainSpec).pre6 enc Try.prog Try.f11 Rows.linkAgainUptoRow.domain false) (((Rows.OpenSpec.upto Rows.linkAgainSpec).at F).post enc Try.prog Try.f11 false true false false) := by
  refine returnsInHanded_of_cond (C := Try.checked) (s := Rows.OpenSpec.upto Rows.linkAgainSpec) (k := Rows.uptoSmall) rfl own started (by kernel_rfl) Try.func11
    (OpenSpec.witness (enc := enc) (C := Try.checked) (s := Rows.OpenSpec.upto Rows.linkAgainSpec) (k := Rows.uptoSmall) rfl false ⟨#[], #[.slice none 0 0, .agg #[.int .u8 0, .int .u8 0, .int .u8 0, .int .u8 0, .int .u8 0, .int .u8 0, .int .u8 0, .int .u8 0, .int .u8 0, .int .u8 0, .int .u8 0, .int .u8 0, .slice none 0 0, .int .i64 0, .slice none 0 0], .slice none 0 0], []⟩ 8 (by kernel_rfl) (by kernel_rfl) (by kernel_rfl)
      (x := ([.nil, .agg [.agg [.lit (.int .u8 0), .lit (.int .u8 0), .lit (.int .u8 0), .lit (.int .u8 0), .lit (.int .u8 0), .lit (.int .u8 0)], .agg [.lit (.int .u8 0), .lit (.int .u8 0), .lit (.int .u8 0), .lit (.int .u8 0), .lit (.int .u8 0), .lit (.int .u8 0)], .nil, .lit (.int .i64 0), .nil], .nil], [], [])) (by kernel_rfl) rfl (by kernel_rfl)) ?_
  intro W base args ds gs before hval hW hcnd hk _
  have hgs : gs = [] := by obtain ⟨_, _, _, hV, _⟩ := hW; exact (trodVars_none hV).1
  subst hgs
  exact law_post (X := S5.X) S5.X_ok (f := 11) (spec := Rows.linkAgainSpec) (ts := [22, 50, 69]) (tb := 4) (m := 12) laidOut (by rw [Try.params11]) (by kernel_rfl) Try.underlying4 rfl
    (fun ds h => by match ds, h with | [_, _, _], _ => rfl) (by kernel_rfl) (by kernel_rfl) hval hW (fun svs h => S5.walk11 svs ds h (by rw [List.append_nil] at hk; exact hk))
theorem over : Rows.linkAgainUptoRow.holds Try.pinned (Rows.OpenSpec.upto Rows.linkAgainSpec) :=
  OpenClaim.holds_of_cond 11 Try.f11 rfl rfl rfl rfl rfl rfl rfl ⟨rfl, rfl, rfl, rfl, rfl⟩ rfl rfl rfl rfl rfl (by kernel_rfl) Try.func11 (by kernel_rfl)
    (of_decide_eq_true (by kernel_rfl)) (by unfold Func.isWrapper; first | (rw [if_pos (by decide +kernel)]; kernel_rfl) | (rw [if_neg (by decide +kernel)]; exact ⟨rfl, rfl⟩))
    (fun os started H enc _ F => lifted os started H enc F)
theorem proved : Rows.LinkAgainUptoSaid := over
end Go.Proofs.Ytopobapmncbjhaa.rowLinkAgain
