/- weirtop.TopFirstWins returns true for every input: what a table puts together of any fragments of one datagram is what a sheet says on which the first fragment of each byte was laid; it is whole when the sheet is full, and no sooner; behind that all is refused as late. No condition. -/
import Derived.Test.YthijmbkpkopdpaaTopFirstWinsK6
import Derived.Test.YthijmbkpkopdpaaTopFirstWinsK3
import Derived.Test.YthijmbkpkopdpaaRows
open Go Go.Vc Go.Proofs Go.ChangeShapes Go.WideShapes Go.ChangeAt Go.RowKit
set_option linter.unusedVariables false
set_option maxRecDepth 100000
namespace Go.Proofs.Ythijmbkpkopdpaa.rowTopFirstWins
theorem own : ownKnob Try.prog.godebug = none := by kernel_rfl
theorem laidOut : laidOutB Try.prog = true := by kernel_rfl
theorem lifted (os : Os) (started : os.Started) (H : Type) (enc : TypeId × Value → H) :
    ReturnsInHanded {} Try.checked os 3 .any (Rows.topFirstWinsSpec.pre6 enc Try.prog Try.f3 Rows.topFirstWinsRow.domain false) (Rows.topFirstWinsSpec.post enc Try.prog Try.f3 false true false false) := by
  refine returnsInHanded_of_change_sized (C := Try.checked) own started (by kernel_rfl) Try.func3
    (ChangeSpec.witness6 (enc := enc) (C := Try.checked) false ⟨#[], #[.agg #[.int .i64 0, .int .i64 0, .bool false, .bool false, .int .i64 0, .int .i64 0, .int .i64 0, .int .i64 0, .int .u8 0, .int .u8 0, .int .u8 0, .int .u8 0, .int .u8 0, .int .u8 0, .int .u8 0, .int .u8 0, .int .u8 0, .int .u8 0, .int .u8 0, .int .u8 0, .int .u8 0, .int .u8 0, .int .u8 0, .int .u8 0, .int .i64 0, .int .u8 0, .int .u8 0, .int .u8 0, .int .u8 0, .int .u8 0, .int .u8 0, .int .u8 0, .int .u8 0, .int .u8 0, .int .u8 0, .int .u8 0, .int .u8 0, .int .u8 0, .int .u8 0, .int .u8 0, .int .u8 0, .slice none 0 0, .slice none 0 0], .slice none 0 0], []⟩ 8 (by kernel_rfl) (by kernel_rfl) (by kernel_rfl) (by kernel_rfl)) ?_
  intro W base args ds gs before hval hW hcnd hsz _
  have hgs : gs = [] := by obtain ⟨_, _, _, hV, _⟩ := hW; exact (trodVars_none hV).1
  subst hgs
  exact law_post (X := Stop.X) Stop.X_ok (f := 3) (spec := Rows.topFirstWinsSpec) (ts := [28, 29]) (tb := 4) (m := 12) laidOut (by rw [Try.params3]) (by kernel_rfl) Try.underlying4 rfl
    (fun ds h => by match ds, h with | [_, _], _ => rfl) (by kernel_rfl) (by kernel_rfl) hval hW (fun svs h => Stop.walk3 svs ds h (by rw [Try.params3, List.append_nil] at hsz; exact hsz))
theorem over : Rows.topFirstWinsRow.holds Try.pinned (OpenSpec.ofChange Rows.topFirstWinsSpec) :=
  OpenClaim.holds_of_wide 3 Try.f3 rfl rfl rfl rfl rfl rfl rfl ⟨rfl, rfl, rfl, rfl, rfl⟩ rfl rfl rfl rfl rfl (by kernel_rfl) Try.func3 (by kernel_rfl)
    (of_decide_eq_true (by kernel_rfl)) (by unfold Func.isWrapper; first | (rw [if_pos (by decide +kernel)]; kernel_rfl) | (rw [if_neg (by decide +kernel)]; exact ⟨rfl, rfl⟩))
    (fun os started H enc _ => lifted os started H enc)
theorem proved : Rows.TopFirstWinsSaid := over
end Go.Proofs.Ythijmbkpkopdpaa.rowTopFirstWins
