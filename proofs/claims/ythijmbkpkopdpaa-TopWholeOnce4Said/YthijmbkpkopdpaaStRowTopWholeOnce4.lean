/- weirtop.TopWholeOnce4 returns true for every input: an IPv4 datagram that may be cut, offered piece by piece in any order, some pieces again, mingled with fragments of others: each piece that is not the last missing one is held, one that came before is told as such, the last missing one makes the datagram whole as it was, and from then on every piece is told as late. No condition. -/
import Derived.Test.YthijmbkpkopdpaaTopWholeOnce4K8
import Derived.Test.YthijmbkpkopdpaaTopWholeOnce4K3
import Derived.Test.YthijmbkpkopdpaaRows
open Go Go.Vc Go.Proofs Go.ChangeShapes Go.WideShapes Go.ChangeAt Go.RowKit
set_option linter.unusedVariables false
set_option maxRecDepth 100000
namespace Go.Proofs.Ythijmbkpkopdpaa.rowTopWholeOnce4
theorem own : ownKnob Try.prog.godebug = none := by kernel_rfl
theorem laidOut : laidOutB Try.prog = true := by kernel_rfl
theorem lifted (os : Os) (started : os.Started) (H : Type) (enc : TypeId × Value → H) :
    ReturnsInHanded {} Try.checked os 4 .any (Rows.topWholeOnce4Spec.pre6 enc Try.prog Try.f4 Rows.topWholeOnce4Row.domain false) (Rows.topWholeOnce4Spec.post enc Try.prog Try.f4 false true false false) := by
  refine returnsInHanded_of_change_sized (C := Try.checked) own started (by kernel_rfl) Try.func4
    (ChangeSpec.witness6 (enc := enc) (C := Try.checked) false ⟨#[], #[.agg #[.int .i64 0, .int .i64 0, .bool false, .bool false, .int .i64 0, .int .i64 0, .int .i64 0, .int .i64 0, .int .u8 0, .int .u8 0, .int .u8 0, .int .u8 0, .int .u8 0, .int .u8 0, .int .u8 0, .int .u8 0, .int .u8 0, .int .u8 0, .int .u8 0, .int .u8 0, .int .u8 0, .int .u8 0, .int .u8 0, .int .u8 0, .int .i64 0, .int .u8 0, .int .u8 0, .int .u8 0, .int .u8 0, .int .u8 0, .int .u8 0, .int .u8 0, .int .u8 0, .int .u8 0, .int .u8 0, .int .u8 0, .int .u8 0, .int .u8 0, .int .u8 0, .int .u8 0, .int .u8 0, .slice none 0 0, .slice none 0 0], .int .i64 0, .slice none 0 0, .slice none 0 0], []⟩ 8 (by kernel_rfl) (by kernel_rfl) (by kernel_rfl) (by kernel_rfl)) ?_
  intro W base args ds gs before hval hW hcnd hsz _
  have hgs : gs = [] := by obtain ⟨_, _, _, hV, _⟩ := hW; exact (trodVars_none hV).1
  subst hgs
  exact law_post (X := Stop.X) Stop.X_ok (f := 4) (spec := Rows.topWholeOnce4Spec) (ts := [28, 3, 46, 29]) (tb := 4) (m := 12) laidOut (by rw [Try.params4]) (by kernel_rfl) Try.underlying4 rfl
    (fun ds h => by match ds, h with | [_, _, _, _], _ => rfl) (by kernel_rfl) (by kernel_rfl) hval hW (fun svs h => Stop.walk4 svs ds h (by rw [Try.params4, List.append_nil] at hsz; exact hsz))
theorem over : Rows.topWholeOnce4Row.holds Try.pinned (OpenSpec.ofChange Rows.topWholeOnce4Spec) :=
  OpenClaim.holds_of_wide 4 Try.f4 rfl rfl rfl rfl rfl rfl rfl ⟨rfl, rfl, rfl, rfl, rfl⟩ rfl rfl rfl rfl rfl (by kernel_rfl) Try.func4 (by kernel_rfl)
    (of_decide_eq_true (by kernel_rfl)) (by unfold Func.isWrapper; first | (rw [if_pos (by decide +kernel)]; kernel_rfl) | (rw [if_neg (by decide +kernel)]; exact ⟨rfl, rfl⟩))
    (fun os started H enc _ => lifted os started H enc)
theorem proved : Rows.TopWholeOnce4Said := over
end Go.Proofs.Ythijmbkpkopdpaa.rowTopWholeOnce4
