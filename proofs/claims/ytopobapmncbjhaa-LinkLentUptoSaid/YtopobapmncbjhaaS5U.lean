import Derived.Test.YtopobapmncbjhaaS5TxtD
import Derived.Recover
open Go Go.Vc Go.Proofs
set_option linter.unusedVariables false
set_option linter.unusedSimpArgs false
set_option autoImplicit false
namespace Go.Vc.S5

theorem c58 {p q : Option Addr} {w : World} {Q : World → Prop} (hq : Q w) : RetD Try.prog 58 [.ptr p, .ptr q] w Q := by
  unfold RetD
  refine callsD_of_wpS Try.func58 (c := _) rfl fun c₀ cs hu => ?_
  refine wpS_seq (wpS_region ?_)
  have et : ({ tmps := (SV.encL [SV.ptr p, SV.ptr q]).toArray ++ Array.replicate (Try.f58.ntmps - (SV.encL [SV.ptr p, SV.ptr q]).toArray.size) undef, defers := [] } : Act) = { tmps := #[.pointer p, .pointer q, undef, undef], defers := [] } := rfl
  rw [et]
  simp only [List.size_toArray, List.length_cons, List.length_nil, List.range, List.range.loop, wpOpsS]
  simp only [List.getElem?_toArray, List.getElem?_cons_zero, List.getElem?_cons_succ, Region.wanted]
  have h1 : ∀ (a : Act) (w : World), (execOp a.eval { dst := some 2, op := Op.call { callee := Callee.builtin Builtin.recover, args := #[], argTypes := #[] }, type := 20, pos := "view.go:48", after := #[], guard := none }).run Try.prog w = .ok .recover w := fun a w => rfl
  simp only [h1, recoverD, hu, if_true, ite_true]
  have e2 : ({ tmps := #[.pointer p, .pointer q, undef, undef], defers := [] } : Act).put (some 2) Value.nilIface = { tmps := #[.pointer p, .pointer q, .nilIface, undef], defers := [] } := rfl
  rw [e2]
  have h2 : (execOp ({ tmps := #[.pointer p, .pointer q, .nilIface, undef], defers := [] } : Act).eval { dst := some 3, op := Op.binOp BinOp.neq 20 (Operand.tmp 2) (Operand.const Value.nilIface) 20, type := 4, pos := "view.go:48", after := #[{ on := 0, ground := Ground.data }], guard := none }).run Try.prog w = .ok (.value (.bool false)) w := by
    kernel_rfl
  rw [h2]
  simp only [Oper.upon]
  refine wpS_cond (t := false) rfl ?_
  refine wpS_of_wp (wp_skip ?_)
  have h3 : ∀ t : Array Value, ∃ v, (results Try.f58 t).run Try.prog w = .ok v w := fun t => ⟨.tuple #[], by
    have : results Try.f58 t = pure (.tuple #[]) := by
      unfold results
      rw [show Try.f58.results = #[] from rfl]
      simp
    rw [this]; rfl⟩
  obtain ⟨v, hv⟩ := h3 _
  exact ⟨rfl, .returning, by rw [← hu], v, hv, ⟨_, rfl⟩, rfl, hq⟩
end Go.Vc.S5
