import Derived.Test.YtkkdnnpnbmpifaaS11L3
import Derived.Test.YtkkdnnpnbmpifaaG5
open Go Go.Vc Go.Proofs Go.ChangeShapes Go.WideShapes Go.ChangeAt Go.RowKit
set_option linter.unusedVariables false
set_option linter.unusedSimpArgs false
set_option autoImplicit false
namespace Go.Vc.S11
section
variable {H : Type} {W : World}
theorem deep_piece (m : Nat) (x : SV) (d : DataW H) (h : Deep X W m (X.T 36) x d) : ∃ a : Int × Sl × Bool, x.cells = cPc.enc a ∧ PcOk W a := by
  have h := (show Deep X W m (.struct false [.int .i64, .slice 5, .bool]) x d from h)
  obtain ⟨fs, l, m', e1, e2', q⟩ := dp_struct h
  obtain ⟨x1, _, d1, _, rfl, rfl, q1, q⟩ := all3_cons q
  obtain ⟨x2, _, d2, _, rfl, rfl, q2, q⟩ := all3_cons q
  obtain ⟨x3, _, d3, _, rfl, rfl, q3, q⟩ := all3_cons q
  obtain ⟨rfl, rfl⟩ := all3_nil q
  obtain ⟨k, rfl, _⟩ := deep_int (X := X) (t := 3) (k := .i64) rfl (show Deep X W m' (X.T 3) x1 d1 from q1)
  obtain ⟨s, l, rfl, g2, g3, g4, g5⟩ := deep_bytes' (X := X) (t := 34) (e := 5) rfl rfl (show Deep X W m' (X.T 34) x2 d2 from q2)
  obtain ⟨b, rfl⟩ := deep_bool (X := X) (t := 4) rfl (show Deep X W m' (X.T 4) x3 d3 from q3)
  exact ⟨(k, s, b), by rw [e1]; rfl, l, g2, g3, g4⟩
theorem walk3 (svs : List SV) (ds : List (DataW H)) (h : ArgsD X W [3, 22] svs ds) :
    Ret Try.prog 3 svs W fun r w1 => r = .bool true ∧ Upd [] [] W w1 := by
  obtain ⟨x, _, d1, _, m1, rfl, rfl, h1, h⟩ := argsD_cons h
  obtain ⟨y, _, d2, _, m2, rfl, rfl, h2, h⟩ := argsD_cons h
  obtain ⟨rfl, rfl⟩ := argsD_nil h
  obtain ⟨n, rfl, _⟩ := deep_int (t := 3) rfl h1
  obtain ⟨s, ps, rfl, hs, hP, _, _⟩ := dp_slice (X := X) (c := cPc) (e := 36) (P := PcOk W) rfl deep_piece (show Deep X W m2 (.slice 36) y d2 from h2)
  exact c3 hs hP
end
end Go.Vc.S11
