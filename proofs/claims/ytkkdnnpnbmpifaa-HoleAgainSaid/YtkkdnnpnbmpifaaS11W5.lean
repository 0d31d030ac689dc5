import Derived.Test.YtkkdnnpnbmpifaaS11C5
import Derived.Test.YtkkdnnpnbmpifaaS11W3
open Go Go.Vc Go.Proofs Go.ChangeShapes Go.WideShapes Go.ChangeAt Go.RowKit
set_option linter.unusedVariables false
set_option linter.unusedSimpArgs false
set_option autoImplicit false
namespace Go.Vc.S11
section
variable {H : Type} {W : World}
theorem deep_step (m : Nat) (x : SV) (d : DataW H) (h : Deep X W m (X.T 65) x d) : ∃ a : Int × Int × Int × Sl × Bool, x.cells = cSt.enc a ∧ StOk W a := by
  have h := (show Deep X W m (.struct false [.int .i64, .int .i64, .int .i64, .slice 5, .bool]) x d from h)
  obtain ⟨fs, l, m', e1, e2', q⟩ := dp_struct h
  obtain ⟨x1, _, d1, _, rfl, rfl, q1, q⟩ := all3_cons q
  obtain ⟨x2, _, d2, _, rfl, rfl, q2, q⟩ := all3_cons q
  obtain ⟨x3, _, d3, _, rfl, rfl, q3, q⟩ := all3_cons q
  obtain ⟨x4, _, d4, _, rfl, rfl, q4, q⟩ := all3_cons q
  obtain ⟨x5, _, d5, _, rfl, rfl, q5, q⟩ := all3_cons q
  obtain ⟨rfl, rfl⟩ := all3_nil q
  obtain ⟨k1, rfl, _⟩ := deep_int (X := X) (t := 3) (k := .i64) rfl (show Deep X W m' (X.T 3) x1 d1 from q1)
  obtain ⟨k2, rfl, _⟩ := deep_int (X := X) (t := 3) (k := .i64) rfl (show Deep X W m' (X.T 3) x2 d2 from q2)
  obtain ⟨k3, rfl, _⟩ := deep_int (X := X) (t := 3) (k := .i64) rfl (show Deep X W m' (X.T 3) x3 d3 from q3)
  obtain ⟨s, l, rfl, g2, g3, g4, g5⟩ := deep_bytes' (X := X) (t := 34) (e := 5) rfl rfl (show Deep X W m' (X.T 34) x4 d4 from q4)
  obtain ⟨b, rfl⟩ := deep_bool (X := X) (t := 4) rfl (show Deep X W m' (X.T 4) x5 d5 from q5)
  exact ⟨(k1, k2, k3, s, b), by rw [e1]; rfl, l, g2, g3, g4⟩
theorem walk5 (svs : List SV) (ds : List (DataW H)) (h : ArgsD X W [3, 50] svs ds) :
    Ret Try.prog 5 svs W fun r w1 => r = .bool true ∧ Upd [] [] W w1 := by
  obtain ⟨x, _, d1, _, m1, rfl, rfl, h1, h⟩ := argsD_cons h
  obtain ⟨y, _, d2, _, m2, rfl, rfl, h2, h⟩ := argsD_cons h
  obtain ⟨rfl, rfl⟩ := argsD_nil h
  obtain ⟨n, rfl, _⟩ := deep_int (t := 3) rfl h1
  obtain ⟨s, ps, rfl, hs, hP, _, _⟩ := dp_slice (X := X) (c := cSt) (e := 65) (P := StOk W) rfl deep_step (show Deep X W m2 (.slice 65) y d2 from h2)
  exact c5 hs hP
end
end Go.Vc.S11
