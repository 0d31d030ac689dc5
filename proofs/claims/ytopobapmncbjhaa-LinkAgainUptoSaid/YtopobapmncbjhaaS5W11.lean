import Derived.Test.YtopobapmncbjhaaS5L11
import Derived.Test.YtopobapmncbjhaaS5W
import Derived.Test.YtopobapmncbjhaaRowB
import Derived.Test.YtopobapmncbjhaaRowC
import Derived.Test.YtopobapmncbjhaaRowD
import Derived.Test.YtopobapmncbjhaaRowE
import Derived.Test.YtopobapmncbjhaaRows
open Go Go.Vc Go.Proofs Go.ChangeShapes Go.WideShapes Go.ChangeAt Go.RowKit
set_option linter.unusedVariables false
set_option linter.unusedSimpArgs false
set_option autoImplicit false
namespace Go.Vc.S5
section
variable {H : Type} {w : World}
open Go.Proofs.Ytopobapmncbjhaa
theorem bulk_pos (d : DataW H) : 1 ≤ Rows.uptoBulk d := by
  cases d with
  | lit l => cases l <;> simp [Rows.uptoBulk]
  | _ => simp [Rows.uptoBulk]
theorem bulk_len : ∀ ds : List (DataW H), ds.length ≤ Rows.uptoBulkAll ds
  | [] => by simp [Rows.uptoBulkAll]
  | d :: r => by
    have := bulk_pos d
    have := bulk_len r
    simp only [Rows.uptoBulkAll, List.length_cons]
    omega
theorem deep_turn (m : Nat) (x : SV) (d : DataW H) (h : Deep X w m (X.T 72) x d) : ∃ a : Int × Int × Int, x.cells = cTn.enc a ∧ True := by
  obtain ⟨fs, l, m', rfl, rfl, hh⟩ := dp_struct (b := false) (ts := [.int .i64, .int .i64, .int .i64]) (show Deep X w m (.struct false [.int .i64, .int .i64, .int .i64]) x d from h)
  obtain ⟨x1, _, d1, _, rfl, rfl, h1, hh⟩ := all3_cons hh
  obtain ⟨x2, _, d2, _, rfl, rfl, h2, hh⟩ := all3_cons hh
  obtain ⟨x3, _, d3, _, rfl, rfl, h3, hh⟩ := all3_cons hh
  obtain ⟨rfl, rfl⟩ := all3_nil hh
  obtain ⟨a, rfl, _, _⟩ := dp_int h1
  obtain ⟨b, rfl, _, _⟩ := dp_int h2
  obtain ⟨c, rfl, _, _⟩ := dp_int h3
  exact ⟨(a, b, c), by simp [SV.cells, SV.cellsL, cTn], trivial⟩
theorem walk11 {W : World} (svs : List SV) (ds : List (DataW H)) (h : ArgsD X W [22, 50, 69] svs ds) (hk : Rows.uptoSmall H ds = true) :
    Ret Try.prog 11 svs W fun r w1 => r = .bool true ∧ Upd [] [] W w1 := by
  obtain ⟨x, _, d1, _, m1, rfl, rfl, h1, h⟩ := argsD_cons h
  obtain ⟨y, _, d2, _, m2, rfl, rfl, h2, h⟩ := argsD_cons h
  obtain ⟨z, _, d3, _, m3, rfl, rfl, h3, h⟩ := argsD_cons h
  obtain ⟨rfl, rfl⟩ := argsD_nil h
  have hb := of_decide_eq_true hk
  obtain ⟨s, l, rfl, hs, hbb, hc, _⟩ := deep_bytes (X := X) (t := 22) (e := 5) rfl rfl h1
  obtain ⟨f, g, ts, ds', tags, type, data, rfl, hf, hg, hts, _, _, _, hd, hdb, hdc, e1, e2, e3, e4, e5, rfl, hn⟩ := deep_frame h2
  obtain ⟨tn, tl, rfl, htn, _, _⟩ := dp_slice (X := X) (c := cTn) (e := 72) rfl deep_turn (show Deep X W m3 (.slice 72) z d3 from h3)
  refine c11 hs hbb hc hg hts hd hdb hdc ?_ htn
  rcases hn with ⟨_, rfl⟩ | ⟨els, sp, rfl, he⟩
  · simp
  · have := bulk_len els
    simp only [Rows.uptoBulkAll, Rows.uptoBulk] at hb
    omega
end
end Go.Vc.S5
