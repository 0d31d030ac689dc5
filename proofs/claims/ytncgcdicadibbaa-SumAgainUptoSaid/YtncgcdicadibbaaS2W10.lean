import Derived.Test.YtncgcdicadibbaaS2L10
import Derived.Test.YtncgcdicadibbaaG5
import Derived.Test.YtncgcdicadibbaaG6
import Derived.Test.YtncgcdicadibbaaRowE
import Derived.Test.YtncgcdicadibbaaRows
open Go Go.Vc Go.Proofs
set_option linter.unusedVariables false
set_option linter.unusedSimpArgs false
set_option autoImplicit false
namespace Go.Vc.S2
section
variable {H : Type} {w : World}
open Go.Proofs.Ytncgcdicadibbaa
theorem bulk_pos (d : DataW H) : 1 ≤ Rows.uptoBulk d := by
  cases d with
  | lit l => cases l <;> simp [Rows.uptoBulk]
  | _ => simp [Rows.uptoBulk]
theorem bulk_len : ∀ ds : List (DataW H), ds.length ≤ Rows.uptoBulkAll ds
  | [] => by simp [Rows.uptoBulkAll]
  | d :: r => by
    have := bulk_pos d
    have := bulk_len r
    simp only [Rows.uptoBulkAll, List.length_cons]
    omega
theorem bulk_at : ∀ {ds : List (DataW H)} {i : Nat} {d : DataW H}, ds[i]? = some d → Rows.uptoBulk d ≤ Rows.uptoBulkAll ds
  | [], _, _, h => by simp at h
  | x :: r, 0, d, h => by
    simp at h; subst h
    simp only [Rows.uptoBulkAll]; omega
  | x :: r, i + 1, d, h => by
    have := bulk_at (ds := r) (i := i) (d := d) (by simpa using h)
    simp only [Rows.uptoBulkAll]; omega
theorem bulk_sl {d : DataW H} {n : Nat} (h : SlLen d n) : n ≤ Rows.uptoBulk d := by
  rcases h with ⟨rfl, rfl⟩ | ⟨els, sp, rfl, rfl⟩
  · omega
  · have := bulk_len els
    simp only [Rows.uptoBulk]; omega
theorem deep_turn (m : Nat) (x : SV) (d : DataW H) (h : Deep X w m (X.T 63) x d) : ∃ a : Int × Int × Int × Bool, x.cells = cTn.enc a ∧ (0 ≤ a.2.2.1 ∧ a.2.2.1 < 256) := by
  obtain ⟨fs, l, m', rfl, rfl, hh⟩ := dp_struct (b := false) (ts := [.int .i64, .int .i64, .int .u8, .bool]) (show Deep X w m (.struct false [.int .i64, .int .i64, .int .u8, .bool]) x d from h)
  obtain ⟨x1, _, d1, _, rfl, rfl, h1, hh⟩ := all3_cons hh
  obtain ⟨x2, _, d2, _, rfl, rfl, h2, hh⟩ := all3_cons hh
  obtain ⟨x3, _, d3, _, rfl, rfl, h3, hh⟩ := all3_cons hh
  obtain ⟨x4, _, d4, _, rfl, rfl, h4, hh⟩ := all3_cons hh
  obtain ⟨rfl, rfl⟩ := all3_nil hh
  obtain ⟨a, rfl, _, _⟩ := dp_int h1
  obtain ⟨b, rfl, _, _⟩ := dp_int h2
  obtain ⟨c, rfl, _, hw⟩ := dp_int h3
  obtain ⟨e, rfl⟩ := deep_bool (t := 4) rfl (show Deep X w m' (X.T 4) x4 d4 from h4)
  exact ⟨(a, b, c, e), by simp [SV.cells, SV.cellsL, cTn], wf_u8 hw⟩
theorem walk10 {W : World} (svs : List SV) (ds : List (DataW H)) (h : ArgsD X W [22, 3, 58] svs ds) (hk : Rows.uptoSmall H ds = true) :
    Ret Try.prog 10 svs W fun r w1 => r = .bool true ∧ Upd [] [] W w1 := by
  obtain ⟨x, _, d1, _, m1, rfl, rfl, h1, h⟩ := argsD_cons h
  obtain ⟨y, _, d2, _, m2, rfl, rfl, h2, h⟩ := argsD_cons h
  obtain ⟨z, _, d3, _, m3, rfl, rfl, h3, h⟩ := argsD_cons h
  obtain ⟨rfl, rfl⟩ := argsD_nil h
  have hb := of_decide_eq_true hk
  simp only [Rows.uptoBulkAll] at hb
  obtain ⟨s, ls, ss, rfl, hP, hbb, hc, hm, _, hd⟩ := deep_parts (t := 22) (e := 24) (e2 := 5) rfl rfl rfl h1
  obtain ⟨n, rfl, _⟩ := deep_int (k := .i64) rfl h2
  obtain ⟨ts, tn, rfl, htn, hty, _⟩ := dp_slice (X := X) (c := cTn) (e := 63) rfl deep_turn (show Deep X W m3 (.slice 63) z d3 from h3)
  refine c10 hP hbb hc (fun l hl => ?_) htn hty
  obtain ⟨i, hi, rfl⟩ := List.getElem_of_mem hl
  rcases hd with ⟨_, rfl⟩ | ⟨els, sp, rfl, he, hh⟩
  · simp at hi
  · obtain ⟨m', hD⟩ := hh i hi
    obtain ⟨s', l', e', hs', _, _, hn⟩ := deep_bytes' (X := X) (t := 24) (e := 5) rfl rfl hD
    cases e'
    have e1 := (hP.each i hi).len
    have e2 := hs'.len
    have k1 := bulk_sl hn
    have hei : i < els.length := by omega
    have e3 : ss.getD i Sl.nil = ss[i]'(by rw [hP.len]; exact hi) := by simp [List.getD, List.getElem?_eq_getElem (show i < ss.length by rw [hP.len]; exact hi)]
    rw [e3] at e2
    have k2 := bulk_at (ds := els) (i := i) (d := els.getD i .nil) (by simp [List.getD, List.getElem?_eq_getElem hei])
    simp only [Rows.uptoBulk] at hb
    omega
end
end Go.Vc.S2
