import Derived.Test.YtopobapmncbjhaaG5
import Derived.Test.YtopobapmncbjhaaRowC
open Go Go.Vc Go.Proofs Go.ChangeShapes Go.WideShapes Go.ChangeAt Go.RowKit
set_option linter.unusedVariables false
set_option linter.unusedSimpArgs false
set_option autoImplicit false
namespace Go.Vc.S5
variable {H : Type} {w : World}
theorem deep_tag {m : Nat} {x : SV} {d : DataW H} (h : Deep X w m (X.T 57) x d) : ∃ t : Tag, x.cells = cTag.enc t ∧ True := by
  obtain ⟨fs, l, m', rfl, _, h⟩ := dp_struct (b := false) (ts := [.int .i64, .int .i64, .bool, .int .i64]) (show Deep X w m (.struct false [.int .i64, .int .i64, .bool, .int .i64]) x d from h)
  obtain ⟨x1, _, _, _, rfl, rfl, h1, h⟩ := all3_cons h
  obtain ⟨x2, _, _, _, rfl, rfl, h2, h⟩ := all3_cons h
  obtain ⟨x3, _, _, _, rfl, rfl, h3, h⟩ := all3_cons h
  obtain ⟨x4, _, _, _, rfl, rfl, h4, h⟩ := all3_cons h
  obtain ⟨rfl, rfl⟩ := all3_nil h
  obtain ⟨a, rfl, _, _⟩ := dp_int h1
  obtain ⟨b, rfl, _, _⟩ := dp_int h2
  obtain ⟨c, rfl, _⟩ := dp_bool h3
  obtain ⟨e, rfl, _, _⟩ := dp_int h4
  exact ⟨⟨a, b, c, e⟩, by simp [SV.cells, SV.cellsL, cTag], trivial⟩
/-- a frame's values -/
theorem deep_frame {m : Nat} {x : SV} {d : DataW H} (h : Deep X w m (X.T 50) x d) :
    ∃ (f g : Nat → Int) (ts ds : Sl) (tags : List Tag) (type : Int) (data : List Int), x = .struct [.arr .u8 6 f, .arr .u8 6 g, .slice ts, .int .i64 type, .slice ds] ∧ (∀ i, i < 6 → 0 ≤ f i ∧ f i < 256) ∧ (∀ i, i < 6 → 0 ≤ g i ∧ g i < 256) ∧
      Sees cTag w ts tags ∧ ts.len ≤ ts.cap ∧ -9223372036854775808 ≤ type ∧ type ≤ 9223372036854775807 ∧ SeesB w ds data ∧ Byt data ∧ ds.len ≤ ds.cap ∧
      ∃ d1 d2 d3 d4 d5, d = .agg [d1, d2, d3, d4, d5] ∧ (d3 = .nil ∧ tags = [] ∨ ∃ els sp, d3 = .slice els sp ∧ els.length = tags.length) := by
  obtain ⟨fs, l, m', rfl, rfl, hh⟩ := dp_struct (b := false) (ts := [.arr .u8 6, .arr .u8 6, .slice 57, .int .i64, .slice 5]) (show Deep X w m (.struct false [.arr .u8 6, .arr .u8 6, .slice 57, .int .i64, .slice 5]) x d from h)
  obtain ⟨x1, _, d1, _, rfl, rfl, h1, hh⟩ := all3_cons hh
  obtain ⟨x2, _, d2, _, rfl, rfl, h2, hh⟩ := all3_cons hh
  obtain ⟨x3, _, d3, _, rfl, rfl, h3, hh⟩ := all3_cons hh
  obtain ⟨x4, _, d4, _, rfl, rfl, h4, hh⟩ := all3_cons hh
  obtain ⟨x5, _, d5, _, rfl, rfl, h5, hh⟩ := all3_cons hh
  obtain ⟨rfl, rfl⟩ := all3_nil hh
  obtain ⟨f, _, rfl, _, _, hf⟩ := dp_arr8 h1
  obtain ⟨g, _, rfl, _, _, hg⟩ := dp_arr8 h2
  obtain ⟨ts, tags, rfl, ht, _, htc, hd3⟩ := dp_slice (c := cTag) (P := fun _ => True) (e := 57) rfl (fun m x d h => deep_tag h) h3
  obtain ⟨type, rfl, _, hty⟩ := dp_int h4
  obtain ⟨ds, data, rfl, hd, hdb, hdc, _⟩ := deep_bytes (X := X) (t := 22) (e := 5) rfl rfl (show Deep X w m' (X.T 22) x5 d5 from h5)
  have := wf_i64 hty
  exact ⟨f, g, ts, ds, tags, type, data, rfl, hf, hg, ht, htc, this.1, this.2, hd, hdb, hdc, d1, d2, d3, d4, d5, rfl, hd3⟩
noncomputable def und50f : Array Field := match Try.prog.underlying 50 with | some (.struct fs) => fs | _ => #[]
theorem und50 : Try.prog.underlying 50 = some (.struct und50f) := by kernel_rfl
theorem und50t : und50f.toList.map (·.type) = [24, 24, 48, 3, 22] := by kernel_rfl
theorem und48 : Try.prog.underlying 48 = some (.slice 57) := by kernel_rfl
theorem bytes57 : Try.prog.bytesOf 57 = 32 := by kernel_rfl
theorem few_tags {d1 d2 d3 d4 d5 : DataW H} {n : Nat} (hs : (DataW.weightsEach Try.prog [50] [.agg [d1, d2, d3, d4, d5]]).all (· ≤ reachBytes) = true) (hd : d3 = .nil ∧ n = 0 ∨ ∃ els sp, d3 = .slice els sp ∧ els.length = n) : n ≤ 4398046511000 := by
  rcases hd with ⟨_, rfl⟩ | ⟨els, sp, rfl, rfl⟩
  · omega
  · simp only [DataW.weightsEach, DataW.weights, und50, und50t, und48, bytes57, List.all_append, List.all_cons, Bool.and_eq_true, decide_eq_true_eq] at hs
    have := hs.1.2.2.1.1
    unfold reachBytes at this
    omega
end Go.Vc.S5
