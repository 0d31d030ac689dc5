import Derived.Test.YtkkdnnpnbmpifaaS11L3
import Derived.Test.YtkkdnnpnbmpifaaHoleF
open Go Go.Vc Go.Proofs
set_option linter.unusedVariables false
set_option linter.unusedSimpArgs false
set_option autoImplicit false
namespace Go.Vc.S11
/-- the byte of the first piece that covers a place -/
def firstB : List (Int × List Int) → Int → Option Int
  | [], _ => none
  | p :: r, i => if p.1 ≤ i ∧ i < p.1 + p.2.length then some (bt p.2 (i - p.1)) else firstB r i
theorem firstB_snoc {p : Int × List Int} {i : Int} : ∀ (l : List (Int × List Int)), firstB (l ++ [p]) i = match firstB l i with | some v => some v | none => if p.1 ≤ i ∧ i < p.1 + p.2.length then some (bt p.2 (i - p.1)) else none
  | [] => by simp [firstB]
  | q :: r => by
    have ih := firstB_snoc (p := p) (i := i) r
    simp only [List.cons_append, firstB]
    split
    · rfl
    · exact ih
/-- what is held is what the first piece that covers it brought -/
structure First (S : Hs) (l : List (Int × List Int)) : Prop where
  hole : ∀ i, 0 ≤ i → i < bnd S → inG i S.gaps = (firstB l i).isNone
  byte : ∀ i, 0 ≤ i → i < bnd S → ∀ v, firstB l i = some v → bt S.buf i = v ∧ i < S.buf.length
theorem First.new {mx : Int} (h1 : 1 ≤ mx) : First ⟨mx, [], [(0, mx)], -1, 0, []⟩ [] := by
  refine ⟨fun i h0 hi => ?_, fun i _ _ v hv => by simp [firstB] at hv⟩
  have e : bnd ⟨mx, [], [(0, mx)], -1, 0, []⟩ = mx := by simp [bnd]
  rw [e] at hi
  simp [inG, firstB, h0, hi]
theorem inG_finG {S : Hs} {e i : Int} {more : Bool} {cg : List (Int × Int)} (hi : i < e) (he : e ≤ S.max) : inG i (finG S e more cg) = inG i cg := by
  unfold finG
  split
  · rcases List.eq_nil_or_concat cg with q | ⟨c, y, q⟩
    · rw [q]; rfl
    · rw [q, List.concat_eq_append, List.getLast?_concat]
      simp only
      split
      · split
        · rw [List.dropLast_concat, inG_app]
          simp only [inG]
          rw [decide_eq_false (show ¬ y.1 ≤ i by omega)]; simp
        · rw [List.dropLast_concat, inG_app, inG_app]
          simp only [inG]
          rw [decide_eq_true hi, decide_eq_true (show i < y.2 by omega)]
      · rfl
  · rfl
theorem First.put {S : Hs} {l : List (Int × List Int)} {off : Int} {data : List Int} {more : Bool} (g : Good S) (f : First S l) (he : errS S off data.length more = 0) (hb : Byt data) : First (putS S off data more) (l ++ [(off, data)]) := by
  obtain ⟨p1, p2, _, _, p3, p4, p5, p6, p7⟩ := errS_ok he
  have O := g.ok
  have hoe : off < off + (data.length : Int) := by omega
  have gb := g.bnd_le
  have hB' : bnd (putS S off data more) ≤ bnd S ∧ (more = false ∧ S.fin < 0 → bnd (putS S off data more) = off + data.length) := by
    by_cases hf : more = false ∧ S.fin < 0
    · have e1 : (putS S off data more).fin = off + data.length := by simp only [putS]; rw [if_pos hf]
      have e2 : bnd (putS S off data more) = off + data.length := by unfold bnd; rw [e1, if_pos (by omega)]
      have e0 : bnd S = S.max := by unfold bnd; rw [if_neg (by omega)]
      exact ⟨by omega, fun _ => e2⟩
    · have e1 : (putS S off data more).fin = S.fin := by simp only [putS]; rw [if_neg hf]
      have e2 : bnd (putS S off data more) = bnd S := by unfold bnd; rw [e1]; rfl
      exact ⟨by omega, fun q => absurd q hf⟩
  have hG : ∀ i, i < bnd (putS S off data more) → inG i (putS S off data more).gaps = (inG i S.gaps && !(decide (off ≤ i) && decide (i < off + data.length))) := by
    intro i hi
    rw [← inG_cut hoe g.ri]
    show inG i (finG S (off + data.length) more (cutG off (off + data.length) S.gaps)) = _
    by_cases hf : more = false ∧ S.fin < 0
    · exact inG_finG (by have := hB'.2 hf; omega) (by omega)
    · rw [finG_no hf]
  have pok := putB_ok (off := off) (e := off + data.length) p2 rfl p3 hb S.gaps (S.buf ++ List.replicate ((off + (data.length : Int)).toNat - S.buf.length) 0) (fun g hg => ⟨(O.gp g hg).1, (O.gp g hg).2.1⟩) (by simp; omega) (fun x hx => by
    rcases List.mem_append.1 hx with q | q
    · exact O.bb x q
    · rw [List.eq_of_mem_replicate q]; omega)
  have hlen : (putS S off data more).buf.length = S.buf.length + ((off + (data.length : Int)).toNat - S.buf.length) := by
    show (putB off (off + data.length) data S.gaps _).length = _
    rw [pok.1]; simp
  refine ⟨fun i h0 hi => ?_, fun i h0 hi v hv => ?_⟩
  · rw [hG i hi, f.hole i h0 (by omega), firstB_snoc]
    cases firstB l i with
    | some v => rfl
    | none =>
      dsimp only
      by_cases c : off ≤ i ∧ i < off + data.length
      · rw [if_pos c, decide_eq_true c.1, decide_eq_true c.2]; rfl
      · rw [if_neg c]
        have : (decide (off ≤ i) && decide (i < off + (data.length : Int))) = false := by simp; omega
        rw [this]; rfl
  · have hb2 : bt (putS S off data more).buf i = if inG i S.gaps && (decide (off ≤ i) && decide (i < off + (data.length : Int))) then bt data (i - off) else bt (S.buf ++ List.replicate ((off + (data.length : Int)).toNat - S.buf.length) 0) i :=
      putB_bt p2 rfl p3 g.ri (by omega) (by simp; omega) i h0
    rw [firstB_snoc] at hv
    rw [hb2, f.hole i h0 (by omega)]
    cases hf : firstB l i with
    | some u =>
      rw [hf] at hv
      obtain ⟨k1, k2⟩ := f.byte i h0 (by omega) u hf
      simp only [Option.isNone_some, Bool.false_and, Bool.false_eq_true, if_false]
      refine ⟨?_, by omega⟩
      have : u = v := Option.some.inj hv
      rw [← this, ← k1]
      unfold bt
      simp only [List.getD_eq_getElem?_getD]
      rw [List.getElem?_append_left (by omega)]
    | none =>
      rw [hf] at hv
      dsimp only at hv
      split at hv
      · rename_i c
        rw [decide_eq_true c.1, decide_eq_true c.2]
        refine ⟨by simpa using Option.some.inj hv, by omega⟩
      · cases hv
end Go.Vc.S11
namespace Go.Vc.S11
theorem lens_pos {top : Int} {g : Int × Int} {r : List (Int × Int)} {b : Int} (h : Rise top b (g :: r)) : 0 < lens (g :: r) := by
  obtain ⟨h1, h2, h3, h4⟩ := h
  have := lens_nonneg h4
  simp only [lens]; omega
/-- whole: just when as much is held as the end says -/
theorem whole_held {S : Hs} (g : Good S) (h0 : 0 ≤ S.fin) : wholeS S = decide (S.held = S.fin) := by
  have e : bnd S = S.fin := by unfold bnd; rw [if_pos h0]
  have hs := g.sum
  have hr := g.ri
  unfold wholeS
  rw [decide_eq_true (show S.fin ≥ 0 from h0), Bool.true_and]
  cases hg : S.gaps with
  | nil =>
    rw [hg] at hs
    simp only [lens] at hs
    rw [decide_eq_true (by omega)]; rfl
  | cons x r =>
    rw [hg] at hs hr
    have := lens_pos hr
    rw [decide_eq_false (by omega)]; rfl
/-- the bytes that are told once all has come -/
theorem First.bytes {S : Hs} {l : List (Int × List Int)} (g : Good S) (f : First S l) (hw : wholeS S = true) : 0 ≤ S.fin ∧ S.fin ≤ S.buf.length ∧ ∀ i, 0 ≤ i → i < S.fin → firstB l i = some (bt S.buf i) := by
  have h0 : 0 ≤ S.fin := by unfold wholeS at hw; simp at hw; exact hw.1
  have hg : S.gaps = [] := by unfold wholeS at hw; simp at hw; exact hw.2
  have e : bnd S = S.fin := by unfold bnd; rw [if_pos h0]
  have gb := g.bnd_le
  have key : ∀ i, 0 ≤ i → i < S.fin → firstB l i = some (bt S.buf i) ∧ i < S.buf.length := by
    intro i hi hlt
    have h1 := f.hole i hi (by omega)
    rw [hg] at h1
    simp only [inG] at h1
    cases hf : firstB l i with
    | none => rw [hf] at h1; cases h1
    | some v =>
      obtain ⟨k1, k2⟩ := f.byte i hi (by omega) v hf
      exact ⟨by rw [k1], k2⟩
  refine ⟨h0, ?_, fun i hi hlt => (key i hi hlt).1⟩
  have := (key (S.fin - 1) (by omega) (by omega)).2
  omega
end Go.Vc.S11
