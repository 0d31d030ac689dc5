import Derived.Test.YtopobapmncbjhaaS5TxtE
import Derived.Test.YtopobapmncbjhaaS5H
import Derived.Test.YtopobapmncbjhaaS5Arp
import Derived.Test.YtopobapmncbjhaaLoops2
import Derived.Test.YtopobapmncbjhaaRowB
open Go Go.Vc Go.Proofs Go.ChangeShapes Go.WideShapes Go.ChangeAt Go.RowKit
set_option linter.unusedVariables false
set_option linter.unusedSimpArgs false
set_option autoImplicit false
namespace Go.Vc.S5

abbrev hd14 : List Int := [255, 255, 255, 255, 255, 255, 2, 0, 0, 0, 0, 1, 8, 0]
def longL (q : Nat) (g : Nat → Int) : List Int := hd14 ++ arrL q g
theorem longL_len (q : Nat) (g : Nat → Int) : (longL q g).length = 14 + q := by unfold longL; rw [List.length_append, arrL_len]; rfl
theorem set_long {q k : Nat} {g : Nat → Int} (hk : k < q) : (hd14 ++ (arrL k g ++ List.replicate (q - k) 0)).set (14 + k) (g k) = hd14 ++ (arrL (k + 1) g ++ List.replicate (q - (k + 1)) 0) := by
  rw [List.set_append_right _ _ (by simp), List.set_append_right _ _ (by rw [arrL_len]; simp), arrL_len]
  have e1 : 14 + k - hd14.length - k = 0 := by simp
  rw [e1, show q - k = (q - (k + 1)) + 1 by omega, List.replicate_succ, List.set_cons_zero, arrL_succ, List.append_assoc]
  rfl
theorem parse_long {q : Nat} {g : Nat → Int} : parse (longL q g) = if 65535 < 14 + q then .error 2 else .ok ([], 12) := by
  unfold parse
  rw [longL_len]
  split
  · rfl
  · rw [if_neg (by omega), if_neg (by simp [longL, bt])]
    have : w16 (longL q g) ((12 : Nat) : Int) = 2048 := by simp [longL, w16, bt]
    unfold ploop
    rw [this, if_neg (by decide), if_neg (by decide)]

set_option maxRecDepth 10000 in
theorem c12 {n m : Int} {w : World} : Ret Try.prog 12 [.int .i64 n, .int .u8 m] w fun r w1 => r = .bool true ∧ Upd [] [] w w1 := by
  refine f12_of _ _ _ _ ?_
  unfold vc12
  refine c25 fun w1 u1 => ⟨_, rfl, brf rfl ?_⟩
  refine f33_of _ _ ?_
  unfold vc33
  intro b w2 u2 hrow
  have hb := u2.new (b := b) (by simp)
  refine ⟨_, rfl, ?_⟩
  obtain ⟨q, hq, hq2⟩ : ∃ q : Nat, imin (imax n 0) 1048576 = q ∧ q ≤ 1048576 := by
    have h1 := imin_le (imax n 0) 1048576
    have h2 := imax_ge n 0
    exact ⟨(imin (imax n 0) 1048576).toNat, by omega, by omega⟩
  rw [hq]
  refine needD (by simp) (need (by simp; omega) ?_)
  rw [Int.toNat_natCast, zeros_cells]
  have s2 : SeesB w2 ⟨some ⟨b, 0, none⟩, 14, 15⟩ hd14 := rowMid (o := 0) (n := 14) (cap := 15) hrow [] [.int .u8 7] hd14 rfl rfl rfl
  have o2 : Own w1.heap.size 1 w2 ⟨some ⟨b, 0, none⟩, 14, 15⟩ := own_row (n := 14) (cap := 15) hrow hb.1 rfl (by omega)
  refine appendN_own (c := cU8) (new := List.replicate q 0) s2 o2 u2.size (by simp) (by simp) (by decide) (by simp; omega) fun r w3 hr ho u3 _ => ?_
  have v3 : Upd [] [] w w3 := (u1.then u2).step0 u3 (fun x hx => by have := (o2.blk x hx).1; have := u1.size; omega)
  have rl := hr.len
  simp at rl
  have g0 : ∀ t : Int, 0 ≤ wr .u8 (m + wr .u8 t) ∧ wr .u8 (m + wr .u8 t) < 256 := fun t => wr_u8_range _
  let g : Nat → Int := fun k => wr .u8 (m + wr .u8 ((14 + k : Nat) : Int))
  have z3 := ho.blk
  have y1 := u1.size
  refine ⟨fun i w' => Upd [] [] w w' ∧ Own w1.heap.size 1 w' r ∧ ∃ k : Nat, i = ((14 + k : Nat) : Int) ∧ k ≤ q ∧ SeesB w' r (hd14 ++ (arrL k g ++ List.replicate (q - k) 0)), fun i _ => (r.len - i).toNat, ⟨v3, ho, 0, rfl, by omega, by simpa [arrL] using hr⟩, ?_⟩
  rintro i w4 ⟨v4, ho4, k, rfl, hk, h4⟩
  have hl4 : (hd14 ++ (arrL k g ++ List.replicate (q - k) 0)).length = 14 + q := by simp only [List.length_append, arrL_len, List.length_replicate, List.length_cons, List.length_nil]; omega
  refine brd (fun hlt => ?_) (fun hge => ?_)
  · refine needB h4 (by omega) (by omega) (own_set (c := cU8) (x := g k) h4 ho4 (by decide) (by omega) (by simp [SV.cells, cU8, g]) (by simp) fun w5 h5 ho5 u5 => ?_)
    rw [Int.toNat_natCast, set_long (by omega)] at h5
    refine ⟨⟨v4.step0 u5 (fun x hx => by have := (ho4.blk x hx).1; omega), ho5, k + 1, by rw [wr_i64 (by omega) (by omega)]; omega, by omega, h5⟩, by rw [wr_i64 (by omega) (by omega)]; (try dsimp only); omega⟩
  have hkq : k = q := by omega
  subst hkq
  rw [Nat.sub_self, List.replicate_zero, List.append_nil] at h4
  have h4 : SeesB w4 r (longL k g) := h4
  have hlen := longL_len k g
  have hB : Byt (longL k g) := Byt.app (by simp [Byt]) (arrL_byt fun i hi => g0 _)
  have hpar := parse_long (q := k) (g := g)
  refine c26' h4 hB ho4.le (by omega) fun f f2 ts d w5 hf hf2 u5 hts hto ht2 hd => ⟨_, _, _, _, _, _, rfl, ?_⟩
  intro b6 w6 u6
  have h6 := (h4.old u5).old u6
  refine c22 h6 hB ho4.le (by omega) fun q1 q2 q3 q4 q5 q6 q7 w7 _ _ _ _ _ _ _ u7 => ⟨_, _, _, _, _, _, _, _, rfl, kp u7, ?_⟩
  intro b8
  have rlen : r.len = 14 + k := by rw [h4.len, hlen]
  refine needD (by omega) fun w8 u8 => ?_
  have h8 := (h6.old u7).old u8
  have hd8 : ∀ w', SeesB w' r (longL k g) → SeesB w' (r.sub 1 14 r.len r.cap) ((longL k g).drop 14) := fun w' h' => by
    have := h'.subB (lo := 14) (hi := r.len) (mx := r.cap) (by omega) (by omega) ho4.le
    rwa [rlen, ← hlen, List.take_length, hlen, ← rlen] at this
  have e31 : ((longL k g).drop 14).length = k := by rw [List.length_drop]; omega
  refine c31' (tags := []) (Sees.nil _ _ _ _) (hd8 _ h8) (by simp [fset]) (by omega) fun s9 w9 u9 h9 o9 => ⟨_, _, rfl, kp u9, ?_⟩
  refine c13 (h8.old u9) (by omega) fun s10 w10 u10 h10 o10 => ⟨_, rfl, kp u10, ?_⟩
  have v10 := ((((v4.then u5).then u6).then u7).then u8).then (u9.then u10)
  have H10 := (h8.old u9).old u10
  generalize hsrc : fset (fset (fun x => 0) 0 2) 5 1 = src at *
  have hsrc0 : src 0 = 2 := by rw [← hsrc]; rfl
  generalize hdst : fset (fset (fset (fset (fset (fset (fun x => 0) 0 255) 1 255) 2 255) 3 255) 4 255) 5 255 = dst at *
  have hchk : chk (src 0) [] 2048 ((longL k g).drop 14).length = if 65535 < 14 + k then 2 else 0 := by
    rw [e31, hsrc0]
    split
    · rename_i hbig
      unfold chk
      rw [if_neg (by decide), if_neg (by decide), if_neg (show ¬ ¬ tagsT [] from not_not_intro (fun i hi => by simp at hi)), if_neg (show ¬ ¬ ∀ t ∈ ([] : List Tag), tagV t from not_not_intro (fun t h => by cases h)), if_neg (by decide), if_pos (by simp only [List.length_nil]; omega)]
    · exact chk_zero (by decide) (by simp) (fun i hi => by simp at hi) (by simp) (by decide) (by decide) (by decide) (by simp; omega)
  have dlen : (pdata (longL k g)) = if 65535 < 14 + k then [] else (longL k g).drop 14 := by
    by_cases hbg : 65535 < 14 + k
    · have hz : parse (longL k g) = .error 2 := by rw [hpar, if_pos hbg]
      unfold pdata; rw [hz, if_pos hbg]
    · have hz : parse (longL k g) = .ok ([], 12) := by rw [hpar, if_neg hbg]
      unfold pdata; rw [hz, if_neg hbg]
  have D10 : ∀ w', SeesB w' r (longL k g) → SeesB w' d (pdata (longL k g)) := by
    intro w' h'
    rcases hd with ⟨rfl, e⟩ | ⟨t, rfl, ht, e⟩
    · rw [e]; exact Sees.nil _ _ _ _
    · rw [e]
      have := h'.subB (lo := t) (hi := (longL k g).length) (mx := (longL k g).length) ht (Nat.le_refl _) (Nat.le_refl _)
      rwa [List.take_length] at this
  intro J hJ
  have main : ∀ w11, Upd [] [] w10 w11 → J w11 := by
    intro w11 u11
    have v11 := v10.then u11
    refine hJ _ ?_
    refine brd (fun hbig => ?_) (fun hsm => ?_)
    · have hbig : 65535 < 14 + k := by omega
      have hz : parse (longL k g) = .error 2 := by rw [hpar, if_pos hbig]
      have e1 : pe (longL k g) = 2 := by unfold pe; rw [hz]
      have e2 : qe (longL k g) = 2 := by unfold qe; rw [if_pos (by omega)]
      rw [e1, e2, hchk, if_pos hbig]
      have h9' : SeesB w9 s9 [] := by
        unfold serOf at h9
        rw [if_neg (by rw [hchk, if_pos hbig]; decide)] at h9
        exact h9
      refine brt rfl (brt rfl (brt rfl (brt (by rw [h9'.len]; rfl) ?_)))
      have ef : ∀ i, i < 6 → f i = 0 := fun i hi => by rw [hf i hi]; unfold pf; rw [hz]
      have eg : ∀ i, i < 6 → f2 i = 0 := fun i hi => by rw [hf2 i hi]; unfold pg; rw [hz]
      have et : ptags (longL k g) = [] := by unfold ptags; rw [hz]
      have ed : pdata (longL k g) = [] := by unfold pdata; rw [hz]
      have ety : pty (longL k g) = 0 := by unfold pty; rw [hz]
      rw [ety]
      have T11 := (((((hts.old u6).old u7).old u8).old u9).old u10).old u11
      rw [et] at T11
      have D11 := D10 _ (H10.old u11)
      rw [ed] at D11
      refine c28T T11 (Sees.nil _ _ _ _) D11 (Sees.nil _ _ _ _) ef eg (by decide) (by decide) fun w12 u12 => ⟨_, rfl, kp u12, rfl, ?_⟩
      exact v11.then u12
    · have hsm : ¬ 65535 < 14 + k := by omega
      have hz : parse (longL k g) = .ok ([], 12) := by rw [hpar, if_neg hsm]
      have e1 : pe (longL k g) = 0 := by unfold pe; rw [hz]
      have e2 : qe (longL k g) ≠ 0 := by
        unfold qe
        rw [if_neg (by omega)]
        split
        · decide
        · rw [if_pos (by simp [longL])]; decide
      rw [e1, hchk, if_neg hsm]
      refine brt rfl (brt rfl (brt (by simp [e2]) (needD (by omega) fun w12 u12 => ?_)))
      have H12 := (H10.old u11).old u12
      have D12 := D10 _ H12
      rw [dlen, if_neg hsm] at D12
      refine cSameT D12 (hd8 _ H12) (by omega) fun w13 u13 => ⟨_, rfl, kp u13, brt rfl ?_⟩
      have h9' : SeesB w9 s9 (longL k g) := by
        unfold serOf at h9
        rw [if_pos (by rw [hchk, if_neg hsm])] at h9
        have e : ser dst src [] 2048 ((longL k g).drop 14) = longL k g := by
          have e1 : arrL 6 dst = [255, 255, 255, 255, 255, 255] := by rw [← hdst]; rfl
          have e2 : arrL 6 src = [2, 0, 0, 0, 0, 1] := by rw [← hsrc]; rfl
          unfold ser
          rw [e1, e2]
          rfl
        rwa [e] at h9
      refine cSameT ((((h9'.old u10).old u11).old u12).old u13) (H12.old u13) (by omega) fun w14 u14 => ⟨_, rfl, kp u14, rfl, ?_⟩
      exact ((v11.then u12).then u13).then u14
  have hpl : (padOf (longL k g)).length = 14 + k + (60 - (14 + k)) := by unfold padOf; rw [List.length_append, List.length_replicate, hlen]
  refine brd (fun h60 => ?_) (fun h60 => ?_)
  · have hp : padOf (longL k g) = longL k g := by
      unfold padOf
      rw [hlen, show 60 - (14 + k) = 0 by omega]
      simp
    rw [hp] at h10
    refine cSameT h10 H10 (by omega) fun w11 u11 => ⟨_, rfl, kp u11, brf rfl (brf (by simp; omega) ?_)⟩
    repeat refine And.intro rfl ?_
    exact main _ u11
  · have hp10 := h10.len
    rw [hpl] at hp10
    refine brt (by simp; omega) (brf (by simp; omega) (needIxLe (by omega) (by have := o10.le; omega) ?_))
    have s11 := h10.subB (lo := 0) (hi := r.len) (mx := s10.cap) (by omega) (by omega) (by have := o10.le; omega)
    have e : ((padOf (longL k g)).take r.len).drop 0 = longL k g := by
      rw [List.drop_zero, rlen, ← hlen]
      unfold padOf
      exact List.take_left' rfl
    rw [e] at s11
    rw [Int.toNat_natCast]
    refine cSameT s11 H10 (by omega) fun w11 u11 => ⟨_, rfl, kp u11, brf rfl ?_⟩
    repeat refine And.intro rfl ?_
    exact main _ u11

theorem walk12 {H : Type} {W : World} (svs : List SV) (ds : List (DataW H)) (h : ArgsD X W [3, 5] svs ds) :
    Ret Try.prog 12 svs W fun r w1 => r = .bool true ∧ Upd [] [] W w1 := by
  obtain ⟨x, _, d1, _, m1, rfl, rfl, h1, h⟩ := argsD_cons h
  obtain ⟨y, _, d2, _, m2, rfl, rfl, h2, h⟩ := argsD_cons h
  obtain ⟨rfl, rfl⟩ := argsD_nil h
  obtain ⟨n, rfl, _⟩ := deep_int (k := .i64) (t := 3) rfl h1
  obtain ⟨m, rfl, _⟩ := deep_int (k := .u8) (t := 5) rfl h2
  exact c12
end Go.Vc.S5
