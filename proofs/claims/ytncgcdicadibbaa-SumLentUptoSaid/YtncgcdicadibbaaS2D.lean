import Derived.Test.YtncgcdicadibbaaS2TxtD
import Derived.Test.YtncgcdicadibbaaS2B
import Derived.Test.YtncgcdicadibbaaLoops
open Go Go.Vc Go.Proofs
set_option linter.unusedVariables false
set_option linter.unusedSimpArgs false
set_option autoImplicit false
namespace Go.Vc.S2

open Classical in
/-- an address's version, 0 of none -/
noncomputable def verOf (v : Int) (a : Nat → Int) : Int := if v = 6 then 6 else if v = 4 ∧ ∀ i, i < 16 → 4 ≤ i → a i = 0 then 4 else 0
theorem verOf_cases (v : Int) (a : Nat → Int) : verOf v a = 0 ∨ verOf v a = 4 ∨ verOf v a = 6 := by unfold verOf; split; simp; split <;> simp
theorem c41 {v : Int} {a : Nat → Int} {w : World} {R : SV → World → Prop} (k : ∀ w1, Upd [] [] w w1 → R (.int .i64 (verOf v a)) w1) : Ret Try.prog 41 [.struct [.int .i64 v, .arr .u8 16 a]] w R := by
  refine f41_of _ _ _ _ ?_
  unfold vc41
  intro b
  refine bre (fun h w1 u => ?_) (fun h => bre' (fun h2 w1 u => ?_) (fun h2 b1 => ?_))
  · have e : verOf v a = 6 := by unfold verOf; rw [if_pos h]
    rw [e] at k; exact k _ u.forget
  · have e : verOf v a = 0 := by unfold verOf; rw [if_neg h, if_neg (by omega)]
    rw [e] at k; exact k _ u.forget
  · refine brn (fun h3 w1 u => ?_) (fun h3 w1 u => ?_)
    · have e : verOf v a = 0 := by
        unfold verOf
        rw [if_neg h, if_neg]
        intro hh
        have : eqArr 16 a (fset (fset (fset (fset (fun (x : Nat) => 0) 0 (a 0)) 1 (a 1)) 2 (a 2)) 3 (a 3)) = true := by
          rw [eqArr_iff]
          intro i hi
          by_cases h4 : 4 ≤ i
          · rw [hh.2 i hi h4]
            simp only [fset]
            rw [nbeq_false.2 (by omega), nbeq_false.2 (by omega), nbeq_false.2 (by omega), nbeq_false.2 (by omega)]
          · have : i = 0 ∨ i = 1 ∨ i = 2 ∨ i = 3 := by omega
            rcases this with rfl | rfl | rfl | rfl <;> rfl
        rw [this] at h3
        cases h3
      rw [e] at k; exact k _ u.forget
    · have e : verOf v a = 4 := by
        unfold verOf
        rw [if_neg h, if_pos]
        refine ⟨h2, fun i hi h4 => ?_⟩
        rw [eqArr_iff] at h3
        rw [h3 i hi]
        simp only [fset]
        rw [nbeq_false.2 (by omega), nbeq_false.2 (by omega), nbeq_false.2 (by omega), nbeq_false.2 (by omega)]
      rw [e] at k; exact k _ u.forget
theorem c42 {v : Int} {a : Nat → Int} {w : World} {R : SV → World → Prop} (k : ∀ w1, Upd [] [] w w1 → R (.int .i64 (verOf v a)) w1) : Ret Try.prog 42 [.struct [.int .i64 v, .arr .u8 16 a]] w R := by
  refine f42_of _ _ _ _ ?_
  unfold vc42
  intro b
  refine bre (fun h w1 u => ?_) (fun h => ?_)
  · have e : verOf v a = 6 := by unfold verOf; rw [if_pos h]
    rw [e] at k; exact k _ u.forget
  · refine ⟨fun i w1 => Upd [] [] w w1 ∧ ∃ t : Nat, i = t ∧ 4 ≤ t ∧ t ≤ 16 ∧ ∀ j, 4 ≤ j → j < t → a j = 0, fun i _ => (16 - i).toNat, fun w1 u => ⟨u.forget, 4, rfl, by omega, by omega, fun j h1 h2 => by omega⟩, ?_⟩
    rintro i w1 ⟨u, t, rfl, h4, ht, hz⟩
    refine brd (fun hlt => ?_) (fun hge => ?_)
    · refine needIx2 (by omega) hlt (bre' (fun hne => ?_) (fun he => ⟨rfl, ⟨u, t + 1, wr_succ (by omega), by omega, by omega, fun j h1 h2 => ?_⟩, ?_⟩))
      · have e : verOf v a = 0 := by
          unfold verOf
          rw [if_neg h, if_neg]
          intro hh
          exact hne (hh.2 t (by omega) h4)
        rw [e] at k; exact k _ u
      · by_cases hj : j = t
        · subst hj; simpa using he
        · exact hz j h1 (by omega)
      · rw [wr_succ (by omega)]; (try dsimp only); omega
    · have : t = 16 := by omega
      subst this
      refine bre (fun h5 => ?_) (fun h5 => ?_)
      · have e : verOf v a = 4 := by unfold verOf; rw [if_neg h, if_pos ⟨h5, fun i h1 h2 => hz i h2 h1⟩]
        rw [e] at k; exact k _ u
      · have e : verOf v a = 0 := by unfold verOf; rw [if_neg h, if_neg (fun hh => h5 hh.1)]
        rw [e] at k; exact k _ u

/-- the pseudo header and the error -/
noncomputable def psErr (sv : Int) (sa : Nat → Int) (dv : Int) (da : Nat → Int) (proto n : Int) : Int :=
  if verOf sv sa = 0 ∨ verOf dv da ≠ verOf sv sa then 20 else if proto < 0 ∨ proto > 255 ∨ n < 0 ∨ n > 65535 then 1 else 0
noncomputable def psOf (sv : Int) (sa : Nat → Int) (dv : Int) (da : Nat → Int) (proto n : Int) : List Int :=
  if psErr sv sa dv da proto n ≠ 0 then []
  else if verOf sv sa = 4 then arrL 4 sa ++ arrL 4 da ++ [0, proto % 256, n / 256 % 256, n % 256]
  else arrL 16 sa ++ arrL 16 da ++ [0, 0, n / 256 % 256, n % 256, 0, 0, 0, proto % 256]
theorem psOf_len (sv : Int) (sa : Nat → Int) (dv : Int) (da : Nat → Int) (proto n : Int) : (psOf sv sa dv da proto n).length ≤ 40 := by
  unfold psOf
  split
  · simp
  · split <;> simp [arrL_len]

theorem keeps_old {bs : List Nat} {w w1 : World} (u : Upd [] [] w w1) : Keeps bs w w1 := .inl u

theorem c26 {sv : Int} {sa : Nat → Int} {dv : Int} {da : Nat → Int} {proto n : Int} {w : World} {R : SV → World → Prop}
    (k : ∀ s w1, Upd [] [] w w1 → SeesB w1 s (psOf sv sa dv da proto n) → Own w.heap.size 1 w1 s → R (.tuple [.slice s, .int .i64 (psErr sv sa dv da proto n)]) w1) :
    Ret Try.prog 26 [.struct [.int .i64 sv, .arr .u8 16 sa], .struct [.int .i64 dv, .arr .u8 16 da], .int .i64 proto, .int .i64 n] w R := by
  refine f26_of _ _ _ _ _ _ _ _ ?_
  unfold vc26
  intro b b1 w1 u1
  refine c41 fun w2 u2 => ⟨_, rfl, keeps_old u2, ?_⟩
  have v2 := u1.then u2
  intro J hJ
  have none : ∀ w3, Upd [] [] w w3 → ∀ e, psErr sv sa dv da proto n = e → e ≠ 0 → R (.tuple [.slice ⟨.none, 0, 0⟩, .int .i64 e]) w3 := by
    intro w3 u3 e he hne
    rw [he] at k
    refine k _ w3 u3 ?_ (Own.none _ _ _)
    have : psOf sv sa dv da proto n = [] := by unfold psOf; rw [if_pos (by rw [he]; exact hne)]
    rw [this]; exact Sees.nil _ _ _ _
  refine bre (fun h => none _ v2 20 (by unfold psErr; rw [if_pos (.inl h)]) (by decide)) (fun h => ?_)
  refine c41 fun w3 u3 => ⟨_, rfl, keeps_old u3, ?_⟩
  have v3 := v2.then u3
  refine bre' (fun h2 => none _ v3 20 (by unfold psErr; rw [if_pos (.inr h2)]) (by decide)) (fun h2 => ?_)
  have hE : ∀ c : Prop, (proto < 0 ∨ proto > 255 ∨ n < 0 ∨ n > 65535) → psErr sv sa dv da proto n = 1 := fun _ hc => by unfold psErr; rw [if_neg (by omega), if_pos hc]
  refine brd (fun h3 => none _ v3 1 (hE True (by omega)) (by decide)) (fun h3 => brd (fun h4 => none _ v3 1 (hE True (by omega)) (by decide)) (fun h4 => brd (fun h5 => none _ v3 1 (hE True (by omega)) (by decide)) (fun h5 => brd (fun h6 => none _ v3 1 (hE True (by omega)) (by decide)) (fun h6 => ⟨rfl, rfl, hJ _ ?_⟩))))
  clear hJ none hE
  have he : psErr sv sa dv da proto n = 0 := by unfold psErr; rw [if_neg (by omega), if_neg (by omega)]
  rw [he] at k
  have hb1 : b1 < w3.heap.size := by have := u1.new (b := b1) (by simp); have := u2.size; have := u3.size; omega
  have hb : b < w3.heap.size := by have := u1.new (b := b) (by simp); have := u2.size; have := u3.size; omega
  have core : ∀ (q : Nat) (hq : q ≤ 16) (tl : List Int) (w4 : World) (K : Sl → World → Prop), w4.heap[b]? = some (.cells (SV.cells (.struct [.int .i64 sv, .arr .u8 16 sa])).toArray 41 (0, 0)) → w4 = w3 →
      (∀ s w5, Upd [] [] w w5 → SeesB w5 s (arrL q sa ++ arrL q da) → Own w.heap.size 1 w5 s → K s w5) →
      Vc.Append 5 1 1 ⟨.none, 0, 0⟩ (Sl.sub ⟨some ⟨b, 1, .none⟩, 16, 16⟩ 1 0 q 16) [b1] w4 fun r w =>
        w.heap[b1]? = some (.cells (SV.cells (.struct [.int .i64 dv, .arr .u8 16 da])).toArray 41 (0, 0)) → Vc.Append 5 1 1 r (Sl.sub ⟨some ⟨b1, 1, .none⟩, 16, 16⟩ 1 0 q 16) [] w K := by
    intro q hq tl w4 K hr e4 hK
    subst e4
    have hs := rowMid (o := 1) (cap := 16) hr [.int .i64 sv] [] (arrL 16 sa) (by simp [SV.cells, SV.cellsL, ← arrL_cells]) rfl (arrL_len _ _).symm
    have hs2 := hs.subB (lo := 0) (hi := q) (mx := 16) (by omega) (by rw [arrL_len]; exact hq) hq
    have e1 : ∀ f : Nat → Int, ((arrL 16 f).take q).drop 0 = arrL q f := by
      intro f
      simp only [arrL, List.drop_zero, ← List.map_take, List.take_range, Nat.min_eq_left hq]
    rw [e1] at hs2
    refine append_own (c := cU8) (Sees.nil _ _ _ _) (Own.none w.heap.size _ _) hs2 v3.size (by simp [Sl.blk]) (by omega) (by simp [arrL_len]; omega) fun r w5 hr5 ho5 u5 hnew => ?_
    intro hrow
    have hd := rowMid (o := 1) (cap := 16) hrow [.int .i64 dv] [] (arrL 16 da) (by simp [SV.cells, SV.cellsL, ← arrL_cells]) rfl (arrL_len _ _).symm
    have hd2 := hd.subB (lo := 0) (hi := q) (mx := 16) (by omega) (by rw [arrL_len]; exact hq) hq
    rw [e1] at hd2
    simp only [List.nil_append] at hr5
    have v5 := v3.step0 u5 (by simp [Sl.blk])
    refine append_own (c := cU8) hr5 ho5 hd2 v5.size (by simp) (by omega) (by simp [arrL_len]; omega) fun r2 w6 hr6 ho6 u6 _ => ?_
    exact hK _ _ (v5.step0 u6 (fun b hb => (ho5.blk b hb).1)) hr6 ho6
  refine bre (fun h7 hrow => core 4 (by omega) [] _ _ hrow rfl ?_) (fun h7 hrow => core 16 (by omega) [] _ _ hrow rfl ?_)
  · intro s w5 u5 hs5 ho5 b4 w6 u6 hr6
    have v6 := u5.then u6
    refine append_own (c := cU8) (new := [0, proto % 256, n / 256 % 256, n % 256]) (hs5.old u6) (ho5.old u6) (rowB hr6 _ (by rw [gshr8, wr_u8, wr_u8, wr_u8]; rfl) rfl) v6.size (by simp) (by omega) (by simp [arrL_len]) fun r w7 hr7 ho7 u7 _ => ?_
    refine k _ _ (v6.step0 u7 (fun b hb => ((ho5.old u6).blk b hb).1)) ?_ ho7
    unfold psOf
    rw [if_neg (by omega), if_pos h7]
    exact hr7
  · intro s w5 u5 hs5 ho5 b4 w6 u6 hr6
    have v6 := u5.then u6
    refine append_own (c := cU8) (new := [0, 0, n / 256 % 256, n % 256, 0, 0, 0, proto % 256]) (hs5.old u6) (ho5.old u6) (rowB hr6 _ (by rw [gshr8, wr_u8, wr_u8, wr_u8]; rfl) rfl) v6.size (by simp) (by omega) (by simp [arrL_len]) fun r w7 hr7 ho7 u7 _ => ?_
    refine k _ _ (v6.step0 u7 (fun b hb => ((ho5.old u6).blk b hb).1)) ?_ ho7
    unfold psOf
    rw [if_neg (by omega), if_neg h7]
    exact hr7
end Go.Vc.S2
