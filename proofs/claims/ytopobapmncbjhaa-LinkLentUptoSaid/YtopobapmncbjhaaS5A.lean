import Derived.Test.YtopobapmncbjhaaS5Same
open Go Go.Vc Go.Proofs
set_option linter.unusedVariables false
set_option linter.unusedSimpArgs false
set_option autoImplicit false
namespace Go.Vc.S5

theorem c17 {b : Sl} {l : List Int} {w : World} {R : SV → World → Prop} (h : SeesB w b l) (hl : l.length ≤ 70368744177664)
    (k : ∀ s w1, Upd [] [] w w1 → SeesB w1 s l → Own w.heap.size 1 w1 s → R (.slice s) w1) : Ret Try.prog 17 [.slice b] w R := by
  refine f17_of _ _ _ ?_
  unfold vc17
  refine append_own (c := cU8) (Sees.nil _ _ _ _) (Own.none w.heap.size _ _) h (by omega) (by simp) (by decide) (by simp; omega) fun r w1 hr ho u _ => ?_
  exact k r w1 u (by simpa using hr) ho
theorem c40 {b : Sl} {l : List Int} {w : World} {R : SV → World → Prop} (h : SeesB w b l) (hl : l.length ≤ 70368744177664)
    (k : ∀ s w1, Upd [] [] w w1 → SeesB w1 s l → Own w.heap.size 1 w1 s → R (.slice s) w1) : Ret Try.prog 40 [.slice b] w R := by
  refine f40_of _ _ _ ?_
  unfold vc40
  refine brb (fun hn => ?_) (fun hn => ?_)
  · have hp : b.ptr = none := by simpa using hn
    have : l = [] := by
      cases l with
      | nil => rfl
      | cons x r => obtain ⟨a, ha⟩ := h.ptr_some (by decide) (by simp); rw [hp] at ha; cases ha
    subst this
    exact k _ _ (Upd.refl w) (Sees.nil _ _ _ _) (Own.none _ _ _)
  · intro b1 w1 u1 hrow
    have hb1 := u1.new (b := b1) (by simp)
    refine append_own (c := cU8) (N := w.heap.size) (rowB (n := 0) (cap := 0) hrow [] rfl rfl) (own_row hrow hb1.1 rfl (Nat.le_refl _)) (h.old u1) u1.size (by simp) (by decide) (by simp; omega) fun r w2 hr ho u _ => ?_
    exact k r w2 (u1.forget.step0 u (fun x hx => by simp [Sl.blk] at hx; subst hx; exact hb1.1)) (by simpa using hr) ho
theorem c41 {b : Sl} {l : List Int} {lo hi : Int} {w : World} {R : SV → World → Prop} (h : SeesB w b l) (h0 : 0 ≤ lo) (hi1 : hi ≤ l.length) (hl : l.length ≤ 70368744177664)
    (k : ∀ s w1, Upd [] [] w w1 → SeesB w1 s ((l.take hi.toNat).drop lo.toNat) → Own w.heap.size 1 w1 s → R (.slice s) w1) : Ret Try.prog 41 [.slice b, .int .i64 lo, .int .i64 hi] w R := by
  refine f41_of _ _ _ _ _ ?_
  unfold vc41
  refine ⟨fun s i w1 => Upd [] [] w w1 ∧ Own w.heap.size 1 w1 s ∧ ∃ t : Nat, i = lo + t ∧ (t = 0 ∨ lo + t ≤ hi) ∧ SeesB w1 s ((l.drop lo.toNat).take t), fun _ i _ => (hi - i).toNat, ⟨Upd.refl w, Own.none _ _ _, 0, by simp, .inl rfl, Sees.nil _ _ _ _⟩, ?_⟩
  rintro s i w1 ⟨u, o, t, rfl, ht, hs⟩
  have h1 := h.old u
  have hlen := h.len
  refine brd (fun hlt => ?_) (fun hge => ?_)
  · refine needB h1 (by omega) (by omega) ⟨_, h1.byte (by omega) (by omega), ?_⟩
    intro b2 w2 u2 hrow
    have o2 := o.old u2
    have v2 := u.then u2
    refine append_own (c := cU8) (new := [_]) (hs.old u2) o2 (rowB hrow [_] rfl rfl) v2.size (by simp) (by decide) (by simp; omega) fun r w3 hr ho u3 _ => ?_
    have e : (l.drop lo.toNat).take t ++ [bt l (lo + t)] = (l.drop lo.toNat).take (t + 1) := by
      rw [take_snoc (show t < (l.drop lo.toNat).length by simp; omega), bt_int (by omega) (by omega)]
      simp only [List.getElem_drop]
      congr 3
      omega
    rw [e] at hr
    exact ⟨⟨v2.step0 u3 (fun x hx => (o2.blk x hx).1), ho, t + 1, by rw [wr_i64 (by omega) (by omega)]; omega, .inr (by omega), hr⟩, by rw [wr_i64 (by omega) (by omega)]; (try dsimp only); omega⟩
  · refine k s w1 u ?_ o
    have e : (l.take hi.toNat).drop lo.toNat = (l.drop lo.toNat).take t := by
      rw [List.drop_take]
      rcases ht with rfl | ht
      · rw [show hi.toNat - lo.toNat = 0 by omega]
      · congr 1; omega
    rw [e]; exact hs

/-- zeros behind, up to 60 bytes -/
def padOf (l : List Int) : List Int := l ++ List.replicate (60 - l.length) 0
theorem c13 {b : Sl} {l : List Int} {w : World} {R : SV → World → Prop} (h : SeesB w b l) (hl : l.length ≤ 70368744177000)
    (k : ∀ s w1, Upd [] [] w w1 → SeesB w1 s (padOf l) → Own w.heap.size 1 w1 s → R (.slice s) w1) : Ret Try.prog 13 [.slice b] w R := by
  refine f13_of _ _ _ ?_
  unfold vc13
  have hlen := h.len
  have hm : imax 0 (wr .i64 (60 - (b.len : Int))) = ((60 - l.length : Nat) : Int) := by
    rw [wr_i64 (by omega) (by omega)]
    unfold imax
    split <;> omega
  rw [hm]
  refine c40 h (by omega) fun s w1 u1 hs ho => ⟨_, rfl, need (by simp; omega) ?_⟩
  rw [Int.toNat_natCast, zeros_cells]
  refine appendN_own (c := cU8) hs ho u1.size (by simp) (by simp) (by decide) (by simp; omega) fun r w2 hr ho2 u2 _ => ?_
  exact k r w2 (u1.step0 u2 (fun x hx => (ho.blk x hx).1)) hr ho2
theorem c18 {b : Sl} {l : List Int} {w : World} {R : SV → World → Prop} (h : SeesB w b l) (hl : l.length ≤ 70368744177000)
    (k : ∀ s w1, Upd [] [] w w1 → SeesB w1 s (padOf l) → Own w.heap.size 1 w1 s → R (.slice s) w1) : Ret Try.prog 18 [.slice b] w R := by
  refine f18_of _ _ _ ?_
  unfold vc18
  rw [h.len]
  refine c41 h (by omega) (Int.le_refl _) (by omega) fun s w1 u1 hs ho => ⟨_, rfl, ?_⟩
  rw [Int.toNat_natCast, List.take_length] at hs
  refine ⟨fun s w2 => Upd [] [] w w2 ∧ Own w.heap.size 1 w2 s ∧ ∃ t : Nat, (t = 0 ∨ l.length + t ≤ 60) ∧ SeesB w2 s (l ++ List.replicate t 0), fun s _ => 60 - s.len, ⟨u1, ho, 0, .inl rfl, by simpa using hs⟩, ?_⟩
  rintro s w2 ⟨u, o, t, ht, hs2⟩
  have hsl := hs2.len
  simp at hsl
  refine brd (fun hlt => ?_) (fun hge => ?_)
  · intro b3 w3 u3 hrow
    have o3 := o.old u3
    have v3 := u.then u3
    refine append_own (c := cU8) (new := [0]) (hs2.old u3) o3 (rowB hrow [0] rfl rfl) v3.size (by simp) (by decide) (by simp; omega) fun r w4 hr ho4 u4 _ => ?_
    have hrl := hr.len
    simp at hrl
    refine ⟨⟨v3.step0 u4 (fun x hx => (o3.blk x hx).1), ho4, t + 1, .inr (by omega), ?_⟩, by (try dsimp only); omega⟩
    rw [List.replicate_succ', ← List.append_assoc]
    exact hr
  · refine k s w2 u ?_ o
    unfold padOf
    have : 60 - l.length = t := by omega
    rw [this]; exact hs2

/-- is it a group's address? -/
def grp (m : Nat → Int) : Bool := m 0 % 2 == 1
theorem c14 {m : Nat → Int} {w : World} {R : SV → World → Prop} (hm : 0 ≤ m 0 ∧ m 0 < 256) (k : ∀ w1, Upd [] [] w w1 → R (.bool (grp m)) w1) : Ret Try.prog 14 [.arr .u8 6 m] w R := by
  refine f14_of _ _ _ ?_
  unfold vc14
  intro b w1 u
  have e : iand .u8 (m 0) 1 = m 0 % 2 := by
    rw [iand_u8 hm.1 hm.2 (by omega) (by omega)]
    have : (m 0).toNat &&& (1 : Int).toNat = (m 0).toNat % 2 := Nat.and_one_is_mod _
    rw [this]; omega
  rw [e]
  exact k w1 u.forget
theorem c15 {m : Nat → Int} {w : World} {R : SV → World → Prop} (hm : 0 ≤ m 0 ∧ m 0 < 256) (k : ∀ w1, Upd [] [] w w1 → R (.bool (grp m)) w1) : Ret Try.prog 15 [.arr .u8 6 m] w R := by
  refine f15_of _ _ _ ?_
  unfold vc15
  intro b w1 u
  rw [tmod_pos hm.1]
  exact k w1 u.forget

/-- the bytes in new memory, marks behind them -/
def cutOf (l : List Int) : List Int := l.take 70000
theorem c16 {b : Sl} {l : List Int} {w : World} {R : SV → World → Prop} (h : SeesB w b l) (hc : b.len ≤ b.cap)
    (k : ∀ r w1, Upd [] [] w w1 → SeesB w1 r (cutOf l ++ [201, 202, 203, 204, 205]) → Own w.heap.size 1 w1 r → R (.tuple [.slice (r.sub 1 0 (cutOf l).length r.cap), .slice r]) w1) : Ret Try.prog 16 [.slice b] w R := by
  refine f16_of _ _ _ ?_
  unfold vc16
  have hlen := h.len
  intro J hJ
  have main : ∀ s, SeesB w s (cutOf l) → J s w := by
    intro s hs
    refine hJ s w ?_
    have hle : (cutOf l).length ≤ 70000 := by simp [cutOf]; omega
    refine append_own (c := cU8) (Sees.nil _ _ _ _) (Own.none w.heap.size _ _) hs (by omega) (by simp) (by decide) (by simp; omega) fun r w1 hr ho u _ => ?_
    have u' : Upd [] [] w w1 := u
    intro b2 w2 u2 hrow
    refine append_own (c := cU8) (new := [201, 202, 203, 204, 205]) (hr.old u2) (ho.old u2) (rowB hrow _ rfl rfl) (u'.then u2).size (by simp) (by decide) (by simp; omega) fun r2 w3 hr3 ho3 u3 _ => ?_
    have hsl := hs.len
    have hrl := hr3.len
    have hle3 := ho3.le
    simp at hrl
    refine needIxLe (by omega) (by omega) ?_
    rw [Int.toNat_natCast, hsl]
    exact k r2 w3 ((u'.then u2).step0 u3 (fun x hx => ((ho.old u2).blk x hx).1)) (by simpa using hr3) ho3
  refine brd (fun hgt => ?_) (fun hle => ?_)
  · refine needD (by omega) (main _ ?_)
    have := h.subB (lo := 0) (hi := 70000) (mx := b.cap) (by omega) (by omega) (by omega)
    simpa [cutOf] using this
  · have : cutOf l = l := List.take_of_length_le (by omega)
    exact main b (by rw [this]; exact h)
theorem cut_len (l : List Int) : (cutOf l).length ≤ 70000 := by simp [cutOf]; omega
theorem cut_byt {l : List Int} (h : Byt l) : Byt (cutOf l) := h.take _
/-- the first part of what laid made -/
theorem laid_in {N : Nat} {w : World} {r : Sl} {l : List Int} (h : SeesB w r (cutOf l ++ [201, 202, 203, 204, 205])) (o : Own N 1 w r) : SeesB w (r.sub 1 0 (cutOf l).length r.cap) (cutOf l) := by
  have hl := h.len
  have hc := o.le
  simp at hl
  have := h.subB (lo := 0) (hi := (cutOf l).length) (mx := r.cap) (by omega) (by simp) (by omega)
  simpa using this
end Go.Vc.S5
