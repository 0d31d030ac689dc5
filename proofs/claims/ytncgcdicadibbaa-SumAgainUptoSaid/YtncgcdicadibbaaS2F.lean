import Derived.Test.YtncgcdicadibbaaG7
import Derived.Test.YtncgcdicadibbaaG3
import Derived.Test.YtncgcdicadibbaaG4
open Go Go.Vc Go.Proofs
set_option linter.unusedVariables false
set_option linter.unusedSimpArgs false
set_option autoImplicit false
namespace Go.Vc.S2

theorem sint {w : World} {s : Sl} {l : List Int} (h : Sees cI64 w s l) {i : Int} (h0 : 0 ≤ i) (hi : i < l.length) : w.cell? (s.at 1 i.toNat) = some (.int .i64 (bt l i)) := by
  have := h.elem (i := i.toNat) (by omega) 0 (by simp [cI64])
  rw [add_zero] at this
  rw [show cI64.sz = 1 from rfl] at this
  rw [this]
  simp [cI64, bt, List.getD_eq_getElem?_getD, List.getElem?_eq_getElem (show i.toNat < l.length by omega)]

/-- all parts behind one another -/
theorem c15 {parts : Sl} {ls : List (List Int)} {ss : List Sl} {w : World} {R : SV → World → Prop} (h : Parts w parts ls ss) (hn : ls.length < 9223372036854775807) (hl : ls.flatten.length ≤ 70368744177664)
    (k : ∀ s w1, Upd [] [] w w1 → SeesB w1 s ls.flatten → Own w.heap.size 1 w1 s → R (.slice s) w1) : Ret Try.prog 15 [.slice parts] w R := by
  refine f15_of _ _ _ ?_
  unfold vc15
  refine ⟨fun s i w1 => Upd [] [] w w1 ∧ Own w.heap.size 1 w1 s ∧ ∃ q : Nat, i = q ∧ q ≤ ls.length ∧ SeesB w1 s (ls.take q).flatten, fun _ i _ => (ls.length - i).toNat, ⟨Upd.refl w, Own.none _ _ _, 0, rfl, by omega, Sees.nil _ _ _ _⟩, ?_⟩
  rintro s i w1 ⟨u, o, q, rfl, hq, hs⟩
  have h1 := h.old u
  refine brd (fun hlt => ?_) (fun hge => ?_)
  · rw [h.slen] at hlt
    refine needP h1 (by omega) hlt ?_
    obtain ⟨g1, g2, hc, hp, _⟩ := h1.get (i := (q : Int)) (by omega) hlt
    simp only [Int.toNat_natCast] at g1 g2 hc hp
    refine ⟨_, (by rw [Int.toNat_natCast]; exact hc), ?_⟩
    have hf := flat_snoc g2
    have hle := flat_le ls (q + 1)
    rw [hf, List.length_append] at hle
    refine append_own (c := cU8) hs o hp u.size (by simp) (by omega) (by omega) fun r w2 hr ho u2 _ => ?_
    refine ⟨⟨u.step0 u2 (fun b hb => (o.blk b hb).1), ho, q + 1, wr_succ (by omega), by omega, by rw [hf]; exact hr⟩, by rw [wr_succ (by omega)]; (try dsimp only); omega⟩
  · rw [h.slen] at hge
    have : q = ls.length := by omega
    subst this
    rw [List.take_length] at hs
    exact k _ _ u hs o

/-- where the parts end -/
def Ends (E : List Int) (n : Int) : Prop := ∀ k (h : k < E.length), (if h0 : k = 0 then (0 : Int) else E[k - 1] + 1) ≤ E[k] ∧ E[k] < n
theorem Ends.snoc {E : List Int} {n m e : Int} (h : Ends E n) (h0 : 0 ≤ n) (h1 : n ≤ e) (h2 : e < m) : Ends (E ++ [e]) m := by
  intro k hk
  by_cases hl : k < E.length
  · have := h k hl
    rw [List.getElem_append_left hl]
    refine ⟨?_, by omega⟩
    split
    · rename_i h3; subst h3; simpa using this.1
    · rename_i h3; rw [List.getElem_append_left (by omega)]; simpa [h3] using this.1
  · have : k = E.length := by simp at hk; omega
    subst this
    refine ⟨?_, by simpa using h2⟩
    split
    · simp; omega
    · rename_i h3
      have := (h (E.length - 1) (by omega)).2
      rw [List.getElem_append_left (by omega)]
      simp
      omega
/-- where the next part begins -/
def from_ (E : List Int) (k : Nat) : Int := if k = 0 then 0 else bt E ((k : Int) - 1) + 1
theorem from_le {E : List Int} {n : Int} (h : Ends E n) {k : Nat} (hk : k < E.length) : 0 ≤ from_ E k ∧ from_ E k ≤ bt E (k : Int) ∧ bt E (k : Int) < n := by
  have h0 : ∀ j (hj : j < E.length), 0 ≤ E[j] := by
    intro j
    induction j with
    | zero => intro hj; have := (h 0 hj).1; rw [dif_pos rfl] at this; exact this
    | succ j ih =>
      intro hj
      have h1 := (h (j + 1) hj).1
      rw [dif_neg (by omega)] at h1
      have h2 := ih (by omega)
      simp only [Nat.add_sub_cancel] at h1
      omega
  have h1 := h k hk
  rw [bt_nat hk]
  unfold from_
  by_cases hz : k = 0
  · subst hz
    simp at h1 ⊢
    exact ⟨h1.1, h1.2⟩
  · rw [if_neg hz]
    rw [dif_neg hz] at h1
    have e : (k : Int) - 1 = ((k - 1 : Nat) : Int) := by omega
    rw [e, bt_nat (by omega)]
    have := h0 (k - 1) (by omega)
    omega
theorem from_succ {E : List Int} (k : Nat) : from_ E (k + 1) = bt E (k : Int) + 1 := by
  unfold from_
  rw [if_neg (by omega)]
  congr 2
  omega

set_option maxRecDepth 10000 in
theorem c14 {parts : Sl} {ls : List (List Int)} {ss : List Sl} {w : World} {R : SV → World → Prop} (h : Parts w parts ls ss) (hb : ∀ l ∈ ls, Byt l)
    (k : ∀ s a was w1 lx sx A, Upd [] [] w w1 → Parts w1 s lx sx → (∀ l ∈ lx, Byt l) → lx.flatten.length ≤ 131077 → lx.length ≤ 300 → s.len ≤ s.cap → SeesB w1 a A → A.length ≤ 131077 → SeesB w1 was A → R (.tuple [.slice s, .slice a, .slice was]) w1) :
    Ret Try.prog 14 [.slice parts] w R := by
  refine f14_of _ _ _ ?_
  unfold vc14
  intro J hJ
  have main : ∀ s s1 w1 A E, Upd [] [] w w1 → SeesB w1 s A → Own w.heap.size 1 w1 s → Byt A → A.length ≤ 131073 → Sees cI64 w1 s1 E → E.length ≤ 300 → Ends E A.length → (∀ b ∈ s.blk, b ∉ s1.blk) → J s s1 w1 := by
    intro s s1 w1 A E u hs ho hbA hA he hE hends hap
    refine hJ s s1 w1 ?_
    clear hJ
    intro b w2 u2 hrow
    refine append_own (c := cU8) (new := [91, 92, 93]) (hs.old u2) (ho.old u2) (rowB hrow _ rfl rfl) (u.then u2).size (by simp) (by omega) (by simp; omega) fun r w3 hr3 ho3 u3 _ => ?_
    have v3 := (u.then u2).step0 u3 (fun b hb => ((ho.old u2).blk b hb).1)
    have he3 := (he.old u2).upd u3 (fun b hb hm => hap b hm hb)
    have hbA3 : Byt (A ++ [91, 92, 93]) := hbA.app (by simp [Byt])
    have hE3 : Ends E (A ++ [91, 92, 93]).length := fun k hk => ⟨(hends k hk).1, by have := (hends k hk).2; simp; omega⟩
    have hA3 : (A ++ [91, 92, 93]).length ≤ 131077 := by simp; omega
    generalize A ++ [91, 92, 93] = B at *
    clear hs ho hends hA hbA he
    refine ⟨fun t fr i w4 => Upd [] [] w3 w4 ∧ Own w3.heap.size 1 w4 t ∧ ∃ (q : Nat) (lx : List (List Int)) (sx : List Sl), i = q ∧ q ≤ E.length ∧ fr = from_ E q ∧ Parts w4 t lx sx ∧ lx.length = q ∧ (∀ l ∈ lx, Byt l) ∧ (lx.flatten.length : Int) ≤ fr ∧ (∀ x ∈ sx, ∀ b ∈ x.blk, b ∈ r.blk),
      fun _ _ i _ => (E.length - i).toNat, ⟨Upd.refl w3, Own.none _ _ _, 0, [], [], rfl, by omega, by simp [from_], Parts.nil _ _ _, rfl, by simp, by simp, by simp⟩, ?_⟩
    rintro t fr i w4 ⟨u4, ot, q, lx, sx, rfl, hq, rfl, hP, hlx, hbl, hfl, hin⟩
    have hr4 := hr3.old u4
    have he4 := he3.old u4
    have hel := he4.len
    have hrl := hr4.len
    have hrb : ∀ b ∈ r.blk, b < w3.heap.size := fun b hb => (ho3.blk b hb).2
    refine brd (fun hlt => ?_) (fun hge => ?_)
    · have hf := from_le hE3 (k := q) (by omega)
      have hix : ∀ {X : Prop} {w' : World}, Sees cI64 w' s1 E → X → Need (decide (0 ≤ (q : Int)) && decide ((q : Int) < (s1.len : Int)) && s1.ptr.isSome) X := fun hs' x => needIx (by omega) hlt (hs'.isSome (by decide) (by omega)) x
      refine hix he4 ⟨_, sint he4 (by omega) (by omega), needSl (by omega) (by have := ho3.le; omega) (by omega) (by omega) ?_⟩
      intro b5 w5 u5 hrow5
      have hP5 := hP.old u5
      have ot5 := ot.old u5
      have v5 := u4.then u5
      have hsub := (hr4.old u5).subB (lo := (from_ E q).toNat) (hi := (bt E (q : Int)).toNat) (mx := r.cap) (by omega) (by omega) (by have := ho3.le; omega)
      refine append_own (c := cSl) (new := [_]) hP5.row ot5 (sees_row hrow5 _ rfl rfl) v5.size (by simp) (by omega) (by simp [hP5.len]; omega) fun r6 w6 hr6 ho6 u6 _ => ?_
      have v6 := v5.step0 u6 (fun b hb => (ot5.blk b hb).1)
      have hdis : ∀ b ∈ r.blk, b ∉ t.blk := fun b hb hm => by have := hrb b hb; have := (ot5.blk b hm).1; omega
      have hsub6 := hsub.upd u6 (fun b hb hm => hdis b (sub_blk b hb) hm)
      have he6 := (he4.old u5).upd u6 (fun b hb hm => by
        have h1 := (ot5.blk b hm).1
        have h2 := he3.isSome (by decide) (by omega)
        obtain ⟨a, ha⟩ := Option.isSome_iff_exists.1 h2
        have h3 := he3.row
        rw [ha] at h3
        have h4 := h3 0 (by rw [Cod.cells_length]; show 0 < E.length * 1; omega)
        have h5 := cell_lt h4
        rw [blk_some ha] at hb
        simp at hb h5
        omega)
      refine hix he6 ⟨_, sint he6 (by omega) (by omega), ⟨v6, ho6, q + 1, lx ++ [((B.take (bt E (q : Int)).toNat).drop (from_ E q).toNat)], sx ++ [r.sub 1 (from_ E q).toNat (bt E (q : Int)).toNat r.cap], wr_succ (by omega), by omega, ?_, ?_, ?_, ?_, ?_, ?_⟩, ?_⟩
      · rw [from_succ, wr_i64 (by omega) (by omega)]
      · refine ⟨hr6, by simp [hP5.len], fun j hj => ?_⟩
        simp at hj
        by_cases hj2 : j < lx.length
        · rw [List.getElem_append_left (by rw [hP5.len]; exact hj2), List.getElem_append_left hj2]
          exact (hP5.each j hj2).upd u6 (fun b hb hm => hdis b (hin _ (List.getElem_mem _) b hb) hm)
        · have : j = lx.length := by omega
          subst this
          rw [List.getElem_append_right (by rw [hP5.len]; omega), List.getElem_append_right (by omega)]
          simp only [hP5.len, Nat.sub_self, List.getElem_cons_zero]
          exact hsub6
      · simp [hlx]
      · intro l hl
        rcases List.mem_append.1 hl with hl | hl
        · exact hbl l hl
        · simp at hl; subst hl; exact (hbA3.take _).drop _
      · rw [wr_i64 (by omega) (by omega)]
        simp only [List.flatten_append, List.flatten_cons, List.flatten_nil, List.append_nil, List.length_append, List.length_drop, List.length_take]
        omega
      · intro x hx b hb
        rcases List.mem_append.1 hx with hx | hx
        · exact hin x hx b hb
        · simp at hx
          subst hx
          exact sub_blk b hb
      · rw [wr_succ (by omega)]; (try dsimp only); omega
    · have hqe : q = E.length := by omega
      refine append_own (c := cU8) (Sees.nil _ _ _ _) (Own.none w4.heap.size _ _) hr4 (by omega) (by simp) (by omega) (by simp; omega) fun r7 w7 hr7 ho7 u7 _ => ?_
      have u7' : Upd [] [] w4 w7 := u7
      refine k t r r7 w7 lx sx B ((v3.then u4).then u7') (hP.old u7') hbl ?_ (by omega) ot.le (hr4.old u7') hA3 (by simpa using hr7)
      have : from_ E q ≤ 131077 := by
        cases q with
        | zero => simp [from_]
        | succ q =>
          have := from_le hE3 (k := q) (by omega)
          rw [from_succ]; omega
      omega
  clear hJ k
  refine ⟨fun s s1 i w1 => Upd [] [] w w1 ∧ ∃ (q : Nat) (A : List Int) (E : List Int), i = q ∧ q ≤ ls.length ∧ q ≤ 300 ∧ SeesB w1 s A ∧ Own w.heap.size 1 w1 s ∧ Byt A ∧ A.length ≤ 131073 ∧ Sees cI64 w1 s1 E ∧ Own w.heap.size 1 w1 s1 ∧ E.length = q ∧ Ends E A.length ∧ (∀ b ∈ s.blk, b ∉ s1.blk),
    fun _ _ i _ => (ls.length - i).toNat, ⟨Upd.refl w, 0, [], [], rfl, by omega, by omega, Sees.nil _ _ _ _, Own.none _ _ _, Byt.nil, Nat.zero_le _, Sees.nil _ _ _ _, Own.none _ _ _, rfl, fun k hk => by simp at hk, by simp [Sl.blk]⟩, ?_⟩
  rintro s s1 i w1 ⟨u, q, A, E, rfl, hq, hq3, hs, ho, hbA, hA, he, hoe, hEl, hends, hap⟩
  intro J1 hJ1
  have out : J s s1 w1 := main s s1 w1 A E u hs ho hbA hA he (by omega) hends hap
  have hsl := hs.len
  refine brd (fun hlt => ?_) (fun _ => out)
  refine brd (fun hlt2 => ?_) (fun _ => out)
  refine hJ1 _ ?_
  rw [h.slen] at hlt
  have h1 := h.old u
  refine needP h1 (by omega) hlt ?_
  obtain ⟨g1, g2, hc, hp, _⟩ := h1.get (i := (q : Int)) (by omega) hlt
  simp only [Int.toNat_natCast] at g1 g2 hc hp
  refine ⟨_, (by rw [Int.toNat_natCast]; exact hc), ?_⟩
  rw [wr_i64 (by omega) (by omega), hp.len]
  refine brd (fun _ => out) (fun hle => ?_)
  clear out hJ1 main
  have hbp := hb _ (List.getElem_mem g2)
  refine append_own (c := cU8) hs ho hp u.size (by simp) (by omega) (by omega) fun r w2 hr ho2 u2 hnew => ?_
  have v2 := u.step0 u2 (fun b hb => (ho.blk b hb).1)
  have he2 := he.upd u2 (fun b hb hm => hap b hm hb)
  have hoe2 := hoe.upd u2 (fun b hb hm => hap b hm hb)
  have hap2 : ∀ b ∈ r.blk, b ∉ s1.blk := fun b hb hm => by
    rcases hnew b hb with h | h
    · exact hap b h hm
    · have := (hoe.blk b hm).2; omega
  intro b3 w3 u3 hrow3
  have v3 := v2.then u3
  refine append_own (c := cI64) (new := [_]) (he2.old u3) (hoe2.old u3) (sees_row hrow3 _ rfl rfl) v3.size (by simp) (by omega) (by simp; omega) fun r1 w4 hr1 hor1 u4 hnew4 => ?_
  have v4 := v3.step0 u4 (fun b hb => ((hoe2.old u3).blk b hb).1)
  have hr4 := (hr.old u3).upd u4 hap2
  have ho4 := (ho2.old u3).upd u4 hap2
  have hap4 : ∀ b ∈ r.blk, b ∉ r1.blk := fun b hb hm => by
    rcases hnew4 b hm with h | h
    · exact hap2 b hb h
    · have := ((ho2.old u3).blk b hb).2; omega
  intro b5 w5 u5 hrow5
  have v5 := v4.then u5
  refine append_own (c := cU8) (new := [_]) (hr4.old u5) (ho4.old u5) (rowB hrow5 _ rfl rfl) v5.size (by simp) (by omega) (by simp; omega) fun r6 w6 hr6 ho6 u6 hnew6 => ?_
  have hap5 : ∀ b ∈ r1.blk, b ∉ r.blk := fun b hb hm => hap4 b hm hb
  refine ⟨⟨v5.step0 u6 (fun b hb => ((ho4.old u5).blk b hb).1), q + 1, _, _, wr_succ (by omega), by omega, by omega, hr6, ho6, (hbA.app hbp).app ?_, by simp; omega, (hr1.old u5).upd u6 hap5, (hor1.old u5).upd u6 hap5, by simp [hEl], ?_, ?_⟩, ?_⟩
  · intro x hx
    simp at hx
    subst hx
    exact wr_u8_range _
  · rw [hr.len]
    exact hends.snoc (by omega) (by rw [List.length_append]; omega) (by simp; omega)
  · intro b hb hm
    rcases hnew6 b hb with h | h
    · exact hap4 b h hm
    · have := ((hor1.old u5).blk b hm).2; omega
  · rw [wr_succ (by omega)]; (try dsimp only); omega
end Go.Vc.S2
