import Derived.Test.YtkkdnnpnbmpifaaS11TxtP8
import Derived.Test.YtkkdnnpnbmpifaaG4
import Derived.Test.YtkkdnnpnbmpifaaLotG
open Go Go.Vc Go.Proofs
set_option linter.unusedVariables false
set_option linter.unusedSimpArgs false
set_option autoImplicit false
namespace Go.Vc.S11

/-- is the list full of this mark? -/
theorem cFull {s : Sl} {l : List Int} {m : Nat} {v : Int} {w : World} {R : SV → World → Prop} (h : SeesB w s l) (hl : l = List.replicate m v) (hn : m < 9223372036854775807) (k : R (.bool true) w) : Ret Try.prog 44 [.slice s, .int .u8 v] w R := by
  refine f44_of _ _ _ _ ?_
  unfold vc44
  exact all_loop h (by rw [hl]; simpa using hn) hl (fun I M n w h1 h2 => ⟨h1, h2⟩) k

/-- the mark of the i-th list -/
def apMark (i : Nat) : Int := wr .u8 (wr .i64 (Int.tmod (i : Int) 200 + 40))
/-- how many bytes the first lists hold -/
def apLen (ls : List (List Int)) (i : Nat) : Nat := (ls.take i).flatten.length
theorem apLen_succ {ls : List (List Int)} {i : Nat} (h : i < ls.length) : apLen ls (i + 1) = apLen ls i + ls[i].length := by unfold apLen; rw [flat_snoc h, List.length_append]
theorem mem_blks {ss : List Sl} {i : Nat} (h : i < ss.length) {b : Nat} (hb : b ∈ ss[i].blk) : b ∈ ss.flatMap Sl.blk := List.mem_flatMap.2 ⟨_, List.getElem_mem h, hb⟩

set_option maxRecDepth 10000 in
theorem cApart {l : Sl} {ls : List (List Int)} {ss : List Sl} {w : World} {R : SV → World → Prop} (h : Parts w l ls ss) (ho : ∀ x ∈ ss, Own 0 1 w x)
    (hl : ∀ x ∈ ss, ∀ b ∈ x.blk, b ∉ l.blk) (hd : ∀ i j (hi : i < ss.length) (hj : j < ss.length), i ≠ j → ∀ b ∈ ss[i].blk, b ∉ ss[j].blk)
    (hk : ls.length ≤ 1099511627776) (hf : ls.flatten.length ≤ 1099511627776)
    (k : ∀ w1, Upd (ss.flatMap Sl.blk) [] w w1 → R (.bool true) w1) : Ret Try.prog 30 [.slice l] w R := by
  refine f30_of _ _ _ ?_
  unfold vc30
  have hsl := h.slen
  have hssl := h.len
  have hlenle : ∀ i (hi : i < ls.length), ls[i].length ≤ 1099511627776 := fun i hi => by
    have := (List.sublist_flatten_of_mem (List.getElem_mem hi)).length_le
    omega
  have hrow : ∀ {w1 : World}, Upd (ss.flatMap Sl.blk) [] w w1 → Sees cSl w1 l ss := fun u => h.row.upd u (fun b hb hm => by
    obtain ⟨x, hx, hb2⟩ := List.mem_flatMap.1 hm
    exact hl x hx b hb2 hb)
  have rd : ∀ {w1 : World}, Sees cSl w1 l ss → ∀ i (hi : i < ls.length), w1.cell? (l.at 1 i) = some (ss[i]'(by omega)).val ∧ l.ptr.isSome = true := by
    intro w1 hr i hi
    have := hr.elem (i := i) (by omega) 0 (by simp [cSl])
    rw [add_zero] at this
    exact ⟨this, hr.isSome (by decide) (by omega)⟩
  have ix : ∀ {w1 : World} {X : Prop} (i : Nat), Sees cSl w1 l ss → i < ls.length → X → Need (decide (0 ≤ (i : Int)) && decide ((i : Int) < (l.len : Int)) && l.ptr.isSome) X := fun i hr hi x => needIx (by omega) (by omega) (rd hr i hi).2 x
  -- all are written full
  refine ⟨fun n i w1 => Upd (ss.flatMap Sl.blk) [] w w1 ∧ (∀ x ∈ ss, Own 0 1 w1 x) ∧ ∃ q : Nat, i = q ∧ q ≤ ls.length ∧ n = ((70 + apLen ls q : Nat) : Int) ∧
      ∀ j (hj : j < ls.length), SeesB w1 (ss[j]'(by omega)) (if j < q then List.replicate ls[j].length (apMark j) else ls[j]), fun _ i _ => (ls.length - i).toNat,
    ⟨(Upd.refl w).wide (by simp), ho, 0, rfl, by omega, by simp [apLen], fun j hj => by simpa using h.each j hj⟩, ?_⟩
  rintro n i w1 ⟨u1, o1, q, rfl, hq, rfl, hS⟩
  have hr1 := hrow u1
  have hal := flat_le ls q
  refine brd (fun hlt => ?_) (fun hge => ?_)
  · have hq2 : q < ls.length := by omega
    have hqs : q < ss.length := by omega
    have hlq := hlenle q hq2
    refine ix q hr1 hq2 ⟨_, (by rw [Int.toNat_natCast]; exact (rd hr1 q hq2).1), ?_⟩
    have hSq := hS q hq2
    rw [if_neg (by omega)] at hSq
    refine ⟨fun k w2 => Upd (ss.flatMap Sl.blk) [] w w2 ∧ Upd (ss[q]).blk [] w1 w2 ∧ Own 0 1 w2 ss[q] ∧ ∃ t : Nat, k = t ∧ t ≤ ls[q].length ∧ SeesB w2 ss[q] (List.replicate t (apMark q) ++ ls[q].drop t), fun k _ => (ls[q].length - k).toNat,
      ⟨u1, (Upd.refl w1).wide (by simp), o1 _ (List.getElem_mem hqs), 0, rfl, by omega, by simpa using hSq⟩, ?_⟩
    rintro k' w2 ⟨u2, v2, o2, t, rfl, ht, hs2⟩
    have hr2 := hrow u2
    have hlen : (List.replicate t (apMark q) ++ ls[q].drop t).length = ls[q].length := by simp; omega
    have hsl2 := hs2.len
    refine ix q hr2 hq2 ⟨_, (by rw [Int.toNat_natCast]; exact (rd hr2 q hq2).1), ?_⟩
    refine brd (fun hlt2 => ?_) (fun hge2 => ?_)
    · refine ix q hr2 hq2 ⟨_, (by rw [Int.toNat_natCast]; exact (rd hr2 q hq2).1), needB hs2 (by omega) (by omega) ?_⟩
      refine own_set (c := cU8) (x := apMark q) hs2 o2 (by decide) (by omega) rfl (by simp) fun w3 hs3 o3 u3 => ?_
      have e : (List.replicate t (apMark q) ++ ls[q].drop t).set t (apMark q) = List.replicate (t + 1) (apMark q) ++ ls[q].drop (t + 1) := by
        rw [List.set_append_right _ _ (by simp), List.length_replicate, Nat.sub_self, List.drop_eq_getElem_cons (show t < ls[q].length by omega), List.set_cons_zero, List.replicate_succ', List.append_assoc]
        rfl
      rw [Int.toNat_natCast, e] at hs3
      exact ⟨⟨u2.step u3 (fun b hb => .inr (mem_blks hqs hb)), v2.step u3 (fun b hb => .inr hb), o3, t + 1, wr_succ (by omega), by omega, hs3⟩, by rw [wr_succ (by omega)]; (try dsimp only); omega⟩
    · have htl : t = ls[q].length := by omega
      subst htl
      have hap := apLen_succ hq2
      have hal2 := flat_le ls (q + 1)
      have hal3 : apLen ls (q + 1) ≤ ls.flatten.length := hal2
      refine ⟨⟨u2, ?_, q + 1, wr_succ (by omega), by omega, ?_, ?_⟩, ?_⟩
      · intro x hx
        obtain ⟨j, hj, rfl⟩ := List.getElem_of_mem hx
        by_cases hjq : j = q
        · subst hjq; exact o2
        · exact (o1 _ (List.getElem_mem hj)).upd v2 (fun b hb hm => hd j q hj hqs hjq b hb hm)
      · rw [hsl2, hlen, wr_i64 (by omega) (by omega)]; omega
      · intro j hj
        by_cases hjq : j = q
        · subst hjq
          rw [if_pos (by omega)]
          simpa using hs2
        · have := (hS j hj).upd v2 (fun b hb hm => hd j q (by omega) hqs hjq b hb hm)
          by_cases hjl : j < q
          · rw [if_pos (by omega)]; rwa [if_pos hjl] at this
          · rw [if_neg (by omega)]; rwa [if_neg hjl] at this
      · rw [wr_succ (by omega)]; (try dsimp only); omega
  have hqe : q = ls.length := by omega
  subst hqe
  have hS1 : ∀ j (hj : j < ls.length), SeesB w1 (ss[j]'(by omega)) (List.replicate ls[j].length (apMark j)) := fun j hj => by
    have := hS j hj
    rwa [if_pos hj] at this
  clear hS hge hq
  have htot : apLen ls ls.length ≤ 1099511627776 := by unfold apLen; rw [List.take_length]; exact hf
  generalize apLen ls ls.length = T0 at htot
  obtain ⟨T, hT⟩ : ∃ T, 70 + T0 = T := ⟨_, rfl⟩
  rw [hT]
  have hT1 : T ≤ 1099511627846 := by omega
  clear hal
  -- all are lengthened
  refine ⟨fun s i w2 => Upd (ss.flatMap Sl.blk) [] w w2 ∧ w1.heap.size ≤ w2.heap.size ∧ (∀ x ∈ ss, Own 0 1 w2 x) ∧ Own w1.heap.size 1 w2 s ∧ ∃ (q : Nat) (gs : List Sl), i = q ∧ q ≤ ls.length ∧ gs.length = q ∧ Sees cSl w2 s gs ∧
      (∀ j (hj : j < ls.length), SeesB w2 (ss[j]'(by omega)) (List.replicate ls[j].length (apMark j))) ∧
      (∀ j (hj : j < ls.length) (hg : j < gs.length), SeesB w2 gs[j] (List.replicate (ls[j].length + T) (apMark j)) ∧ (∀ b ∈ gs[j].blk, b ∉ s.blk) ∧ (∀ b ∈ gs[j].blk, b < w2.heap.size) ∧ (gs[j].ptr = (ss[j]'(by omega)).ptr ∨ ∀ b ∈ gs[j].blk, w1.heap.size ≤ b)),
    fun _ i _ => (ls.length - i).toNat, ⟨u1, Nat.le_refl _, o1, Own.none _ _ _, 0, [], rfl, by omega, rfl, Sees.nil _ _ _ _, hS1, fun j hj hg => by simp at hg⟩, ?_⟩
  rintro s i w2 ⟨u2, hz2, o2, os, q, gs, rfl, hq, hgl, hs, hS2, hG⟩
  have hr2 := hrow u2
  have hold : ∀ x ∈ ss, ∀ b ∈ x.blk, b < w1.heap.size := fun x hx b hb => ((o1 x hx).blk b hb).2
  refine brd (fun hlt => ?_) (fun hge => ?_)
  · have hq2 : q < ls.length := by omega
    have hqs : q < ss.length := by omega
    have hlq := hlenle q hq2
    refine ix q hr2 hq2 ⟨_, (by rw [Int.toNat_natCast]; exact (rd hr2 q hq2).1), ?_⟩
    -- g grows
    refine ⟨fun g k' w3 => Upd (ss.flatMap Sl.blk) [] w w3 ∧ w1.heap.size ≤ w3.heap.size ∧ (∀ x ∈ ss, Own 0 1 w3 x) ∧ Own w1.heap.size 1 w3 s ∧ Sees cSl w3 s gs ∧
        (∀ j (hj : j < ls.length), SeesB w3 (ss[j]'(by omega)) (List.replicate ls[j].length (apMark j))) ∧
        (∀ j (hj : j < ls.length) (hg : j < gs.length), SeesB w3 gs[j] (List.replicate (ls[j].length + T) (apMark j)) ∧ (∀ b ∈ gs[j].blk, b ∉ s.blk) ∧ (∀ b ∈ gs[j].blk, b < w3.heap.size) ∧ (gs[j].ptr = (ss[j]'(by omega)).ptr ∨ ∀ b ∈ gs[j].blk, w1.heap.size ≤ b)) ∧
        ∃ t : Nat, k' = t ∧ t ≤ T ∧ SeesB w3 g (List.replicate (ls[q].length + t) (apMark q)) ∧ Own 0 1 w3 g ∧ (∀ b ∈ g.blk, b ∉ s.blk) ∧ (∀ j (hg : j < gs.length), ∀ b ∈ g.blk, b ∉ gs[j].blk) ∧ (g.ptr = (ss[q]'hqs).ptr ∨ ∀ b ∈ g.blk, w1.heap.size ≤ b),
      fun _ k' _ => (T - k').toNat, ⟨u2, hz2, o2, os, hs, hS2, hG, 0, rfl, by omega, by simpa using hS2 q hq2, o2 _ (List.getElem_mem hqs), ?_, ?_, .inl rfl⟩, ?_⟩
    · intro b hb hm
      have := hold _ (List.getElem_mem hqs) b hb
      have := (os.blk b hm).1
      omega
    · intro j hg b hb hm
      have hg' := hG j (by omega) hg
      rcases hg'.2.2.2 with h1 | h1
      · rw [blk_ptr h1] at hm
        exact hd q j hqs (by omega) (by omega) b hb hm
      · have := h1 b hm
        have := hold _ (List.getElem_mem hqs) b hb
        omega
    rintro g k' w3 ⟨u3, hz3, o3, os3, hs3, hS3, hG3, t, rfl, ht, hg3, og3, hgs3, hgg3, hgp3⟩
    refine brd (fun hlt2 => ?_) (fun hge2 => ?_)
    · intro b4 w4 u4 hrow4
      have v4 : Upd (ss.flatMap Sl.blk) [] w w4 := u3.step u4 (by simp)
      have hz4 := u4.size
      have hg4 := hg3.old u4
      have hlg : (List.replicate (ls[q].length + t) (apMark q)).length = ls[q].length + t := by simp
      refine append_two (c := cU8) (N := 0) (new := [apMark q]) hg4 (og3.old u4) (rowB hrow4 _ rfl rfl) (by omega) (by simp) (by decide) (by simp; omega) (fun r w5 hr5 or5 hp5 u5 hkeep hsz5 => ?_) (fun r w5 hr5 or5 u5 => ?_)
      · -- in place
        have e : List.replicate (ls[q].length + t) (apMark q) ++ [apMark q] = List.replicate (ls[q].length + (t + 1)) (apMark q) := by rw [← Nat.add_assoc, List.replicate_succ']
        rw [e] at hr5
        have hgb := blk_ptr hp5
        have sub5 : ∀ b ∈ g.blk, w.heap.size ≤ b ∨ b ∈ ss.flatMap Sl.blk := fun b hb => by
          rcases hgp3 with h1 | h1
          · rw [blk_ptr h1] at hb; exact .inr (mem_blks hqs hb)
          · have := h1 b hb; have := u1.size; exact .inl (by omega)
        have ds : ∀ b ∈ s.blk, b ∉ g.blk := fun b hb hm => hgs3 b hm hb
        refine ⟨⟨v4.step u5 sub5, by omega, fun x hx => hkeep 0 1 x ((o3 x hx).old u4), (os3.old u4).upd u5 ds, (hs3.old u4).upd u5 ds, ?_, ?_, t + 1, wr_succ (by omega), by omega, hr5, or5, ?_, ?_, ?_⟩, by rw [wr_succ (by omega)]; (try dsimp only); omega⟩
        · intro j hj
          rcases hgp3 with h1 | h1
          · by_cases hjq : j = q
            · subst hjq
              refine hr5.prefix_ (hp5.trans h1) ?_ (by have := (hS3 j hj).len; simpa using this)
              simp
            · exact ((hS3 j hj).old u4).upd u5 (fun b hb hm => by rw [blk_ptr h1] at hm; exact hd j q (by omega) hqs hjq b hb hm)
          · exact ((hS3 j hj).old u4).upd u5 (fun b hb hm => by have := h1 b hm; have := hold _ (List.getElem_mem (by omega)) b hb; omega)
        · intro j hj hg
          obtain ⟨a1, a2, a3, a4⟩ := hG3 j hj hg
          exact ⟨(a1.old u4).upd u5 (fun b hb hm => hgg3 j hg b hm hb), a2, fun b hb => by have := a3 b hb; omega, a4⟩
        · rw [hgb]; exact hgs3
        · rw [hgb]; exact hgg3
        · rcases hgp3 with h1 | h1
          · exact .inl (hp5.trans h1)
          · rw [hgb]; exact .inr h1
      · -- new memory
        have e : List.replicate (ls[q].length + t) (apMark q) ++ [apMark q] = List.replicate (ls[q].length + (t + 1)) (apMark q) := by rw [← Nat.add_assoc, List.replicate_succ']
        rw [e] at hr5
        refine ⟨⟨v4.step u5 (by simp), by have := u5.size; omega, fun x hx => ((o3 x hx).old u4).old u5, (os3.old u4).old u5, (hs3.old u4).old u5, ?_, ?_, t + 1, wr_succ (by omega), by omega, hr5, or5.mono (Nat.zero_le _), ?_, ?_, ?_⟩, by rw [wr_succ (by omega)]; (try dsimp only); omega⟩
        · intro j hj
          exact ((hS3 j hj).old u4).old u5
        · intro j hj hg
          obtain ⟨a1, a2, a3, a4⟩ := hG3 j hj hg
          exact ⟨(a1.old u4).old u5, a2, fun b hb => by have := a3 b hb; have := u5.size; omega, a4⟩
        · intro b hb hm
          have := (or5.blk b hb).1
          have := ((os3.old u4).blk b hm).2
          omega
        · intro j hg b hb hm
          have := (or5.blk b hb).1
          have := (hG3 j (by omega) hg).2.2.1 b hm
          omega
        · exact .inr (fun b hb => by have := (or5.blk b hb).1; omega)
    · have htT : t = T := by omega
      subst htT
      intro b4 w4 u4 hrow4
      have v4 : Upd (ss.flatMap Sl.blk) [] w w4 := u3.step u4 (by simp)
      have hz4 := u4.size
      refine append_own (c := cSl) (new := [g]) (hs3.old u4) (os3.old u4) (sees_row hrow4 _ rfl rfl) (by omega) (by simp) (by decide) (by simp; omega) fun r w5 hr5 or5 u5 hnew => ?_
      have hz5 := u5.size
      have hz1 := u1.size
      have osb : ∀ b ∈ s.blk, w1.heap.size ≤ b ∧ b < w4.heap.size := (os3.old u4).blk
      have rb : ∀ b ∈ r.blk, b ∈ s.blk ∨ w4.heap.size ≤ b := hnew
      have hold5 : ∀ (j : Nat) (hj : j < ss.length), ∀ b ∈ ss[j].blk, b ∉ s.blk := fun j hj b hb hm => by
        have := hold _ (List.getElem_mem hj) b hb
        have := (osb b hm).1
        omega
      refine ⟨⟨v4.step u5 (fun b hb => .inl (by have := (osb b hb).1; omega)), by omega, ?_, or5, q + 1, gs ++ [g], wr_succ (by omega), by omega, by simp [hgl], hr5, ?_, ?_⟩, by rw [wr_succ (by omega)]; (try dsimp only); omega⟩
      · intro x hx
        obtain ⟨j, hj, rfl⟩ := List.getElem_of_mem hx
        exact ((o3 _ (List.getElem_mem hj)).old u4).upd u5 (hold5 j hj)
      · intro j hj
        exact ((hS3 j hj).old u4).upd u5 (hold5 j (by omega))
      · intro j hj hg
        by_cases hjl : j < gs.length
        · rw [List.getElem_append_left hjl]
          obtain ⟨a1, a2, a3, a4⟩ := hG3 j hj hjl
          refine ⟨(a1.old u4).upd u5 a2, fun b hb hm => ?_, fun b hb => by have := a3 b hb; omega, a4⟩
          rcases rb b hm with h1 | h1
          · exact a2 b hb h1
          · have := a3 b hb; omega
        · have hjq : j = q := by simp at hg; omega
          subst hjq
          have eg : (gs ++ [g])[j] = g := by rw [List.getElem_append_right (by omega)]; simp [hgl]
          rw [eg]
          have hgb4 := fun b hb => ((og3.old u4).blk b hb).2
          refine ⟨(hg3.old u4).upd u5 hgs3, fun b hb hm => ?_, fun b hb => by have := hgb4 b hb; omega, hgp3⟩
          rcases rb b hm with h1 | h1
          · exact hgs3 b hb h1
          · have := (og3.blk b hb).2; omega
  have hqe : q = ls.length := by omega
  subst hqe
  -- all are looked at
  refine ⟨fun i w3 => Upd [] [] w2 w3 ∧ ∃ t : Nat, i = t ∧ t ≤ ls.length, fun i _ => (ls.length - i).toNat, ⟨Upd.refl w2, 0, rfl, by omega⟩, ?_⟩
  rintro i w3 ⟨u3, t, rfl, ht⟩
  have v3 : Upd (ss.flatMap Sl.blk) [] w w3 := u2.step u3 (by simp)
  have hr3 := hrow v3
  have hs3 := hs.old u3
  have hsl3 := hs3.len
  refine brd (fun hlt2 => ?_) (fun _ => k _ v3)
  have ht2 : t < ls.length := by omega
  have rd2 : ∀ {X : Prop}, X → Need (decide (0 ≤ (t : Int)) && decide ((t : Int) < (s.len : Int)) && s.ptr.isSome) X := fun x => needIx (by omega) (by omega) (hs3.isSome (by decide) (by omega)) x
  have cell2 : w3.cell? (s.at 1 t) = some (gs[t]'(by omega)).val := by
    have := hs3.elem (i := t) (by omega) 0 (by simp [cSl])
    rw [add_zero] at this
    exact this
  have hSt := (hS2 t ht2).old u3
  have hGt := (hG t ht2 (by omega)).1.old u3
  have hlt3 := hlenle t ht2
  intro J hJ
  refine ix t hr3 ht2 ⟨_, (by rw [Int.toNat_natCast]; exact (rd hr3 t ht2).1), fun w4 u4 => ?_⟩
  refine cFull (hSt.old u4) rfl (by omega) ⟨_, rfl, u4, brf (by decide) ?_⟩
  refine rd2 ⟨_, (by rw [Int.toNat_natCast]; exact cell2), ?_⟩
  refine cFull (hGt.old u4) rfl (by omega) ⟨_, rfl, u4, brf (by decide) ?_⟩
  refine rd2 ⟨_, (by rw [Int.toNat_natCast]; exact cell2), ix t hr3 ht2 ⟨_, (by rw [Int.toNat_natCast]; exact (rd hr3 t ht2).1), ?_⟩⟩
  have l1 := hSt.len
  have l2 := hGt.len
  simp only [List.length_replicate] at l1 l2
  rw [l1, l2, wr_i64 (by omega) (by omega)]
  refine brf (by simp) (hJ _ ⟨⟨u3.then u4, t + 1, wr_succ (by omega), by omega⟩, by rw [wr_succ (by omega)]; (try dsimp only); omega⟩)
end Go.Vc.S11
