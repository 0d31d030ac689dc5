import Derived.Test.YtncgcdicadibbaaS2A
open Go Go.Vc Go.Proofs
set_option linter.unusedVariables false
set_option linter.unusedSimpArgs false
set_option autoImplicit false
namespace Go.Vc.S2

theorem c40 {n : Int} {w : World} {R : SV → World → Prop} (h0 : 0 ≤ n) (h1 : n < 9223372036854775808) (k : R (.int .i64 (fd n)) w) : Ret Try.prog 40 [.int .i64 n] w R := by
  refine f40_of _ _ _ ?_
  unfold vc40
  refine bre (fun h => ?_) (fun h => ?_)
  · subst h; exact k
  · rw [wr_i64 (x := n - 1) (by omega) (by omega), tmod_pos (by omega), wr_i64 (by omega) (by omega)]
    unfold fd at k
    rw [if_neg h] at k
    exact k

theorem c19 {parts : Sl} {ls : List (List Int)} {ss : List Sl} {w : World} {R : SV → World → Prop} (h : Parts w parts ls ss) (hb : ∀ l ∈ ls, Byt l) (hn : ls.length < 9223372036854775807) (hl : ls.flatten.length ≤ 140737488355328)
    (k : R (.int .i64 (sumOf ls.flatten)) w) : Ret Try.prog 19 [.slice parts] w R := by
  refine f19_of _ _ _ ?_
  unfold vc19
  refine ⟨fun at_ n i w1 => w1 = w ∧ ∃ q : Nat, i = q ∧ q ≤ ls.length ∧ at_ = ((ls.take q).flatten.length : Nat) ∧ n = ws true (ls.take q).flatten, fun _ _ i _ => (ls.length - i).toNat, ⟨rfl, 0, rfl, by omega, by simp, by simp [ws]⟩, ?_⟩
  rintro at_ n i w1 ⟨rfl, q, rfl, hq, rfl, rfl⟩
  have hw0 := ws_nonneg true (byt_flat_take hb q)
  have hf := flat_le ls q
  refine brd (fun hlt => ?_) (fun hge => ?_)
  · rw [h.slen] at hlt
    obtain ⟨h1, h2, hc, hs, hp⟩ := h.get (i := (q : Int)) (by omega) hlt
    simp only [Int.toNat_natCast] at hs h1 h2 hc
    have hfs := flat_snoc h2
    have hf1 := flat_le ls (q + 1)
    rw [hfs, List.length_append] at hf1
    have hbp : Byt ls[q] := hb _ (List.getElem_mem _)
    refine ⟨fun at_ n j w2 => w2 = w1 ∧ ∃ t : Nat, j = t ∧ t ≤ ls[q].length ∧ at_ = ((ls.take q).flatten.length + t : Nat) ∧ n = ws true (ls.take q).flatten + ws (par true (ls.take q).flatten.length) (ls[q].take t),
      fun _ _ j _ => (ls[q].length - j).toNat, ⟨rfl, 0, rfl, by omega, by simp, by simp [ws]⟩, ?_⟩
    rintro at_ n j w2 ⟨rfl, t, rfl, ht, rfl, rfl⟩
    refine needP h (by omega) hlt ⟨_, (by rw [Int.toNat_natCast]; exact hc), ?_⟩
    have hw1 := ws_nonneg (par true (ls.take q).flatten.length) (hbp.take t)
    have hls : ((ls[q].take t).length : Int) = t := by rw [List.length_take]; omega
    refine brd (fun hlt2 => ?_) (fun hge2 => ?_)
    · refine fun J hJ => needP h (by omega) hlt ⟨_, (by rw [Int.toNat_natCast]; exact hc), ?_⟩
      rw [hs.len] at hlt2
      refine needB hs (by omega) hlt2 ⟨_, hs.byte (by omega) hlt2, ?_⟩
      have hbb := hbp.bt (t : Int)
      have hsn := ws_snoc (ls[q].take t) ls[q][t] (par true (ls.take q).flatten.length)
      rw [← take_snoc (by omega), ← bt_nat (by omega)] at hsn
      have hbt : par (par true (ls.take q).flatten.length) (ls[q].take t).length = decide (((ls.take q).flatten.length + t) % 2 = 0) := by
        rw [par_par, List.length_take, Nat.min_eq_left ht]; unfold par; split <;> simp_all
      rw [hbt] at hsn
      refine fun J1 hJ1 => bre (fun e => ?_) (fun e => ?_)
      all_goals
        rw [tmod_pos (by omega)] at e
        refine hJ1 _ _ (hJ _ _ _ ⟨⟨rfl, t + 1, ?_, by omega, ?_, ?_⟩, ?_⟩)
        · rw [wr_i64 (by omega) (by omega)]; push_cast; rfl
        · rw [wr_i64 (by omega) (by omega)]; push_cast; omega
        · first
            | rw [if_pos (decide_eq_true (by omega))] at hsn
            | rw [if_neg (by rw [decide_eq_true_eq]; omega)] at hsn
          first
            | rw [wr_i64 (x := bt ls[q] t) (by omega) (by omega), wr_i64 (x := bt ls[q] t * 256) (by omega) (by omega), wr_i64 (by omega) (by omega)]; omega
            | rw [wr_i64 (x := bt ls[q] t) (by omega) (by omega), wr_i64 (by omega) (by omega)]; omega
        · rw [wr_i64 (x := (t : Int) + 1) (by omega) (by omega)]; (try dsimp only); omega
    · have ht' : t = ls[q].length := by rw [hs.len] at hge2; omega
      subst ht'
      rw [List.take_length]
      refine ⟨⟨rfl, q + 1, ?_, by omega, ?_, ?_⟩, ?_⟩
      · rw [wr_i64 (by omega) (by omega)]; push_cast; rfl
      · rw [hfs, List.length_append]
      · rw [hfs, ws_app]
      · rw [wr_i64 (by omega) (by omega)]; (try dsimp only); omega
  · rw [h.slen] at hge
    have : q = ls.length := by omega
    subst this
    rw [List.take_length] at hw0 ⊢
    exact c40 (by omega) (by omega) ⟨_, rfl, k⟩
theorem c20 {parts : Sl} {ls : List (List Int)} {ss : List Sl} {w : World} {R : SV → World → Prop} (h : Parts w parts ls ss) (hb : ∀ l ∈ ls, Byt l) (hn : ls.length < 9223372036854775807) (hl : ls.flatten.length ≤ 140737488355328)
    (k : R (.int .i64 (65535 - sumOf ls.flatten)) w) : Ret Try.prog 20 [.slice parts] w R := by
  refine f20_of _ _ _ ?_
  unfold vc20
  refine c19 h hb hn hl ⟨_, rfl, ?_⟩
  have := fd_range (ws_nonneg true (byt_flat hb)).1
  rw [wr_i64 (by unfold sumOf; omega) (by unfold sumOf; omega)]
  exact k
theorem c21 {parts : Sl} {ls : List (List Int)} {ss : List Sl} {w : World} {R : SV → World → Prop} (h : Parts w parts ls ss) (hb : ∀ l ∈ ls, Byt l) (hn : ls.length < 9223372036854775807) (hl : ls.flatten.length ≤ 140737488355328)
    (k : R (.bool (sumOf ls.flatten == 65535)) w) : Ret Try.prog 21 [.slice parts] w R := by
  refine f21_of _ _ _ ?_
  unfold vc21
  exact c19 h hb hn hl ⟨_, rfl, k⟩

/-- are they the same bytes? -/
theorem c22 {a b : Sl} {la lb : List Int} {w : World} {R : SV → World → Prop} (ha : SeesB w a la) (hb : SeesB w b lb) (hn : la.length < 9223372036854775807)
    (k : ∀ w1, Upd [] [] w w1 → R (.bool (decide (la = lb))) w1) : Ret Try.prog 22 [.slice a, .slice b] w R := by
  refine f22_of _ _ _ _ ?_
  unfold vc22
  rw [ha.len, hb.len]
  refine bre' (fun h => ?_) (fun h => ?_)
  · rw [decide_eq_false (fun e => h (by rw [e]))] at k
    exact k _ (Upd.refl w)
  · have hlen : la.length = lb.length := by omega
    refine ⟨fun i w1 => Upd [] [] w w1 ∧ ∃ t : Nat, i = t ∧ t ≤ la.length ∧ la.take t = lb.take t, fun i _ => (la.length - i).toNat, ⟨Upd.refl w, 0, rfl, by omega, by simp⟩, ?_⟩
    rintro i w1 ⟨u, t, rfl, ht, he⟩
    have ha1 := ha.old u
    have hb1 := hb.old u
    refine brd (fun hlt => ?_) (fun hge => ?_)
    · refine needB' ha1 (by omega) hlt ⟨_, ha1.byte (by omega) hlt, ?_⟩
      refine needB' hb1 (by omega) (by omega) ⟨_, hb1.byte (by omega) (by omega), ?_⟩
      rw [bt_nat (by omega), bt_nat (by omega)]
      refine bre' (fun e w2 u2 => ?_) (fun e w2 u2 => ⟨⟨u.then u2, t + 1, ?_, by omega, ?_⟩, ?_⟩)
      · rw [decide_eq_false (fun e' => e (by simp [e']))] at k
        exact k _ (u.then u2)
      · rw [wr_i64 (by omega) (by omega)]; push_cast; rfl
      · rw [take_snoc (by omega), take_snoc (by omega), he, e]
      · rw [wr_i64 (by omega) (by omega)]; (try dsimp only); omega
    · have : t = la.length := by omega
      subst this
      rw [List.take_length, hlen, List.take_length] at he
      rw [decide_eq_true he] at k
      exact k _ u

/-- its length made even -/
def evenOf (l : List Int) : List Int := if (l.take 131072).length % 2 = 1 then l.take 131072 ++ [0] else l.take 131072
theorem evenOf_len (l : List Int) : (evenOf l).length % 2 = 0 ∧ (evenOf l).length ≤ 131072 := by
  unfold evenOf
  split <;> simp at * <;> omega
theorem evenOf_byt {l : List Int} (h : Byt l) : Byt (evenOf l) := by
  unfold evenOf
  split
  · exact (h.take _).app (by simp [Byt])
  · exact h.take _
theorem c23 {b : Sl} {l : List Int} {w : World} {R : SV → World → Prop} (h : SeesB w b l) (hc : b.len ≤ b.cap)
    (k : ∀ s w1, Upd [] [] w w1 → SeesB w1 s (evenOf l) → Own w.heap.size 1 w1 s → R (.slice s) w1) : Ret Try.prog 23 [.slice b] w R := by
  refine f23_of _ _ _ ?_
  unfold vc23
  intro J hJ
  have main : ∀ s, SeesB w s (l.take 131072) → J s w := by
    intro s hs
    refine hJ s w (append_own (c := cU8) (Sees.nil _ _ _ _) (Own.none w.heap.size _ _) hs (by omega) (by simp) (by omega) (by simp; omega) fun r w1 hr ho u1 _ => ?_)
    rw [hr.len, tmod_pos (by omega)]
    simp only [List.nil_append] at hr
    refine bre (fun e => ?_) (fun e => ?_)
    · intro b1 w2 u2 hb1
      have hr2 := hr.old u2
      have ho2 := ho.old u2
      have hu := u1.then u2
      refine append_own (c := cU8) (new := [0]) hr2 ho2 (rowB hb1 [0] rfl rfl) hu.size (by simp) (by omega) (by simp; omega) fun r3 w3 hr3 ho3 u3 _ => ?_
      refine k r3 w3 (hu.step0 u3 (fun b hb => (ho2.blk b hb).1)) ?_ ho3
      unfold evenOf
      rw [if_pos (by simp at e ⊢; omega)]
      exact hr3
    · refine k r w1 u1 ?_ ho
      unfold evenOf
      rw [if_neg (by simp at e ⊢; omega)]
      exact hr
  have hlen := h.len
  refine brd (fun hgt => ?_) (fun hle => ?_)
  · refine needD (by omega) (main _ ?_)
    have := h.subB (lo := 0) (hi := 131072) (mx := b.cap) (by omega) (by omega) (by omega)
    simpa using this
  · have : l.take 131072 = l := List.take_of_length_le (by omega)
    exact main b (by rw [this]; exact h)

/-- an even place of so many bytes -/
def placeOf (n : Nat) (at_ : Int) : Int := (if at_ < 0 then -(at_ + 1) else at_) % (n / 2 : Nat) * 2
theorem placeOf_range {n : Nat} (at_ : Int) (h : n % 2 = 0) (h1 : n ≠ 0) : 0 ≤ placeOf n at_ ∧ placeOf n at_ + 1 < n ∧ placeOf n at_ % 2 = 0 := by
  unfold placeOf
  have h2 : (0 : Int) < (n / 2 : Nat) := by omega
  have h3 := Int.emod_nonneg (if at_ < 0 then -(at_ + 1) else at_) (Int.ne_of_gt h2)
  have h4 := Int.emod_lt_of_pos (if at_ < 0 then -(at_ + 1) else at_) h2
  omega
theorem c24 {b : Sl} {at_ : Int} {w : World} {R : SV → World → Prop} (h : b.len % 2 = 0) (h1 : b.len ≠ 0) (h2 : b.len ≤ 140737488355328) (ha : -9223372036854775808 ≤ at_ ∧ at_ ≤ 9223372036854775807)
    (k : R (.int .i64 (placeOf b.len at_)) w) : Ret Try.prog 24 [.slice b, .int .i64 at_] w R := by
  refine f24_of _ _ _ _ ?_
  unfold vc24
  intro J hJ
  have hr := placeOf_range (n := b.len) at_ h h1
  have main : J (if at_ < 0 then -(at_ + 1) else at_) w := by
    refine hJ _ _ ?_
    have e1 : wr .i64 ((b.len : Int).tdiv 2) = (b.len / 2 : Nat) := by rw [tdiv_pos (by omega), wr_i64 (by omega) (by omega)]; omega
    rw [e1]
    refine needNe (by omega) ?_
    have e2 : (if at_ < 0 then -(at_ + 1) else at_).tmod (b.len / 2 : Nat) * 2 = placeOf b.len at_ := by rw [tmod_pos (by split <;> omega)]; rfl
    rw [e2, wr_i64 (by omega) (by omega)]
    exact k
  refine brd (fun hlt => ?_) (fun hge => ?_)
  · rw [if_pos hlt] at main
    rw [wr_i64 (x := at_ + 1) (by omega) (by omega), wr_i64 (by omega) (by omega)]
    have : 0 - (at_ + 1) = -(at_ + 1) := by omega
    rw [this]; exact main
  · rw [if_neg hge] at main
    exact main

/-- a word written -/
def putOf (l : List Int) (at_ n : Int) : List Int := (l.set at_.toNat (n / 256 % 256)).set (at_ + 1).toNat (n % 256)
theorem putOf_len (l : List Int) (at_ n : Int) : (putOf l at_ n).length = l.length := by simp [putOf]
theorem putOf_byt {l : List Int} (h : Byt l) (at_ n : Int) : Byt (putOf l at_ n) := (h.set _ (by omega)).set _ (by omega)
theorem c25 {N : Nat} {b : Sl} {l : List Int} {at_ n : Int} {w : World} {R : SV → World → Prop} (h : SeesB w b l) (o : Own N 1 w b) (h0 : 0 ≤ at_) (h1 : at_ + 1 < l.length) (h2 : l.length < 9223372036854775808)
    (k : ∀ w1, Upd b.blk [] w w1 → SeesB w1 b (putOf l at_ n) → Own N 1 w1 b → R (.tuple []) w1) : Ret Try.prog 25 [.slice b, .int .i64 at_, .int .i64 n] w R := by
  refine f25_of _ _ _ _ _ ?_
  unfold vc25
  refine needB h h0 (by omega) (own_set (c := cU8) (x := n / 256 % 256) h o (by decide) (by omega) (by rw [gshr8, wr_u8]; rfl) (by simp) fun w1 h1' o1 u1 => ?_)
  rw [wr_i64 (x := at_ + 1) (by omega) (by omega)]
  refine needB h1' (by omega) (by simp; omega) (own_set (c := cU8) (x := n % 256) h1' o1 (by decide) (by simp; omega) (by rw [wr_u8]; rfl) (by simp) fun w2 h2' o2 u2 => ?_)
  exact k w2 (u1.step u2 (fun b hb => .inr hb)) h2' o2

/-- are they all 0? -/
theorem c32 {b : Sl} {l : List Int} {w : World} {R : SV → World → Prop} (h : SeesB w b l) (hn : l.length < 9223372036854775807) (k : ∀ w1, Upd [] [] w w1 → R (.bool (decide (∀ x ∈ l, x = 0))) w1) : Ret Try.prog 32 [.slice b] w R := by
  refine f32_of _ _ _ ?_
  unfold vc32
  refine ⟨fun i w1 => Upd [] [] w w1 ∧ ∃ t : Nat, i = t ∧ t ≤ l.length ∧ ∀ x ∈ l.take t, x = 0, fun i _ => (l.length - i).toNat, ⟨Upd.refl w, 0, rfl, by omega, by simp⟩, ?_⟩
  rintro i w1 ⟨u, t, rfl, ht, he⟩
  have h1 := h.old u
  refine brd (fun hlt => ?_) (fun hge => ?_)
  · rw [h.len] at hlt
    refine needB h1 (by omega) hlt ⟨_, h1.byte (by omega) hlt, ?_⟩
    rw [bt_nat (by omega)]
    refine bre' (fun e => ?_) (fun e => ⟨⟨u, t + 1, ?_, by omega, ?_⟩, ?_⟩)
    · rw [decide_eq_false (fun e' => e (e' _ (List.getElem_mem _)))] at k
      exact k _ u
    · rw [wr_i64 (by omega) (by omega)]; push_cast; rfl
    · rw [take_snoc (by omega)]
      intro x hx
      rcases List.mem_append.1 hx with hx | hx
      · exact he x hx
      · simp at hx; rw [hx, e]
    · rw [wr_i64 (by omega) (by omega)]; (try dsimp only); omega
  · have : t = l.length := by rw [h.len] at hge; omega
    subst this
    rw [List.take_length] at he
    rw [decide_eq_true he] at k
    exact k _ u
end Go.Vc.S2
