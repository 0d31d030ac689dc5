import Derived.Test.YtncgcdicadibbaaG4
import Derived.Test.YtncgcdicadibbaaG5
import Derived.Test.YtncgcdicadibbaaG6
section
open Go Go.Vc Go.Proofs
set_option linter.unusedVariables false
set_option linter.unusedSimpArgs false
set_option autoImplicit false
namespace Go.Vc.S2

theorem c40 {n : Int} {w : World} {R : SV → World → Prop} (h0 : 0 ≤ n) (h1 : n < 9223372036854775808) (k : R (.int .i64 (fd n)) w) : Ret Try.prog 40 [.int .i64 n] w R := by
  refine f40_of _ _ _ ?_
  unfold vc40
  refine bre (fun h => ?_) (fun h => ?_)
  · subst h; exact k
  · rw [wr_i64 (x := n - 1) (by omega) (by omega), tmod_pos (by omega), wr_i64 (by omega) (by omega)]
    unfold fd at k
    rw [if_neg h] at k
    exact k

theorem c19 {parts : Sl} {ls : List (List Int)} {ss : List Sl} {w : World} {R : SV → World → Prop} (h : Parts w parts ls ss) (hb : ∀ l ∈ ls, Byt l) (hn : ls.length < 9223372036854775807) (hl : ls.flatten.length ≤ 140737488355328)
    (k : R (.int .i64 (sumOf ls.flatten)) w) : Ret Try.prog 19 [.slice parts] w R := by
  refine f19_of _ _ _ ?_
  unfold vc19
  refine ⟨fun at_ n i w1 => w1 = w ∧ ∃ q : Nat, i = q ∧ q ≤ ls.length ∧ at_ = ((ls.take q).flatten.length : Nat) ∧ n = ws true (ls.take q).flatten, fun _ _ i _ => (ls.length - i).toNat, ⟨rfl, 0, rfl, by omega, by simp, by simp [ws]⟩, ?_⟩
  rintro at_ n i w1 ⟨rfl, q, rfl, hq, rfl, rfl⟩
  have hw0 := ws_nonneg true (byt_flat_take hb q)
  have hf := flat_le ls q
  refine brd (fun hlt => ?_) (fun hge => ?_)
  · rw [h.slen] at hlt
    obtain ⟨h1, h2, hc, hs, hp⟩ := h.get (i := (q : Int)) (by omega) hlt
    simp only [Int.toNat_natCast] at hs h1 h2 hc
    have hfs := flat_snoc h2
    have hf1 := flat_le ls (q + 1)
    rw [hfs, List.length_append] at hf1
    have hbp : Byt ls[q] := hb _ (List.getElem_mem _)
    refine ⟨fun at_ n j w2 => w2 = w1 ∧ ∃ t : Nat, j = t ∧ t ≤ ls[q].length ∧ at_ = ((ls.take q).flatten.length + t : Nat) ∧ n = ws true (ls.take q).flatten + ws (par true (ls.take q).flatten.length) (ls[q].take t),
      fun _ _ j _ => (ls[q].length - j).toNat, ⟨rfl, 0, rfl, by omega, by simp, by simp [ws]⟩, ?_⟩
    rintro at_ n j w2 ⟨rfl, t, rfl, ht, rfl, rfl⟩
    refine needP h (by omega) hlt ⟨_, (by rw [Int.toNat_natCast]; exact hc), ?_⟩
    have hw1 := ws_nonneg (par true (ls.take q).flatten.length) (hbp.take t)
    have hls : ((ls[q].take t).length : Int) = t := by rw [List.length_take]; omega
    refine brd (fun hlt2 => ?_) (fun hge2 => ?_)
    · refine fun J hJ => needP h (by omega) hlt ⟨_, (by rw [Int.toNat_natCast]; exact hc), ?_⟩
      rw [hs.len] at hlt2
      refine needB hs (by omega) hlt2 ⟨_, hs.byte (by omega) hlt2, ?_⟩
      have hbb := hbp.bt (t : Int)
      have hsn := ws_snoc (ls[q].take t) ls[q][t] (par true (ls.take q).flatten.length)
      rw [← take_snoc (by omega), ← bt_nat (by omega)] at hsn
      have hbt : par (par true (ls.take q).flatten.length) (ls[q].take t).length = decide (((ls.take q).flatten.length + t) % 2 = 0) := by
        rw [par_par, List.length_take, Nat.min_eq_left ht]; unfold par; split <;> simp_all
      rw [hbt] at hsn
      refine fun J1 hJ1 => bre (fun e => ?_) (fun e => ?_)
      all_goals
        rw [tmod_pos (by omega)] at e
        refine hJ1 _ _ (hJ _ _ _ ⟨⟨rfl, t + 1, ?_, by omega, ?_, ?_⟩, ?_⟩)
        · rw [wr_i64 (by omega) (by omega)]; push_cast; rfl
        · rw [wr_i64 (by omega) (by omega)]; push_cast; omega
        · first
            | rw [if_pos (decide_eq_true (by omega))] at hsn
            | rw [if_neg (by rw [decide_eq_true_eq]; omega)] at hsn
          first
            | rw [wr_i64 (x := bt ls[q] t) (by omega) (by omega), wr_i64 (x := bt ls[q] t * 256) (by omega) (by omega), wr_i64 (by omega) (by omega)]; omega
            | rw [wr_i64 (x := bt ls[q] t) (by omega) (by omega), wr_i64 (by omega) (by omega)]; omega
        · rw [wr_i64 (x := (t : Int) + 1) (by omega) (by omega)]; (try dsimp only); omega
    · have ht' : t = ls[q].length := by rw [hs.len] at hge2; omega
      subst ht'
      rw [List.take_length]
      refine ⟨⟨rfl, q + 1, ?_, by omega, ?_, ?_⟩, ?_⟩
      · rw [wr_i64 (by omega) (by omega)]; push_cast; rfl
      · rw [hfs, List.length_append]
      · rw [hfs, ws_app]
      · rw [wr_i64 (by omega) (by omega)]; (try dsimp only); omega
  · rw [h.slen] at hge
    have : q = ls.length := by omega
    subst this
    rw [List.take_length] at hw0 ⊢
    exact c40 (by omega) (by omega) ⟨_, rfl, k⟩
theorem c20 {parts : Sl} {ls : List (List Int)} {ss : List Sl} {w : World} {R : SV → World → Prop} (h : Parts w parts ls ss) (hb : ∀ l ∈ ls, Byt l) (hn : ls.length < 9223372036854775807) (hl : ls.flatten.length ≤ 140737488355328)
    (k : R (.int .i64 (65535 - sumOf ls.flatten)) w) : Ret Try.prog 20 [.slice parts] w R := by
  refine f20_of _ _ _ ?_
  unfold vc20
  refine c19 h hb hn hl ⟨_, rfl, ?_⟩
  have := fd_range (ws_nonneg true (byt_flat hb)).1
  rw [wr_i64 (by unfold sumOf; omega) (by unfold sumOf; omega)]
  exact k
theorem c21 {parts : Sl} {ls : List (List Int)} {ss : List Sl} {w : World} {R : SV → World → Prop} (h : Parts w parts ls ss) (hb : ∀ l ∈ ls, Byt l) (hn : ls.length < 9223372036854775807) (hl : ls.flatten.length ≤ 140737488355328)
    (k : R (.bool (sumOf ls.flatten == 65535)) w) : Ret Try.prog 21 [.slice parts] w R := by
  refine f21_of _ _ _ ?_
  unfold vc21
  exact c19 h hb hn hl ⟨_, rfl, k⟩

/-- are they the same bytes? -/
theorem c22 {a b : Sl} {la lb : List Int} {w : World} {R : SV → World → Prop} (ha : SeesB w a la) (hb : SeesB w b lb) (hn : la.length < 9223372036854775807)
    (k : ∀ w1, Upd [] [] w w1 → R (.bool (decide (la = lb))) w1) : Ret Try.prog 22 [.slice a, .slice b] w R := by
  refine f22_of _ _ _ _ ?_
  unfold vc22
  rw [ha.len, hb.len]
  refine bre' (fun h => ?_) (fun h => ?_)
  · rw [decide_eq_false (fun e => h (by rw [e]))] at k
    exact k _ (Upd.refl w)
  · have hlen : la.length = lb.length := by omega
    refine ⟨fun i w1 => Upd [] [] w w1 ∧ ∃ t : Nat, i = t ∧ t ≤ la.length ∧ la.take t = lb.take t, fun i _ => (la.length - i).toNat, ⟨Upd.refl w, 0, rfl, by omega, by simp⟩, ?_⟩
    rintro i w1 ⟨u, t, rfl, ht, he⟩
    have ha1 := ha.old u
    have hb1 := hb.old u
    refine brd (fun hlt => ?_) (fun hge => ?_)
    · refine needB' ha1 (by omega) hlt ⟨_, ha1.byte (by omega) hlt, ?_⟩
      refine needB' hb1 (by omega) (by omega) ⟨_, hb1.byte (by omega) (by omega), ?_⟩
      rw [bt_nat (by omega), bt_nat (by omega)]
      refine bre' (fun e w2 u2 => ?_) (fun e w2 u2 => ⟨⟨u.then u2, t + 1, ?_, by omega, ?_⟩, ?_⟩)
      · rw [decide_eq_false (fun e' => e (by simp [e']))] at k
        exact k _ (u.then u2)
      · rw [wr_i64 (by omega) (by omega)]; push_cast; rfl
      · rw [take_snoc (by omega), take_snoc (by omega), he, e]
      · rw [wr_i64 (by omega) (by omega)]; (try dsimp only); omega
    · have : t = la.length := by omega
      subst this
      rw [List.take_length, hlen, List.take_length] at he
      rw [decide_eq_true he] at k
      exact k _ u

/-- its length made even -/
def evenOf (l : List Int) : List Int := if (l.take 131072).length % 2 = 1 then l.take 131072 ++ [0] else l.take 131072
theorem evenOf_len (l : List Int) : (evenOf l).length % 2 = 0 ∧ (evenOf l).length ≤ 131072 := by
  unfold evenOf
  split <;> simp at * <;> omega
theorem evenOf_byt {l : List Int} (h : Byt l) : Byt (evenOf l) := by
  unfold evenOf
  split
  · exact (h.take _).app (by simp [Byt])
  · exact h.take _
theorem c23 {b : Sl} {l : List Int} {w : World} {R : SV → World → Prop} (h : SeesB w b l) (hc : b.len ≤ b.cap)
    (k : ∀ s w1, Upd [] [] w w1 → SeesB w1 s (evenOf l) → Own w.heap.size 1 w1 s → R (.slice s) w1) : Ret Try.prog 23 [.slice b] w R := by
  refine f23_of _ _ _ ?_
  unfold vc23
  intro J hJ
  have main : ∀ s, SeesB w s (l.take 131072) → J s w := by
    intro s hs
    refine hJ s w (append_own (c := cU8) (Sees.nil _ _ _ _) (Own.none w.heap.size _ _) hs (by omega) (by simp) (by omega) (by simp; omega) fun r w1 hr ho u1 _ => ?_)
    rw [hr.len, tmod_pos (by omega)]
    simp only [List.nil_append] at hr
    refine bre (fun e => ?_) (fun e => ?_)
    · intro b1 w2 u2 hb1
      have hr2 := hr.old u2
      have ho2 := ho.old u2
      have hu := u1.then u2
      refine append_own (c := cU8) (new := [0]) hr2 ho2 (rowB hb1 [0] rfl rfl) hu.size (by simp) (by omega) (by simp; omega) fun r3 w3 hr3 ho3 u3 _ => ?_
      refine k r3 w3 (hu.step0 u3 (fun b hb => (ho2.blk b hb).1)) ?_ ho3
      unfold evenOf
      rw [if_pos (by simp at e ⊢; omega)]
      exact hr3
    · refine k r w1 u1 ?_ ho
      unfold evenOf
      rw [if_neg (by simp at e ⊢; omega)]
      exact hr
  have hlen := h.len
  refine brd (fun hgt => ?_) (fun hle => ?_)
  · refine needD (by omega) (main _ ?_)
    have := h.subB (lo := 0) (hi := 131072) (mx := b.cap) (by omega) (by omega) (by omega)
    simpa using this
  · have : l.take 131072 = l := List.take_of_length_le (by omega)
    exact main b (by rw [this]; exact h)

/-- an even place of so many bytes -/
def placeOf (n : Nat) (at_ : Int) : Int := (if at_ < 0 then -(at_ + 1) else at_) % (n / 2 : Nat) * 2
theorem placeOf_range {n : Nat} (at_ : Int) (h : n % 2 = 0) (h1 : n ≠ 0) : 0 ≤ placeOf n at_ ∧ placeOf n at_ + 1 < n ∧ placeOf n at_ % 2 = 0 := by
  unfold placeOf
  have h2 : (0 : Int) < (n / 2 : Nat) := by omega
  have h3 := Int.emod_nonneg (if at_ < 0 then -(at_ + 1) else at_) (Int.ne_of_gt h2)
  have h4 := Int.emod_lt_of_pos (if at_ < 0 then -(at_ + 1) else at_) h2
  omega
theorem c24 {b : Sl} {at_ : Int} {w : World} {R : SV → World → Prop} (h : b.len % 2 = 0) (h1 : b.len ≠ 0) (h2 : b.len ≤ 140737488355328) (ha : -9223372036854775808 ≤ at_ ∧ at_ ≤ 9223372036854775807)
    (k : R (.int .i64 (placeOf b.len at_)) w) : Ret Try.prog 24 [.slice b, .int .i64 at_] w R := by
  refine f24_of _ _ _ _ ?_
  unfold vc24
  intro J hJ
  have hr := placeOf_range (n := b.len) at_ h h1
  have main : J (if at_ < 0 then -(at_ + 1) else at_) w := by
    refine hJ _ _ ?_
    have e1 : wr .i64 ((b.len : Int).tdiv 2) = (b.len / 2 : Nat) := by rw [tdiv_pos (by omega), wr_i64 (by omega) (by omega)]; omega
    rw [e1]
    refine needNe (by omega) ?_
    have e2 : (if at_ < 0 then -(at_ + 1) else at_).tmod (b.len / 2 : Nat) * 2 = placeOf b.len at_ := by rw [tmod_pos (by split <;> omega)]; rfl
    rw [e2, wr_i64 (by omega) (by omega)]
    exact k
  refine brd (fun hlt => ?_) (fun hge => ?_)
  · rw [if_pos hlt] at main
    rw [wr_i64 (x := at_ + 1) (by omega) (by omega), wr_i64 (by omega) (by omega)]
    have : 0 - (at_ + 1) = -(at_ + 1) := by omega
    rw [this]; exact main
  · rw [if_neg hge] at main
    exact main

/-- a word written -/
def putOf (l : List Int) (at_ n : Int) : List Int := (l.set at_.toNat (n / 256 % 256)).set (at_ + 1).toNat (n % 256)
theorem putOf_len (l : List Int) (at_ n : Int) : (putOf l at_ n).length = l.length := by simp [putOf]
theorem putOf_byt {l : List Int} (h : Byt l) (at_ n : Int) : Byt (putOf l at_ n) := (h.set _ (by omega)).set _ (by omega)
theorem c25 {N : Nat} {b : Sl} {l : List Int} {at_ n : Int} {w : World} {R : SV → World → Prop} (h : SeesB w b l) (o : Own N 1 w b) (h0 : 0 ≤ at_) (h1 : at_ + 1 < l.length) (h2 : l.length < 9223372036854775808)
    (k : ∀ w1, Upd b.blk [] w w1 → SeesB w1 b (putOf l at_ n) → Own N 1 w1 b → R (.tuple []) w1) : Ret Try.prog 25 [.slice b, .int .i64 at_, .int .i64 n] w R := by
  refine f25_of _ _ _ _ _ ?_
  unfold vc25
  refine needB h h0 (by omega) (own_set (c := cU8) (x := n / 256 % 256) h o (by decide) (by omega) (by rw [gshr8, wr_u8]; rfl) (by simp) fun w1 h1' o1 u1 => ?_)
  rw [wr_i64 (x := at_ + 1) (by omega) (by omega)]
  refine needB h1' (by omega) (by simp; omega) (own_set (c := cU8) (x := n % 256) h1' o1 (by decide) (by simp; omega) (by rw [wr_u8]; rfl) (by simp) fun w2 h2' o2 u2 => ?_)
  exact k w2 (u1.step u2 (fun b hb => .inr hb)) h2' o2

/-- are they all 0? -/
theorem c32 {b : Sl} {l : List Int} {w : World} {R : SV → World → Prop} (h : SeesB w b l) (hn : l.length < 9223372036854775807) (k : ∀ w1, Upd [] [] w w1 → R (.bool (decide (∀ x ∈ l, x = 0))) w1) : Ret Try.prog 32 [.slice b] w R := by
  refine f32_of _ _ _ ?_
  unfold vc32
  refine ⟨fun i w1 => Upd [] [] w w1 ∧ ∃ t : Nat, i = t ∧ t ≤ l.length ∧ ∀ x ∈ l.take t, x = 0, fun i _ => (l.length - i).toNat, ⟨Upd.refl w, 0, rfl, by omega, by simp⟩, ?_⟩
  rintro i w1 ⟨u, t, rfl, ht, he⟩
  have h1 := h.old u
  refine brd (fun hlt => ?_) (fun hge => ?_)
  · rw [h.len] at hlt
    refine needB h1 (by omega) hlt ⟨_, h1.byte (by omega) hlt, ?_⟩
    rw [bt_nat (by omega)]
    refine bre' (fun e => ?_) (fun e => ⟨⟨u, t + 1, ?_, by omega, ?_⟩, ?_⟩)
    · rw [decide_eq_false (fun e' => e (e' _ (List.getElem_mem _)))] at k
      exact k _ u
    · rw [wr_i64 (by omega) (by omega)]; push_cast; rfl
    · rw [take_snoc (by omega)]
      intro x hx
      rcases List.mem_append.1 hx with hx | hx
      · exact he x hx
      · simp at hx; rw [hx, e]
    · rw [wr_i64 (by omega) (by omega)]; (try dsimp only); omega
  · have : t = l.length := by rw [h.len] at hge; omega
    subst this
    rw [List.take_length] at he
    rw [decide_eq_true he] at k
    exact k _ u
end Go.Vc.S2
end

section
open Go Go.Vc Go.Proofs
set_option linter.unusedVariables false
set_option linter.unusedSimpArgs false
set_option autoImplicit false
namespace Go.Vc.S2

theorem c13 {w : World} {R : SV → World → Prop} (k : ∀ w1, Upd [] [] w w1 → R (.bool true) w1) : Ret Try.prog 13 [] w R := by
  refine f13_of _ _ ?_
  unfold vc13
  intro b w1 u1 h1 b2 w2 u2 h2
  have s1 := rowB (n := 8) (cap := 8) h1 [0, 1, 242, 3, 244, 245, 246, 247] rfl rfl
  have p2 := rowP (n := 1) (cap := 1) h2 (ss := [⟨some ⟨b, 0, none⟩, 8, 8⟩]) rfl rfl (ls := [_]) ⟨s1.old u2, trivial⟩
  have v2 := u1.then u2
  refine c16 p2 (by simp [Byt]) (by simp) (by simp) ⟨_, rfl, ?_⟩
  refine brt (by decide) ?_
  intro b3 w3 u3 h3
  have v3 := v2.then u3
  have s3 := (s1.old u2).old u3
  have p3 := rowP (n := 1) (cap := 1) h3 (ss := [⟨some ⟨b, 0, none⟩, 8, 8⟩]) rfl rfl (ls := [_]) ⟨s3, trivial⟩
  refine c17 p3 (by simp [Byt]) (by simp) (by simp) ⟨_, rfl, ?_⟩
  refine brt (by decide) ?_
  intro b4 w4 u4 h4 b5 w5 u5 h5
  have s4 := rowB (n := 2) (cap := 2) h4 [34, 13] rfl rfl
  have p5 := rowP (n := 2) (cap := 2) h5 (ss := [⟨some ⟨b, 0, none⟩, 8, 8⟩, ⟨some ⟨b4, 0, none⟩, 2, 2⟩]) rfl rfl (ls := [_, _]) ⟨(s3.old u4).old u5, s4.old u5, trivial⟩
  have v5 := (v3.then u4).then u5
  refine c18 p5 (by simp [Byt]) (by simp) (by simp) ⟨_, rfl, ?_⟩
  refine brt (by decide) ?_
  refine c18 (Parts.nil _ _ _) (by simp) (by simp) (by simp) ⟨_, rfl, ?_⟩
  exact k _ v5
end Go.Vc.S2
end

section
open Go Go.Vc Go.Proofs
set_option linter.unusedVariables false
set_option linter.unusedSimpArgs false
set_option autoImplicit false
namespace Go.Vc.S2
/-- a wide part -/
abbrev wS (b : Nat) (l : List Int) : Sl := ⟨some ⟨b, 0, none⟩, l.length, 2 * l.length + 70⟩
def wSs (ls : List (List Int)) (bs : List Nat) : List Sl := List.zipWith (fun l b => wS b l) ls bs
theorem wSs_len {ls : List (List Int)} {bs : List Nat} (h : bs.length = ls.length) : (wSs ls bs).length = ls.length := by simp [wSs, h]
theorem wSs_get {ls : List (List Int)} {bs : List Nat} {i : Nat} {l : List Int} {b : Nat} (h1 : ls[i]? = some l) (h2 : bs[i]? = some b) : (wSs ls bs)[i]? = some (wS b l) := by
  simp [wSs, List.getElem?_zipWith, h1, h2]
/-- one wide part, with marks in the room behind it -/
structure Room (N : Nat) (w : World) (b : Nat) (l : List Int) : Prop where
  sees : SeesB w (wideS b (2 * l.length + 70)) (wideL l)
  own : Own N 1 w (wideS b (2 * l.length + 70))
theorem Room.upd {N b : Nat} {w w1 : World} {l : List Int} {ms ns : List Nat} (r : Room N w b l) (u : Upd ms ns w w1) (h : b ∉ ms) : Room N w1 b l :=
  ⟨r.sees.upd u (by simpa [Sl.blk] using h), r.own.upd u (by simpa [Sl.blk] using h)⟩
theorem Room.lt {N b : Nat} {w : World} {l : List Int} (r : Room N w b l) : N ≤ b ∧ b < w.heap.size := r.own.blk b (by simp [Sl.blk])
theorem Room.part {N b : Nat} {w : World} {l : List Int} (r : Room N w b l) : SeesB w (wS b l) l := by
  have := r.sees.take (n := l.length) (by rw [wideL_len]; omega) (2 * l.length + 70)
  rw [show (wideL l).take l.length = l by simp [wideL]] at this
  exact this
/-- the caller's list: its parts are wide, marks lie behind them -/
structure Lw (N : Nat) (w : World) (L : Sl) (ls : List (List Int)) (bs : List Nat) (ms : List Sl) : Prop where
  row : Sees cSl w L (wSs ls bs ++ ms)
  own : Own N 1 w L
  len : bs.length = ls.length
  ml : ms.length = ls.length + 9
  room : ∀ (i : Nat) (l : List Int) (b : Nat), ls[i]? = some l → bs[i]? = some b → Room N w b l
  mrk : ∀ (i : Nat) (m : Sl), ms[i]? = some m → SeesB w m [wr .u8 (i : Int), 7] ∧ ∀ x ∈ m.blk, N ≤ x ∧ x < w.heap.size ∧ x ∉ L.blk ∧ x ∉ bs
  dis : ∀ (i j b : Nat), bs[i]? = some b → bs[j]? = some b → i = j
  off : ∀ b ∈ bs, b ∉ L.blk
section
variable {N : Nat} {w w1 : World} {L : Sl} {ls : List (List Int)} {bs : List Nat} {ms : List Sl} {R : SV → World → Prop}
def lwB (L : Sl) (bs : List Nat) (ms : List Sl) : List Nat := L.blk ++ (bs ++ ms.flatMap Sl.blk)
theorem Lw.upd {mods ns : List Nat} (h : Lw N w L ls bs ms) (u : Upd mods ns w w1) (hm : ∀ x ∈ lwB L bs ms, x ∉ mods) : Lw N w1 L ls bs ms := by
  have hL : ∀ x ∈ L.blk, x ∉ mods := fun x hx => hm x (by simp [lwB, hx])
  have hz := u.size
  exact ⟨h.row.upd u hL, h.own.upd u hL, h.len, h.ml, fun i l b e1 e2 => (h.room i l b e1 e2).upd u (hm b (by have := List.mem_of_getElem? e2; simp [lwB, this])), fun i m e => ⟨(h.mrk i m e).1.upd u (fun x hx => hm x (by
    simp only [lwB, List.mem_append]
    exact .inr (.inr (List.mem_flatMap.2 ⟨m, List.mem_of_getElem? e, hx⟩)))), fun x hx => by
    have := (h.mrk i m e).2 x hx
    exact ⟨this.1, by omega, this.2.2⟩⟩, h.dis, h.off⟩
theorem Lw.old {ns : List Nat} (h : Lw N w L ls bs ms) (u : Upd [] ns w w1) : Lw N w1 L ls bs ms := h.upd u (by simp)
theorem Lw.lt (h : Lw N w L ls bs ms) : ∀ x ∈ lwB L bs ms, N ≤ x ∧ x < w.heap.size := fun x hx => by
  simp only [lwB, List.mem_append] at hx
  rcases hx with q | q | q
  · exact h.own.blk x q
  · obtain ⟨i, hi, rfl⟩ := List.getElem_of_mem q
    have hi2 : i < ls.length := by rw [← h.len]; exact hi
    exact (h.room i ls[i] bs[i] (List.getElem?_eq_getElem hi2) (List.getElem?_eq_getElem hi)).lt
  · obtain ⟨m, hm, q⟩ := List.mem_flatMap.1 q
    obtain ⟨i, hi, rfl⟩ := List.getElem_of_mem hm
    have := (h.mrk i _ (List.getElem?_eq_getElem hi)).2 x q
    exact ⟨this.1, this.2.1⟩
/-- what is handed in: the parts alone -/
abbrev inS (L : Sl) (n : Nat) : Sl := ⟨L.ptr, n, L.cap⟩
theorem Lw.parts (h : Lw N w L ls bs ms) : Parts w (inS L ls.length) ls (wSs ls bs) := by
  have hl := wSs_len h.len
  refine ⟨?_, hl, fun i hi => ?_⟩
  · have := h.row.take (n := ls.length) (by simp [hl]) L.cap
    rw [List.take_append_of_le_length (by omega), List.take_of_length_le (by omega)] at this
    exact this
  · have e1 : ls[i]? = some ls[i] := List.getElem?_eq_getElem hi
    have e2 : bs[i]? = some (bs[i]'(by rw [h.len]; exact hi)) := List.getElem?_eq_getElem _
    have e3 := wSs_get e1 e2
    have e4 := List.getElem?_eq_some_iff.1 e3
    rw [e4.2]
    exact (h.room i _ _ e1 e2).part
end
end Go.Vc.S2
end

section
open Go Go.Vc Go.Proofs
set_option linter.unusedVariables false
set_option linter.unusedSimpArgs false
set_option autoImplicit false
namespace Go.Vc.S2
section
variable {N : Nat} {w w1 : World} {L : Sl} {ls : List (List Int)} {bs : List Nat} {ms : List Sl} {R : SV → World → Prop}
theorem c34 {b : Sl} {l : List Int} (h : SeesB w b l) (hl : l.length ≤ 140737488355328) (k : ∀ s w1, Upd [] [] w w1 → SeesB w1 s l → Own w.heap.size 1 w1 s → R (.slice s) w1) : Ret Try.prog 34 [.slice b] w R := by
  refine f34_of _ _ _ ?_
  unfold vc34
  refine append_own (c := cU8) (l := []) (Sees.nil _ _ _ _) (Own.none w.heap.size _ _) h (Nat.le_refl _) (by simp) (by decide) (by simpa using hl) fun s w1 hs ho u _ => ?_
  exact k s w1 (by simpa [Sl.blk] using u) (by simpa using hs) ho
theorem wSs_snoc {ls : List (List Int)} {bs : List Nat} {l : List Int} {b : Nat} (h : bs.length = ls.length) : wSs (ls ++ [l]) (bs ++ [b]) = wSs ls bs ++ [wS b l] := by
  unfold wSs
  rw [List.zipWith_append h.symm]
  rfl
set_option maxRecDepth 10000 in
theorem c33 {parts : Sl} {ss : List Sl} (h : Parts w parts ls ss) (hn : ls.length ≤ 40) (hl : ∀ l ∈ ls, l.length ≤ 1000000000)
    (k : ∀ L bs ms w1, Upd [] [] w w1 → Lw w.heap.size w1 L ls bs ms → R (.slice (inS L ls.length)) w1) : Ret Try.prog 33 [.slice parts] w R := by
  refine f33_of _ _ _ ?_
  unfold vc33
  have hpl := h.slen
  -- the parts
  refine ⟨fun s i w' => ∃ (t : Nat) (bs : List Nat), i = t ∧ t ≤ ls.length ∧ Upd [] [] w w' ∧ bs.length = t ∧ Sees cSl w' s (wSs (ls.take t) bs) ∧ Own w.heap.size 1 w' s ∧ (∀ (i : Nat) (l : List Int) (b : Nat), ls[i]? = some l → bs[i]? = some b → Room w.heap.size w' b l) ∧ (∀ (i j b : Nat), bs[i]? = some b → bs[j]? = some b → i = j) ∧ (∀ b ∈ bs, b ∉ s.blk ∧ b < w'.heap.size), fun _ i _ => (ls.length - i).toNat, ⟨0, [], rfl, by omega, Upd.refl _, rfl, by simpa [wSs] using Sees.nil _ _ _ _, Own.none _ _ _, by simp, by simp, by simp⟩, ?_⟩
  rintro s i w1 ⟨t, bs, rfl, ht, u1, hb, hs, ho, hr, hd, hf⟩
  refine brd (fun hlt => ?_) (fun hge => ?_)
  · have ht2 : t < ls.length := by omega
    have hP := h.old u1
    have hts : t < ss.length := by rw [h.len]; exact ht2
    have hrow := hP.row.elem (i := t) hts 0 (by simp [cSl])
    rw [add_zero] at hrow
    refine needIx (by omega) (by omega) (hP.row.isSome (by decide) (by omega)) ⟨_, by rw [Int.toNat_natCast]; exact hrow, ?_⟩
    have hll := hl _ (List.getElem_mem ht2)
    refine c46 (hP.each t ht2) (by omega) fun bk w2 u2 hbk h2 o2 => ⟨_, rfl, fun b w3 u3 hr3 => ?_⟩
    have z1 := u1.size; have z2 := u2.size; have z3 := u3.size
    have hbk2 := o2.blk bk (by simp [Sl.blk])
    have v3 := (u1.then u2).then u3
    have es : Sl.sub (wideS bk (2 * ls[t].length + 70)) 1 0 ls[t].length (2 * ls[t].length + 70) = wS bk ls[t] := sub_wide _ _ _ _
    rw [es] at hr3
    refine append_own (c := cSl) (new := [wS bk ls[t]]) ((hs.old u2).old u3) ((ho.old u2).old u3) (sees_row hr3 _ rfl rfl) v3.size (by simp) (by decide) (by rw [wSs_len (by simp [hb]; omega)]; simp; omega) fun r w4 hr4 ho4 u4 n4 => ?_
    have z4 := u4.size
    have sB := ho.blk
    have hbs : ∀ b ∈ bs, b < w1.heap.size := fun b hb' => (hf b hb').2
    refine ⟨⟨t + 1, bs ++ [bk], wr_succ (by omega), by omega, v3.step0 u4 (fun x hx => (sB x hx).1), by simp [hb], ?_, ho4, fun i l b' e1 e2 => ?_, fun i j b' e1 e2 => ?_, fun b' hb' => ?_⟩, by rw [wr_succ (by omega)]; (try dsimp only); omega⟩
    · have e : ls.take (t + 1) = ls.take t ++ [ls[t]] := by rw [List.take_add_one, List.getElem?_eq_getElem ht2]; rfl
      rw [e, wSs_snoc (by simp [hb]; omega)]
      exact hr4
    · rcases Nat.lt_or_ge i bs.length with c | c
      · rw [List.getElem?_append_left c] at e2
        exact ((hr i l b' e1 e2).upd (((u2.then u3).forget)) (by simp)).upd u4 (hf b' (List.mem_of_getElem? e2)).1
      · rw [List.getElem?_append_right c] at e2
        have hi : i = bs.length := by
          have := (List.getElem?_eq_some_iff.1 e2).1
          simp at this; omega
        subst hi
        simp only [Nat.sub_self, List.getElem?_cons_zero, Option.some.injEq] at e2
        subst e2
        rw [hb, List.getElem?_eq_getElem ht2] at e1
        cases e1
        have : Room w.heap.size w2 bk ls[t] := ⟨h2, o2.mono (by omega)⟩
        exact (this.upd u3 (by simp)).upd u4 (fun hm => by have := (sB bk hm).2; omega)
    · have key : ∀ i, (bs ++ [bk])[i]? = some b' → (i < bs.length ∧ bs[i]? = some b') ∨ (i = bs.length ∧ b' = bk) := fun i e => by
        rcases Nat.lt_or_ge i bs.length with c | c
        · rw [List.getElem?_append_left c] at e; exact .inl ⟨c, e⟩
        · rw [List.getElem?_append_right c] at e
          have hi : i = bs.length := by
            have := (List.getElem?_eq_some_iff.1 e).1
            simp at this; omega
          subst hi
          simp only [Nat.sub_self, List.getElem?_cons_zero, Option.some.injEq] at e
          exact .inr ⟨rfl, e.symm⟩
      rcases key i e1 with ⟨c1, f1⟩ | ⟨c1, f1⟩
      · rcases key j e2 with ⟨c2, f2⟩ | ⟨c2, f2⟩
        · exact hd i j b' f1 f2
        · have := hbs b' (List.mem_of_getElem? f1); omega
      · rcases key j e2 with ⟨c2, f2⟩ | ⟨c2, f2⟩
        · have := hbs b' (List.mem_of_getElem? f2); omega
        · omega
    · rcases List.mem_append.1 hb' with q | q
      · refine ⟨fun hm => ?_, by have := hbs b' q; omega⟩
        rcases n4 b' hm with x | x
        · exact (hf b' q).1 x
        · have := hbs b' q; omega
      · rw [List.mem_singleton] at q
        subst q
        refine ⟨fun hm => ?_, by omega⟩
        rcases n4 b' hm with x | x
        · have := (sB b' x).2; omega
        · omega
  have htl : t = ls.length := by omega
  subst htl
  rw [List.take_length] at hs
  clear hge ht
  have z1 := u1.size
  have e9 : wr .i64 ((parts.len : Int) + 9) = ((ls.length + 9 : Nat) : Int) := by rw [wr_i64 (by omega) (by omega)]; omega
  have hwl := wSs_len hb
  -- the marks
  rw [e9]
  refine ⟨fun s i w' => ∃ (t : Nat) (ms : List Sl), i = t ∧ t ≤ ls.length + 9 ∧ Upd [] [] w w' ∧ ms.length = t ∧ Sees cSl w' s (wSs ls bs ++ ms) ∧ Own w.heap.size 1 w' s ∧ (∀ (i : Nat) (l : List Int) (b : Nat), ls[i]? = some l → bs[i]? = some b → Room w.heap.size w' b l) ∧ (∀ b ∈ bs, b ∉ s.blk ∧ b < w'.heap.size) ∧ (∀ (i : Nat) (m : Sl), ms[i]? = some m → SeesB w' m [wr .u8 (i : Int), 7] ∧ ∀ x ∈ m.blk, w.heap.size ≤ x ∧ x < w'.heap.size ∧ x ∉ s.blk ∧ x ∉ bs), fun _ i _ => (ls.length + 9 - i).toNat, ⟨0, [], rfl, by omega, u1, rfl, by simpa using hs, ho, hr, hf, by simp⟩, ?_⟩
  clear hs ho hr hf
  rintro s2 i w2 ⟨t, ms, rfl, ht, u2, hm, hs, ho, hr, hf, hk⟩
  refine brd (fun hlt => ?_) (fun hge => ?_)
  · intro b w3 u3 hr3 b4 w4 u4 hr4
    have n3 := u3.new (b := b) (by simp)
    have z2 := u2.size; have z3 := u3.size; have z4 := u4.size
    have v4 := (u2.then u3).then u4
    have hmk : SeesB w4 ⟨some ⟨b, 0, none⟩, 2, 2⟩ [wr .u8 (t : Int), 7] := (sees_row (c := cU8) (cap := 2) hr3 [wr .u8 (t : Int), 7] rfl rfl).old u4
    refine append_own (c := cSl) (new := [⟨some ⟨b, 0, none⟩, 2, 2⟩]) ((hs.old u3).old u4) ((ho.old u3).old u4) (sees_row hr4 _ rfl rfl) v4.size (by simp) (by decide) (by simp [hwl, hm]; omega) fun r w5 hr5 ho5 u5 n5 => ?_
    have z5 := u5.size
    have sB := ho.blk
    refine ⟨⟨t + 1, ms ++ [⟨some ⟨b, 0, none⟩, 2, 2⟩], wr_succ (by omega), by omega, v4.step0 u5 (fun x hx => (sB x hx).1), by simp [hm], by rw [← List.append_assoc]; exact hr5, ho5, fun i l b' e1 e2 => ((hr i l b' e1 e2).upd (u3.then u4) (by simp)).upd u5 (hf b' (List.mem_of_getElem? e2)).1, fun b' hb' => ⟨fun hmm => ?_, by have := (hf b' hb').2; omega⟩, fun i m e => ?_⟩, by rw [wr_succ (by omega)]; (try dsimp only); omega⟩
    · rcases n5 b' hmm with x | x
      · exact (hf b' hb').1 x
      · have := (hf b' hb').2; omega
    · rcases Nat.lt_or_ge i ms.length with c | c
      · rw [List.getElem?_append_left c] at e
        obtain ⟨q1, q2⟩ := hk i m e
        refine ⟨((q1.old u3).old u4).upd u5 (fun x hx => (q2 x hx).2.2.1), fun x hx => ⟨(q2 x hx).1, by have := (q2 x hx).2.1; omega, fun hmm => ?_, (q2 x hx).2.2.2⟩⟩
        rcases n5 x hmm with y | y
        · exact (q2 x hx).2.2.1 y
        · have := (q2 x hx).2.1; omega
      · rw [List.getElem?_append_right c] at e
        have hi : i = ms.length := by
          have := (List.getElem?_eq_some_iff.1 e).1
          simp at this; omega
        subst hi
        simp only [Nat.sub_self, List.getElem?_cons_zero, Option.some.injEq] at e
        subst e
        rw [hm]
        refine ⟨hmk.upd u5 (fun x hx hmm => by simp [Sl.blk] at hx; subst hx; have := (sB _ hmm).2; omega), fun x hx => ?_⟩
        simp [Sl.blk] at hx
        subst hx
        refine ⟨by omega, by omega, fun hmm => ?_, fun hmm => by have := (hf _ hmm).2; omega⟩
        rcases n5 _ hmm with y | y
        · have := (sB _ y).2; omega
        · omega
  · have : t = ls.length + 9 := by omega
    subst this
    have hsl := hs.len
    have hle := ho.le
    simp [hwl, hm] at hsl
    refine needIxLe (by omega) (by omega) ?_
    rw [Int.toNat_natCast, hpl]
    have es : s2.sub 1 0 ls.length s2.cap = inS s2 ls.length := by
      unfold Sl.sub
      split
      · omega
      · cases hp : s2.ptr with
        | none => simp [inS, hp]
        | some a => simp [inS, hp, add_zero]
    rw [es]
    exact k s2 bs ms w2 u2 ⟨hs, ho, hb, hm, hr, hk, hd, fun b hb' => (hf b hb').1⟩
end
end Go.Vc.S2
end

section
open Go Go.Vc Go.Proofs
set_option linter.unusedVariables false
set_option linter.unusedSimpArgs false
set_option autoImplicit false
namespace Go.Vc.S2
section
variable {N : Nat} {w w1 : World} {L : Sl} {ls : List (List Int)} {bs : List Nat} {ms : List Sl} {R : SV → World → Prop}
theorem Lw.len_ (h : Lw N w L ls bs ms) : L.len = 2 * ls.length + 9 := by
  rw [h.row.len, List.length_append, wSs_len h.len, h.ml]; omega
theorem sub_all {L : Sl} {n m : Nat} (h : L.len = m) (hm : L.len ≤ L.cap) (hp : L.ptr = none → L.cap = 0) : Sl.sub (inS L n) 1 0 m L.cap = L := by
  unfold Sl.sub
  subst h
  cases L with
  | mk p l c =>
    simp only [inS] at *
    split
    · simp
    · cases p with
      | none => simp
      | some a => simp [add_zero]
theorem Lw.part (h : Lw N w L ls bs ms) {i : Nat} (hi : i < ls.length) : ∃ b, bs[i]? = some b ∧ w.cell? (L.at 1 i) = some (wS b ls[i]).val ∧ Room N w b ls[i] := by
  have hb : i < bs.length := by rw [h.len]; exact hi
  refine ⟨bs[i], List.getElem?_eq_getElem hb, ?_, h.room i _ _ (List.getElem?_eq_getElem hi) (List.getElem?_eq_getElem hb)⟩
  have e := wSs_get (List.getElem?_eq_getElem hi) (List.getElem?_eq_getElem hb)
  obtain ⟨e1, e2⟩ := List.getElem?_eq_some_iff.1 e
  have hl : i < (wSs ls bs ++ ms).length := by rw [List.length_append]; omega
  have := h.row.elem hl 0 (by simp [cSl])
  rw [add_zero, List.getElem_append_left e1, e2] at this
  exact this
theorem at_in (L : Sl) (n i : Nat) : (inS L n).at 1 i = L.at 1 i := rfl
set_option maxRecDepth 10000 in
theorem c35T {p1 : Sl} {ss : List Sl} (h : Lw N w L ls bs ms) (hp : Parts w p1 ls ss) (hn : ls.length ≤ 40) (hl : ∀ l ∈ ls, l.length ≤ 1000000000) (k : ∀ w1, Upd [] [] w w1 → R (.bool true) w1) : Ret Try.prog 35 [.slice (inS L ls.length), .slice p1] w R := by
  refine f35_of _ _ _ _ ?_
  unfold vc35
  have hpl := hp.slen
  have hLl := h.len_
  have hle := h.own.le
  refine brf (by simp [hpl]) ?_
  refine ⟨fun i w' => Upd [] [] w w' ∧ ∃ t : Nat, i = t ∧ t ≤ ls.length, fun i _ => (ls.length - i).toNat, ⟨Upd.refl _, 0, rfl, by omega⟩, ?_⟩
  rintro i w1 ⟨u1, t, rfl, ht⟩
  have h1 := h.old u1
  have hp1 := hp.old u1
  have ps := h.row.isSome (by decide) (by rw [List.length_append, wSs_len h.len, h.ml]; omega)
  refine brd (fun hlt => ?_) (fun hge => ?_)
  · have hlt : (t : Int) < (ls.length : Int) := hlt
    have ht2 : t < ls.length := by omega
    obtain ⟨b, eb, c1, r1⟩ := h1.part ht2
    have hts : t < ss.length := by rw [hp.len]; exact ht2
    have c2 := hp1.row.elem (i := t) hts 0 (by simp [cSl])
    rw [add_zero] at c2
    refine needIx (by omega) hlt ps ⟨wS b ls[t], by rw [Int.toNat_natCast, at_in]; exact c1, needIx (by omega) (by omega) (hp1.row.isSome (by decide) (by omega)) ⟨_, by rw [Int.toNat_natCast]; exact c2, fun w2 u2 => ?_⟩⟩
    have hlt3 := hl _ (List.getElem_mem ht2)
    refine c47T (r1.sees.old u2) ((hp1.each t ht2).old u2) (by omega) fun w3 u3 => ⟨_, rfl, brf rfl ⟨⟨(u1.then u2).then u3, t + 1, wr_succ (by omega), by omega⟩, by rw [wr_succ (by omega)]; (try dsimp only); omega⟩⟩
  clear hge ht
  have e29 : wr .i64 (wr .i64 (2 * (p1.len : Int)) + 9) = ((2 * ls.length + 9 : Nat) : Int) := by rw [wr_i64 (x := 2 * (p1.len : Int)) (by omega) (by omega), wr_i64 (by omega) (by omega)]; omega
  have e9 : wr .i64 ((p1.len : Int) + 9) = ((ls.length + 9 : Nat) : Int) := by rw [wr_i64 (by omega) (by omega)]; omega
  rw [e29, e9, Int.toNat_natCast]
  have es : Sl.sub (inS L ls.length) 1 0 (2 * ls.length + 9) (inS L ls.length).cap = L := sub_all hLl hle h.own.nil
  rw [es]
  refine needIxLe (by omega) (by show ((2 * ls.length + 9 : Nat) : Int) ≤ (L.cap : Int); omega) ?_
  refine ⟨fun i w' => Upd [] [] w w' ∧ ∃ t : Nat, i = t ∧ t ≤ ls.length + 9, fun i _ => (ls.length + 9 - i).toNat, ⟨u1, 0, rfl, by omega⟩, ?_⟩
  rintro i w2 ⟨u2, q, rfl, hq⟩
  have h2 := h.old u2
  refine brd (fun hlt => ?_) (fun hge => k w2 u2)
  intro J hJ
  have hq2 : q < ms.length := by rw [h.ml]; omega
  have eq1 : wr .i64 ((p1.len : Int) + (q : Int)) = ((ls.length + q : Nat) : Int) := by rw [wr_i64 (by omega) (by omega)]; omega
  rw [eq1, Int.toNat_natCast]
  have hX : ls.length + q < (wSs ls bs ++ ms).length := by rw [List.length_append, wSs_len h.len]; omega
  have c1 := h2.row.elem hX 0 (by simp [cSl])
  have eX : (wSs ls bs ++ ms)[ls.length + q] = ms[q] := by
    rw [List.getElem_append_right (by rw [wSs_len h.len]; omega)]
    congr 1
    rw [wSs_len h.len]; omega
  rw [add_zero, eX] at c1
  obtain ⟨m1, m2⟩ := h2.mrk q _ (List.getElem?_eq_getElem hq2)
  have ml2 := m1.len
  simp only [List.length_cons, List.length_nil] at ml2
  refine needIx (by omega) (by omega) ps ⟨_, c1, brf (by simp [ml2]) (needC (by omega) (m1.isSome (by decide) (by simp)) ⟨_, byteC m1 0 (by simp), brf (by simp [bt]) (needC (by omega) (m1.isSome (by decide) (by simp)) ⟨_, byteC m1 1 (by simp), brf (by simp [bt]) ?_⟩)⟩)⟩
  exact hJ _ ⟨⟨u2, q + 1, wr_succ (by omega), by omega⟩, by rw [wr_succ (by omega)]; (try dsimp only); omega⟩
theorem wideL_set {l : List Int} {q : Nat} {v : Int} (h : q < l.length) : (wideL l).set q v = wideL (l.set q v) := by
  unfold wideL
  rw [List.set_append_left _ _ h, List.length_set]
/-- the caller changes his list -/
theorem c36 {t0 t1 t2 : Int} {t3 : Bool} (h : Lw N w L ls bs ms) (hn : ls.length ≤ 40) (hl : ∀ l ∈ ls, l.length ≤ 1000000000) (hb : ∀ l ∈ ls, Byt l) (h2 : 0 ≤ t2 ∧ t2 < 256) (hN : N ≤ w.heap.size)
    (k : ∀ ls' bs' w1, Upd (lwB L bs ms) [] w w1 → Lw N w1 L ls' bs' ms → ls'.length = ls.length → (∀ l ∈ ls', l.length ≤ 1000000000 ∧ Byt l) → R (.tuple []) w1) : Ret Try.prog 36 [.slice (inS L ls.length), .struct [.int .i64 t0, .int .i64 t1, .int .u8 t2, .bool t3]] w R := by
  refine f36_of _ _ _ _ _ _ _ ?_
  unfold vc36
  have hlt := h.lt
  have hlb : bs.length = ls.length := h.len
  have same : ∀ w1 ns, Upd [] ns w w1 → R (.tuple []) w1 := fun w1 ns u => k ls bs w1 (u.wide (by simp)) (h.old u) rfl (fun l hh => ⟨hl l hh, hb l hh⟩)
  intro b
  refine bre (fun h0 => fun w1 u1 => same w1 _ u1) (fun h0 => fun w1 u1 => ?_)
  have nb := u1.new (b := b) (by simp)
  have h0 : ls.length ≠ 0 := fun e => h0 (by show ((ls.length : Nat) : Int) = 0; omega)
  refine c48 (by show (0 : Int) < (ls.length : Int); omega) ⟨_, rfl, kp (Upd.refl _), ?_⟩
  have hpr := plc_r t0 (n := (ls.length : Int)) (by omega)
  show Br t3 _ _
  generalize plc t0 (ls.length : Int) = pi at hpr
  obtain ⟨i, rfl⟩ := Int.eq_ofNat_of_zero_le hpr.1
  have hi : i < ls.length := by omega
  have h1 := h.old u1
  have ps : (inS L ls.length).ptr.isSome = true := h.row.isSome (by decide) (by rw [List.length_append, wSs_len h.len, h.ml]; omega)
  obtain ⟨bi, ebi, ci, ri⟩ := h1.part hi
  have bn : ∀ x ∈ lwB L bs ms, x ∉ [b] := fun x hx hm => by rw [List.mem_singleton] at hm; have := hlt x hx; omega
  have LB : ∀ x ∈ L.blk, x ∈ lwB L bs ms := fun x hx => by simp [lwB, hx]
  have ix : ∀ (j : Nat) (X : Prop), j < ls.length → X → Need (decide (0 ≤ (j : Int)) && decide ((j : Int) < (((inS L ls.length).len : Nat) : Int)) && (inS L ls.length).ptr.isSome) X := fun j X hj x => needIx (by omega) (by show (j : Int) < (ls.length : Int); omega) ps x
  have hli := hl _ (List.getElem_mem hi)
  -- one byte is another
  have byte : Need (decide (0 ≤ (i : Int)) && decide ((i : Int) < (((inS L ls.length).len : Nat) : Int)) && (inS L ls.length).ptr.isSome) (∃ s : Sl, w1.cell? ((inS L ls.length).at 1 (Int.toNat (i : Int))) = some s.val ∧ Br (decide ((s.len : Int) > 0)) (Need (decide (0 ≤ (i : Int)) && decide ((i : Int) < (((inS L ls.length).len : Nat) : Int)) && (inS L ls.length).ptr.isSome) (∃ s : Sl, w1.cell? ((inS L ls.length).at 1 (Int.toNat (i : Int))) = some s.val ∧ Need (decide (0 ≤ (i : Int)) && decide ((i : Int) < (((inS L ls.length).len : Nat) : Int)) && (inS L ls.length).ptr.isSome) (∃ s_1 : Sl, w1.cell? ((inS L ls.length).at 1 (Int.toNat (i : Int))) = some s_1.val ∧ ∀ w2, Upd [] [] w1 w2 → Ret Try.prog 48 [.int .i64 t1, .int .i64 (s_1.len : Int)] w2 fun r w3 => ∃ n : Int, r = .int .i64 n ∧ Keeps [b] w2 w3 ∧ Upd [] [] w1 w3 ∧ Need (decide (0 ≤ n) && decide (n < (s.len : Int)) && s.ptr.isSome) (Store w3 (s.at 1 n.toNat) (SV.cells (.int .u8 t2)) [b] fun w4 => R (.tuple []) w4)))) (R (.tuple []) w1)) := by
    rw [Int.toNat_natCast]
    refine ix i _ hi ⟨wS bi ls[i], ci, brd (fun hpos => ?_) (fun _ => same w1 _ u1)⟩
    refine ix i _ hi ⟨wS bi ls[i], ci, ix i _ hi ⟨wS bi ls[i], ci, fun w2 u2 => ?_⟩⟩
    have hpos : (0 : Int) < (ls[i].length : Int) := hpos
    refine c48 hpos ⟨_, rfl, kp (Upd.refl _), u2, ?_⟩
    have hpq := plc_r t1 (n := (ls[i].length : Int)) hpos
    show Need (decide (0 ≤ plc t1 (ls[i].length : Int)) && decide (plc t1 (ls[i].length : Int) < (ls[i].length : Int)) && true) _
    generalize plc t1 (ls[i].length : Int) = pq at hpq
    obtain ⟨q, rfl⟩ := Int.eq_ofNat_of_zero_le hpq.1
    have hq : q < ls[i].length := by omega
    refine needIxT (by omega) (by omega) ?_
    rw [Int.toNat_natCast]
    have r2 := ri.upd u2 (by simp)
    have h2' := h1.old u2
    have bin : bi ∈ bs := List.mem_of_getElem? ebi
    refine own_set (c := cU8) (s := wideS bi (2 * ls[i].length + 70)) (i := q) (x := t2) r2.sees r2.own (by decide) (by rw [wideL_len]; omega) rfl (fun x hx hm => by simp [Sl.blk] at hx; subst hx; exact bn _ (by simp [lwB, bin]) hm) fun w3 hs3 ho3 u3 => ?_
    rw [wideL_set hq] at hs3
    have ub : ∀ x, x ∈ (wideS bi (2 * ls[i].length + 70)).blk ↔ x = bi := fun x => by simp [Sl.blk]
    have hLb : ∀ x ∈ L.blk, x ∉ (wideS bi (2 * ls[i].length + 70)).blk := fun x hx hm => h.off bi bin ((ub x).1 hm ▸ hx)
    have ewS : wSs (ls.set i (ls[i].set q t2)) bs = wSs ls bs := by
      refine List.ext_getElem? fun j => ?_
      unfold wSs
      rw [List.getElem?_zipWith, List.getElem?_zipWith]
      by_cases e : j = i
      · subst e
        rw [List.getElem?_set_self hi, List.getElem?_eq_getElem hi]
        cases bs[j]? <;> simp
      · rw [List.getElem?_set_ne (Ne.symm e)]
    refine k (ls.set i (ls[i].set q t2)) bs w3 (((u1.wide (m' := lwB L bs ms) (by simp)).step u2 (by simp)).step u3 (fun x hx => .inr (by rw [(ub x).1 hx]; simp [lwB, bin]))) ⟨?_, h2'.own.upd u3 hLb, by simp [hlb], by simp [h.ml], fun j l b' e1 e2 => ?_, fun j m e => ?_, h.dis, h.off⟩ (by simp) (fun l hl' => ?_)
    · rw [ewS]; exact h2'.row.upd u3 hLb
    · by_cases e : j = i
      · subst e
        rw [List.getElem?_set_self hi] at e1
        cases e1
        rw [ebi] at e2
        cases e2
        exact ⟨by rw [List.length_set]; exact hs3, by rw [List.length_set]; exact ho3⟩
      · rw [List.getElem?_set_ne (Ne.symm e)] at e1
        exact (h2'.room j l b' e1 e2).upd u3 (fun hm => e (h.dis j i b' e2 (by rw [(ub b').1 hm]; exact ebi)))
    · obtain ⟨m1, m2⟩ := h2'.mrk j m e
      refine ⟨m1.upd u3 (fun x hx hm => (m2 x hx).2.2.2 ((ub x).1 hm ▸ bin)), fun x hx => ⟨(m2 x hx).1, by have := (m2 x hx).2.1; have := u3.size; omega, (m2 x hx).2.2⟩⟩
    · rcases List.mem_or_eq_of_mem_set hl' with q' | rfl
      · exact ⟨hl l q', hb l q'⟩
      · exact ⟨by rw [List.length_set]; exact hli, (hb _ (List.getElem_mem hi)).set _ h2⟩
  have e1 : wr .i64 ((i : Int) + 1) = ((i + 1 : Nat) : Int) := wr_succ (by omega)
  rw [e1]
  refine brb (fun hsw => brd (fun hj => ?_) (fun _ => byte)) (fun _ => byte)
  -- two change places
  have hj : i + 1 < ls.length := by
    have : ((i + 1 : Nat) : Int) < (ls.length : Int) := hj
    omega
  obtain ⟨bj, ebj, cj, rj⟩ := h1.part hj
  rw [Int.toNat_natCast, Int.toNat_natCast]
  refine ix (i + 1) _ hj ⟨wS bj ls[i + 1], cj, ix i _ hi ⟨wS bi ls[i], ci, ix i _ hi fun w2 u2 => ?_⟩⟩
  have h2' := h1.old u2
  have hX : (wSs ls bs ++ ms).length = 2 * ls.length + 9 := by rw [List.length_append, wSs_len h.len, h.ml]; omega
  refine own_set (c := cSl) (s := L) (i := i) (x := wS bj ls[i + 1]) h2'.row h2'.own (by decide) (by omega) rfl (fun x hx => bn x (LB x hx)) fun w3 hs3 ho3 u3 => ?_
  refine ix (i + 1) _ hj ?_
  refine own_set (c := cSl) (s := L) (i := i + 1) (x := wS bi ls[i]) hs3 ho3 (by decide) (by rw [List.length_set]; omega) rfl (fun x hx => bn x (LB x hx)) fun w4 hs4 ho4 u4 => ?_
  have hbi : i < bs.length := by omega
  have hbj : i + 1 < bs.length := by omega
  have gi : bs[i] = bi := (List.getElem?_eq_some_iff.1 ebi).2
  have gj : bs[i + 1] = bj := (List.getElem?_eq_some_iff.1 ebj).2
  have get2 : ∀ {α : Type} {X : List α} {a b : α} (j : Nat), i + 1 < X.length → ((X.set i a).set (i + 1) b)[j]? = if j = i + 1 then some b else if j = i then some a else X[j]? := fun {α X a b} j hX => by
    by_cases e1 : j = i + 1
    · subst e1
      rw [if_pos rfl, List.getElem?_set_self (by simpa using hX)]
    · rw [if_neg e1, List.getElem?_set_ne (Ne.symm e1)]
      by_cases e2 : j = i
      · subst e2
        rw [if_pos rfl, List.getElem?_set_self (by omega)]
      · rw [if_neg e2, List.getElem?_set_ne (Ne.symm e2)]
  have erow : ((wSs ls bs ++ ms).set i (wS bj ls[i + 1])).set (i + 1) (wS bi ls[i]) = wSs ((ls.set i ls[i + 1]).set (i + 1) ls[i]) ((bs.set i bj).set (i + 1) bi) ++ ms := by
    have hwl := wSs_len h.len
    rw [List.set_append_left _ _ (by omega), List.set_append_left _ _ (by rw [List.length_set]; omega)]
    congr 1
    refine List.ext_getElem? fun j => ?_
    rw [get2 j (by omega)]
    unfold wSs
    simp only [List.getElem?_zipWith]
    rw [get2 j hj, get2 j hbj]
    by_cases e1 : j = i + 1
    · simp [e1]
    · by_cases e2 : j = i
      · simp [e2]
      · simp only [if_neg e1, if_neg e2, List.getElem?_zipWith]
  rw [erow] at hs4
  have lwm : ∀ x, x ∈ ((bs.set i bj).set (i + 1) bi) ↔ x ∈ bs := fun x => by
    constructor
    · intro hx
      rcases List.mem_or_eq_of_mem_set hx with q | rfl
      · rcases List.mem_or_eq_of_mem_set q with q | rfl
        · exact q
        · exact List.mem_of_getElem? ebj
      · exact List.mem_of_getElem? ebi
    · intro hx
      obtain ⟨j, hj', rfl⟩ := List.getElem_of_mem hx
      by_cases e1 : j = i + 1
      · subst e1
        refine List.mem_of_getElem? (i := i) ?_
        rw [get2 i hbj, if_neg (by omega), if_pos rfl, gj]
      · by_cases e2 : j = i
        · subst e2
          refine List.mem_of_getElem? (i := j + 1) ?_
          rw [get2 (j + 1) hbj, if_pos rfl, gi]
        · refine List.mem_of_getElem? (i := j) ?_
          rw [get2 j hbj, if_neg e1, if_neg e2, List.getElem?_eq_getElem hj']
  have u34 : Upd L.blk [] w2 w4 := (u3.step u4 (fun x hx => .inr hx))
  refine k _ ((bs.set i bj).set (i + 1) bi) w4 (((u1.wide (m' := lwB L bs ms) (by simp)).step u2 (by simp)).step u34 (fun x hx => .inr (LB x hx))) ⟨hs4, ho4, by simp [hlb], by simp [h.ml], fun j l b' f1 f2 => ?_, fun j m e => ?_, fun j j' b' f1 f2 => ?_, fun b' hb' => h.off b' ((lwm b').1 hb')⟩ (by simp) (fun l hl' => ?_)
  · rw [get2 j hj] at f1
    rw [get2 j hbj] at f2
    have off : ∀ y, y ∈ bs → y ∉ L.blk := fun y hy hm => h.off y hy hm
    by_cases e1 : j = i + 1
    · rw [if_pos e1] at f1 f2
      cases f1; cases f2
      exact (ri.upd u2 (by simp)).upd u34 (off _ (List.mem_of_getElem? ebi))
    · rw [if_neg e1] at f1 f2
      by_cases e2 : j = i
      · rw [if_pos e2] at f1 f2
        cases f1; cases f2
        exact (rj.upd u2 (by simp)).upd u34 (off _ (List.mem_of_getElem? ebj))
      · rw [if_neg e2] at f1 f2
        exact (h2'.room j l b' f1 f2).upd u34 (off _ (List.mem_of_getElem? f2))
  · obtain ⟨m1, m2⟩ := h2'.mrk j m e
    exact ⟨m1.upd u34 (fun x hx hm => (m2 x hx).2.2.1 hm), fun x hx => ⟨(m2 x hx).1, by have := (m2 x hx).2.1; have := u34.size; omega, (m2 x hx).2.2.1, fun hm => (m2 x hx).2.2.2 ((lwm x).1 hm)⟩⟩
  · have back : ∀ j, ((bs.set i bj).set (i + 1) bi)[j]? = some b' → ∃ j2, bs[j2]? = some b' ∧ ((j = i + 1 ∧ j2 = i) ∨ (j = i ∧ j2 = i + 1) ∨ (j ≠ i ∧ j ≠ i + 1 ∧ j2 = j)) := fun j f => by
      rw [get2 j hbj] at f
      by_cases e1 : j = i + 1
      · rw [if_pos e1] at f
        cases f
        exact ⟨i, ebi, .inl ⟨e1, rfl⟩⟩
      · rw [if_neg e1] at f
        by_cases e2 : j = i
        · rw [if_pos e2] at f
          cases f
          exact ⟨i + 1, ebj, .inr (.inl ⟨e2, rfl⟩)⟩
        · rw [if_neg e2] at f
          exact ⟨j, f, .inr (.inr ⟨e2, e1, rfl⟩)⟩
    obtain ⟨a1, g1, g2⟩ := back j f1
    obtain ⟨a2, g3, g4⟩ := back j' f2
    have := h.dis a1 a2 b' g1 g3
    omega
  · have hm : l ∈ ls := by
      rcases List.mem_or_eq_of_mem_set hl' with q | rfl
      · rcases List.mem_or_eq_of_mem_set q with q | rfl
        · exact q
        · exact List.getElem_mem hj
      · exact List.getElem_mem hi
    exact ⟨hl l hm, hb l hm⟩
end
end Go.Vc.S2
end
