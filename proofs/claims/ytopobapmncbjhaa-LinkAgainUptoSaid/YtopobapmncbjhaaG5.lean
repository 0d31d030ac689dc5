import Derived.Test.YtopobapmncbjhaaG4
import Derived.Test.YtopobapmncbjhaaG3
section
open Go Go.Vc Go.Proofs
set_option linter.unusedVariables false
set_option linter.unusedSimpArgs false
set_option autoImplicit false
namespace Go.Vc.S5

/-- are they the same bytes? -/
theorem cSame {a b : Sl} {la lb : List Int} {w : World} {R : SV → World → Prop} (ha : SeesB w a la) (hb : SeesB w b lb) (hn : la.length < 9223372036854775807)
    (k : ∀ w1, Upd [] [] w w1 → R (.bool (decide (la = lb))) w1) : Ret Try.prog 19 [.slice a, .slice b] w R := by
  refine f19_of _ _ _ _ ?_
  unfold vc19
  rw [ha.len, hb.len]
  refine bre' (fun h => ?_) (fun h => ?_)
  · rw [decide_eq_false (fun e => h (by rw [e]))] at k
    exact k _ (Upd.refl w)
  · have hlen : la.length = lb.length := by omega
    refine ⟨fun i w1 => Upd [] [] w w1 ∧ ∃ t : Nat, i = t ∧ t ≤ la.length ∧ la.take t = lb.take t, fun i _ => (la.length - i).toNat, ⟨Upd.refl w, 0, rfl, by omega, by simp⟩, ?_⟩
    rintro i w1 ⟨u, t, rfl, ht, he⟩
    have ha1 := ha.old u
    have hb1 := hb.old u
    refine brd (fun hlt => ?_) (fun hge => ?_)
    · refine needB' ha1 (by omega) hlt ⟨_, ha1.byte (by omega) hlt, ?_⟩
      refine needB' hb1 (by omega) (by omega) ⟨_, hb1.byte (by omega) (by omega), ?_⟩
      rw [bt_nat (by omega), bt_nat (by omega)]
      refine bre' (fun e w2 u2 => ?_) (fun e w2 u2 => ⟨⟨u.then u2, t + 1, ?_, by omega, ?_⟩, ?_⟩)
      · rw [decide_eq_false (fun e' => e (by simp [e']))] at k
        exact k _ (u.then u2)
      · rw [wr_i64 (by omega) (by omega)]; push_cast; rfl
      · rw [take_snoc (by omega), take_snoc (by omega), he, e]
      · rw [wr_i64 (by omega) (by omega)]; (try dsimp only); omega
    · have : t = la.length := by omega
      subst this
      rw [List.take_length, hlen, List.take_length] at he
      rw [decide_eq_true he] at k
      exact k _ u
/-- they are -/
theorem cSameT {a b : Sl} {l : List Int} {w : World} {R : SV → World → Prop} (ha : SeesB w a l) (hb : SeesB w b l) (hn : l.length < 9223372036854775807)
    (k : ∀ w1, Upd [] [] w w1 → R (.bool true) w1) : Ret Try.prog 19 [.slice a, .slice b] w R :=
  cSame ha hb hn fun w1 u => by rw [decide_eq_true rfl]; exact k w1 u
end Go.Vc.S5
end

section
open Go Go.Vc Go.Proofs
set_option linter.unusedVariables false
set_option linter.unusedSimpArgs false
set_option autoImplicit false
namespace Go.Vc.S5

theorem c17 {b : Sl} {l : List Int} {w : World} {R : SV → World → Prop} (h : SeesB w b l) (hl : l.length ≤ 70368744177664)
    (k : ∀ s w1, Upd [] [] w w1 → SeesB w1 s l → Own w.heap.size 1 w1 s → R (.slice s) w1) : Ret Try.prog 17 [.slice b] w R := by
  refine f17_of _ _ _ ?_
  unfold vc17
  refine append_own (c := cU8) (Sees.nil _ _ _ _) (Own.none w.heap.size _ _) h (by omega) (by simp) (by decide) (by simp; omega) fun r w1 hr ho u _ => ?_
  exact k r w1 u (by simpa using hr) ho
theorem c40 {b : Sl} {l : List Int} {w : World} {R : SV → World → Prop} (h : SeesB w b l) (hl : l.length ≤ 70368744177664)
    (k : ∀ s w1, Upd [] [] w w1 → SeesB w1 s l → Own w.heap.size 1 w1 s → R (.slice s) w1) : Ret Try.prog 40 [.slice b] w R := by
  refine f40_of _ _ _ ?_
  unfold vc40
  refine brb (fun hn => ?_) (fun hn => ?_)
  · have hp : b.ptr = none := by simpa using hn
    have : l = [] := by
      cases l with
      | nil => rfl
      | cons x r => obtain ⟨a, ha⟩ := h.ptr_some (by decide) (by simp); rw [hp] at ha; cases ha
    subst this
    exact k _ _ (Upd.refl w) (Sees.nil _ _ _ _) (Own.none _ _ _)
  · intro b1 w1 u1 hrow
    have hb1 := u1.new (b := b1) (by simp)
    refine append_own (c := cU8) (N := w.heap.size) (rowB (n := 0) (cap := 0) hrow [] rfl rfl) (own_row hrow hb1.1 rfl (Nat.le_refl _)) (h.old u1) u1.size (by simp) (by decide) (by simp; omega) fun r w2 hr ho u _ => ?_
    exact k r w2 (u1.forget.step0 u (fun x hx => by simp [Sl.blk] at hx; subst hx; exact hb1.1)) (by simpa using hr) ho
theorem c41 {b : Sl} {l : List Int} {lo hi : Int} {w : World} {R : SV → World → Prop} (h : SeesB w b l) (h0 : 0 ≤ lo) (hi1 : hi ≤ l.length) (hl : l.length ≤ 70368744177664)
    (k : ∀ s w1, Upd [] [] w w1 → SeesB w1 s ((l.take hi.toNat).drop lo.toNat) → Own w.heap.size 1 w1 s → R (.slice s) w1) : Ret Try.prog 41 [.slice b, .int .i64 lo, .int .i64 hi] w R := by
  refine f41_of _ _ _ _ _ ?_
  unfold vc41
  refine ⟨fun s i w1 => Upd [] [] w w1 ∧ Own w.heap.size 1 w1 s ∧ ∃ t : Nat, i = lo + t ∧ (t = 0 ∨ lo + t ≤ hi) ∧ SeesB w1 s ((l.drop lo.toNat).take t), fun _ i _ => (hi - i).toNat, ⟨Upd.refl w, Own.none _ _ _, 0, by simp, .inl rfl, Sees.nil _ _ _ _⟩, ?_⟩
  rintro s i w1 ⟨u, o, t, rfl, ht, hs⟩
  have h1 := h.old u
  have hlen := h.len
  refine brd (fun hlt => ?_) (fun hge => ?_)
  · refine needB h1 (by omega) (by omega) ⟨_, h1.byte (by omega) (by omega), ?_⟩
    intro b2 w2 u2 hrow
    have o2 := o.old u2
    have v2 := u.then u2
    refine append_own (c := cU8) (new := [_]) (hs.old u2) o2 (rowB hrow [_] rfl rfl) v2.size (by simp) (by decide) (by simp; omega) fun r w3 hr ho u3 _ => ?_
    have e : (l.drop lo.toNat).take t ++ [bt l (lo + t)] = (l.drop lo.toNat).take (t + 1) := by
      rw [take_snoc (show t < (l.drop lo.toNat).length by simp; omega), bt_int (by omega) (by omega)]
      simp only [List.getElem_drop]
      congr 3
      omega
    rw [e] at hr
    exact ⟨⟨v2.step0 u3 (fun x hx => (o2.blk x hx).1), ho, t + 1, by rw [wr_i64 (by omega) (by omega)]; omega, .inr (by omega), hr⟩, by rw [wr_i64 (by omega) (by omega)]; (try dsimp only); omega⟩
  · refine k s w1 u ?_ o
    have e : (l.take hi.toNat).drop lo.toNat = (l.drop lo.toNat).take t := by
      rw [List.drop_take]
      rcases ht with rfl | ht
      · rw [show hi.toNat - lo.toNat = 0 by omega]
      · congr 1; omega
    rw [e]; exact hs

/-- zeros behind, up to 60 bytes -/
def padOf (l : List Int) : List Int := l ++ List.replicate (60 - l.length) 0
theorem c13 {b : Sl} {l : List Int} {w : World} {R : SV → World → Prop} (h : SeesB w b l) (hl : l.length ≤ 70368744177000)
    (k : ∀ s w1, Upd [] [] w w1 → SeesB w1 s (padOf l) → Own w.heap.size 1 w1 s → R (.slice s) w1) : Ret Try.prog 13 [.slice b] w R := by
  refine f13_of _ _ _ ?_
  unfold vc13
  have hlen := h.len
  have hm : imax 0 (wr .i64 (60 - (b.len : Int))) = ((60 - l.length : Nat) : Int) := by
    rw [wr_i64 (by omega) (by omega)]
    unfold imax
    split <;> omega
  rw [hm]
  refine c40 h (by omega) fun s w1 u1 hs ho => ⟨_, rfl, need (by simp; omega) ?_⟩
  rw [Int.toNat_natCast, zeros_cells]
  refine appendN_own (c := cU8) hs ho u1.size (by simp) (by simp) (by decide) (by simp; omega) fun r w2 hr ho2 u2 _ => ?_
  exact k r w2 (u1.step0 u2 (fun x hx => (ho.blk x hx).1)) hr ho2
theorem c18 {b : Sl} {l : List Int} {w : World} {R : SV → World → Prop} (h : SeesB w b l) (hl : l.length ≤ 70368744177000)
    (k : ∀ s w1, Upd [] [] w w1 → SeesB w1 s (padOf l) → Own w.heap.size 1 w1 s → R (.slice s) w1) : Ret Try.prog 18 [.slice b] w R := by
  refine f18_of _ _ _ ?_
  unfold vc18
  rw [h.len]
  refine c41 h (by omega) (Int.le_refl _) (by omega) fun s w1 u1 hs ho => ⟨_, rfl, ?_⟩
  rw [Int.toNat_natCast, List.take_length] at hs
  refine ⟨fun s w2 => Upd [] [] w w2 ∧ Own w.heap.size 1 w2 s ∧ ∃ t : Nat, (t = 0 ∨ l.length + t ≤ 60) ∧ SeesB w2 s (l ++ List.replicate t 0), fun s _ => 60 - s.len, ⟨u1, ho, 0, .inl rfl, by simpa using hs⟩, ?_⟩
  rintro s w2 ⟨u, o, t, ht, hs2⟩
  have hsl := hs2.len
  simp at hsl
  refine brd (fun hlt => ?_) (fun hge => ?_)
  · intro b3 w3 u3 hrow
    have o3 := o.old u3
    have v3 := u.then u3
    refine append_own (c := cU8) (new := [0]) (hs2.old u3) o3 (rowB hrow [0] rfl rfl) v3.size (by simp) (by decide) (by simp; omega) fun r w4 hr ho4 u4 _ => ?_
    have hrl := hr.len
    simp at hrl
    refine ⟨⟨v3.step0 u4 (fun x hx => (o3.blk x hx).1), ho4, t + 1, .inr (by omega), ?_⟩, by (try dsimp only); omega⟩
    rw [List.replicate_succ', ← List.append_assoc]
    exact hr
  · refine k s w2 u ?_ o
    unfold padOf
    have : 60 - l.length = t := by omega
    rw [this]; exact hs2

/-- is it a group's address? -/
def grp (m : Nat → Int) : Bool := m 0 % 2 == 1
theorem c14 {m : Nat → Int} {w : World} {R : SV → World → Prop} (hm : 0 ≤ m 0 ∧ m 0 < 256) (k : ∀ w1, Upd [] [] w w1 → R (.bool (grp m)) w1) : Ret Try.prog 14 [.arr .u8 6 m] w R := by
  refine f14_of _ _ _ ?_
  unfold vc14
  intro b w1 u
  have e : iand .u8 (m 0) 1 = m 0 % 2 := by
    rw [iand_u8 hm.1 hm.2 (by omega) (by omega)]
    have : (m 0).toNat &&& (1 : Int).toNat = (m 0).toNat % 2 := Nat.and_one_is_mod _
    rw [this]; omega
  rw [e]
  exact k w1 u.forget
theorem c15 {m : Nat → Int} {w : World} {R : SV → World → Prop} (hm : 0 ≤ m 0 ∧ m 0 < 256) (k : ∀ w1, Upd [] [] w w1 → R (.bool (grp m)) w1) : Ret Try.prog 15 [.arr .u8 6 m] w R := by
  refine f15_of _ _ _ ?_
  unfold vc15
  intro b w1 u
  rw [tmod_pos hm.1]
  exact k w1 u.forget

/-- the bytes in new memory, marks behind them -/
def cutOf (l : List Int) : List Int := l.take 70000
theorem c16 {b : Sl} {l : List Int} {w : World} {R : SV → World → Prop} (h : SeesB w b l) (hc : b.len ≤ b.cap)
    (k : ∀ r w1, Upd [] [] w w1 → SeesB w1 r (cutOf l ++ [201, 202, 203, 204, 205]) → Own w.heap.size 1 w1 r → R (.tuple [.slice (r.sub 1 0 (cutOf l).length r.cap), .slice r]) w1) : Ret Try.prog 16 [.slice b] w R := by
  refine f16_of _ _ _ ?_
  unfold vc16
  have hlen := h.len
  intro J hJ
  have main : ∀ s, SeesB w s (cutOf l) → J s w := by
    intro s hs
    refine hJ s w ?_
    have hle : (cutOf l).length ≤ 70000 := by simp [cutOf]; omega
    refine append_own (c := cU8) (Sees.nil _ _ _ _) (Own.none w.heap.size _ _) hs (by omega) (by simp) (by decide) (by simp; omega) fun r w1 hr ho u _ => ?_
    have u' : Upd [] [] w w1 := u
    intro b2 w2 u2 hrow
    refine append_own (c := cU8) (new := [201, 202, 203, 204, 205]) (hr.old u2) (ho.old u2) (rowB hrow _ rfl rfl) (u'.then u2).size (by simp) (by decide) (by simp; omega) fun r2 w3 hr3 ho3 u3 _ => ?_
    have hsl := hs.len
    have hrl := hr3.len
    have hle3 := ho3.le
    simp at hrl
    refine needIxLe (by omega) (by omega) ?_
    rw [Int.toNat_natCast, hsl]
    exact k r2 w3 ((u'.then u2).step0 u3 (fun x hx => ((ho.old u2).blk x hx).1)) (by simpa using hr3) ho3
  refine brd (fun hgt => ?_) (fun hle => ?_)
  · refine needD (by omega) (main _ ?_)
    have := h.subB (lo := 0) (hi := 70000) (mx := b.cap) (by omega) (by omega) (by omega)
    simpa [cutOf] using this
  · have : cutOf l = l := List.take_of_length_le (by omega)
    exact main b (by rw [this]; exact h)
theorem cut_len (l : List Int) : (cutOf l).length ≤ 70000 := by simp [cutOf]; omega
theorem cut_byt {l : List Int} (h : Byt l) : Byt (cutOf l) := h.take _
/-- the first part of what laid made -/
theorem laid_in {N : Nat} {w : World} {r : Sl} {l : List Int} (h : SeesB w r (cutOf l ++ [201, 202, 203, 204, 205])) (o : Own N 1 w r) : SeesB w (r.sub 1 0 (cutOf l).length r.cap) (cutOf l) := by
  have hl := h.len
  have hc := o.le
  simp at hl
  have := h.subB (lo := 0) (hi := (cutOf l).length) (mx := r.cap) (by omega) (by simp) (by omega)
  simpa using this
end Go.Vc.S5
end

section
namespace Go.Vc
set_option linter.unusedVariables false
set_option linter.unusedSimpArgs false
set_option autoImplicit false
theorem needC {i n : Int} {o : Option Addr} {X : Prop} (h1 : i < n) (h2 : o.isSome = true) (x : X) : Need (decide (i < n) && o.isSome) X := need (by simp [h1, h2]) x
theorem needIxT {i n : Int} {X : Prop} (h0 : 0 ≤ i) (h1 : i < n) (x : X) : Need (decide (0 ≤ i) && decide (i < n) && true) X := need (by simp [h0, h1]) x
theorem byteC {w : World} {s : Sl} {l : List Int} (h : SeesB w s l) (i : Nat) (hi : i < l.length) : w.cell? (s.at 1 i) = some (.int .u8 (bt l i)) := by
  have := h.byte (i := (i : Int)) (by omega) (by omega)
  rwa [Int.toNat_natCast] at this
/-- a byte at a place that is written as a number -/
theorem needCB {w : World} {s : Sl} {l : List Int} (h : SeesB w s l) (i : Nat) {X : Prop} (hi : i < l.length) (x : X) : Need (decide ((i : Int) < (s.len : Int)) && s.ptr.isSome) X :=
  needC (by rw [h.len]; omega) (h.isSome (by decide) (by omega)) x
theorem flat1 {α : Type} (l : List α) : [l].flatten = l := by simp
theorem kp {bs : List Nat} {w w1 : World} {n : List Nat} (u : Upd [] n w w1) : Keeps bs w w1 := .inl u.forget
/-- blocks that stood, kept -/
theorem kpm {bs m n : List Nat} {w w1 : World} (u : Upd m n w w1) (h : ∀ b ∈ bs, b < w.heap.size) (hd : ∀ b ∈ bs, b ∉ m) : Keeps bs w w1 := .inr fun b hb => u.keep b (h b hb) (hd b hb)
theorem Own.blk_lt {N sz : Nat} {w : World} {s : Sl} (h : Own N sz w s) : ∀ b ∈ s.blk, b < w.heap.size := fun b hb => (h.blk b hb).2
theorem rep_add (n m : Nat) (v : Int) : List.replicate n v ++ List.replicate m v = List.replicate (n + m) v := List.replicate_append_replicate
end Go.Vc
end

section
open Go Go.Vc Go.Proofs
set_option linter.unusedVariables false
set_option linter.unusedSimpArgs false
set_option autoImplicit false
namespace Go.Vc.S5

structure Tag where
  tpid : Int
  pcp : Int
  dei : Bool
  vid : Int
  deriving DecidableEq
def cTag : Cod Tag := ⟨4, fun t => [.int .i64 t.tpid, .int .i64 t.pcp, .bool t.dei, .int .i64 t.vid], fun _ => rfl, by simp [Value.oneCell']⟩

/-- a tag's cells -/
theorem tag_cells {w : World} {s : Sl} {l : List Tag} (h : Sees cTag w s l) {i : Int} (h0 : 0 ≤ i) (hi : i < l.length) :
    w.cell? (s.at 4 i.toNat) = some (.int .i64 (l[i.toNat]'(by omega)).tpid) ∧ w.cell? ((s.at 4 i.toNat).add 1) = some (.int .i64 (l[i.toNat]'(by omega)).pcp) ∧
    w.cell? ((s.at 4 i.toNat).add 2) = some (.bool (l[i.toNat]'(by omega)).dei) ∧ w.cell? ((s.at 4 i.toNat).add 3) = some (.int .i64 (l[i.toNat]'(by omega)).vid) := by
  have he := h.elem (i := i.toNat) (by omega)
  have h1 := he 0 (by simp [cTag])
  have h2 := he 1 (by simp [cTag])
  have h3 := he 2 (by simp [cTag])
  have h4 := he 3 (by simp [cTag])
  rw [add_zero] at h1
  exact ⟨h1, h2, h3, h4⟩
theorem needT {X : Prop} {w : World} {s : Sl} {l : List Tag} (h : Sees cTag w s l) {i : Int} (h0 : 0 ≤ i) (h1 : i < l.length) (x : X) : Need (decide (0 ≤ i) && decide (i < (s.len : Int)) && s.ptr.isSome) X :=
  needIx h0 (by rw [h.len]; exact h1) (h.isSome (by decide) (by omega)) x

def isTagN (n : Int) : Bool := n == 33024 || n == 34984
theorem c51 {n : Int} {w : World} {R : SV → World → Prop} (k : R (.bool (isTagN n)) w) : Ret Try.prog 51 [.int .i64 n] w R := by
  refine f51_of _ _ _ ?_
  unfold vc51
  unfold isTagN at k
  refine bre (fun h => ?_) (fun h => ?_)
  · subst h; exact k
  · have : (n == 33024) = false := by simp [h]
    rw [this] at k; exact k

/-- a number of two bytes -/
def w16 (l : List Int) (i : Int) : Int := bt l i * 256 + bt l (i + 1)
theorem w16_r {l : List Int} (h : Byt l) (i : Int) : 0 ≤ w16 l i ∧ w16 l i ≤ 65535 := by
  have := h.bt i
  have := h.bt (i + 1)
  unfold w16; omega
theorem c46 {b : Sl} {l : List Int} {i : Int} {w : World} {R : SV → World → Prop} (h : SeesB w b l) (hb : Byt l) (h0 : 0 ≤ i) (hi : i + 1 < l.length) (hl : l.length < 9223372036854775807) (k : ∀ w1, Upd [] [] w w1 → R (.int .i64 (w16 l i)) w1) : Ret Try.prog 46 [.slice b, .int .i64 i] w R := by
  refine f46_of _ _ _ _ ?_
  unfold vc46
  have h1 := hb.bt i
  have h2 := hb.bt (i + 1)
  refine needB h h0 (by omega) ⟨_, h.byte h0 (by omega), ?_⟩
  rw [wr_i64 (x := i + 1) (by omega) (by omega)]
  refine needB h (by omega) (by omega) ⟨_, h.byte (by omega) (by omega), fun w1 u => ?_⟩
  rw [wr_i64 (x := bt l i) (by omega) (by omega), wr_i64 (x := bt l (i + 1)) (by omega) (by omega), wr_i64 (x := bt l i * 256) (by omega) (by omega), wr_i64 (by omega) (by omega)]
  exact k w1 u
theorem c50 {b : Sl} {l : List Int} {i : Int} {w : World} {R : SV → World → Prop} (h : SeesB w b l) (hb : Byt l) (h0 : 0 ≤ i) (hi : i + 1 < l.length) (hl : l.length < 9223372036854775807) (k : ∀ w1, Upd [] [] w w1 → R (.int .i64 (w16 l i)) w1) : Ret Try.prog 50 [.slice b, .int .i64 i] w R := by
  refine f50_of _ _ _ _ ?_
  unfold vc50
  have h1 := hb.bt i
  have h2 := hb.bt (i + 1)
  refine needB h h0 (by omega) ⟨_, h.byte h0 (by omega), ?_⟩
  rw [wr_i64 (x := i + 1) (by omega) (by omega)]
  refine needB h (by omega) (by omega) ⟨_, h.byte (by omega) (by omega), fun w1 u => ?_⟩
  rw [wr_i64 (x := bt l i) (by omega) (by omega), wr_i64 (x := bt l (i + 1)) (by omega) (by omega), gshl8, wr_i64 (x := bt l i * 256) (by omega) (by omega), ior_add 8 (by omega) (by omega) (by omega) (by omega) (by omega) (by omega)]
  exact k w1 u
/-- a number of two bytes, written -/
def two (n : Int) : List Int := [n / 256 % 256, n % 256]
theorem two_byt (n : Int) : Byt (two n) := by simp [Byt, two]; omega
theorem c44 {N : Nat} {b : Sl} {l : List Int} {n : Int} {w : World} {R : SV → World → Prop} (h : SeesB w b l) (o : Own N 1 w b) (hN : N ≤ w.heap.size) (hl : l.length ≤ 70368744177000)
    (k : ∀ r w1, Upd b.blk [] w w1 → SeesB w1 r (l ++ two n) → Own N 1 w1 r → (∀ x ∈ r.blk, x ∈ b.blk ∨ w.heap.size ≤ x) → R (.slice r) w1) : Ret Try.prog 44 [.slice b, .int .i64 n] w R := by
  refine f44_of _ _ _ _ ?_
  unfold vc44
  intro b1 w1 u1 hrow
  refine append_own (c := cU8) (new := two n) (h.old u1) (o.old u1) (rowB hrow _ (by rw [gshr8, wr_u8, wr_u8]; rfl) rfl) (by have := u1.size; omega) (by simp) (by decide) (by simp [two]; omega) fun r w2 hr ho u2 hn => ?_
  exact k r w2 ((u1.wide (m' := b.blk) (by simp)).step u2 (fun x hx => .inr hx)) hr ho (fun x hx => (hn x hx).imp id (fun h => Nat.le_trans u1.size h))
theorem c53 {n : Int} {w : World} {R : SV → World → Prop} (h : 0 ≤ n ∧ n ≤ 65535) (k : ∀ s w1, Upd [] [] w w1 → SeesB w1 s (two n) → R (.slice s) w1) : Ret Try.prog 53 [.int .i64 n] w R := by
  refine f53_of _ _ _ ?_
  unfold vc53
  intro b1 w1 u1 hrow
  have e1 : wr .u8 (wr .i64 (Int.tdiv n 256)) = n / 256 % 256 := by rw [tdiv_pos h.1, wr_i64 (by omega) (by omega), wr_u8]
  have e2 : wr .u8 (Int.tmod n 256) = n % 256 := by rw [tmod_pos h.1, wr_u8]; omega
  rw [e1, e2] at hrow
  exact k _ w1 u1.forget (rowB hrow (two n) rfl rfl)

/-- the tags' numbers; their values -/
def tagsT (l : List Tag) : Prop := ∀ i (h : i < l.length), l[i].tpid = 33024 ∨ (i = 0 ∧ l[i].tpid = 34984)
def tagV (t : Tag) : Prop := 0 ≤ t.pcp ∧ t.pcp ≤ 7 ∧ 0 ≤ t.vid ∧ t.vid ≤ 4094
open Classical in
/-- may these values be a frame? -/
noncomputable def chk (src0 : Int) (tags : List Tag) (type : Int) (n : Nat) : Int :=
  if src0 % 2 = 1 then 54 else if 2 < tags.length then 51 else if ¬ tagsT tags then 51 else if ¬ ∀ t ∈ tags, tagV t then 52
  else if type < 1536 ∨ 65535 < type ∨ isTagN type = true then 53 else if 65535 < 14 + 4 * tags.length + n then 2 else 0

section
variable {dst src : Nat → Int} {ts ds : Sl} {tags : List Tag} {type : Int} {data : List Int} {w : World} {R : SV → World → Prop}

theorem c60 (h : Sees cTag w ts tags) (k : R (.int .i64 (if 2 < tags.length then 51 else open Classical in if tagsT tags then 0 else 51)) w) : Ret Try.prog 60 [.slice ts] w R := by
  refine f60_of _ _ _ ?_
  unfold vc60
  have hl := h.len
  refine brd (fun hgt => ?_) (fun hle => ?_)
  · rw [if_pos (by omega)] at k; exact k
  · rw [if_neg (by omega)] at k
    refine ⟨fun i w1 => w1 = w ∧ ∃ t : Nat, i = t ∧ t ≤ tags.length ∧ ∀ j (hj : j < tags.length), j < t → (tags[j].tpid = 33024 ∨ (j = 0 ∧ tags[j].tpid = 34984)), fun i _ => (tags.length - i).toNat, ⟨rfl, 0, rfl, by omega, fun j _ hj => by omega⟩, ?_⟩
    rintro i w1 ⟨rfl, t, rfl, ht, hj⟩
    refine brd (fun hlt => ?_) (fun hge => ?_)
    · have ht2 : t < tags.length := by omega
      have hc := tag_cells h (i := (t : Int)) (by omega) (by omega)
      simp only [Int.toNat_natCast] at hc
      intro J hJ
      have bad : (¬ (tags[t].tpid = 33024 ∨ (t = 0 ∧ tags[t].tpid = 34984))) → R (.int .i64 51) w1 := fun hb => by
        rw [if_neg (fun hT => hb (hT t ht2))] at k; exact k
      have good : (tags[t].tpid = 33024 ∨ (t = 0 ∧ tags[t].tpid = 34984)) → J w1 := fun hg => hJ _ ⟨⟨rfl, t + 1, wr_succ (by omega), by omega, fun j hj2 hjt => by
        by_cases e : j = t
        · subst e; exact hg
        · exact hj j hj2 (by omega)⟩, by rw [wr_succ (by omega)]; (try dsimp only); omega⟩
      refine needT h (by omega) (by omega) ⟨_, (by rw [Int.toNat_natCast]; exact hc.1), bre' (fun h1 => ?_) (fun h1 => good (.inl h1))⟩
      refine needT h (by omega) (by omega) ⟨_, (by rw [Int.toNat_natCast]; exact hc.1), bre' (fun h2 => bad (by omega)) (fun h2 => brd (fun h3 => bad (by omega)) (fun h3 => good (.inr ⟨by omega, h2⟩)))⟩
    · rw [if_pos (show tagsT tags from fun j hj2 => hj j hj2 (by omega))] at k
      exact k

theorem c52 (h : Sees cTag w ts tags) (hd : ds.len = data.length) (hs : 0 ≤ src 0 ∧ src 0 < 256) (hl : data.length ≤ 140737488355328) (k : ∀ w1, Upd [] [] w w1 → R (.int .i64 (chk (src 0) tags type data.length)) w1) :
    Ret Try.prog 52 [.struct [.arr .u8 6 dst, .arr .u8 6 src, .slice ts, .int .i64 type, .slice ds]] w R := by
  refine f52_of _ _ _ _ _ _ _ ?_
  unfold vc52
  intro b w1 u1
  have k1 : ∀ e w2, Upd [] [] w w2 → chk (src 0) tags type data.length = e → R (.int .i64 e) w2 := fun e w2 u he => he ▸ k w2 u
  refine c15 hs fun w2 u2 => ⟨_, rfl, kp u2, ?_⟩
  have v2 := u1.then u2
  unfold chk at k1
  refine brb (fun hg => k1 _ _ v2 (by rw [if_pos (by unfold grp at hg; simpa using hg)])) (fun hg => ?_)
  rw [if_neg (by unfold grp at hg; simpa using hg)] at k1
  refine c60 (h.old v2) ⟨_, rfl, .inl (Upd.refl _), ?_⟩
  by_cases h2 : 2 < tags.length
  · rw [if_pos h2] at k1 ⊢
    exact brt (by decide) (k1 _ _ v2 rfl)
  rw [if_neg h2] at k1 ⊢
  by_cases hT : tagsT tags
  · rw [if_pos hT]
    rw [if_neg (by simpa using hT)] at k1
    refine brf (by decide) ?_
    have h' := h.old v2
    have hlen := h.len
    refine ⟨fun i w3 => Upd [] [] w w3 ∧ ∃ t : Nat, i = t ∧ t ≤ tags.length ∧ ∀ j (hj : j < tags.length), j < t → tagV tags[j], fun i _ => (tags.length - i).toNat, ⟨v2, 0, rfl, by omega, fun j _ hj => by omega⟩, ?_⟩
    rintro i w3 ⟨u3, t, rfl, ht, hj⟩
    have h3 := h.old u3
    refine brd (fun hlt => ?_) (fun hge => ?_)
    · have ht2 : t < tags.length := by omega
      have hc := tag_cells h3 (i := (t : Int)) (by omega) (by omega)
      simp only [Int.toNat_natCast] at hc
      intro J hJ
      refine needT h3 (by omega) (by omega) ⟨_, (by rw [Int.toNat_natCast]; exact hc.1), _, (by rw [Int.toNat_natCast]; exact hc.2.1), _, (by rw [Int.toNat_natCast]; exact hc.2.2.1), _, (by rw [Int.toNat_natCast]; exact hc.2.2.2), ?_⟩
      intro b4
      have bad : ¬ tagV tags[t] → ∀ w4, Upd [] [b4] w3 w4 → R (.int .i64 52) w4 := fun hb w4 u4 => k1 _ _ (u3.then u4) (by
        rw [if_pos]
        intro hh
        exact hb (hh _ (List.getElem_mem _)))
      refine brd (fun g => bad (by unfold tagV; omega)) (fun g1 => brd (fun g => bad (by unfold tagV; omega)) (fun g2 => brd (fun g => bad (by unfold tagV; omega)) (fun g3 => brd (fun g => bad (by unfold tagV; omega)) (fun g4 w4 u4 => ⟨rfl, hJ _ ⟨rfl, ⟨u3.then u4, t + 1, wr_succ (by omega), by omega, fun j hj2 hjt => ?_⟩, by rw [wr_succ (by omega)]; (try dsimp only); omega⟩⟩))))
      by_cases e : j = t
      · subst e; unfold tagV; omega
      · exact hj j hj2 (by omega)
    · have hV : ∀ t ∈ tags, tagV t := fun x hx => by
        obtain ⟨j, hj2, rfl⟩ := List.getElem_of_mem hx
        exact hj j hj2 (by omega)
      rw [if_neg (by simpa using hV)] at k1
      intro J hJ
      have bad : (type < 1536 ∨ 65535 < type ∨ isTagN type = true) → R (.int .i64 53) w3 := fun hb => k1 _ _ u3 (by rw [if_pos hb])
      refine brd (fun g => bad (.inl g)) (fun g1 => brd (fun g => bad (.inr (.inl g))) (fun g2 => bre (fun g => bad (.inr (.inr (by unfold isTagN; simp [g])))) (fun g3 => bre (fun g => bad (.inr (.inr (by unfold isTagN; simp [g])))) (fun g4 => ⟨rfl, hJ _ ?_⟩))))
      rw [if_neg (by unfold isTagN; simp [g3, g4]; omega)] at k1
      rw [hlen, wr_i64 (x := 4 * (tags.length : Int)) (by omega) (by omega), wr_i64 (by omega) (by omega), hd]
      refine brd (fun g => k1 _ _ u3 (by rw [if_pos (by omega)])) (fun g => k1 _ _ u3 (by rw [if_neg (by omega)]))
  · rw [if_neg hT]
    rw [if_pos hT] at k1
    exact brt (by decide) (k1 _ _ v2 rfl)

theorem c30 (h : Sees cTag w ts tags) (hd : ds.len = data.length) (hs : 0 ≤ src 0 ∧ src 0 < 256) (hl : data.length ≤ 140737488355328) (k : ∀ w1, Upd [] [] w w1 → R (.int .i64 (chk (src 0) tags type data.length)) w1) :
    Ret Try.prog 30 [.struct [.arr .u8 6 dst, .arr .u8 6 src, .slice ts, .int .i64 type, .slice ds]] w R := by
  refine f30_of _ _ _ _ _ _ _ ?_
  unfold vc30
  intro b w1 u1
  have k1 : ∀ e w2, Upd [] [] w w2 → chk (src 0) tags type data.length = e → R (.int .i64 e) w2 := fun e w2 u he => he ▸ k w2 u
  refine c14 hs fun w2 u2 => ⟨_, rfl, kp u2, ?_⟩
  have v2 := u1.then u2
  have hlen := h.len
  unfold chk at k1
  refine brb (fun hg => k1 _ _ v2 (by rw [if_pos (by unfold grp at hg; simpa using hg)])) (fun hg => ?_)
  rw [if_neg (by unfold grp at hg; simpa using hg)] at k1
  refine brd (fun h2 => k1 _ _ v2 (by rw [if_pos (by omega)])) (fun h2 => ?_)
  rw [if_neg (by omega)] at k1
  refine ⟨fun i w3 => Upd [] [] w w3 ∧ ∃ t : Nat, i = t ∧ t ≤ tags.length ∧ ∀ j (hj : j < tags.length), j < t → (tags[j].tpid = 33024 ∨ (j = 0 ∧ tags[j].tpid = 34984)), fun i _ => (tags.length - i).toNat, ⟨v2, 0, rfl, by omega, fun j _ hj => by omega⟩, ?_⟩
  rintro i w3 ⟨u3, t, rfl, ht, hj⟩
  have h3 := h.old u3
  refine brd (fun hlt => ?_) (fun hge => ?_)
  · have ht2 : t < tags.length := by omega
    have hc := tag_cells h3 (i := (t : Int)) (by omega) (by omega)
    simp only [Int.toNat_natCast] at hc
    refine needT h3 (by omega) (by omega) ⟨_, (by rw [Int.toNat_natCast]; exact hc.1), _, (by rw [Int.toNat_natCast]; exact hc.2.1), _, (by rw [Int.toNat_natCast]; exact hc.2.2.1), _, (by rw [Int.toNat_natCast]; exact hc.2.2.2), ?_⟩
    intro b4 w4 u4
    have v4 := u3.then u4
    have bad : (¬ (tags[t].tpid = 33024 ∨ (t = 0 ∧ tags[t].tpid = 34984))) → R (.int .i64 51) w4 := fun hb => k1 _ _ v4 (by rw [if_pos (fun hT => hb (hT t ht2))])
    have next : ∀ {X : Prop}, (tags[t].tpid = 33024 ∨ (t = 0 ∧ tags[t].tpid = 34984)) → ((Upd [] [] w w4 ∧ ∃ t' : Nat, wr .i64 ((t : Int) + 1) = t' ∧ t' ≤ tags.length ∧ ∀ j (hj : j < tags.length), j < t' → (tags[j].tpid = 33024 ∨ (j = 0 ∧ tags[j].tpid = 34984))) → (tags.length - wr .i64 ((t : Int) + 1)).toNat < (tags.length - (t : Int)).toNat → X) → X := fun hg K => K ⟨v4, t + 1, wr_succ (by omega), by omega, fun j hj2 hjt => by
        by_cases e : j = t
        · subst e; exact hg
        · exact hj j hj2 (by omega)⟩ (by rw [wr_succ (by omega)]; omega)
    refine c51 ⟨_, rfl, .inl (Upd.refl _), ?_⟩
    unfold isTagN
    refine brn (fun hf => bad ?_) (fun hf => bre (fun h4 => bre' (fun h5 => bad (by omega)) (fun h5 => next (.inl h5) (fun a b => ⟨rfl, a, b⟩))) (fun h4 => next ?_ (fun a b => ⟨rfl, a, b⟩)))
    · simp at hf; omega
    · simp at hf; omega
  · have hT : tagsT tags := fun j hj2 => hj j hj2 (by omega)
    rw [if_neg (by simpa using hT)] at k1
    refine ⟨fun i w4 => Upd [] [] w w4 ∧ ∃ t : Nat, i = t ∧ t ≤ tags.length ∧ ∀ j (hj : j < tags.length), j < t → tagV tags[j], fun i _ => (tags.length - i).toNat, ⟨u3, 0, rfl, by omega, fun j _ hj => by omega⟩, ?_⟩
    rintro i w4 ⟨u4, t, rfl, ht, hj⟩
    have h4 := h.old u4
    refine brd (fun hlt => ?_) (fun hge => ?_)
    · have ht2 : t < tags.length := by omega
      have hc := tag_cells h4 (i := (t : Int)) (by omega) (by omega)
      simp only [Int.toNat_natCast] at hc
      refine needT h4 (by omega) (by omega) ⟨_, (by rw [Int.toNat_natCast]; exact hc.1), _, (by rw [Int.toNat_natCast]; exact hc.2.1), _, (by rw [Int.toNat_natCast]; exact hc.2.2.1), _, (by rw [Int.toNat_natCast]; exact hc.2.2.2), ?_⟩
      intro b5
      have bad : ¬ tagV tags[t] → ∀ w5, Upd [] [b5] w4 w5 → R (.int .i64 52) w5 := fun hb w5 u5 => k1 _ _ (u4.then u5) (by
        rw [if_pos]
        intro hh
        exact hb (hh _ (List.getElem_mem _)))
      refine brd (fun g => bad (by unfold tagV; omega)) (fun g1 => brd (fun g => bad (by unfold tagV; omega)) (fun g2 => brd (fun g => bad (by unfold tagV; omega)) (fun g3 => brd (fun g => bad (by unfold tagV; omega)) (fun g4 w5 u5 => ⟨rfl, ⟨u4.then u5, t + 1, wr_succ (by omega), by omega, fun j hj2 hjt => ?_⟩, by rw [wr_succ (by omega)]; (try dsimp only); omega⟩))))
      by_cases e : j = t
      · subst e; unfold tagV; omega
      · exact hj j hj2 (by omega)
    · have hV : ∀ t ∈ tags, tagV t := fun x hx => by
        obtain ⟨j, hj2, rfl⟩ := List.getElem_of_mem hx
        exact hj j hj2 (by omega)
      rw [if_neg (by simpa using hV)] at k1
      intro J hJ
      have bad : (type < 1536 ∨ 65535 < type ∨ isTagN type = true) → R (.int .i64 53) w4 := fun hb => k1 _ _ u4 (by rw [if_pos hb])
      refine brd (fun g => bad (.inl g)) (fun g1 => brd (fun g => bad (.inr (.inl g))) (fun g2 => ?_))
      refine c51 ⟨_, rfl, .inl (Upd.refl _), brb (fun g => bad (.inr (.inr g))) (fun g => ⟨rfl, hJ _ ?_⟩)⟩
      rw [if_neg (by simp [g]; omega)] at k1
      rw [hlen, wr_i64 (x := 4 * (tags.length : Int)) (by omega) (by omega), wr_i64 (x := 14 + 4 * (tags.length : Int)) (by omega) (by omega), wr_i64 (by omega) (by omega), hd]
      refine brd (fun g => k1 _ _ u4 (by rw [if_pos (by omega)])) (fun g => k1 _ _ u4 (by rw [if_neg (by omega)]))
end
end Go.Vc.S5
end

section
section
open Go Go.Vc Go.Proofs
set_option linter.unusedVariables false
set_option linter.unusedSimpArgs false
set_option autoImplicit false
namespace Go.Vc.S5

/-- the tags behind byte t, and where the type stands -/
def ploop (l : List Int) : Nat → List Tag → Nat → Except Int (List Tag × Nat)
  | 0, _, _ => .error 51
  | f + 1, tags, t =>
    if isTagN (w16 l t) = true then
      if tags.length = 2 ∨ (tags.length = 1 ∧ w16 l t = 34984) then .error 51
      else if l.length < t + 6 then .error 50
      else if w16 l ((t + 2 : Nat) : Int) % 4096 = 4095 then .error 52
      else ploop l f (tags ++ [⟨w16 l t, w16 l ((t + 2 : Nat) : Int) / 8192, w16 l ((t + 2 : Nat) : Int) / 4096 % 2 == 1, w16 l ((t + 2 : Nat) : Int) % 4096⟩]) (t + 4)
    else if w16 l t < 1536 then .error 53 else .ok (tags, t)
def parse (l : List Int) : Except Int (List Tag × Nat) :=
  if 65535 < l.length then .error 2 else if l.length < 14 then .error 50 else if bt l 6 % 2 = 1 then .error 54 else ploop l 3 [] 12

abbrev frSV (f g : Nat → Int) (s : Sl) (n : Int) (d : Sl) : SV := .struct [.arr .u8 6 f, .arr .u8 6 g, .slice s, .int .i64 n, .slice d]
abbrev nilS : Sl := ⟨none, 0, 0⟩
abbrev frZ : SV := frSV (fun _ => 0) (fun _ => 0) nilS 0 nilS

theorem at_add (s : Sl) (i : Nat) : (s.at 0 0).add (0 + i) = s.at 1 i := by simp [Sl.at]

theorem tag_row {w : World} {b n cap : Nat} {e : Nat} {f : Nat × Nat} {cs : List Value} (t : Tag) (h : w.heap[b]? = some (.cells cs.toArray e f)) (hc : cs = cTag.cells [t]) (hn : n = 1) : Sees cTag w ⟨some ⟨b, 0, none⟩, n, cap⟩ [t] :=
  sees_row h [t] hc hn

set_option maxRecDepth 10000 in
theorem c26 {b : Sl} {l : List Int} {w : World} {R : SV → World → Prop} (h : SeesB w b l) (hb : Byt l) (hc : b.len ≤ b.cap) (hl : l.length ≤ 140737488355328)
    (ke : ∀ e w1, parse l = .error e → Upd [] [] w w1 → R (.tuple [frZ, .int .i64 e]) w1)
    (ko : ∀ tags t f g s w1, parse l = .ok (tags, t) → (∀ i, i < 6 → f i = bt l (i : Nat)) → (∀ i, i < 6 → g i = bt l ((6 + i : Nat) : Int)) → t + 2 ≤ l.length → tags.length ≤ 2 → Upd [] [] w w1 → Sees cTag w1 s tags → Own w.heap.size 4 w1 s →
      R (.tuple [frSV f g s (w16 l t) (b.sub 1 (t + 2) l.length l.length), .int .i64 0]) w1) : Ret Try.prog 26 [.slice b] w R := by
  refine f26_of _ _ _ ?_
  unfold vc26
  have hlen := h.len
  rw [hlen]
  intro b1
  have ke' : ∀ e w1, Upd [] [] w w1 → parse l = .error e → R (.tuple [frZ, .int .i64 e]) w1 := fun e w1 u he => ke e w1 he u
  unfold parse at ke' ko
  refine brd (fun hg w1 u => ke' _ _ u.forget (by rw [if_pos (by omega)])) (fun hg => ?_)
  rw [if_neg (by omega)] at ke' ko
  refine brd (fun hg w1 u => ke' _ _ u.forget (by rw [if_pos (by omega)])) (fun hg2 => ?_)
  rw [if_neg (by omega)] at ke' ko
  refine needD (by omega) (need (by
    have := (h.isSome (by decide) (by omega))
    simp [Sl.sub, this]) ⟨fun i => bt l (i : Nat), fun i hi => ?_, need (by simp; omega) (need (by
    have := (h.isSome (by decide) (by omega))
    simp [Sl.sub]
    split <;> simp [this]) ⟨fun i => bt l ((6 + i : Nat) : Int), fun i hi => ?_, ?_⟩)⟩)
  · rw [at_add]
    have h1 := h.subB (lo := 0) (hi := 6) (mx := b.cap) (by omega) (by omega) (by omega)
    have h2 := byteC h1 i (by simp; omega)
    rw [h2]
    simp [bt, hi]
  · rw [at_add]
    have h1 := h.subB (lo := 6) (hi := 12) (mx := b.cap) (by omega) (by omega) (by omega)
    have h2 := byteC h1 i (by simp; omega)
    rw [h2]
    simp [bt, hi, List.getElem?_drop, List.getElem?_take, show 6 + i < 12 by omega, show (6 + (i : Int)).toNat = 6 + i by omega]
  intro b2
  refine ⟨Upd.refl _, fun w1 u1 => ?_⟩
  have hb1 := u1.new (b := b1) (by simp)
  have hb2 := u1.new (b := b2) (by simp)
  have e6 : (0 : Int) ≤ bt l ((6 + 0 : Nat) : Int) ∧ bt l ((6 + 0 : Nat) : Int) < 256 := hb.bt _
  refine c14 e6 fun w2 u2 => ⟨_, rfl, kp u2, ?_⟩
  have v2 := u1.then u2
  have ge : grp (fun i => bt l ((6 + i : Nat) : Int)) = (bt l 6 % 2 == 1) := rfl
  rw [ge]
  have f1 : ∀ x ∈ [b1], w.heap.size ≤ x := by simp; omega
  have f12 : ∀ x ∈ [b1, b2], w.heap.size ≤ x := by simp; omega
  refine bre (fun hg3 w3 u3 => ke' _ _ (v2.step0 u3 f1) (by rw [if_pos hg3])) (fun hg3 => ?_)
  rw [if_neg hg3] at ke' ko
  refine ⟨fun n _ _ _ _ _ f3 f4 s2 _ _ w3 => Upd [] [] w w3 ∧ w1.heap.size ≤ w3.heap.size ∧ Own w1.heap.size 4 w3 s2 ∧ (∀ i, i < 6 → f3 i = bt l (i : Nat)) ∧ (∀ i, i < 6 → f4 i = bt l ((6 + i : Nat) : Int)) ∧
    ∃ (t fuel : Nat) (tags : List Tag), n = t ∧ t + 2 ≤ l.length ∧ Sees cTag w3 s2 tags ∧ fuel + 1 + tags.length = 3 ∧ ploop l (fuel + 1) tags t = ploop l 3 [] 12,
    fun n _ _ _ _ _ _ _ _ _ _ _ => (l.length - n).toNat, ⟨v2, u2.size, Own.none _ _ _, fun i hi => rfl, fun i hi => rfl, 12, 2, [], rfl, by omega, Sees.nil _ _ _ _, rfl, rfl⟩, ?_⟩
  rintro n _ _ _ _ _ f3 f4 s2 _ _ w3 ⟨u3, z3, o3, hf3, hf4, t, fuel, tags, rfl, ht, hs3, hfu, hpl⟩
  have h3 := h.old u3
  rw [← hpl] at ke' ko
  have hr := w16_r hb t
  have hr2 := w16_r hb ((t + 2 : Nat) : Int)
  have sl := hs3.len
  unfold ploop at ke' ko hpl
  refine c50 h3 hb (by omega) (by omega) (by omega) fun w4 u4 => ⟨_, rfl, kp u4, ?_⟩
  have v4 := u3.then u4
  intro J hJ
  refine c51 ⟨_, rfl, kp (Upd.refl _), ?_⟩
  refine brn (fun hT => ?_) (fun hT => ?_)
  · rw [if_neg (by simp [hT])] at ke' ko
    refine brd (fun hlt w5 u5 => ke' _ _ (v4.step0 u5 f12) (by rw [if_pos hlt])) (fun hge => ?_)
    rw [if_neg hge] at ko
    rw [wr_i64 (by omega) (by omega)]
    refine need (by simp; omega) fun w5 u5 => ?_
    have := ko tags t f3 f4 s2 w5 rfl hf3 hf4 ht (by omega) (v4.step0 u5 f12) ((hs3.old u4).upd u5 (fun x hx hm => by have := (o3.blk x hx).1; simp at hm; omega)) (((o3.old u4).upd u5 (fun x hx hm => by have := (o3.blk x hx).1; simp at hm; omega)).mono u1.size)
    rw [show ((t : Int) + 2).toNat = t + 2 by omega, show ((l.length : Int)).toNat = l.length by omega]
    exact this
  · rw [if_pos hT] at ke' ko hpl
    intro J1 hJ1
    have bad : ∀ {X : Prop}, (tags.length = 2 ∨ (tags.length = 1 ∧ w16 l t = 34984)) → Br true (∀ w1, Upd [b1] [] w4 w1 → R (.tuple [frZ, .int .i64 51]) w1) X := fun hx => brt rfl (fun w5 u5 => ke' _ _ (v4.step0 u5 f1) (by rw [if_pos hx]))
    have good : ¬ (tags.length = 2 ∨ (tags.length = 1 ∧ w16 l t = 34984)) → J1 false w4 := fun hx => by
      refine hJ1 _ _ (brf rfl ?_)
      rw [if_neg hx] at ke' ko hpl
      rw [wr_i64 (by omega) (by omega)]
      refine brd (fun hlt w5 u5 => ke' _ _ (v4.step0 u5 f1) (by rw [if_pos (by omega)])) (fun hge => ⟨rfl, rfl, hJ _ _ _ _ _ _ _ _ _ _ _ ?_⟩)
      rw [if_neg (by omega)] at ke' ko hpl
      rw [wr_i64 (by omega) (by omega)]
      rw [show (t : Int) + 2 = ((t + 2 : Nat) : Int) by omega]
      refine c50 (h3.old u4) hb (by omega) (by omega) (by omega) fun w5 u5 => ⟨_, rfl, kp u5, ?_⟩
      have v5 := v4.then u5
      intro b3
      rw [and_4095, gshr13, gshr12, and_1]
      refine bre (fun hx w6 u6 => ke' _ _ (v5.step0 u6 f1) (by rw [if_pos hx])) (fun hx => ?_)
      rw [if_neg hx] at ke' ko hpl
      intro wa ua b4 w6 ub hrow
      have u6 : Upd [] [b3, b4] w5 w6 := ua.trans ub
      have hb3 := u6.new (b := b3) (by simp)
      have v6 := v5.then u6
      have os := ((o3.old u4).old u5).old u6
      have y4 := u4.size
      have y5 := u5.size
      have y6 := u6.size
      refine append_own (c := cTag) (((hs3.old u4).old u5).old u6) os (tag_row ⟨w16 l t, w16 l ((t + 2 : Nat) : Int) / 8192, w16 l ((t + 2 : Nat) : Int) / 4096 % 2 == 1, w16 l ((t + 2 : Nat) : Int) % 4096⟩ hrow rfl rfl) (by omega) (fun x hx hm => by have := o3.blk x hx; simp at hm; omega) (by decide) (by simp; omega) fun r w7 hr7 ho7 u7 _ => ?_
      intro w8 u8
      have v8 := (v6.step0 u7 (fun x hx => by have := (o3.blk x hx).1; omega)).step0 u8 (by simp; omega)
      refine ⟨rfl, rfl, ⟨v8, ?_, ho7.upd u8 (fun x hx hm => by have := (ho7.blk x hx).1; simp at hm; omega), hf3, hf4, t + 4, fuel - 1, _, ?_, by omega, hr7.upd u8 (fun x hx hm => by have := (ho7.blk x hx).1; simp at hm; omega), ?_, ?_⟩, ?_⟩
      · have := u7.size; have := u8.size; omega
      · rw [wr_i64 (by omega) (by omega)]; omega
      · simp; omega
      · rw [show fuel - 1 + 1 = fuel by omega]; exact hpl
      · rw [wr_i64 (by omega) (by omega)]; (try dsimp only); omega
    rw [sl]
    refine bre (fun h2 => ⟨rfl, rfl, hJ1 _ _ (bad (by omega))⟩) (fun h2 => ?_)
    refine bre (fun h1 => ?_) (fun h1 => ⟨rfl, rfl, good (by omega)⟩)
    by_cases e : w16 l t = 34984
    · rw [e, beq_self_eq_true]
      exact ⟨rfl, rfl, hJ1 _ _ (bad (by omega))⟩
    · rw [show (w16 l t == 34984) = false by simp [e]]
      exact ⟨rfl, rfl, good (by omega)⟩
end Go.Vc.S5
end

section
open Go Go.Vc Go.Proofs
set_option linter.unusedVariables false
set_option linter.unusedSimpArgs false
set_option autoImplicit false
namespace Go.Vc.S5


theorem fset_ne {f : Nat → Int} {n i : Nat} {v : Int} (h : i ≠ n) : fset f n v i = f i := by
  have e : Nat.beq i n = false := by rw [← Bool.not_eq_true, Nat.beq_eq]; exact h
  simp [fset, e]
theorem fset_eq {f : Nat → Int} {n : Nat} {v : Int} : fset f n v n = v := by simp [fset]

set_option maxRecDepth 10000 in
theorem c27 {b : Sl} {l : List Int} {w : World} {R : SV → World → Prop} (h : SeesB w b l) (hb : Byt l) (hl : l.length ≤ 70368744177664)
    (ke : ∀ e w1, parse l = .error e → Upd [] [] w w1 → R (.tuple [frZ, .int .i64 e]) w1)
    (ko : ∀ tags t f g s d w1, parse l = .ok (tags, t) → (∀ i, i < 6 → f i = bt l (i : Nat)) → (∀ i, i < 6 → g i = bt l ((6 + i : Nat) : Int)) → t + 2 ≤ l.length → tags.length ≤ 2 → Upd [] [] w w1 → Sees cTag w1 s tags → Own w.heap.size 4 w1 s →
      SeesB w1 d (l.drop (t + 2)) → Own w.heap.size 1 w1 d → R (.tuple [frSV f g s (w16 l t) d, .int .i64 0]) w1) : Ret Try.prog 27 [.slice b] w R := by
  refine f27_of _ _ _ ?_
  unfold vc27
  have hlen := h.len
  rw [hlen]
  intro b1 b2
  have ke' : ∀ e w1, Upd [] [] w w1 → parse l = .error e → R (.tuple [frZ, .int .i64 e]) w1 := fun e w1 u he => ke e w1 he u
  unfold parse at ke' ko
  refine brd (fun hg w1 u => ke' _ _ u.forget (by rw [if_pos (by omega)])) (fun hg => ?_)
  rw [if_neg (by omega)] at ke' ko
  refine brd (fun hg w1 u => ke' _ _ u.forget (by rw [if_pos (by omega)])) (fun hg2 => ?_)
  rw [if_neg (by omega)] at ke' ko
  intro b3
  refine ⟨fun n f f1 s _ _ w3 => Upd [] [] w w3 ∧ (w.heap.size ≤ b1 ∧ b1 < w3.heap.size) ∧ (w.heap.size ≤ b2 ∧ b2 < w3.heap.size) ∧ (w.heap.size ≤ b3 ∧ b3 < w3.heap.size) ∧ s = nilS ∧ ∃ t : Nat, n = t ∧ t ≤ 6 ∧ ∀ i, i < t → f i = bt l (i : Nat) ∧ f1 i = bt l ((6 + i : Nat) : Int),
    fun n _ _ _ _ _ _ => (6 - n).toNat, fun w1 u => ⟨u.forget, u.new (by simp), u.new (by simp), u.new (by simp), rfl, 0, rfl, by omega, fun i hi => by omega⟩, ?_⟩
  rintro n f f1 s n1 s1 w1 ⟨u1, hb1, hb2, hb3, rfl, t, rfl, ht, hf⟩
  have h1 := h.old u1
  refine brd (fun hlt => ?_) (fun hge => ?_)
  · rw [wr_i64 (by omega) (by omega)]
    refine needB' h1 (by omega) (by omega) ⟨_, h1.byte (by omega) (by omega), needIx2 (by omega) (by omega) (needB' h1 (by omega) (by omega) (fun w2 u2 => ?_))⟩
    have v2 := u1.step0 u2 (by simp; omega)
    refine ⟨_, (h.old v2).byte (by omega) (by omega), needIx2 (by omega) (by omega) (fun w3 u3 => by (repeat refine And.intro rfl ?_); exact ⟨⟨v2.step0 u3 (by simp; omega), by have := u2.size; have := u3.size; omega, by have := u2.size; have := u3.size; omega, by have := u2.size; have := u3.size; omega, rfl, t + 1, wr_succ (by omega), by omega, fun i hi => by
      rw [Int.toNat_natCast]
      by_cases e : i = t
      · subst e
        rw [fset_eq, fset_eq]
        exact ⟨rfl, by congr 1⟩
      · rw [fset_ne e, fset_ne e]
        exact hf i (by omega)⟩, by rw [wr_succ (by omega)]; (try dsimp only); omega⟩)⟩
  have ht6 : t = 6 := by omega
  subst ht6
  have hf1 : ∀ i, i < 6 → f i = bt l (i : Nat) := fun i hi => (hf i hi).1
  have hg1 : ∀ i, i < 6 → f1 i = bt l ((6 + i : Nat) : Int) := fun i hi => (hf i hi).2
  have e60 := hg1 0 (by omega)
  have e6 : (0 : Int) ≤ f1 0 ∧ f1 0 < 256 := by rw [e60]; exact hb.bt _
  refine c15 e6 fun w2 u2 => ⟨_, rfl, kp u2, ?_⟩
  have v2 := u1.then u2
  have ge : grp f1 = (bt l 6 % 2 == 1) := by unfold grp; rw [e60]; rfl
  rw [ge]
  have fr1 : ∀ x ∈ [b1], w.heap.size ≤ x := by simp; omega
  have fr3 : ∀ x ∈ [b3], w.heap.size ≤ x := by simp; omega
  have f13 : ∀ x ∈ [b1, b3], w.heap.size ≤ x := by simp; omega
  refine bre (fun hg3 w3 u3 => ke' _ _ (v2.step0 u3 fr1) (by rw [if_pos hg3])) (fun hg3 => ?_)
  rw [if_neg hg3] at ke' ko
  intro J hJ
  refine ⟨fun n _ _ _ _ _ f3 f4 s2 _ _ w3 => Upd [] [] w w3 ∧ w1.heap.size ≤ w3.heap.size ∧ Own w1.heap.size 4 w3 s2 ∧ (∀ i, i < 6 → f3 i = bt l (i : Nat)) ∧ (∀ i, i < 6 → f4 i = bt l ((6 + i : Nat) : Int)) ∧
    ∃ (t fuel : Nat) (tags : List Tag), n = t ∧ t + 2 ≤ l.length ∧ Sees cTag w3 s2 tags ∧ fuel + 1 + tags.length = 3 ∧ ploop l (fuel + 1) tags t = ploop l 3 [] 12,
    fun n _ _ _ _ _ _ _ _ _ _ _ => (l.length - n).toNat, ⟨v2, u2.size, Own.none _ _ _, hf1, hg1, 12, 2, [], rfl, by omega, Sees.nil _ _ _ _, rfl, rfl⟩, ?_⟩
  rintro n g1 g2 s5 n5 s6 f3 f4 s2 n6 s7 w3 ⟨u3, z3, o3, hf3, hf4, t, fuel, tags, rfl, ht, hs3, hfu, hpl⟩
  have h3 := h.old u3
  rw [← hpl] at ke' ko
  have hr := w16_r hb t
  have hr2 := w16_r hb ((t + 2 : Nat) : Int)
  have sl := hs3.len
  unfold ploop at ke' ko hpl
  intro J1 hJ1
  have tag : isTagN (w16 l t) = true → ∀ w4, Upd [] [] w3 w4 → J1 w4 := by
    intro hT w4 u4
    have v4 := u3.then u4
    refine hJ1 _ ?_
    rw [if_pos hT] at ke' ko hpl
    intro J2 hJ2
    have bad : (tags.length = 2 ∨ (tags.length = 1 ∧ w16 l t = 34984)) → ∀ w5 w6, Upd [] [] w3 w5 → Upd [b1] [] w5 w6 → R (.tuple [frZ, .int .i64 51]) w6 := fun hx w5 w6 u5 u6 => ke' _ _ ((u3.then u5).step0 u6 fr1) (by rw [if_pos hx])
    have good : ¬ (tags.length = 2 ∨ (tags.length = 1 ∧ w16 l t = 34984)) → ∀ w5, Upd [] [] w4 w5 → J2 g1 g2 s5 n5 s6 w5 := by
      intro hx w5 u5
      refine hJ2 _ _ _ _ _ _ ?_
      rw [if_neg hx] at ke' ko hpl
      have v5 := v4.then u5
      rw [wr_i64 (x := (t : Int) + 6) (by omega) (by omega)]
      refine brd (fun hlt w6 u6 => ke' _ _ (v5.step0 u6 fr1) (by rw [if_pos (by omega)])) (fun hge => ?_)
      rw [if_neg (by omega)] at ke' ko hpl
      rw [wr_i64 (x := (t : Int) + 2) (by omega) (by omega), show (t : Int) + 2 = ((t + 2 : Nat) : Int) by omega]
      refine c46 ((h3.old u4).old u5) hb (by omega) (by omega) (by omega) fun w6 u6 => ⟨_, rfl, kp u6, ?_⟩
      refine c46 (((h3.old u4).old u5).old u6) hb (by omega) (by omega) (by omega) fun w7 u7 => ⟨_, rfl, kp u7, ?_⟩
      have v7 := (v5.then u6).then u7
      intro b4
      rw [tmod_pos hr2.1, tdiv_pos hr2.1, tdiv_pos hr2.1, wr_i64 (x := w16 l ((t + 2 : Nat) : Int) / 8192) (by omega) (by omega), wr_i64 (x := w16 l ((t + 2 : Nat) : Int) / 4096) (by omega) (by omega), tmod_pos (show 0 ≤ w16 l ((t + 2 : Nat) : Int) / 4096 by omega)]
      refine bre (fun hx w8 u8 => ke' _ _ (v7.step0 u8 fr1) (by rw [if_pos hx])) (fun hx => ?_)
      rw [if_neg hx] at ke' ko hpl
      intro wa ua b5 w8 ub hrow
      have u8 : Upd [] [b4, b5] w7 w8 := ua.trans ub
      have hb4 := u8.new (b := b4) (by simp)
      have v8 := v7.then u8
      have os := ((((o3.old u4).old u5).old u6).old u7).old u8
      have y4 := u4.size
      have y5 := u5.size
      have y6 := u6.size
      have y7 := u7.size
      have y8 := u8.size
      refine append_own (c := cTag) (((((hs3.old u4).old u5).old u6).old u7).old u8) os (tag_row ⟨w16 l t, w16 l ((t + 2 : Nat) : Int) / 8192, w16 l ((t + 2 : Nat) : Int) / 4096 % 2 == 1, w16 l ((t + 2 : Nat) : Int) % 4096⟩ hrow rfl rfl) (by omega) (fun x hx hm => by have := o3.blk x hx; simp at hm; omega) (by decide) (by simp; omega) fun r w9 hr9 ho9 u9 _ => ?_
      intro w10 u10
      have v10 := (v8.step0 u9 (fun x hx => by have := (o3.blk x hx).1; have := u1.size; omega)).step0 u10 fr3
      repeat refine And.intro rfl ?_
      refine ⟨⟨v10, ?_, ho9.upd u10 (fun x hx hm => by have := (ho9.blk x hx).1; simp at hm; omega), hf3, hf4, t + 4, fuel - 1, _, ?_, by omega, hr9.upd u10 (fun x hx hm => by have := (ho9.blk x hx).1; simp at hm; omega), ?_, ?_⟩, ?_⟩
      · have := u9.size; have := u10.size; omega
      · rw [wr_i64 (by omega) (by omega)]; omega
      · simp; omega
      · rw [show fuel - 1 + 1 = fuel by omega]; exact hpl
      · rw [wr_i64 (by omega) (by omega)]; (try dsimp only); omega
    rw [sl]
    refine bre (fun h2 w5 u5 => bad (by omega) _ _ u4 u5) (fun h2 => bre (fun h1 => ?_) (fun h1 => by (repeat refine And.intro rfl ?_); exact good (by omega) _ (Upd.refl _)))
    refine c46 (h3.old u4) hb (by omega) (by omega) (by omega) fun w5 u5 => ⟨_, rfl, kp u5, bre (fun e w6 u6 => bad (by omega) _ _ (u4.then u5) u6) (fun e => by (repeat refine And.intro rfl ?_); exact good (by omega) _ u5)⟩
  refine c46 h3 hb (by omega) (by omega) (by omega) fun w4 u4 => ⟨_, rfl, kp u4, bre (fun e => by (repeat refine And.intro rfl ?_); exact tag (by unfold isTagN; simp [e]) _ u4) (fun e1 => ?_)⟩
  refine c46 (h3.old u4) hb (by omega) (by omega) (by omega) fun w5 u5 => ⟨_, rfl, kp u5, bre (fun e => by (repeat refine And.intro rfl ?_); exact tag (by unfold isTagN; simp [e]) _ (u4.then u5)) (fun e2 => ?_)⟩
  repeat refine And.intro rfl ?_
  refine hJ _ _ _ _ _ _ _ _ _ _ _ _ ?_
  have hT : isTagN (w16 l t) = false := by unfold isTagN; simp [e1, e2]
  rw [if_neg (by simp [hT])] at ke' ko
  have v5 := (u3.then u4).then u5
  refine c46 ((h3.old u4).old u5) hb (by omega) (by omega) (by omega) fun w6 u6 => ⟨_, rfl, kp u6, ?_⟩
  have v6 := v5.then u6
  refine brd (fun hlt w7 u7 => ke' _ _ (v6.step0 u7 f13) (by rw [if_pos hlt])) (fun hge => fun w7 u7 => ?_)
  rw [if_neg hge] at ko
  have v7 := v6.step0 u7 fr3
  rw [wr_i64 (x := (t : Int) + 2) (by omega) (by omega)]
  refine c41 (h.old v7) (by omega) (Int.le_refl _) (by omega) fun d w8 u8 hs8 ho8 => ⟨_, rfl, kp u8, fun w9 u9 => ?_⟩
  have z1 := u1.size
  have k0 : ∀ x ∈ s2.blk, x ∉ [b3] := fun x hx hm => by have := (o3.blk x hx).1; simp at hm; omega
  have k1 : ∀ x ∈ s2.blk, x ∉ [b1, b3] := fun x hx hm => by have := (o3.blk x hx).1; simp at hm; omega
  have y3 := u3.size
  have y4 := u4.size
  have y5 := u5.size
  have y6 := u6.size
  have y7 := u7.size
  have k2 : ∀ x ∈ d.blk, x ∉ [b1, b3] := fun x hx hm => by have := (ho8.blk x hx).1; simp at hm; omega
  refine ko tags t f3 f4 s2 d w9 rfl hf3 hf4 ht (by omega) ((v7.then u8).step0 u9 f13) ((((((hs3.old u4).old u5).old u6).upd u7 k0).old u8).upd u9 k1) (((((((o3.old u4).old u5).old u6).upd u7 k0).old u8).upd u9 k1).mono z1) (Sees.upd ?_ u9 k2) ((ho8.upd u9 k2).mono v7.size)
  rw [Int.toNat_natCast, List.take_length, show ((t : Int) + 2).toNat = t + 2 by omega] at hs8
  exact hs8
end Go.Vc.S5
end
end

section
section
open Go Go.Vc Go.Proofs
set_option linter.unusedVariables false
set_option linter.unusedSimpArgs false
set_option autoImplicit false
namespace Go.Vc.S5

def tci (t : Tag) : Int := t.pcp * 8192 + t.vid + if t.dei then 4096 else 0
def tagB (t : Tag) : List Int := two t.tpid ++ two (tci t)
def ser (f g : Nat → Int) (tags : List Tag) (type : Int) (data : List Int) : List Int := arrL 6 f ++ arrL 6 g ++ tags.flatMap tagB ++ two type ++ data
theorem flatMap_snoc {α β : Type} {l : List α} {t : Nat} (h : t < l.length) (g : α → List β) : (l.take (t + 1)).flatMap g = (l.take t).flatMap g ++ g l[t] := by
  rw [take_snoc h, List.flatMap_append]; simp
theorem tagB_len (t : Tag) : (tagB t).length = 4 := rfl
theorem tags_len : ∀ l : List Tag, (l.flatMap tagB).length = 4 * l.length
  | [] => rfl
  | t :: r => by rw [List.flatMap_cons, List.length_append, tags_len r, tagB_len]; simp; omega
theorem ior_tci {p v : Int} (hp : 0 ≤ p ∧ p ≤ 7) (hv : 0 ≤ v ∧ v ≤ 4094) : ior .i64 (gshl .i64 p 13) v = p * 8192 + v ∧ ior .i64 (ior .i64 (gshl .i64 p 13) v) 4096 = p * 8192 + v + 4096 := by
  rw [gshl13, wr_i64 (by omega) (by omega)]
  have e1 : ior .i64 (p * 8192) v = p * 8192 + v := ior_add 13 (by omega) (by omega) (by omega) (by omega) (by omega) (by omega)
  refine ⟨e1, ?_⟩
  have e2 : ior .i64 4096 v = 4096 + v := ior_add 12 (by omega) (by omega) (by omega) (by omega) (by omega) (by omega)
  have e3 : ior .i64 (p * 8192) (ior .i64 4096 v) = p * 8192 + (4096 + v) := by rw [e2]; exact ior_add 13 (by omega) (by omega) (by omega) (by omega) (by omega) (by omega)
  rw [show p * 8192 + v + 4096 = p * 8192 + (4096 + v) by omega, ← e3]
  rw [ior_nat (a := p * 8192) (b := v) (by omega) (by omega) (by omega) (by omega), ior_nat (a := 4096) (b := v) (by omega) (by omega) (by omega) (by omega)]
  have l1 : (p * 8192).toNat ||| v.toNat < 2 ^ 63 := Nat.or_lt_two_pow (by omega) (by omega)
  have l2 : (4096 : Int).toNat ||| v.toNat < 2 ^ 63 := Nat.or_lt_two_pow (by decide) (by omega)
  rw [ior_nat (by omega) (by omega) (by omega) (by omega), ior_nat (by omega) (by omega) (by omega) (by omega)]
  simp only [Int.toNat_natCast]
  rw [Nat.or_assoc, Nat.or_comm v.toNat]

section
variable {dst src : Nat → Int} {ts ds : Sl} {tags : List Tag} {type : Int} {data : List Int} {w : World} {R : SV → World → Prop}
theorem chk_ok (h : chk (src 0) tags type data.length = 0) : src 0 % 2 ≠ 1 ∧ tags.length ≤ 2 ∧ tagsT tags ∧ (∀ t ∈ tags, tagV t) ∧ 1536 ≤ type ∧ type ≤ 65535 ∧ isTagN type = false ∧ 14 + 4 * tags.length + data.length ≤ 65535 := by
  unfold chk at h
  split at h; · omega
  split at h; · omega
  split at h; · omega
  split at h; · omega
  split at h; · omega
  split at h; · omega
  rename_i h1 h2 h3 h4 h5 h6
  refine ⟨h1, by omega, Classical.not_not.1 h3, Classical.not_not.1 h4, by omega, by omega, ?_, by omega⟩
  cases hT : isTagN type
  · rfl
  · exact absurd (.inr (.inr hT)) h5

theorem arr_take (f : Nat → Int) : ((arrL 6 f).take 6).drop 0 = arrL 6 f := by
  rw [List.take_of_length_le (by rw [arrL_len]; omega)]; rfl

set_option maxRecDepth 10000 in
theorem c31 (h : Sees cTag w ts tags) (hd : SeesB w ds data) (hs : 0 ≤ src 0 ∧ src 0 < 256) (hl : data.length ≤ 140737488355328)
    (ke : ∀ w1, chk (src 0) tags type data.length ≠ 0 → Upd [] [] w w1 → R (.tuple [.slice nilS, .int .i64 (chk (src 0) tags type data.length)]) w1)
    (ko : ∀ s w1, chk (src 0) tags type data.length = 0 → Upd [] [] w w1 → SeesB w1 s (ser dst src tags type data) → Own w.heap.size 1 w1 s → R (.tuple [.slice s, .int .i64 0]) w1) :
    Ret Try.prog 31 [frSV dst src ts type ds] w R := by
  refine f31_of _ _ _ _ _ _ _ ?_
  unfold vc31
  intro b w1 u1
  refine c30 (h.old u1) hd.len hs hl fun w2 u2 => ⟨_, rfl, kp u2, ?_⟩
  have v2 := u1.then u2
  refine bre' (fun hne => ke _ hne v2) (fun he => ?_)
  rw [he] at ko
  obtain ⟨_, h2, hT, hV, ht1, ht2, _, hsz⟩ := chk_ok he
  intro hrow
  have hb : w.heap.size ≤ b ∧ b < w2.heap.size := by have := u1.new (b := b) (by simp); have := u2.size; omega
  have hcs : ∀ (i : Nat) v, (SV.cells (frSV dst src ts type ds))[i]? = some v → ∀ w3 m n, Upd m n w2 w3 → b ∉ m → w3.cell? ((⟨b, 0, none⟩ : Addr).add i) = some v := by
    intro i v hv w3 m n u hm
    have h1 : w2.cell? ((⟨b, 0, none⟩ : Addr).add i) = some v := by
      rw [add_none, cell_of_block hrow]
      simpa using hv
    rw [u.cell' (by rw [h1]; rfl) (by rw [add_none]; exact hm)]
    exact h1
  have hcells : SV.cells (frSV dst src ts type ds) = cU8.cells (arrL 6 dst) ++ cU8.cells (arrL 6 src) ++ [ts.val, .int .i64 type, ds.val] := by
    simp [SV.cells, SV.cellsL, ← arrL_cells]
  have hl12 : (cU8.cells (arrL 6 dst) ++ cU8.cells (arrL 6 src)).length = 12 := by
    rw [List.length_append, Cod.cells_length, Cod.cells_length, arrL_len, arrL_len]; rfl
  have g12 : ∀ w3, Upd [] [] w2 w3 → w3.cell? ((⟨b, 0, none⟩ : Addr).add 12) = some ts.val := fun w3 u => hcs 12 _ (by rw [hcells, List.getElem?_append_right (by omega), hl12]; rfl) w3 _ _ u (by simp)
  have g13 : ∀ w3, Upd [] [] w2 w3 → w3.cell? ((⟨b, 0, none⟩ : Addr).add 13) = some (.int .i64 type) := fun w3 u => hcs 13 _ (by rw [hcells, List.getElem?_append_right (by omega), hl12]; rfl) w3 _ _ u (by simp)
  have g14 : ∀ w3, Upd [] [] w2 w3 → w3.cell? ((⟨b, 0, none⟩ : Addr).add 14) = some ds.val := fun w3 u => hcs 14 _ (by rw [hcells, List.getElem?_append_right (by omega), hl12]; rfl) w3 _ _ u (by simp)
  have s1 := rowMid (o := 0) (n := 6) (cap := 6) hrow [] (cU8.cells (arrL 6 src) ++ [ts.val, .int .i64 type, ds.val]) (arrL 6 dst) (by rw [hcells]; simp) rfl (arrL_len _ _).symm
  have s2 := rowMid (o := 6) (n := 6) (cap := 6) hrow (cU8.cells (arrL 6 dst)) [ts.val, .int .i64 type, ds.val] (arrL 6 src) hcells (by rw [Cod.cells_length, arrL_len]; rfl) (arrL_len _ _).symm
  have s1' := s1.subB (lo := 0) (hi := 6) (mx := 6) (by omega) (by rw [arrL_len]; omega) (by omega)
  have s2' := s2.subB (lo := 0) (hi := 6) (mx := 6) (by omega) (by rw [arrL_len]; omega) (by omega)
  rw [arr_take] at s1' s2'
  have h2' := (h.old u1).old u2
  have hd2 := (hd.old u1).old u2
  refine ⟨[], fun x hx => by simp at hx, ⟨?_, ?_⟩, ?_⟩
  all_goals
    intro w3 u3
    refine c40 (s1'.old u3) (by rw [arrL_len]; omega) fun s w4 u4 hs4 ho4 => ⟨_, rfl, ?_⟩
    have v4 := u3.then u4
    refine append_own (c := cU8) hs4 ho4 (show SeesB w4 _ (arrL 6 src) from s2'.old v4) u4.size (by simp) (by decide) (by simp [arrL_len]) fun r w5 hr5 ho5 u5 _ => ?_
    have v5 := v4.step0 u5 (fun x hx => by have := (ho4.blk x hx).1; have := u3.size; omega)
    refine ⟨_, g12 _ v5, ?_⟩
    refine ⟨fun s n w6 => Upd [] [] w2 w6 ∧ Own w2.heap.size 1 w6 s ∧ ∃ t : Nat, n = t ∧ t ≤ tags.length ∧ SeesB w6 s (arrL 6 dst ++ arrL 6 src ++ (tags.take t).flatMap tagB), fun _ n _ => (tags.length - n).toNat, ⟨v5, ho5.mono u3.size, 0, rfl, by omega, by simpa using hr5⟩, ?_⟩
    rintro s n w6 ⟨u6, o6, t, rfl, ht, hs6⟩
    have hlen := h.len
    refine brd (fun hlt => ?_) (fun hge => ?_)
    · have ht2 : t < tags.length := by omega
      have h6 := h2'.old u6
      have hc := tag_cells h6 (i := (t : Int)) (by omega) (by omega)
      simp only [Int.toNat_natCast] at hc
      refine needT h6 (by omega) (by omega) ⟨_, (by rw [Int.toNat_natCast]; exact hc.1), _, (by rw [Int.toNat_natCast]; exact hc.2.1), _, (by rw [Int.toNat_natCast]; exact hc.2.2.1), _, (by rw [Int.toNat_natCast]; exact hc.2.2.2), ?_⟩
      have hv := hV _ (List.getElem_mem ht2)
      unfold tagV at hv
      have ht4 : ((tags.take t).flatMap tagB).length ≤ 8 := by rw [tags_len, List.length_take]; omega
      intro b1 J hJ
      have fin : ∀ w7, Upd [] [b1] w6 w7 → J (tci tags[t]) w7 := by
        intro w7 u7
        have hb1 := u7.new (b := b1) (by simp)
        refine hJ _ _ ?_
        have v7 := u6.then u7
        have o7 := o6.old u7
        refine c44 (hs6.old u7) o7 v7.size (by simp only [List.length_append, arrL_len]; omega) fun r w8 u8 hr8 ho8 hn8 => ⟨_, rfl, ?_, ?_⟩
        · exact kpm u8 (by simp; omega) (fun x hx hm => by have := (o6.blk x hm).2; simp at hx; omega)
        have v8 := v7.step0 u8 (fun x hx => (o7.blk x hx).1)
        refine c44 hr8 ho8 v8.size (by simp only [List.length_append, arrL_len, two, List.length_cons, List.length_nil]; omega) fun r2 w9 u9 hr9 ho9 hn9 => ⟨_, rfl, ?_, ?_⟩
        · exact kpm u9 (by have := u8.size; simp; omega) (fun x hx hm => by
            simp at hx; subst hx
            rcases hn8 x hm with h' | h'
            · have := (o6.blk x h').2; omega
            · omega)
        have v9 := v8.step0 u9 (fun x hx => (ho8.blk x hx).1)
        refine ⟨⟨v9, ho9, t + 1, wr_succ (by omega), by omega, ?_⟩, by rw [wr_succ (by omega)]; (try dsimp only); omega⟩
        rw [flatMap_snoc ht2]
        rw [show tagB tags[t] = two tags[t].tpid ++ two (tci tags[t]) from rfl, ← List.append_assoc, ← List.append_assoc]
        exact hr9
      have hi := ior_tci (p := tags[t].pcp) (v := tags[t].vid) (by omega) (by omega)
      refine brb (fun hde w7 u7 => ?_) (fun hde w7 u7 => ?_)
      · have := fin w7 u7
        unfold tci at this
        rw [if_pos hde] at this
        rw [hi.2]
        exact ⟨rfl, this⟩
      · have := fin w7 u7
        unfold tci at this
        rw [if_neg (by simp [hde])] at this
        rw [hi.1]
        simpa using this
    · have ht2 : t = tags.length := by omega
      subst ht2
      rw [List.take_length] at hs6
      refine ⟨[b], fun x hx => ?_, by rw [add_none]; simp, _, g13 _ u6, by rw [add_none]; simp, _, g14 _ u6, fun w7 u7 => ?_⟩
      · have hx : x = b := by simpa using hx
        subst hx
        exact Nat.lt_of_lt_of_le hb.2 u6.size
      have v7 := u6.then u7
      have ht4 : (tags.flatMap tagB).length ≤ 8 := by rw [tags_len]; omega
      refine c44 (hs6.old u7) (o6.old u7) v7.size (by simp only [List.length_append, arrL_len]; omega) fun r w8 u8 hr8 ho8 hn8 => ⟨_, rfl, ?_, ?_⟩
      · intro x hx
        have hx : x = b := by simpa using hx
        subst hx
        have y6 := u6.size
        have y7 := u7.size
        rw [u8.keep x (by omega) (fun hm => by have := (o6.blk x hm).1; omega), u7.keep x (by omega) (by simp)]
      have v8 := v7.step0 u8 (fun x hx => (o6.blk x hx).1)
      refine append_own (c := cU8) hr8 ho8 (hd2.old v8) v8.size (by simp) (by decide) (by simp only [List.length_append, arrL_len, two, List.length_cons, List.length_nil]; omega) fun r2 w9 hr9 ho9 u9 _ => ?_
      exact ko r2 w9 rfl (v2.step0 (v8.step u9 (m := []) (fun x hx => .inl (ho8.blk x hx).1)) (by simp)) hr9 (ho9.mono v2.size)
end
end Go.Vc.S5
end

section
open Go Go.Vc Go.Proofs
set_option linter.unusedVariables false
set_option linter.unusedSimpArgs false
set_option autoImplicit false
namespace Go.Vc.S5

theorem two_w16 {l : List Int} (hb : Byt l) {i : Nat} (h : i + 1 < l.length) : two (w16 l (i : Nat)) = [l[i], l[i + 1]] := by
  have h1 := hb.bt (i : Nat)
  have h2 := hb.bt ((i : Int) + 1)
  have e1 := bt_nat (l := l) (i := i) (by omega)
  have e2 : bt l ((i : Int) + 1) = l[i + 1] := by
    have := bt_nat (l := l) (i := i + 1) h
    simpa using this
  unfold two w16
  rw [← e1, ← e2]
  congr 1
  · omega
  · congr 1
    omega
theorem take_two {l : List Int} (hb : Byt l) {i : Nat} (h : i + 2 ≤ l.length) : l.take (i + 2) = l.take i ++ two (w16 l (i : Nat)) := by
  rw [two_w16 hb (by omega), take_snoc (show i + 1 < l.length by omega), take_snoc (show i < l.length by omega), List.append_assoc]
  rfl
theorem tci_of {v : Int} (h : 0 ≤ v ∧ v ≤ 65535) (n : Int) : tci ⟨n, v / 8192, v / 4096 % 2 == 1, v % 4096⟩ = v := by
  unfold tci
  by_cases e : v / 4096 % 2 = 1
  · simp [e]; omega
  · simp [e]; omega

structure Good (l : List Int) (tags : List Tag) (t : Nat) : Prop where
  pos : t = 12 + 4 * tags.length
  lim : t + 2 ≤ l.length
  tpid : tagsT tags
  val : ∀ x ∈ tags, tagV x
  pre : l.take t = l.take 12 ++ tags.flatMap tagB
theorem ploop_ok {l : List Int} (hb : Byt l) : ∀ (f : Nat) (tags : List Tag) (t : Nat) (tags' : List Tag) (t' : Nat), f + tags.length = 3 → Good l tags t → ploop l f tags t = .ok (tags', t') →
    Good l tags' t' ∧ tags'.length ≤ 2 ∧ isTagN (w16 l t') = false ∧ 1536 ≤ w16 l t'
  | 0, tags, t, tags', t', hf, hg, h => by simp [ploop] at h
  | f + 1, tags, t, tags', t', hf, hg, h => by
    unfold ploop at h
    split at h
    · rename_i hT
      split at h; · cases h
      split at h; · cases h
      split at h; · cases h
      rename_i h1 h2 h3
      have hr := w16_r hb ((t + 2 : Nat) : Int)
      refine ploop_ok hb f _ _ _ _ (by simp; omega) ⟨by have := hg.pos; simp; omega, by omega, fun i hi => ?_, fun x hx => ?_, ?_⟩ h
      · rcases Nat.lt_or_ge i tags.length with hlt | hge
        · rw [List.getElem_append_left hlt]; exact hg.tpid i hlt
        · rw [List.getElem_append_right hge]
          simp at hi
          simp only [List.getElem_singleton]
          simp [isTagN] at hT
          have : i = tags.length := by omega
          omega
      · rcases List.mem_append.1 hx with hx | hx
        · exact hg.val x hx
        · obtain rfl := List.mem_singleton.1 hx
          unfold tagV
          dsimp only
          omega
      · rw [show t + 4 = (t + 2) + 2 by omega, take_two hb (by omega), take_two hb (by omega), hg.pre, List.flatMap_append]
        have e : tagB ⟨w16 l t, w16 l ((t + 2 : Nat) : Int) / 8192, w16 l ((t + 2 : Nat) : Int) / 4096 % 2 == 1, w16 l ((t + 2 : Nat) : Int) % 4096⟩ = two (w16 l t) ++ two (w16 l ((t + 2 : Nat) : Int)) := by
          unfold tagB
          rw [tci_of hr]
        simp only [List.flatMap_cons, List.flatMap_nil, List.append_nil, e, List.append_assoc]
    · rename_i hT
      split at h; · cases h
      rename_i h1
      injection h with h
      injection h with h2 h3
      subst h2 h3
      exact ⟨hg, by omega, by simpa using hT, by omega⟩
theorem parse_ok {l : List Int} (hb : Byt l) {tags : List Tag} {t : Nat} (h : parse l = .ok (tags, t)) : l.length ≤ 65535 ∧ 14 ≤ l.length ∧ bt l 6 % 2 ≠ 1 ∧ Good l tags t ∧ tags.length ≤ 2 ∧ isTagN (w16 l t) = false ∧ 1536 ≤ w16 l t := by
  unfold parse at h
  split at h; · cases h
  split at h; · cases h
  split at h; · cases h
  rename_i h1 h2 h3
  exact ⟨by omega, by omega, h3, ploop_ok hb 3 [] 12 tags t rfl ⟨rfl, by omega, fun i hi => by simp at hi, by simp, by simp⟩ h⟩
theorem chk_zero {s0 type : Int} {tags : List Tag} {n : Nat} (h1 : s0 % 2 ≠ 1) (h2 : tags.length ≤ 2) (h3 : tagsT tags) (h4 : ∀ t ∈ tags, tagV t) (h5 : 1536 ≤ type) (h6 : type ≤ 65535) (h7 : isTagN type = false) (h8 : 14 + 4 * tags.length + n ≤ 65535) :
    chk s0 tags type n = 0 := by
  unfold chk
  rw [if_neg h1, if_neg (by omega), if_neg (not_not_intro h3), if_neg (not_not_intro h4), if_neg (by simp [h7]; omega), if_neg (by omega)]
theorem arr6 {l : List Int} {f : Nat → Int} {k : Nat} (h : k + 6 ≤ l.length) (hf : ∀ i, i < 6 → f i = bt l ((k + i : Nat) : Int)) : arrL 6 f = (l.take (k + 6)).drop k := by
  refine List.ext_getElem (by rw [arrL_len]; simp; omega) fun i h1 h2 => ?_
  rw [arrL_len] at h1
  have h3 : k + i < l.length := by omega
  simp only [arrL, List.getElem_map, List.getElem_range, List.getElem_drop, List.getElem_take]
  rw [hf i h1, bt_nat h3]
/-- what was read is written as it was -/
theorem ser_parse {l : List Int} (hb : Byt l) {tags : List Tag} {t : Nat} (h : parse l = .ok (tags, t)) {f g : Nat → Int} (hf : ∀ i, i < 6 → f i = bt l (i : Nat)) (hg : ∀ i, i < 6 → g i = bt l ((6 + i : Nat) : Int)) :
    chk (g 0) tags (w16 l t) (l.drop (t + 2)).length = 0 ∧ ser f g tags (w16 l t) (l.drop (t + 2)) = l := by
  obtain ⟨h1, h2, h3, h4, h5, h6, h7⟩ := parse_ok hb h
  have hp := h4.pos
  have hlim := h4.lim
  have hr := w16_r hb t
  refine ⟨chk_zero (by rw [hg 0 (by omega)]; exact h3) h5 h4.tpid h4.val h7 hr.2 h6 (by rw [List.length_drop]; omega), ?_⟩
  unfold ser
  rw [arr6 (l := l) (f := f) (k := 0) (by omega) (fun i hi => by rw [hf i hi]; congr 1; omega), arr6 (l := l) (f := g) (k := 6) (by omega) hg]
  have e12 : (l.take (0 + 6)).drop 0 ++ (l.take (6 + 6)).drop 6 = l.take 12 := by
    rw [List.drop_zero, show l.take (0 + 6) = (l.take (6 + 6)).take 6 by rw [List.take_take]; rfl, List.take_append_drop]
  rw [e12, ← h4.pre, ← take_two hb hlim, List.take_append_drop]
/-- and read as it was -/
theorem small_parse : parse [255, 255, 255, 255, 255, 255, 2, 0, 0, 0, 0, 1, 8, 0, 7] = .ok ([], 12) := by
  simp [parse, ploop, w16, bt, isTagN]
end Go.Vc.S5
end

section
open Go Go.Vc Go.Proofs
set_option linter.unusedVariables false
set_option linter.unusedSimpArgs false
set_option autoImplicit false
namespace Go.Vc.S5

theorem w16_mid (A B : List Int) {n : Int} (h : 0 ≤ n ∧ n ≤ 65535) {i : Int} (hi : i = A.length) : w16 (A ++ (two n ++ B)) i = n := by
  subst hi
  unfold w16 bt two
  have e1 : ((A.length : Int)).toNat = A.length := by omega
  have e2 : ((A.length : Int) + 1).toNat = A.length + 1 := by omega
  rw [e1, e2]
  simp [List.getElem?_append_right]
  omega
theorem tci_r {t : Tag} (h : tagV t) : 0 ≤ tci t ∧ tci t ≤ 65535 ∧ tci t % 4096 = t.vid ∧ tci t / 8192 = t.pcp ∧ (tci t / 4096 % 2 == 1) = t.dei := by
  unfold tagV at h
  unfold tci
  cases hd : t.dei <;> simp <;> omega
theorem ploop_ser {type : Int} {data : List Int} (h1 : 1536 ≤ type) (h2 : type ≤ 65535) (h3 : isTagN type = false) : ∀ (rest done : List Tag) (A : List Int) (fuel : Nat), fuel + done.length = 3 → done.length + rest.length ≤ 2 →
    tagsT (done ++ rest) → (∀ x ∈ rest, tagV x) → ploop (A ++ (rest.flatMap tagB ++ (two type ++ data))) fuel done A.length = .ok (done ++ rest, A.length + 4 * rest.length)
  | [], done, A, fuel, hf, hl, hT, hV => by
    obtain ⟨f, rfl⟩ : ∃ f, fuel = f + 1 := ⟨fuel - 1, by omega⟩
    unfold ploop
    rw [List.flatMap_nil, List.nil_append, w16_mid A data ⟨by omega, h2⟩ rfl, if_neg (by simp [h3]), if_neg (by omega)]
    simp
  | x :: r, done, A, fuel, hf, hl, hT, hV => by
    obtain ⟨f, rfl⟩ : ∃ f, fuel = f + 1 := ⟨fuel - 1, by omega⟩
    simp at hl
    have hx := hT done.length (by simp)
    rw [List.getElem_append_right (Nat.le_refl _)] at hx
    simp only [Nat.sub_self, List.getElem_cons_zero] at hx
    have hv := hV x (by simp)
    obtain ⟨c1, c2, c3, c4, c5⟩ := tci_r hv
    have e0 : A ++ ((x :: r).flatMap tagB ++ (two type ++ data)) = A ++ (two x.tpid ++ (two (tci x) ++ (r.flatMap tagB ++ (two type ++ data)))) := by
      rw [List.flatMap_cons]
      unfold tagB
      simp only [List.append_assoc]
    have e1 : w16 (A ++ ((x :: r).flatMap tagB ++ (two type ++ data))) A.length = x.tpid := by rw [e0]; exact w16_mid _ _ (by omega) rfl
    have e2 : w16 (A ++ ((x :: r).flatMap tagB ++ (two type ++ data))) ((A.length + 2 : Nat) : Int) = tci x := by
      rw [e0, ← List.append_assoc]
      exact w16_mid _ _ ⟨c1, c2⟩ (by simp [two])
    have ih := ploop_ser (data := data) h1 h2 h3 r (done ++ [x]) (A ++ tagB x) f (by simp; omega) (by simp; omega) (by simpa using hT) (fun y hy => hV y (by simp [hy]))
    have e3 : A ++ tagB x ++ (r.flatMap tagB ++ (two type ++ data)) = A ++ ((x :: r).flatMap tagB ++ (two type ++ data)) := by simp [List.append_assoc]
    rw [e3] at ih
    unfold ploop
    rw [e1, e2, if_pos (by unfold isTagN; simp; omega), if_neg (by omega), if_neg (by simp [two, tagB_len]; omega), if_neg (by unfold tagV at hv; omega), c3, c4, c5]
    rw [List.length_append, tagB_len] at ih
    rw [show (⟨x.tpid, x.pcp, x.dei, x.vid⟩ : Tag) = x from rfl, ih]
    simp
    omega
theorem bt_app1 {A B : List Int} {i : Nat} (h : i < A.length) : bt (A ++ B) (i : Nat) = bt A (i : Nat) := by
  simp [bt, List.getElem?_append_left h]
theorem bt_app2 {A B : List Int} {i : Nat} : bt (A ++ B) ((A.length + i : Nat) : Int) = bt B (i : Nat) := by
  have : ((A.length : Int) + (i : Int)).toNat = A.length + i := by omega
  simp [bt, List.getElem?_append_right, this]
/-- what was written is read as it was -/
theorem parse_ser {f g : Nat → Int} {tags : List Tag} {type : Int} {data : List Int} (h : chk (g 0) tags type data.length = 0) :
    parse (ser f g tags type data) = .ok (tags, 12 + 4 * tags.length) ∧ w16 (ser f g tags type data) ((12 + 4 * tags.length : Nat) : Int) = type ∧ (ser f g tags type data).drop (12 + 4 * tags.length + 2) = data ∧
    (∀ i, i < 6 → bt (ser f g tags type data) (i : Nat) = f i) ∧ (∀ i, i < 6 → bt (ser f g tags type data) ((6 + i : Nat) : Int) = g i) := by
  obtain ⟨h1, h2, h3, h4, h5, h6, h7, h8⟩ := chk_ok (src := g) h
  have hlen : (ser f g tags type data).length = 14 + 4 * tags.length + data.length := by
    unfold ser
    simp only [List.length_append, arrL_len, tags_len, two, List.length_cons, List.length_nil]; omega
  have e0 : ser f g tags type data = (arrL 6 f ++ arrL 6 g) ++ (tags.flatMap tagB ++ (two type ++ data)) := by
    unfold ser
    simp only [List.append_assoc]
  have l12 : (arrL 6 f ++ arrL 6 g).length = 12 := by simp [arrL_len]
  have hf : ∀ i, i < 6 → bt (ser f g tags type data) (i : Nat) = f i := fun i hi => by
    rw [e0, bt_app1 (by omega), bt_app1 (by rw [arrL_len]; exact hi), arrL_bt (by omega) (by omega)]
    simp
  have hg : ∀ i, i < 6 → bt (ser f g tags type data) ((6 + i : Nat) : Int) = g i := fun i hi => by
    have : bt (arrL 6 f ++ arrL 6 g) ((6 + i : Nat) : Int) = bt (arrL 6 g) (i : Nat) := by
      have := bt_app2 (A := arrL 6 f) (B := arrL 6 g) (i := i)
      rwa [arrL_len] at this
    rw [e0, bt_app1 (by omega), this, arrL_bt (by omega) (by omega)]
    simp
  refine ⟨?_, ?_, ?_, hf, hg⟩
  · unfold parse
    rw [if_neg (by omega), if_neg (by omega)]
    have h60 := hg 0 (by omega)
    rw [if_neg (by rw [show ((6 : Int)) = ((6 + 0 : Nat) : Int) from rfl, h60]; exact h1)]
    have := ploop_ser (type := type) (data := data) h5 h6 h7 tags [] (arrL 6 f ++ arrL 6 g) 3 rfl (by simpa using h2) (by simpa using h3) h4
    rw [e0]
    rw [l12] at this
    simpa using this
  · rw [e0, ← List.append_assoc]
    exact w16_mid _ _ ⟨by omega, h6⟩ (by rw [List.length_append, l12, tags_len])
  · rw [e0, ← List.append_assoc, ← List.append_assoc]
    exact List.drop_left' (by simp only [List.length_append, arrL_len, tags_len, two, List.length_cons, List.length_nil])
end Go.Vc.S5
end
end

section
section
open Go Go.Vc Go.Proofs
set_option linter.unusedVariables false
set_option linter.unusedSimpArgs false
set_option autoImplicit false
namespace Go.Vc.S5

section
variable {dst src : Nat → Int} {ts ds : Sl} {tags : List Tag} {type : Int} {data : List Int} {w : World} {R : SV → World → Prop}
set_option maxRecDepth 10000 in
theorem c32 (h : Sees cTag w ts tags) (hd : SeesB w ds data) (hs : 0 ≤ src 0 ∧ src 0 < 256) (hl : data.length ≤ 140737488355328)
    (ke : ∀ w1, chk (src 0) tags type data.length ≠ 0 → Upd [] [] w w1 → R (.tuple [.slice nilS, .int .i64 (chk (src 0) tags type data.length)]) w1)
    (ko : ∀ s w1, chk (src 0) tags type data.length = 0 → Upd [] [] w w1 → SeesB w1 s (ser dst src tags type data) → Own w.heap.size 1 w1 s → R (.tuple [.slice s, .int .i64 0]) w1) :
    Ret Try.prog 32 [frSV dst src ts type ds] w R := by
  refine f32_of _ _ _ _ _ _ _ ?_
  unfold vc32
  intro b w1 u1
  refine c52 (h.old u1) hd.len hs hl fun w2 u2 => ⟨_, rfl, kp u2, ?_⟩
  have v2 := u1.then u2
  refine bre' (fun hne => ke _ hne v2) (fun he => ?_)
  rw [he] at ko
  obtain ⟨_, h2, hT, hV, ht1, ht2, _, hsz⟩ := chk_ok he
  have hb : w.heap.size ≤ b ∧ b < w2.heap.size := by have := u1.new (b := b) (by simp); have := u2.size; omega
  have h2' := (h.old u1).old u2
  have hd2 := (hd.old u1).old u2
  have hlen := h.len
  have hbs : ∀ x ∈ [b], x < w2.heap.size := by simp; omega
  refine app_loop (m := 6) (f := dst) rfl (Upd.refl w2) (Sees.nil _ _ _ _) (Own.none _ _ _) (by simp) (fun t ht => by simp [SV.cells, SV.cellsL]) hbs (fun I M s n w r w' h1 h2 => ⟨rfl, h1, h2⟩) fun s w3 u3 hs3 ho3 => ?_
  refine app_loop (m := 6) (f := src) rfl u3 hs3 ho3 (by simp [arrL_len]) (fun t ht => by simp [SV.cells, SV.cellsL]) hbs (fun I M s n w r w' h1 h2 => ⟨rfl, h1, h2⟩) fun s w4 u4 hs4 ho4 => ?_
  refine ⟨fun s n w6 => Upd [] [] w2 w6 ∧ Own w2.heap.size 1 w6 s ∧ ∃ t : Nat, n = t ∧ t ≤ tags.length ∧ SeesB w6 s (arrL 6 dst ++ arrL 6 src ++ (tags.take t).flatMap tagB), fun _ n _ => (tags.length - n).toNat, ⟨u4, ho4, 0, rfl, by omega, by simpa using hs4⟩, ?_⟩
  rintro s n w6 ⟨u6, o6, t, rfl, ht, hs6⟩
  refine brd (fun hlt => ?_) (fun hge => ?_)
  · have ht2 : t < tags.length := by omega
    have h6 := h2'.old u6
    have hc := tag_cells h6 (i := (t : Int)) (by omega) (by omega)
    simp only [Int.toNat_natCast] at hc
    have hv := hV _ (List.getElem_mem ht2)
    unfold tagV at hv
    have ht4 : ((tags.take t).flatMap tagB).length ≤ 8 := by rw [tags_len, List.length_take]; omega
    intro J hJ
    refine needT h6 (by omega) (by omega) ⟨_, (by rw [Int.toNat_natCast]; exact hc.1), _, (by rw [Int.toNat_natCast]; exact hc.2.1), _, (by rw [Int.toNat_natCast]; exact hc.2.2.1), _, (by rw [Int.toNat_natCast]; exact hc.2.2.2), ?_⟩
    intro b2 J2 hJ2
    have hT2 := hT t ht2
    have fin : ∀ w7, Upd [] [b2] w6 w7 → J2 (tci tags[t]) w7 := by
      intro w7 u7
      have hb2 := u7.new (b := b2) (by simp)
      refine hJ2 _ _ ?_
      have v7 := u6.then u7
      have o7 := o6.old u7
      refine c53 (n := tags[t].tpid) (by omega) fun x w8 u8 hs8 => ⟨_, rfl, kp u8, ?_⟩
      have v8 := v7.then u8
      have o8 := o7.old u8
      refine append_own (c := cU8) ((hs6.old u7).old u8) o8 hs8 v8.size (fun x hx hm => by
        have := (o6.blk x hx); have := u7.size; simp at hm; omega) (by decide) (by simp only [List.length_append, arrL_len, two, List.length_cons, List.length_nil]; omega) fun r w9 hr9 ho9 u9 hn9 => ?_
      have v9 := v8.step0 u9 (fun x hx => (o8.blk x hx).1)
      refine c53 (n := tci tags[t]) (by unfold tci; split <;> omega) fun x2 w10 u10 hs10 => ⟨_, rfl, kp u10, ?_⟩
      have v10 := v9.then u10
      have o10 := ho9.old u10
      have y7 := u7.size
      have y8 := u8.size
      refine append_own (c := cU8) (hr9.old u10) o10 hs10 v10.size (fun x hx hm => by
        simp at hm
        have h1 := (ho9.blk x hx).1
        rcases hn9 x hx with h' | h'
        · have := (o6.blk x h'); omega
        · omega) (by decide) (by simp only [List.length_append, arrL_len, two, List.length_cons, List.length_nil]; omega) fun r2 w11 hr11 ho11 u11 _ => ?_
      have v11 := v10.step0 u11 (fun x hx => (o10.blk x hx).1)
      repeat refine And.intro rfl ?_
      refine hJ _ _ ?_
      repeat refine And.intro rfl ?_
      refine ⟨⟨v11, ho11, t + 1, wr_succ (by omega), by omega, ?_⟩, by rw [wr_succ (by omega)]; (try dsimp only); omega⟩
      rw [flatMap_snoc ht2]
      rw [show tagB tags[t] = two tags[t].tpid ++ two (tci tags[t]) from rfl, ← List.append_assoc, ← List.append_assoc]
      exact hr11
    have e1 : wr .i64 (wr .i64 (tags[t].pcp * 8192) + tags[t].vid) = tags[t].pcp * 8192 + tags[t].vid := by rw [wr_i64 (x := tags[t].pcp * 8192) (by omega) (by omega), wr_i64 (by omega) (by omega)]
    refine brb (fun hde w7 u7 => ?_) (fun hde w7 u7 => ?_)
    · have := fin w7 u7
      unfold tci at this
      rw [if_pos hde] at this
      rw [e1, wr_i64 (by omega) (by omega)]
      repeat refine And.intro rfl ?_
      exact this
    · have := fin w7 u7
      unfold tci at this
      rw [if_neg (by simp [hde]), Int.add_zero] at this
      rw [e1]
      repeat refine And.intro rfl ?_
      exact this
  · have ht2 : t = tags.length := by omega
    subst ht2
    rw [List.take_length] at hs6
    have ht4 : (tags.flatMap tagB).length ≤ 8 := by rw [tags_len]; omega
    refine c53 (n := type) (by omega) fun x w7 u7 hs7 => ⟨_, rfl, kp u7, ?_⟩
    have v7 := u6.then u7
    have o7 := o6.old u7
    refine append_own (c := cU8) (hs6.old u7) o7 hs7 v7.size (fun x hx hm => by have := (o7.blk x hx).1; simp at hm; omega) (by decide) (by simp only [List.length_append, arrL_len, two, List.length_cons, List.length_nil]; omega) fun r w8 hr8 ho8 u8 _ => ?_
    have v8 := v7.step0 u8 (fun x hx => (o7.blk x hx).1)
    refine append_own (c := cU8) hr8 ho8 (hd2.old v8) v8.size (fun x hx hm => by have := (ho8.blk x hx).1; simp at hm; omega) (by decide) (by simp only [List.length_append, arrL_len, two, List.length_cons, List.length_nil]; omega) fun r2 w9 hr9 ho9 u9 _ => ?_
    exact ko r2 w9 rfl (v2.step0 (v8.step u9 (m := []) (fun x hx => .inl (ho8.blk x hx).1)) (by simp)) hr9 (ho9.mono v2.size)

/-- two frames of the same values -/
theorem c28T {dst' src' : Nat → Int} {ts' ds' : Sl} (h : Sees cTag w ts tags) (h' : Sees cTag w ts' tags) (hd : SeesB w ds data) (hd' : SeesB w ds' data) (hf : ∀ i, i < 6 → dst i = dst' i) (hg : ∀ i, i < 6 → src i = src' i)
    (ht : tags.length ≤ 4398046511104) (hl : data.length ≤ 140737488355328) (k : ∀ w1, Upd [] [] w w1 → R (.bool true) w1) : Ret Try.prog 28 [frSV dst src ts type ds, frSV dst' src' ts' type ds'] w R := by
  refine f28_of _ _ _ _ _ _ _ _ _ _ _ _ ?_
  unfold vc28
  intro b b2 J hJ
  refine brf (by rw [eqArr_iff.2 hf]; rfl) (brf (by rw [eqArr_iff.2 hg]; rfl) (brf (by simp) (brf (by rw [h.len, h'.len]; simp) (brf (by rw [hd.len, hd'.len]; simp) (fun w1 u1 => ?_)))))
  repeat refine And.intro rfl ?_
  refine hJ _ ?_
  have tl := h.len
  have tl' := h'.len
  have dl := hd.len
  have dl' := hd'.len
  refine ⟨fun n w2 => Upd [] [] w w2 ∧ ∃ t : Nat, n = t ∧ t ≤ tags.length, fun n _ => (tags.length - n).toNat, ⟨u1.forget, 0, rfl, by omega⟩, ?_⟩
  rintro n w2 ⟨u2, t, rfl, ht'⟩
  refine brd (fun hlt => ?_) (fun hge => ?_)
  · have ht2 : t < tags.length := by omega
    have hc := tag_cells (h.old u2) (i := (t : Int)) (by omega) (by omega)
    have hc' := tag_cells (h'.old u2) (i := (t : Int)) (by omega) (by omega)
    refine needT (h.old u2) (by omega) (by omega) ⟨_, hc.1, _, hc.2.1, _, hc.2.2.1, _, hc.2.2.2, ?_⟩
    refine needT (h'.old u2) (by omega) (by omega) ⟨_, hc'.1, _, hc'.2.1, _, hc'.2.2.1, _, hc'.2.2.2, ?_⟩
    refine brf (by simp) fun w3 u3 => ?_
    repeat refine And.intro rfl ?_
    exact ⟨⟨u2.then u3, t + 1, wr_succ (by omega), by omega⟩, by rw [wr_succ (by omega)]; (try dsimp only); omega⟩
  · refine ⟨fun n w2 => Upd [] [] w w2 ∧ ∃ t : Nat, n = t ∧ t ≤ data.length, fun n _ => (data.length - n).toNat, ⟨u2, 0, rfl, by omega⟩, ?_⟩
    rintro n w2 ⟨u2, t, rfl, ht'⟩
    refine brd (fun hlt => ?_) (fun hge => ?_)
    · refine needB (hd.old u2) (by omega) (by omega) ⟨_, (hd.old u2).byte (by omega) (by omega), needB (hd'.old u2) (by omega) (by omega) ⟨_, (hd'.old u2).byte (by omega) (by omega), brf (by simp) fun w3 u3 => (by (repeat refine And.intro rfl ?_); exact ⟨⟨u2.then u3, t + 1, wr_succ (by omega), by omega⟩, by rw [wr_succ (by omega)]; (try dsimp only); omega⟩)⟩⟩
    · exact k _ u2
end

abbrev smallB : List Int := [255, 255, 255, 255, 255, 255, 2, 0, 0, 0, 0, 1, 8, 0, 7]
theorem c33 {w : World} {R : SV → World → Prop} (k : ∀ s w1, Upd [] [] w w1 → SeesB w1 s smallB → s.len ≤ s.cap → R (.slice s) w1) : Ret Try.prog 33 [] w R := by
  refine f33_of _ _ ?_
  unfold vc33
  intro b w1 u1 hrow
  exact k _ _ u1.forget (rowB hrow smallB rfl rfl) (Nat.le_refl _)
theorem small_byt : Byt smallB := by simp [Byt]

theorem c49 {w : World} {R : SV → World → Prop} (k : ∀ w1, Upd [] [] w w1 → R (.bool true) w1) : Ret Try.prog 49 [] w R := by
  refine f49_of _ _ ?_
  unfold vc49
  intro b w1 u1 hrow b1 wa ua b2 w2 ub hrow2 b3 w3 u3
  have u2 : Upd [] [b1, b2] w1 w2 := ua.trans ub
  have ht := sees_row (c := cTag) (n := 3) (cap := 3) hrow [⟨0, 0, false, 0⟩, ⟨0, 0, false, 0⟩, ⟨0, 0, false, 0⟩] rfl rfl
  have hz := rowB (n := 65536) (cap := 65536) hrow2 (List.replicate 65536 0) (zeros_cells _) (by rw [List.length_replicate])
  have hz3 : SeesB w2 nilS [] := Sees.nil _ _ _ _
  refine c30 (data := []) (tags := [⟨0, 0, false, 0⟩, ⟨0, 0, false, 0⟩, ⟨0, 0, false, 0⟩]) ((ht.old u2).old u3) rfl (by simp [fset]) (by simp) fun w4 u4 => ⟨_, rfl, kp u4, u3.then u4, ?_⟩
  refine c52 (data := []) (tags := [⟨0, 0, false, 0⟩, ⟨0, 0, false, 0⟩, ⟨0, 0, false, 0⟩]) (((ht.old u2).old u3).old u4) rfl (by simp [fset]) (by simp) fun w5 u5 => ⟨_, rfl, kp u5, (u3.then u4).then u5, ?_⟩
  refine bre (fun _ => ?_) (fun h => absurd rfl h)
  have v5 := (u3.then u4).then u5
  refine c30 (data := List.replicate 65536 0) (tags := []) (Sees.nil _ _ _ _) (by rw [List.length_replicate]) (by simp) (by rw [List.length_replicate]; omega) fun w6 u6 => ⟨_, rfl, kp u6, v5.then u6, ?_⟩
  refine c52 (data := List.replicate 65536 0) (tags := []) (Sees.nil _ _ _ _) (by rw [List.length_replicate]) (by simp) (by rw [List.length_replicate]; omega) fun w7 u7 => ⟨_, rfl, kp u7, ?_⟩
  rw [beq_self_eq_true]
  exact k _ (((u1.then u2).then v5).then (u6.then u7))
end Go.Vc.S5
end

section
open Go Go.Vc Go.Proofs
set_option linter.unusedVariables false
set_option linter.unusedSimpArgs false
set_option autoImplicit false
namespace Go.Vc.S5

set_option maxRecDepth 10000 in
theorem c25 {w : World} {R : SV → World → Prop} (k : ∀ w1, Upd [] [] w w1 → R (.bool true) w1) : Ret Try.prog 25 [] w R := by
  refine f25_of _ _ ?_
  unfold vc25
  refine c49 fun w1 u1 => ⟨_, rfl, brf rfl ?_⟩
  refine c33 fun s w2 u2 hs2 hc2 => ⟨_, rfl, ?_⟩
  refine c26 hs2 small_byt hc2 (by decide) (fun e w3 he u3 => by rw [small_parse] at he; cases he) fun tags t f g ts w3 hp hf hg hlim htl u3 ht3 ho3 => ⟨_, _, _, _, _, _, rfl, ?_⟩
  have hpp := hp
  rw [small_parse] at hp
  injection hp with hp
  injection hp with e1 e2
  subst e1 e2
  intro b w4 u4
  refine c26 (l := []) (Sees.nil _ _ _ _) Byt.nil (by decide) (by decide) (fun e w5 he u5 => ?_) (fun tags t f g ts w3 hp => by simp [parse] at hp)
  have ee : e = 50 := by simp [parse] at he; exact he.symm
  subst ee
  refine ⟨_, _, _, _, _, _, rfl, kp u5, ?_⟩
  intro b2 w6 u6
  have v6 := ((u3.then u4).then u5).then u6
  have h6 := hs2.old v6
  have hd : SeesB w6 (s.sub 1 (12 + 2) smallB.length smallB.length) (smallB.drop (12 + 2)) := h6.subB (lo := 14) (hi := 15) (mx := 15) (by omega) (by decide) (by omega)
  obtain ⟨hk0, hser⟩ := ser_parse small_byt hpp hf hg
  have hg0 : 0 ≤ g 0 ∧ g 0 < 256 := by rw [hg 0 (by omega)]; exact small_byt.bt _
  refine c31 (((ht3.old u4).old u5).old u6) hd hg0 (by decide) (fun w7 hne => absurd hk0 hne) fun r w7 _ u7 hs7 ho7 => ⟨_, _, rfl, kp u7, ?_⟩
  rw [hser] at hs7
  have hw : w16 smallB 12 = 2048 := rfl
  refine brt rfl (brt rfl (brt rfl (brt (by rw [show ((12 : Nat) : Int) = 12 from rfl, hw]; rfl) (brt (by rfl) ?_))))
  have hd7 := hd.old u7
  refine needCB hd7 0 (by decide) ⟨_, byteC hd7 0 (by decide), brt (by rfl) ?_⟩
  refine c33 fun s2 w8 u8 hs8 _ => ⟨_, rfl, kp u8, ?_⟩
  refine cSameT (hs7.old u8) hs8 (by decide) fun w9 u9 => ⟨_, rfl, kp u9, ?_⟩
  exact k _ (((((u1.then u2).then v6).then u7).then u8).then u9)

theorem c29 {dst src : Nat → Int} {ts ds : Sl} {tags : List Tag} {type : Int} {data : List Int} {w : World} {R : SV → World → Prop} (h : Sees cTag w ts tags) (hd : SeesB w ds data) (hc : ds.len ≤ ds.cap) (ht : tags.length ≤ 4398046511104)
    (k : ∀ s d w1, Upd [] [] w w1 → Sees cTag w1 s tags → Own w.heap.size 4 w1 s → SeesB w1 d (cutOf data) → Own w.heap.size 1 w1 d → R (frSV dst src s type d) w1) : Ret Try.prog 29 [frSV dst src ts type ds] w R := by
  refine f29_of _ _ _ _ _ _ _ ?_
  unfold vc29
  intro b b2 J hJ
  have hlen := hd.len
  have main : ∀ d w1, Upd [] [b2, b] w w1 → SeesB w1 d (cutOf data) → J dst src ts type d w1 := by
    intro d w1 u1 hd1
    have hb := u1.new (b := b) (by simp)
    have hb2 := u1.new (b := b2) (by simp)
    have hcl := cut_len data
    refine hJ _ _ _ _ _ _ ?_
    refine c17 hd1 (by omega) fun s w2 u2 hs2 ho2 => ⟨_, rfl, kp u2, fun w3 u3 => ?_⟩
    have v3 := (u1.then u2).step0 u3 (by simp; omega)
    have y2 := u2.size
    have y3 := u3.size
    have k3 : ∀ x ∈ s.blk, x ∉ [b] := fun x hx hm => by have := (ho2.blk x hx); simp at hm; omega
    have hs3 := hs2.upd u3 k3
    have ho3 := ho2.upd u3 k3
    have z1 := u1.size
    refine append_own (c := cTag) (Sees.nil _ _ _ _) (Own.none w3.heap.size _ _) (h.old v3) (Nat.le_refl _) (by simp [Sl.blk]) (by decide) (by simp; omega) fun r w4 hr4 ho4 u4 hn4 => ?_
    intro w5 u5
    have u4' : Upd [] [] w3 w4 := u4
    have v5 := (v3.then u4').step0 u5 (by simp; omega)
    have k5 : ∀ x ∈ r.blk, x ∉ [b2, b] := fun x hx hm => by have := (ho4.blk x hx); simp at hm; omega
    have k6 : ∀ x ∈ s.blk, x ∉ [b2, b] := fun x hx hm => by have := (ho2.blk x hx); simp at hm; omega
    refine k _ _ _ v5 ?_ ((ho4.upd u5 k5).mono (by omega)) ((hs3.old u4').upd u5 k6) (((ho3.old u4').upd u5 k6).mono (by omega))
    simpa using hr4.upd u5 k5
  refine brd (fun hg => ?_) (fun hg => ?_)
  · refine needD (by omega) fun w1 u1 => ?_
    repeat refine And.intro rfl ?_
    refine main _ _ u1 ?_
    exact (hd.old u1).subB (lo := 0) (hi := 70000) (mx := ds.cap) (by omega) (by omega) (by omega)
  · intro w1 u1
    repeat refine And.intro rfl ?_
    refine main _ _ u1 ?_
    have : cutOf data = data := List.take_of_length_le (by omega)
    rw [this]
    exact hd.old u1
end Go.Vc.S5
end
end

section
section
open Go Go.Vc Go.Proofs
set_option linter.unusedVariables false
set_option linter.unusedSimpArgs false
set_option autoImplicit false
namespace Go.Vc.S5

theorem ior_nat_u64 {a b : Int} (ha : 0 ≤ a) (ha1 : a < 9223372036854775808) (hb : 0 ≤ b) (hb1 : b < 9223372036854775808) : ior .u64 a b = ior .i64 a b := by
  rw [ior_nat ha ha1 hb hb1]
  unfold ior ibits
  rw [BitVec.toNat_or, ofInt_toNat ha (by simp only [IntKind.bits]; omega), ofInt_toNat hb (by simp only [IntKind.bits]; omega)]
  have : a.toNat ||| b.toNat < 2 ^ 63 := Nat.or_lt_two_pow (by omega) (by omega)
  have h := wr_u64 (x := ((a.toNat ||| b.toNat : Nat) : Int)) (by omega) (by omega)
  unfold wr at h
  exact h
theorem gshl8_u64 (a : Int) : gshl .u64 a 8 = wr .u64 (a * 256) := by
  unfold gshl
  rw [Nat.min_eq_left (by simp only [IntKind.bits]; omega)]; rfl
theorem step_u64 {x y : Int} (hx : 0 ≤ x ∧ x < 256) (hy : 0 ≤ y ∧ y < 256) : ior .u64 (gshl .u64 x 8) (wr .u64 y) = x * 256 + y := by
  rw [gshl8_u64, wr_u64 (by omega) (by omega), wr_u64 (by omega) (by omega), ior_nat_u64 (by omega) (by omega) (by omega) (by omega)]
  exact ior_add 8 (by omega) (by omega) (by omega) (by omega) (by omega) (by omega)

section
variable {b : Sl} {l : List Int} {w : World} {R : SV → World → Prop}
theorem c61 {i : Int} (h : SeesB w b l) (h0 : 0 ≤ i) (hi : i < l.length) (k : R (.int .u8 (bt l i)) w) : Ret Try.prog 61 [.slice b, .int .i64 i] w R := by
  refine f61_of _ _ _ _ ?_
  unfold vc61
  have := h.len
  intro J hJ
  exact brf (by simp; omega) (brf (by simp; omega) (hJ _ (needB h h0 hi ⟨_, h.byte h0 hi, k⟩)))
theorem c57 (k : R (.bool true) w) : Ret Try.prog 57 [.int .i64 2] w R := by
  refine f57_of _ _ _ ?_
  unfold vc57
  exact brt (by decide) k
theorem c59 {p : Nat} (h : SeesB w b l) (hb : Byt l) (hp : p + 1 < l.length) (hl : l.length < 9223372036854775807) (k : R (.int .u64 (w16 l (p : Nat))) w) : Ret Try.prog 59 [.slice b, .int .i64 p, .int .i64 2] w R := by
  refine f59_of _ _ _ _ _ ?_
  unfold vc59
  have hlen := h.len
  intro J hJ
  refine brf (by simp) (brf (by simp; omega) (hJ _ ?_))
  have b0 := hb.bt (p : Nat)
  have b1 := hb.bt ((p : Int) + 1)
  refine ⟨fun v i w1 => w1 = w ∧ (i = 0 ∧ v = 0 ∨ i = 1 ∧ v = bt l (p : Nat) ∨ i = 2 ∧ v = w16 l (p : Nat)), fun _ i _ => (2 - i).toNat, ⟨rfl, .inl ⟨rfl, rfl⟩⟩, ?_⟩
  rintro v i w1 ⟨rfl, hi⟩
  rcases hi with ⟨rfl, rfl⟩ | ⟨rfl, rfl⟩ | ⟨rfl, rfl⟩
  · refine brt (by decide) ?_
    rw [wr_i64 (by omega) (by omega)]
    refine c61 h (by omega) (by omega) ⟨_, rfl, ?_⟩
    rw [Int.add_zero, step_u64 (by omega) b0]
    exact ⟨⟨rfl, .inr (.inl ⟨rfl, by omega⟩)⟩, by rw [wr_i64 (by omega) (by omega)]; (try dsimp only); omega⟩
  · refine brt (by decide) ?_
    rw [wr_i64 (by omega) (by omega)]
    refine c61 h (by omega) (by omega) ⟨_, rfl, ?_⟩
    rw [step_u64 b0 b1]
    exact ⟨⟨rfl, .inr (.inr ⟨rfl, rfl⟩)⟩, by rw [wr_i64 (by omega) (by omega)]; (try dsimp only); omega⟩
  · exact brf (by decide) k

def cU64 : Cod Int := ⟨1, fun n => [.int .u64 n], fun _ => rfl, by simp [Value.oneCell']⟩
theorem c45 {p : Nat} (h : SeesB w b l) (hb : Byt l) (hp : p + 1 < l.length) (hl : l.length < 9223372036854775807) (k : ∀ w1, Upd [] [] w w1 → R (.tuple [.int .u64 (w16 l (p : Nat)), .int .i64 0]) w1) : Ret Try.prog 45 [.slice b, .int .i64 p, .int .i64 2] w R := by
  refine f45_of _ _ _ _ _ ?_
  unfold vc45
  intro b1 b2 w1 u1
  have hb1 := u1.new (b := b1) (by simp)
  have hb2 := u1.new (b := b2) (by simp)
  refine c57 ⟨_, rfl, kp (Upd.refl _), brf rfl fun r1 _ r2 => ?_⟩
  have hne : b1 ≠ b2 := by
    intro e; subst e
    rw [r1] at r2
    simp [SV.cells] at r2
  refine c59 (h.old u1) hb hp hl ⟨_, rfl, ?_⟩
  have s1 := sees_row (c := cU64) (n := 1) (cap := 1) r1 [0] rfl rfl
  have o1 := own_row (n := 1) (cap := 1) (sz := 1) r1 hb1.1 rfl (Nat.le_refl _)
  have s2 := sees_row (c := cI64) (n := 1) (cap := 1) r2 [0] rfl rfl
  have o2 := own_row (n := 1) (cap := 1) (sz := 1) r2 hb2.1 rfl (Nat.le_refl _)
  refine own_set (c := cU64) (i := 0) (x := w16 l (p : Nat)) s1 o1 (by decide) (by decide) rfl (by simp) fun w2 s1 o1 u2 => ?_
  have n1 : ∀ x ∈ Sl.blk ⟨some ⟨b2, 0, none⟩, 1, 1⟩, x ∉ Sl.blk ⟨some ⟨b1, 0, none⟩, 1, 1⟩ := by simp [Sl.blk]; exact fun e => hne e.symm
  have n2 : ∀ x ∈ Sl.blk ⟨some ⟨b1, 0, none⟩, 1, 1⟩, x ∉ Sl.blk ⟨some ⟨b2, 0, none⟩, 1, 1⟩ := by simp [Sl.blk]; exact hne
  refine own_set (c := cI64) (i := 0) (x := 0) (s2.upd u2 n1) (o2.upd u2 n1) (by decide) (by decide) rfl (by simp) fun w3 s2 o2 u3 => ?_
  have s1 := s1.upd u3 n2
  refine c58 ?_
  have e1 := s1.elem (i := 0) (by simp) 0 (by simp [cU64])
  have e2 := s2.elem (i := 0) (by simp) 0 (by simp [cI64])
  refine ⟨_, e1, _, e2, k w3 ?_⟩
  exact (u1.step0 u2 (by simp [Sl.blk]; exact hb1.1)).step0 u3 (by simp [Sl.blk]; exact hb2.1)

theorem c43 (h : SeesB w b l) (hl : 4 ≤ l.length) (k : ∀ f w1, (∀ i, f i = if i < 4 then bt l (i : Nat) else 0) → Upd [] [] w w1 → R (.struct [.int .i64 4, .arr .u8 16 f]) w1) : Ret Try.prog 43 [.slice b] w R := by
  refine f43_of _ _ _ ?_
  unfold vc43
  intro b1
  refine needCB h 0 (by omega) ⟨_, byteC h 0 (by omega), needCB h 1 (by omega) ⟨_, byteC h 1 (by omega), needCB h 2 (by omega) ⟨_, byteC h 2 (by omega), needCB h 3 (by omega) ⟨_, byteC h 3 (by omega), fun w1 u1 => k _ w1 (fun i => ?_) u1.forget⟩⟩⟩⟩
  rcases i with _ | _ | _ | _ | i
  · rfl
  · rfl
  · rfl
  · rfl
  · rw [if_neg (by omega), fset_ne (by omega), fset_ne (by omega), fset_ne (by omega), fset_ne (by omega)]
end
section
variable {m : Nat → Int} {w : World} {R : SV → World → Prop}
abbrev z6 : Nat → Int := fun _ => 0
def arpC (op : Int) (m : Nat → Int) : Int := if op ≠ 1 ∧ op ≠ 2 then 57 else if grp m = true ∨ eqArr 6 m z6 = true then 58 else 0
theorem c42 {op : Int} (hm : 0 ≤ m 0 ∧ m 0 < 256) (k : ∀ w1, Upd [] [] w w1 → R (.int .i64 (arpC op m)) w1) : Ret Try.prog 42 [.int .i64 op, .arr .u8 6 m] w R := by
  refine f42_of _ _ _ _ ?_
  unfold vc42
  intro b J hJ
  have main : (op = 1 ∨ op = 2) → ∀ w1, Upd [] [b] w w1 → J w1 := by
    intro ho w1 u1
    refine hJ _ ?_
    have k1 : ∀ e w2, Upd [] [] w w2 → arpC op m = e → R (.int .i64 e) w2 := fun e w2 u he => he ▸ k w2 u
    unfold arpC at k1
    rw [if_neg (by omega)] at k1
    refine c14 hm fun w2 u2 => ⟨_, rfl, kp u2, brb (fun hg => k1 _ _ (u1.then u2) (by rw [if_pos (.inl hg)])) (fun hg => brb (fun hz => k1 _ _ (u1.then u2) (by rw [if_pos (.inr hz)])) (fun hz => k1 _ _ (u1.then u2) (by rw [if_neg (by simp [hg, hz])])))⟩
  refine bre' (fun h1 => bre' (fun h2 w1 u1 => ?_) (fun h2 w1 u1 => ?_)) (fun h1 w1 u1 => ?_)
  · have := k w1 u1.forget
    unfold arpC at this
    rwa [if_pos ⟨h1, h2⟩] at this
  · exact ⟨rfl, main (.inr h2) w1 u1⟩
  · exact ⟨rfl, main (.inl h1) w1 u1⟩
theorem c47 (hm : 0 ≤ m 0 ∧ m 0 < 256) (k : ∀ w1, Upd [] [] w w1 → R (.bool (!(grp m || eqArr 6 m z6))) w1) : Ret Try.prog 47 [.arr .u8 6 m] w R := by
  refine f47_of _ _ _ ?_
  unfold vc47
  intro b w1 u1
  refine c15 hm fun w2 u2 => ⟨_, rfl, kp u2, ?_⟩
  have v2 := u1.then u2
  refine brn (fun hg => ?_) (fun hg => ?_)
  · have := k w2 v2
    rw [hg, Bool.false_or] at this
    exact this
  · have := k w2 v2
    rw [hg, Bool.true_or] at this
    exact this
def tail0 (a : Nat → Int) : Prop := ∀ i, 4 ≤ i → i < 16 → a i = 0
theorem c48 {a : Nat → Int} (k1 : tail0 a → ∀ w1, Upd [] [] w w1 → R (.bool true) w1) (k2 : ¬ tail0 a → ∀ w1, Upd [] [] w w1 → R (.bool false) w1) : Ret Try.prog 48 [.struct [.int .i64 4, .arr .u8 16 a]] w R := by
  refine f48_of _ _ _ _ ?_
  unfold vc48
  intro b
  refine brf (by decide) ?_
  refine ⟨fun n w1 => Upd [] [] w w1 ∧ ∃ t : Nat, n = t ∧ 4 ≤ t ∧ t ≤ 16 ∧ ∀ i, 4 ≤ i → i < t → a i = 0, fun n _ => (16 - n).toNat, fun w1 u1 => ⟨u1.forget, 4, rfl, by omega, by omega, fun i h1 h2 => by omega⟩, ?_⟩
  rintro n w1 ⟨u1, t, rfl, h4, h16, hz⟩
  refine brd (fun hlt => ?_) (fun hge => k1 (fun i h1 h2 => hz i h1 (by omega)) w1 u1)
  refine needIx2 (by omega) (by omega) (bre' (fun hne => k2 (fun hT => hne (hT _ (by omega) (by omega))) w1 u1) (fun he => ?_))
  repeat refine And.intro rfl ?_
  refine ⟨⟨u1, t + 1, wr_succ (by omega), by omega, by omega, fun i h1 h2 => ?_⟩, by rw [wr_succ (by omega)]; (try dsimp only); omega⟩
  by_cases e : i = t
  · subst e; simpa using he
  · exact hz i h1 (by omega)
theorem c21 (k : ∀ f w1, (∀ i, i < 6 → f i = bt [2, 0, 0, 0, 0, 1] (i : Nat)) → Upd [] [] w w1 → R (.struct [.int .i64 1, .arr .u8 6 f, .struct [.int .i64 4, .arr .u8 16 fun _ => 0], .arr .u8 6 fun _ => 0, .struct [.int .i64 4, .arr .u8 16 fun _ => 0]]) w1) : Ret Try.prog 21 [] w R := by
  refine f21_of _ _ ?_
  unfold vc21
  intro b w1 u1
  refine k _ w1 (fun i hi => ?_) u1.forget
  rcases i with _ | _ | _ | _ | _ | _ | i
  all_goals first | rfl | omega
end
end Go.Vc.S5
end

section
open Go Go.Vc Go.Proofs
set_option linter.unusedVariables false
set_option linter.unusedSimpArgs false
set_option autoImplicit false
namespace Go.Vc.S5

abbrev arpSV (op : Int) (sm : Nat → Int) (v1 : Int) (a1 : Nat → Int) (tm : Nat → Int) (v2 : Int) (a2 : Nat → Int) : SV :=
  .struct [.int .i64 op, .arr .u8 6 sm, .struct [.int .i64 v1, .arr .u8 16 a1], .arr .u8 6 tm, .struct [.int .i64 v2, .arr .u8 16 a2]]
def v4 (v : Int) (a : Nat → Int) : Prop := v = 4 ∧ tail0 a
open Classical in
noncomputable def arpE (op : Int) (sm : Nat → Int) (v1 : Int) (a1 : Nat → Int) (v2 : Int) (a2 : Nat → Int) : Int := if arpC op sm ≠ 0 then arpC op sm else if ¬ v4 v1 a1 ∨ ¬ v4 v2 a2 then 20 else 0
def arpB (op : Int) (sm a1 tm a2 : Nat → Int) : List Int := [0, 1, 8, 0, 6, 4] ++ two op ++ arrL 6 sm ++ arrL 4 a1 ++ arrL 6 tm ++ arrL 4 a2
theorem arpB_len (op : Int) (sm a1 tm a2 : Nat → Int) : (arpB op sm a1 tm a2).length = 28 := by
  unfold arpB
  simp only [List.length_append, arrL_len, two, List.length_cons, List.length_nil]
theorem arp_take (f : Nat → Int) : ((arrL 16 f).take 4).drop 0 = arrL 4 f := by
  simp only [arrL, List.drop_zero, ← List.map_take, List.take_range]
  rfl
theorem arpC_ok {op : Int} {m : Nat → Int} (h : arpC op m = 0) : (op = 1 ∨ op = 2) ∧ (grp m || eqArr 6 m z6) = false := by
  unfold arpC at h
  split at h
  · omega
  · split at h
    · omega
    · rename_i h1 h2
      refine ⟨by omega, ?_⟩
      cases hg : grp m <;> cases hz : eqArr 6 m z6 <;> simp_all

/-- a row of bytes that a constant text was made into -/
theorem mark_row {w : World} {b e n N : Nat} {bs : List Nat} {F : World → Prop} {cs : List Value} (hrow : w.heap[b]? = some (.cells cs.toArray e (0, 0))) (hb : b ∉ bs) (hN : N ≤ b) (l : List Int) (hl : cs = cU8.cells l) (hn : n = l.length)
    (k : ∀ w1, Upd [b] [] w w1 → SeesB w1 ⟨some ⟨b, 0, none⟩, n, n⟩ l → Own N 1 w1 ⟨some ⟨b, 0, none⟩, n, n⟩ → F w1) : MarkStr w ⟨some ⟨b, 0, none⟩, n, n⟩ bs F := by
  refine ⟨_, _, hrow, hb, fun w1 u h => ?_⟩
  have hsz : cs.length = n := by rw [hl, Cod.cells_length, hn]; exact Nat.mul_one _
  refine k w1 u (rowB h l hl hn) ⟨Nat.le_refl _, by simp, fun x hx => ?_, fun a ha => ?_⟩
  · simp [Sl.blk] at hx; subst hx; exact ⟨hN, (Array.getElem?_eq_some_iff.1 h).1⟩
  · simp at ha
    subst ha
    refine ⟨rfl, fun i hi => ?_⟩
    simp at hi
    rw [add_none, cell_of_block h]
    refine ⟨by simp [hsz, hi], ?_⟩
    simp [World.frozen?, h, hsz]
    omega

section
variable {op v1 v2 : Int} {sm a1 tm a2 : Nat → Int} {w : World} {R : SV → World → Prop}
set_option maxRecDepth 10000 in
theorem c20 (hm : 0 ≤ sm 0 ∧ sm 0 < 256)
    (k : ∀ s w1, Upd [] [] w w1 → SeesB w1 s (if arpE op sm v1 a1 v2 a2 = 0 then arpB op sm a1 tm a2 else []) → Own w.heap.size 1 w1 s → R (.tuple [.slice s, .int .i64 (arpE op sm v1 a1 v2 a2)]) w1) :
    Ret Try.prog 20 [arpSV op sm v1 a1 tm v2 a2] w R := by
  refine f20_of _ _ _ _ _ _ _ _ _ ?_
  unfold vc20
  intro b w1 u1
  have hb := u1.new (b := b) (by simp)
  have k1 : ∀ e w2, Upd [] [] w w2 → arpE op sm v1 a1 v2 a2 = e → e ≠ 0 → R (.tuple [.slice nilS, .int .i64 e]) w2 := fun e w2 u he hne => by
    have := k nilS w2 u (by rw [he, if_neg hne]; exact Sees.nil _ _ _ _) (Own.none _ _ _)
    rwa [he] at this
  refine c42 hm fun w2 u2 => ⟨_, rfl, kp u2, ?_⟩
  have v2' := u1.then u2
  have hbw := hb.2
  have y2 := u2.size
  refine bre' (fun hne => k1 _ _ v2' (by unfold arpE; rw [if_pos hne]) hne) (fun he => ?_)
  have hE : arpE op sm v1 a1 v2 a2 = (open Classical in if ¬ v4 v1 a1 ∨ ¬ v4 v2 a2 then 20 else 0) := by unfold arpE; rw [if_neg (by simp [he])]
  rw [hE] at k k1
  obtain ⟨hop, hsend⟩ := arpC_ok he
  have same4 : ∀ {v : Int} {a f : Nat → Int}, (∀ i, f i = if i < 4 then bt (arrL 4 a) (i : Nat) else 0) → ((v == 4 && eqArr 16 a f) = true ↔ v4 v a) := by
    intro v a f hf
    rw [Bool.and_eq_true, eqArr_iff]
    have hf' : ∀ i, i < 4 → f i = a i := fun i hi => by
      rw [hf i, if_pos hi, arrL_bt (by omega) (by omega)]; simp
    constructor
    · rintro ⟨h1, h2⟩
      refine ⟨by simpa using h1, fun i h4 h16 => ?_⟩
      rw [h2 i h16, hf i, if_neg (by omega)]
    · rintro ⟨h1, h2⟩
      refine ⟨by simpa using h1, fun i hi => ?_⟩
      by_cases h4 : i < 4
      · rw [hf' i h4]
      · rw [h2 i (by omega) hi, hf i, if_neg h4]
  refine ⟨fun n w3 => Upd [] [] w2 w3 ∧ (n = 0 ∨ (n = 1 ∧ v4 v1 a1) ∨ (n = 2 ∧ v4 v1 a1 ∧ v4 v2 a2)), fun n _ => (2 - n).toNat, ⟨Upd.refl _, .inl rfl⟩, ?_⟩
  rintro n w3 ⟨u3, hn⟩
  refine brd (fun hlt => ?_) (fun hge => ?_)
  · refine needIx2 (by omega) (by omega) ?_
    have each : ∀ (v : Int) (a : Nat → Int) (X : Prop), (¬ v4 v a → ∀ w4, Upd [] [] w3 w4 → R (.tuple [.slice nilS, .int .i64 20]) w4) → (v4 v a → ∀ w4, Upd [] [] w3 w4 → X) → True := fun _ _ _ _ _ => trivial
    have bad : ¬ v4 v1 a1 ∨ ¬ v4 v2 a2 → ∀ w4, Upd [] [] w3 w4 → R (.tuple [.slice nilS, .int .i64 20]) w4 := fun h w4 u4 => k1 20 w4 ((v2'.then u3).then u4) (by rw [if_pos h]) (by decide)
    refine ⟨fun h0 b4 w4 u4 hr4 => ?_, fun h1 b4 w4 u4 hr4 => ?_, trivial⟩
    · have hc : ∀ i, i < 16 → w4.cell? ((⟨b4, 0, none⟩ : Addr).add (1 + i)) = some (.int .u8 (a1 i)) := fun i hi => by
        rw [add_none, cell_of_block hr4]
        simp [SV.cells, SV.cellsL, hi, Nat.add_comm 1 i]
      have hin := rowMid (o := 1) (n := 16) (cap := 16) hr4 [.int .i64 v1] [] (arrL 16 a1) (by simp [SV.cells, SV.cellsL, ← arrL_cells]) rfl (arrL_len _ _).symm
      have h4 := hin.subB (lo := 0) (hi := 4) (mx := 16) (by omega) (by rw [arrL_len]; omega) (by omega)
      rw [arp_take] at h4
      refine fun _ => ⟨v1, by rw [cell_of_block hr4]; simp [SV.cells, SV.cellsL], a1, hc, Upd.refl _, fun w5 u5 => ?_⟩
      refine c43 (h4.old u5) (by rw [arrL_len]; omega) fun f w6 hf u6 => ⟨_, _, rfl, kp u6, u5.then u6, ?_⟩
      have v6 := (u4.then u5).then u6
      refine brn (fun hx => bad (.inl (fun h => ?_)) _ v6) (fun hx => ?_)
      · rw [← same4 hf] at h
        rw [hx] at h; cases h
      · have := (same4 hf).1 hx
        have h00 : n = 0 := by omega
        subst h00
        repeat refine And.intro rfl ?_
        exact ⟨⟨u3.then v6, .inr (.inl ⟨by rw [wr_i64 (by omega) (by omega)]; omega, this⟩)⟩, by rw [wr_i64 (by omega) (by omega)]; (try dsimp only); omega⟩
    · have hc : ∀ i, i < 16 → w4.cell? ((⟨b4, 0, none⟩ : Addr).add (1 + i)) = some (.int .u8 (a2 i)) := fun i hi => by
        rw [add_none, cell_of_block hr4]
        simp [SV.cells, SV.cellsL, hi, Nat.add_comm 1 i]
      have hin := rowMid (o := 1) (n := 16) (cap := 16) hr4 [.int .i64 v2] [] (arrL 16 a2) (by simp [SV.cells, SV.cellsL, ← arrL_cells]) rfl (arrL_len _ _).symm
      have h4 := hin.subB (lo := 0) (hi := 4) (mx := 16) (by omega) (by rw [arrL_len]; omega) (by omega)
      rw [arp_take] at h4
      refine fun _ => ⟨v2, by rw [cell_of_block hr4]; simp [SV.cells, SV.cellsL], a2, hc, Upd.refl _, fun w5 u5 => ?_⟩
      refine c43 (h4.old u5) (by rw [arrL_len]; omega) fun f w6 hf u6 => ⟨_, _, rfl, kp u6, u5.then u6, ?_⟩
      have v6 := (u4.then u5).then u6
      refine brn (fun hx => bad (.inr (fun h => ?_)) _ v6) (fun hx => ?_)
      · rw [← same4 hf] at h
        rw [hx] at h; cases h
      · have := (same4 hf).1 hx
        have h00 : n = 1 := by omega
        subst h00
        repeat refine And.intro rfl ?_
        exact ⟨⟨u3.then v6, .inr (.inr ⟨by rw [wr_i64 (by omega) (by omega)]; omega, by rcases hn with h | ⟨_, h⟩ | ⟨h, _⟩ <;> first | exact h | omega, this⟩)⟩, by rw [wr_i64 (by omega) (by omega)]; (try dsimp only); omega⟩
  · have hv : v4 v1 a1 ∧ v4 v2 a2 := by
      rcases hn with h | ⟨h, _⟩ | ⟨_, h⟩
      · omega
      · omega
      · exact h
    rw [if_neg (show ¬ (¬ v4 v1 a1 ∨ ¬ v4 v2 a2) from fun h => h.elim (fun h => h hv.1) (fun h => h hv.2))] at k
    simp only [if_true] at k
    intro b4 w4 u4 hr4
    have hb4 := u4.new (b := b4) (by simp)
    have y3 := u3.size
    refine mark_row (N := w3.heap.size) hr4 (by simp; omega) hb4.1 [0, 1, 8, 0, 6, 4] rfl rfl fun w5 u5 hs5 ho5 => ?_
    have y4 := u4.size
    have y5 := u5.size
    have v5 := (u3.then u4).step0 u5 (by simp; omega)
    refine c44 hs5 ho5 (by omega) (by simp) fun s w6 u6 hs6 ho6 hn6 => ⟨_, rfl, ?_, ?_⟩
    · exact kpm u6 (by simp; omega) (fun x hx hm => by have := ho5.blk x hm; simp at hx; omega)
    have v6 := v5.step0 u6 (fun x hx => by have := (ho5.blk x hx).1; omega)
    intro hrow
    have y6 := u6.size
    have hcells : SV.cells (arpSV op sm v1 a1 tm v2 a2) = [.int .i64 op] ++ cU8.cells (arrL 6 sm) ++ [.int .i64 v1] ++ cU8.cells (arrL 16 a1) ++ cU8.cells (arrL 6 tm) ++ [.int .i64 v2] ++ cU8.cells (arrL 16 a2) := by
      simp [SV.cells, SV.cellsL, ← arrL_cells]
    have lc : ∀ (n : Nat) (f : Nat → Int), (cU8.cells (arrL n f)).length = n := fun n f => by rw [Cod.cells_length, arrL_len]; exact Nat.mul_one _
    have r1 := rowMid (o := 1) (n := 6) (cap := 6) hrow [.int .i64 op] ([.int .i64 v1] ++ cU8.cells (arrL 16 a1) ++ cU8.cells (arrL 6 tm) ++ [.int .i64 v2] ++ cU8.cells (arrL 16 a2)) (arrL 6 sm) (by rw [hcells]; simp only [List.append_assoc]) rfl (arrL_len _ _).symm
    have r2 := rowMid (o := 8) (n := 16) (cap := 16) hrow ([.int .i64 op] ++ cU8.cells (arrL 6 sm) ++ [.int .i64 v1]) (cU8.cells (arrL 6 tm) ++ [.int .i64 v2] ++ cU8.cells (arrL 16 a2)) (arrL 16 a1) (by rw [hcells]; simp only [List.append_assoc]) (by simp only [List.length_append, lc, List.length_cons, List.length_nil]) (arrL_len _ _).symm
    have r3 := rowMid (o := 24) (n := 6) (cap := 6) hrow ([.int .i64 op] ++ cU8.cells (arrL 6 sm) ++ [.int .i64 v1] ++ cU8.cells (arrL 16 a1)) ([.int .i64 v2] ++ cU8.cells (arrL 16 a2)) (arrL 6 tm) (by rw [hcells]; simp only [List.append_assoc]) (by simp only [List.length_append, lc, List.length_cons, List.length_nil]) (arrL_len _ _).symm
    have r4 := rowMid (o := 31) (n := 16) (cap := 16) hrow ([.int .i64 op] ++ cU8.cells (arrL 6 sm) ++ [.int .i64 v1] ++ cU8.cells (arrL 16 a1) ++ cU8.cells (arrL 6 tm) ++ [.int .i64 v2]) [] (arrL 16 a2) (by rw [hcells]; simp only [List.append_assoc, List.append_nil]) (by simp only [List.length_append, lc, List.length_cons, List.length_nil]) (arrL_len _ _).symm
    have r1' := r1.subB (lo := 0) (hi := 6) (mx := 6) (by omega) (by rw [arrL_len]; omega) (by omega)
    have r2' := r2.subB (lo := 0) (hi := 4) (mx := 16) (by omega) (by rw [arrL_len]; omega) (by omega)
    have r3' := r3.subB (lo := 0) (hi := 6) (mx := 6) (by omega) (by rw [arrL_len]; omega) (by omega)
    have r4' := r4.subB (lo := 0) (hi := 4) (mx := 16) (by omega) (by rw [arrL_len]; omega) (by omega)
    rw [arr_take] at r1' r3'
    rw [arp_take] at r2' r4'
    have bk : ∀ {w' : World} {s' : Sl}, Own w3.heap.size 1 w' s' → ∀ x ∈ Sl.blk s', w3.heap.size ≤ x := fun o x hx => (o.blk x hx).1
    have step : ∀ {w7 w8 : World} {s' : Sl}, Upd [] [] w6 w7 → Own w6.heap.size 1 w7 s' → Upd s'.blk [] w7 w8 → Upd [] [] w6 w8 := fun u o u' => u.step0 u' (fun x hx => (o.blk x hx).1)
    -- the first append has its array in w6 itself
    have keep : ∀ {w7 w8 : World} {s' : Sl} {m : List Nat}, Own w3.heap.size 1 w7 s' → b < w3.heap.size → b ∉ s'.blk := fun o hb' hm => by have := (o.blk b hm).1; omega
    have hb3 : b < w3.heap.size := by omega
    have old : ∀ {t : Sl} {L : List Int} {w7 w8 : World} {s' : Sl}, SeesB w7 t L → (∀ x ∈ t.blk, x = b) → Own w3.heap.size 1 w7 s' → Upd s'.blk [] w7 w8 → SeesB w8 t L := fun h hx o u => h.upd u (fun x hx' hm => by have := hx x hx'; subst this; have := (o.blk x hm).1; omega)
    have q2 : ∀ x ∈ (Sl.sub ⟨some ⟨b, 8, none⟩, 16, 16⟩ 1 0 4 16).blk, x = b := by intro x hx; simpa [Sl.blk, Sl.sub] using hx
    have q3 : ∀ x ∈ (Sl.sub ⟨some ⟨b, 24, none⟩, 6, 6⟩ 1 0 6 6).blk, x = b := by intro x hx; simpa [Sl.blk, Sl.sub] using hx
    have q4 : ∀ x ∈ (Sl.sub ⟨some ⟨b, 31, none⟩, 16, 16⟩ 1 0 4 16).blk, x = b := by intro x hx; simpa [Sl.blk, Sl.sub] using hx
    refine ⟨⟨?_, ?_⟩, ?_⟩
    all_goals
      intro w7 u7
      have o7 := ho6.old u7
      have v7 := v6.then u7
      refine append_own (c := cU8) (hs6.old u7) o7 (show SeesB w7 _ (arrL 6 sm) from r1'.old u7) (by have := u7.size; omega) (by simp) (by decide) (by simp [arrL_len, two]) fun x8 w8 h8 o8 u8 _ => ?_
      have v8 := v7.step0 u8 (fun x hx => bk o7 x hx |> fun h => Nat.le_trans u3.size h)
      have R2 := old (r2'.old u7) q2 o7 u8
      have R3 := old (r3'.old u7) q3 o7 u8
      have R4 := old (r4'.old u7) q4 o7 u8
      refine append_own (c := cU8) h8 o8 (show SeesB w8 _ (arrL 4 a1) from R2) (by have := u7.size; have := u8.size; omega) (by simp) (by decide) (by simp [arrL_len, two]) fun x9 w9 h9 o9 u9 _ => ?_
      have v9 := v8.step0 u9 (fun x hx => bk o8 x hx |> fun h => Nat.le_trans u3.size h)
      have R3 := old R3 q3 o8 u9
      have R4 := old R4 q4 o8 u9
      refine ⟨⟨?_, ?_⟩, ?_⟩
      all_goals
        intro w10 u10
        have o10 := o9.old u10
        have v10 := v9.then u10
        have sz : w3.heap.size ≤ w10.heap.size := by have := u7.size; have := u8.size; have := u9.size; have := u10.size; omega
        refine append_own (c := cU8) (h9.old u10) o10 (show SeesB w10 _ (arrL 6 tm) from R3.old u10) sz (by simp) (by decide) (by simp [arrL_len, two]) fun x11 w11 h11 o11 u11 _ => ?_
        have v11 := v10.step0 u11 (fun x hx => bk o10 x hx |> fun h => Nat.le_trans u3.size h)
        have R4 := old (R4.old u10) q4 o10 u11
        refine append_own (c := cU8) h11 o11 (show SeesB w11 _ (arrL 4 a2) from R4) (Nat.le_trans sz u11.size) (by simp) (by decide) (by simp [arrL_len, two]) fun x12 w12 h12 o12 u12 _ => ?_
        have v12 := v11.step0 u12 (fun x hx => bk o11 x hx |> fun h => Nat.le_trans u3.size h)
        exact k _ _ (v2'.then v12) h12 (o12.mono (by have := v2'.size; omega))
end
end Go.Vc.S5
end

section
open Go Go.Vc Go.Proofs
set_option linter.unusedVariables false
set_option linter.unusedSimpArgs false
set_option autoImplicit false
namespace Go.Vc.S5

section
variable {op v1 v2 : Int} {sm a1 tm a2 : Nat → Int} {w : World} {R : SV → World → Prop}
set_option maxRecDepth 10000 in
theorem c24 (hm : 0 ≤ sm 0 ∧ sm 0 < 256)
    (k : ∀ s w1, Upd [] [] w w1 → SeesB w1 s (if arpE op sm v1 a1 v2 a2 = 0 then arpB op sm a1 tm a2 else []) → Own w.heap.size 1 w1 s → R (.tuple [.slice s, .int .i64 (arpE op sm v1 a1 v2 a2)]) w1) :
    Ret Try.prog 24 [arpSV op sm v1 a1 tm v2 a2] w R := by
  refine f24_of _ _ _ _ _ _ _ _ _ ?_
  unfold vc24
  intro b J hJ
  have k1 : ∀ e w2, Upd [] [] w w2 → arpE op sm v1 a1 v2 a2 = e → e ≠ 0 → R (.tuple [.slice nilS, .int .i64 e]) w2 := fun e w2 u he hne => by
    have := k nilS w2 u (by rw [he, if_neg hne]; exact Sees.nil _ _ _ _) (Own.none _ _ _)
    rwa [he] at this
  have main : (op = 1 ∨ op = 2) → ∀ w1, Upd [] [b] w w1 → J w1 := by
    intro ho w1 u1
    have hb := u1.new (b := b) (by simp)
    refine hJ _ ?_
    refine c47 hm fun w2 u2 => ⟨_, rfl, kp u2, ?_⟩
    have v2' := u1.then u2
    have y2 := u2.size
    rw [Bool.not_not]
    refine brb (fun hg => k1 58 _ v2' ?_ (by decide)) (fun hg => ?_)
    · have hC : arpC op sm = 58 := by
        unfold arpC
        rw [if_neg (by omega), if_pos (by simpa using hg)]
      unfold arpE; rw [hC, if_pos (by decide)]
    have hC : arpC op sm = 0 := by
      unfold arpC
      rw [if_neg (by omega), if_neg]
      intro h
      rcases h with h | h <;> simp [h] at hg
    have hE : arpE op sm v1 a1 v2 a2 = (open Classical in if ¬ v4 v1 a1 ∨ ¬ v4 v2 a2 then 20 else 0) := by unfold arpE; rw [if_neg (by simp [hC])]
    rw [hE] at k k1
    intro J2 hJ2
    refine bre' (fun h1 => k1 20 _ v2' (by rw [if_pos (.inl fun h => h1 h.1)]) (by decide)) (fun h1 => ?_)
    refine bre' (fun h2 => k1 20 _ v2' (by rw [if_pos (.inr fun h => h2 h.1)]) (by decide)) (fun h2 => ?_)
    subst h1 h2
    refine c48 (fun ht1 w3 u3 => ⟨_, rfl, kp u3, brf rfl ?_⟩) (fun ht1 w3 u3 => ⟨_, rfl, kp u3, brt rfl (k1 20 _ (v2'.then u3) (by rw [if_pos (.inl fun h => ht1 h.2)]) (by decide))⟩)
    refine c48 (fun ht2 w4 u4 => ⟨_, rfl, kp u4, brf rfl ?_⟩) (fun ht2 w4 u4 => ⟨_, rfl, kp u4, brt rfl (k1 20 _ ((v2'.then u3).then u4) (by rw [if_pos (.inr fun h => ht2 h.2)]) (by decide))⟩)
    repeat refine And.intro rfl ?_
    refine hJ2 _ ?_
    rw [if_neg (show ¬ (¬ v4 4 a1 ∨ ¬ v4 4 a2) from fun h => h.elim (fun h => h ⟨rfl, ht1⟩) (fun h => h ⟨rfl, ht2⟩))] at k
    simp only [if_true] at k
    have v4' := (v2'.then u3).then u4
    have y3 := u3.size
    have y4 := u4.size
    intro b2 w5 u5 hr5
    have hb2 := u5.new (b := b2) (by simp)
    have s5 := rowB (n := 8) (cap := 8) hr5 ([0, 1, 8, 0, 6, 4] ++ two op) (by
      rw [wr_u8, show two op = [0, op % 256] by unfold two; congr 1; omega]; rfl) rfl
    have o5 := own_row (N := w4.heap.size) (n := 8) (cap := 8) (sz := 1) hr5 hb2.1 rfl (Nat.le_refl _)
    have hbs : ∀ x ∈ [b], x < w4.heap.size := by simp; omega
    refine app_loop (w0 := w4) (m := 6) (f := sm) rfl u5.forget s5 o5 (by simp [two]) (fun t ht => by simp [SV.cells, SV.cellsL]) hbs (fun I M s n w r w' h1 h2 => ⟨rfl, h1, h2⟩) fun s w6 u6 hs6 ho6 => ?_
    intro b3 w7 u7 hr7
    have y7 := u7.size
    have v7 := u6.then u7
    have kb : ∀ {s' : Sl} {w' : World}, Own w4.heap.size 1 w' s' → ∀ x ∈ s'.blk, x ∉ [b] := fun o x hx hm => by have := (o.blk x hx).1; simp at hm; omega
    refine append_own (c := cU8) (hs6.old u7) (ho6.old u7) (rowB hr7 (arrL 4 a1) (by simp [SV.cells, SV.cellsL, arrL, List.range, List.range.loop, Cod.cells, cU8]) (by rw [arrL_len])) v7.size (kb (ho6.old u7)) (by decide) (by simp [arrL_len, two]) fun r w8 hr8 ho8 u8 _ => ?_
    have v8 := v7.step0 u8 (fun x hx => ((ho6.old u7).blk x hx).1)
    refine app_loop (w0 := w4) (m := 6) (f := tm) rfl v8 hr8 ho8 (by simp [arrL_len, two]) (fun t ht => by simp [SV.cells, SV.cellsL]) hbs (fun I M s n w r w' h1 h2 => ⟨rfl, h1, h2⟩) fun s9 w9 u9 hs9 ho9 => ?_
    intro b4 w10 u10 hr10
    have v10 := u9.then u10
    refine append_own (c := cU8) (hs9.old u10) (ho9.old u10) (rowB hr10 (arrL 4 a2) (by simp [SV.cells, SV.cellsL, arrL, List.range, List.range.loop, Cod.cells, cU8]) (by rw [arrL_len])) v10.size (kb (ho9.old u10)) (by decide) (by simp [arrL_len, two]) fun r w11 hr11 ho11 u11 _ => ?_
    exact k _ _ (v4'.then (v10.step0 u11 (fun x hx => ((ho9.old u10).blk x hx).1))) hr11 (ho11.mono v4'.size)
  have e57 : op ≠ 1 → op ≠ 2 → ∀ w1, Upd [] [b] w w1 → R (.tuple [.slice nilS, .int .i64 57]) w1 := fun h1 h2 w1 u1 => k1 57 w1 u1.forget (by
    have hC : arpC op sm = 57 := by unfold arpC; rw [if_pos ⟨h1, h2⟩]
    unfold arpE; rw [hC, if_pos (by decide)]) (by decide)
  refine bre' (fun h1 => bre' (fun h2 w1 u1 => e57 h1 h2 w1 u1) (fun h2 w1 u1 => ?_)) (fun h1 w1 u1 => ?_)
  · repeat refine And.intro rfl ?_
    exact main (.inr h2) w1 u1
  · repeat refine And.intro rfl ?_
    exact main (.inl h1) w1 u1
end

/-- what ParseArp answers -/
def qe (l : List Int) : Int := if 65535 < l.length then 2 else if l.length < 28 then 55 else if l.take 6 ≠ [0, 1, 8, 0, 6, 4] then 56 else arpC (w16 l 6) (fun i => bt l ((8 + i : Nat) : Int))
def ok0 (l : List Int) (v : Int) : Int := if qe l = 0 then v else 0
def qop (l : List Int) : Int := ok0 l (w16 l 6)
def qsm (l : List Int) (i : Nat) : Int := ok0 l (bt l ((8 + i : Nat) : Int))
def qv (l : List Int) : Int := ok0 l 4
def qa1 (l : List Int) (i : Nat) : Int := ok0 l (if i < 4 then bt l ((14 + i : Nat) : Int) else 0)
def qtm (l : List Int) (i : Nat) : Int := ok0 l (bt l ((18 + i : Nat) : Int))
def qa2 (l : List Int) (i : Nat) : Int := ok0 l (if i < 4 then bt l ((24 + i : Nat) : Int) else 0)

theorem str_eq {w : World} {s : Sl} {l : List Int} {F : ByteArray → Prop} (h : SeesB w s l) (hb : Byt l) (hlen : 0 < l.length) (k : F ⟨(l.map fun x => UInt8.ofNat x.toNat).toArray⟩) : BytesStr w s F := by
  refine ⟨l.map fun x => UInt8.ofNat x.toNat, by rw [List.length_map, h.len], fun hn => ?_, fun i hi => ?_, k⟩
  · have := h.isSome (by decide) hlen
    rw [hn] at this; cases this
  · rw [List.length_map] at hi
    rw [byteC h i hi, bt_nat hi, List.getElem_map]
    have := hb l[i] (List.getElem_mem hi)
    congr 2
    rw [UInt8.toNat_ofNat', Nat.mod_eq_of_lt (by omega)]
    omega
theorem str_six {l : List Int} (hb : Byt l) : ((⟨(l.map fun x => UInt8.ofNat x.toNat).toArray⟩ : ByteArray) == ⟨#[0, 1, 8, 0, 6, 4]⟩) = decide (l = [0, 1, 8, 0, 6, 4]) := by
  by_cases h : l = [0, 1, 8, 0, 6, 4]
  · subst h; rfl
  · have eb : ∀ a b : ByteArray, (a == b) = (a.data == b.data) := fun a b => by cases a; cases b; rfl
    rw [decide_eq_false h, eb, beq_eq_false_iff_ne]
    intro e
    apply h
    have e := congrArg Array.toList e
    simp only [List.toList_toArray] at e
    have e2 : (l.map fun x => UInt8.ofNat x.toNat).map (fun u => ((u.toNat : Nat) : Int)) = l := by
      rw [List.map_map]
      refine (List.map_congr_left fun x hx => ?_).trans (List.map_id l)
      have := hb x hx
      simp only [Function.comp, UInt8.toNat_ofNat', id]
      rw [Nat.mod_eq_of_lt (by omega)]
      omega
    rw [← e2, e]
    rfl
end Go.Vc.S5
end

section
open Go Go.Vc Go.Proofs
set_option linter.unusedVariables false
set_option linter.unusedSimpArgs false
set_option autoImplicit false
namespace Go.Vc.S5

abbrev arpZ : SV := arpSV 0 (fun _ => 0) 0 (fun _ => 0) (fun _ => 0) 0 (fun _ => 0)
theorem arpC_congr {op : Int} {m m' : Nat → Int} (h : ∀ i, i < 6 → m i = m' i) : arpC op m = arpC op m' := by
  have e1 : grp m = grp m' := by unfold grp; rw [h 0 (by omega)]
  have e2 : eqArr 6 m z6 = eqArr 6 m' z6 := by
    rw [Bool.eq_iff_iff, eqArr_iff, eqArr_iff]
    exact ⟨fun hh i hi => by rw [← h i hi]; exact hh i hi, fun hh i hi => by rw [h i hi]; exact hh i hi⟩
  unfold arpC
  rw [e1, e2]

section
variable {b : Sl} {l : List Int} {w : World} {R : SV → World → Prop}
theorem arr_at (h : SeesB w b l) {lo hi n : Nat} (h1 : lo + n = hi) (h2 : hi ≤ l.length) (hc : b.len ≤ b.cap) : ∀ i, i < n → w.cell? (((b.sub 1 lo hi b.cap).at 0 0).add (0 + i)) = some (.int .u8 (bt l ((lo + i : Nat) : Int))) := by
  intro i hin
  have hlen := h.len
  rw [at_add]
  have h3 := h.subB (lo := lo) (hi := hi) (mx := b.cap) (by omega) h2 (by omega)
  rw [byteC h3 i (by simp; omega)]
  have : ((lo : Int) + (i : Int)).toNat = lo + i := by omega
  simp [bt, List.getElem?_drop, List.getElem?_take, show lo + i < hi by omega, this]
theorem sub_some (h : SeesB w b l) {lo hi m : Nat} (h2 : 0 < l.length) : ((b.sub 1 lo hi m).ptr).isSome = true := by
  have := h.isSome (by decide) h2
  simp only [Sl.sub]
  split <;> simp [this]

set_option maxRecDepth 10000 in
theorem c22 (h : SeesB w b l) (hb : Byt l) (hc : b.len ≤ b.cap) (hl : l.length ≤ 140737488355328)
    (k : ∀ op f v1 a1 g v2 a2 w1, op = qop l → (∀ i, i < 6 → f i = qsm l i) → v1 = qv l → (∀ i, i < 16 → a1 i = qa1 l i) → (∀ i, i < 6 → g i = qtm l i) → v2 = qv l → (∀ i, i < 16 → a2 i = qa2 l i) → Upd [] [] w w1 →
      R (.tuple [arpSV op f v1 a1 g v2 a2, .int .i64 (qe l)]) w1) : Ret Try.prog 22 [.slice b] w R := by
  refine f22_of _ _ _ ?_
  unfold vc22
  have hlen := h.len
  rw [hlen]
  intro b1
  have ke : ∀ e w1, qe l = e → e ≠ 0 → Upd [] [] w w1 → R (.tuple [arpZ, .int .i64 e]) w1 := fun e w1 he hne u => by
    have := k 0 (fun _ => 0) 0 (fun _ => 0) (fun _ => 0) 0 (fun _ => 0) w1 (by simp [qop, ok0, he, hne]) (by simp [qsm, ok0, he, hne]) (by simp [qv, ok0, he, hne]) (by simp [qa1, ok0, he, hne]) (by simp [qtm, ok0, he, hne]) (by simp [qv, ok0, he, hne]) (by simp [qa2, ok0, he, hne]) u
    rwa [he] at this
  have hq : qe l = if 65535 < l.length then 2 else if l.length < 28 then 55 else if l.take 6 ≠ [0, 1, 8, 0, 6, 4] then 56 else arpC (w16 l 6) (fun i => bt l ((8 + i : Nat) : Int)) := rfl
  refine brd (fun hg w1 u => ke 2 w1 (by rw [hq, if_pos (by omega)]) (by decide) u.forget) (fun hg => ?_)
  rw [if_neg (by omega)] at hq
  refine brd (fun hg w1 u => ke 55 w1 (by rw [hq, if_pos (by omega)]) (by decide) u.forget) (fun hg2 => ?_)
  rw [if_neg (by omega)] at hq
  have h6 := h.subB (lo := 0) (hi := 6) (mx := b.cap) (by omega) (by omega) (by omega)
  rw [List.drop_zero] at h6
  refine needD (by omega) (str_eq h6 (hb.take 6) (by simp; omega) ?_)
  rw [str_six (hb.take 6)]
  refine brn (fun hd w1 u => ke 56 w1 (by rw [hq, if_pos (by simpa using hd)]) (by decide) u.forget) (fun hd w1 u1 => ?_)
  rw [if_neg (by simpa using hd)] at hq
  have hb1 := u1.new (b := b1) (by simp)
  have fr1 : ∀ x ∈ [b1], w.heap.size ≤ x := by simp; omega
  refine c45 (p := 6) (h.old u1) hb (by omega) (by omega) fun w2 u2 => ⟨_, _, rfl, kp u2, ?_⟩
  have v2 := u1.then u2
  have h2 := h.old v2
  have hop := w16_r hb ((6 : Nat) : Int)
  rw [wr_i64 (x := w16 l ((6 : Nat) : Int)) (by omega) (by omega)]
  refine need (by simp; omega) (need (by rw [sub_some h (by omega)]; simp [Sl.sub]) ⟨fun i => bt l ((8 + i : Nat) : Int), arr_at h2 (by omega) (by omega) hc, need (by simp; omega) (need (by simp; omega) (need (by rw [sub_some h (by omega)]; simp [Sl.sub]) ⟨fun i => bt l ((18 + i : Nat) : Int), arr_at h2 (by omega) (by omega) hc, need (by simp; omega) ?_⟩))⟩)
  have hs1 : ∀ w', Upd [] [] w2 w' → SeesB w' (b.sub 1 14 18 b.cap) ((l.take 18).drop 14) := fun w' u => (h2.old u).subB (by omega) (by omega) (by omega)
  have hs2 : ∀ w', Upd [] [] w2 w' → SeesB w' (b.sub 1 24 28 b.cap) ((l.take 28).drop 24) := fun w' u => (h2.old u).subB (by omega) (by omega) (by omega)
  have e1 : ∀ i : Nat, i < 4 → bt ((l.take 18).drop 14) (i : Nat) = bt l ((14 + i : Nat) : Int) := fun i hi => by
    have : ((14 : Int) + (i : Int)).toNat = 14 + i := by omega
    simp [bt, List.getElem?_drop, List.getElem?_take, show 14 + i < 18 by omega, this]
  have e2 : ∀ i : Nat, i < 4 → bt ((l.take 28).drop 24) (i : Nat) = bt l ((24 + i : Nat) : Int) := fun i hi => by
    have : ((24 : Int) + (i : Int)).toNat = 24 + i := by omega
    simp [bt, List.getElem?_drop, List.getElem?_take, show 24 + i < 28 by omega, this]
  have l1 : 4 ≤ ((l.take 18).drop 14).length := by simp; omega
  have l2 : 4 ≤ ((l.take 28).drop 24).length := by simp; omega
  have fin : ∀ (bs : List Nat) (w5 : World) (f2 f3 : Nat → Int), Upd [] [] w2 w5 → (∀ i, f2 i = if i < 4 then bt ((l.take 18).drop 14) (i : Nat) else 0) → (∀ i, f3 i = if i < 4 then bt ((l.take 28).drop 24) (i : Nat) else 0) →
      Ret Try.prog 42 [.int .i64 (w16 l ((6 : Nat) : Int)), .arr .u8 6 fun i => bt l ((8 + i : Nat) : Int)] w5 fun r w6 => ∃ n4 : Int, r = .int .i64 n4 ∧ Keeps bs w5 w6 ∧
        Br (n4 != 0) (∀ w7, Upd [b1] [] w6 w7 → R (.tuple [arpZ, .int .i64 n4]) w7)
          (∀ w7, Upd [b1] [] w6 w7 → R (.tuple [arpSV (w16 l ((6 : Nat) : Int)) (fun i => bt l ((8 + i : Nat) : Int)) 4 f2 (fun i => bt l ((18 + i : Nat) : Int)) 4 f3, .int .i64 0]) w7) := by
    intro bs w5 f2 f3 u5 hf2 hf3
    refine c42 (hb.bt _) fun w6 u6 => ⟨_, rfl, kp u6, ?_⟩
    have v6 := (v2.then u5).then u6
    refine bre' (fun hne w7 u7 => ke _ w7 (by rw [hq]; rfl) hne (v6.step0 u7 fr1)) (fun he w7 u7 => ?_)
    have hq0 : qe l = 0 := by rw [hq]; exact he
    have := k (w16 l ((6 : Nat) : Int)) (fun i => bt l ((8 + i : Nat) : Int)) 4 f2 (fun i => bt l ((18 + i : Nat) : Int)) 4 f3 w7 (by simp [qop, ok0, hq0]) (by simp [qsm, ok0, hq0]) (by simp [qv, ok0, hq0])
      (fun i hi => by
        rw [hf2 i]; unfold qa1 ok0; rw [if_pos hq0]
        split
        · rename_i h4; exact e1 i h4
        · rfl) (by simp [qtm, ok0, hq0]) (by simp [qv, ok0, hq0])
      (fun i hi => by
        rw [hf3 i]; unfold qa2 ok0; rw [if_pos hq0]
        split
        · rename_i h4; exact e2 i h4
        · rfl) (v6.step0 u7 fr1)
    rwa [hq0] at this
  refine ⟨fun w3 u3 => ?_, fun b3 => ⟨Upd.refl _, fun w3 u3 => ?_⟩⟩
  · refine c43 (hs1 _ u3) l1 fun f2 w4 hf2 u4 => ⟨_, _, rfl, kp u4, u3.then u4, ?_, fun b3 => ⟨u3.then u4, fun w5 u5 => ?_⟩⟩
    · refine c43 (hs2 _ (u3.then u4)) l2 fun f3 w5 hf3 u5 => ⟨_, _, rfl, kp u5, (u3.then u4).then u5, fun b3 => ⟨(u3.then u4).then u5, fun w6 u6 => ?_⟩⟩
      exact fin _ _ _ _ (((u3.then u4).then u5).then u6) hf2 hf3
    · have hb3 := u5.new (b := b3) (by simp)
      refine c43 (hs2 _ ((u3.then u4).then u5)) l2 fun f3 w6 hf3 u6 => ⟨_, _, rfl, kp u6, ((u3.then u4).then u5).then u6, fun w7 u7 => ?_⟩
      exact fin _ _ _ _ ((((u3.then u4).then u5).then u6).step0 u7 (by have := u3.size; have := u4.size; simp; omega)) hf2 hf3
  · have hb3 := u3.new (b := b3) (by simp)
    refine c43 (hs1 _ u3.forget) l1 fun f2 w4 hf2 u4 => ⟨_, _, rfl, kp u4, u3.then u4, ?_⟩
    refine c43 (hs2 _ (u3.then u4)) l2 fun f3 w5 hf3 u5 => ⟨_, _, rfl, kp u5, (u3.then u4).then u5, fun w6 u6 => ?_⟩
    exact fin _ _ _ _ (((u3.then u4).then u5).step0 u6 (by simp; omega)) hf2 hf3

set_option maxRecDepth 10000 in
theorem c23 (h : SeesB w b l) (hb : Byt l) (hc : b.len ≤ b.cap) (hl : l.length ≤ 140737488355328)
    (k : ∀ op f v1 a1 g v2 a2 w1, op = qop l → (∀ i, i < 6 → f i = qsm l i) → v1 = qv l → (∀ i, i < 16 → a1 i = qa1 l i) → (∀ i, i < 6 → g i = qtm l i) → v2 = qv l → (∀ i, i < 16 → a2 i = qa2 l i) → Upd [] [] w w1 →
      R (.tuple [arpSV op f v1 a1 g v2 a2, .int .i64 (qe l)]) w1) : Ret Try.prog 23 [.slice b] w R := by
  refine f23_of _ _ _ ?_
  unfold vc23
  have hlen := h.len
  rw [hlen]
  intro b1 b2
  have ke : ∀ e w1, qe l = e → e ≠ 0 → Upd [] [] w w1 → R (.tuple [arpZ, .int .i64 e]) w1 := fun e w1 he hne u => by
    have := k 0 (fun _ => 0) 0 (fun _ => 0) (fun _ => 0) 0 (fun _ => 0) w1 (by simp [qop, ok0, he, hne]) (by simp [qsm, ok0, he, hne]) (by simp [qv, ok0, he, hne]) (by simp [qa1, ok0, he, hne]) (by simp [qtm, ok0, he, hne]) (by simp [qv, ok0, he, hne]) (by simp [qa2, ok0, he, hne]) u
    rwa [he] at this
  have hq : qe l = if 65535 < l.length then 2 else if l.length < 28 then 55 else if l.take 6 ≠ [0, 1, 8, 0, 6, 4] then 56 else arpC (w16 l 6) (fun i => bt l ((8 + i : Nat) : Int)) := rfl
  refine brd (fun hg w1 u => ke 2 w1 (by rw [hq, if_pos (by omega)]) (by decide) u.forget) (fun hg => ?_)
  rw [if_neg (by omega)] at hq
  refine brd (fun hg w1 u => ke 55 w1 (by rw [hq, if_pos (by omega)]) (by decide) u.forget) (fun hg2 => ?_)
  rw [if_neg (by omega)] at hq
  have h6 := h.subB (lo := 0) (hi := 6) (mx := b.cap) (by omega) (by omega) (by omega)
  rw [List.drop_zero] at h6
  refine needD (by omega) (str_eq h6 (hb.take 6) (by simp; omega) ?_)
  rw [str_six (hb.take 6)]
  refine brn (fun hd w1 u => ke 56 w1 (by rw [hq, if_pos (by simpa using hd)]) (by decide) u.forget) (fun hd w1 u1 => ?_)
  rw [if_neg (by simpa using hd)] at hq
  have hb1 := u1.new (b := b1) (by simp)
  have fr1 : ∀ x ∈ [b1], w.heap.size ≤ x := by simp; omega
  refine c46 (h.old u1) hb (by omega) (by omega) (by omega) fun w2 u2 => ⟨_, rfl, kp u2, ?_⟩
  have v2 := u1.then u2
  have y1 := u1.size
  have y2 := u2.size
  intro b4
  refine ⟨fun n n1 f n2 f1 g n3 f3 w3 => Upd [] [] w w3 ∧ w.heap.size ≤ b4 ∧ n1 = w16 l 6 ∧ n2 = 4 ∧ n3 = 4 ∧ (∀ i, f1 i = 0) ∧ (∀ i, f3 i = 0) ∧ ∃ t : Nat, n = t ∧ t ≤ 6 ∧ ∀ i, i < t → f i = bt l ((8 + i : Nat) : Int) ∧ g i = bt l ((18 + i : Nat) : Int),
    fun n _ _ _ _ _ _ _ _ => (6 - n).toNat, fun w3 u3 => ⟨v2.then u3, by have := u3.new (b := b4) (by simp); omega, rfl, rfl, rfl, fun _ => rfl, fun _ => rfl, 0, rfl, by omega, fun i hi => by omega⟩, ?_⟩
  rintro n n1 f n2 f1 g n3 f3 w3 ⟨u3, hb4, rfl, rfl, rfl, hz1, hz3, t, rfl, ht, hf⟩
  have fr4 : ∀ x ∈ [b4], w.heap.size ≤ x := by simp; omega
  refine brd (fun hlt => ?_) (fun hge => ?_)
  · rw [wr_i64 (x := 8 + (t : Int)) (by omega) (by omega), wr_i64 (x := 18 + (t : Int)) (by omega) (by omega)]
    refine needB' (h.old u3) (by omega) (by omega) ⟨_, (h.old u3).byte (by omega) (by omega), needIx2 (by omega) (by omega) (needB' (h.old u3) (by omega) (by omega) fun w4 u4 => ?_)⟩
    have v4 := u3.step0 u4 fr4
    refine ⟨_, (h.old v4).byte (by omega) (by omega), needIx2 (by omega) (by omega) fun w5 u5 => ?_⟩
    repeat refine And.intro rfl ?_
    refine ⟨⟨v4.step0 u5 fr4, hb4, rfl, rfl, rfl, hz1, hz3, t + 1, wr_succ (by omega), by omega, fun i hi => ?_⟩, by rw [wr_succ (by omega)]; (try dsimp only); omega⟩
    rw [Int.toNat_natCast]
    by_cases e : i = t
    · subst e
      rw [fset_eq, fset_eq]
      exact ⟨by congr 1, by congr 1⟩
    · rw [fset_ne e, fset_ne e]
      exact hf i (by omega)
  have ht6 : t = 6 := by omega
  subst ht6
  refine ⟨fun n n1 f' n2 f1 g' n3 f3 w4 => Upd [] [] w w4 ∧ n1 = w16 l 6 ∧ f' = f ∧ g' = g ∧ n2 = 4 ∧ n3 = 4 ∧ ∃ t : Nat, n = t ∧ t ≤ 4 ∧ (∀ i, i < t → f1 i = bt l ((14 + i : Nat) : Int) ∧ f3 i = bt l ((24 + i : Nat) : Int)) ∧ ∀ i, t ≤ i → f1 i = 0 ∧ f3 i = 0,
    fun n _ _ _ _ _ _ _ _ => (4 - n).toNat, ⟨u3, rfl, rfl, rfl, rfl, rfl, 0, rfl, by omega, fun i hi => by omega, fun i _ => ⟨hz1 i, hz3 i⟩⟩, ?_⟩
  rintro n n1 f' n2 f1 g' n3 f3 w4 ⟨u4, rfl, rfl, rfl, rfl, rfl, t, rfl, ht, hv, hzz⟩
  refine brd (fun hlt => ?_) (fun hge => ?_)
  · rw [wr_i64 (x := 14 + (t : Int)) (by omega) (by omega), wr_i64 (x := 24 + (t : Int)) (by omega) (by omega)]
    refine needB' (h.old u4) (by omega) (by omega) ⟨_, (h.old u4).byte (by omega) (by omega), needIx2 (by omega) (by omega) (needB' (h.old u4) (by omega) (by omega) fun w5 u5 => ?_)⟩
    have v5 := u4.step0 u5 fr4
    refine ⟨_, (h.old v5).byte (by omega) (by omega), needIx2 (by omega) (by omega) fun w6 u6 => ?_⟩
    repeat refine And.intro rfl ?_
    refine ⟨⟨v5.step0 u6 fr4, rfl, rfl, rfl, rfl, rfl, t + 1, wr_succ (by omega), by omega, fun i hi => ?_, fun i hi => ?_⟩, by rw [wr_succ (by omega)]; (try dsimp only); omega⟩
    · rw [Int.toNat_natCast]
      by_cases e : i = t
      · subst e
        rw [fset_eq, fset_eq]
        exact ⟨by congr 1, by congr 1⟩
      · rw [fset_ne e, fset_ne e]
        exact hv i (by omega)
    · rw [Int.toNat_natCast, fset_ne (by omega), fset_ne (by omega)]
      exact hzz i (by omega)
  have ht4 : t = 4 := by omega
  subst ht4
  have hC : arpC (w16 l 6) f' = arpC (w16 l 6) (fun i => bt l ((8 + i : Nat) : Int)) := arpC_congr fun i hi => (hf i hi).1
  have hf0 : 0 ≤ f' 0 ∧ f' 0 < 256 := by rw [(hf 0 (by omega)).1]; exact hb.bt _
  intro J hJ
  have main : (w16 l 6 = 1 ∨ w16 l 6 = 2) → J 0 (fun _ => 0) 0 (fun _ => 0) (fun _ => 0) 0 (fun _ => 0) w4 := by
    intro ho
    refine hJ _ _ _ _ _ _ _ _ ?_
    refine c47 hf0 fun w5 u5 => ⟨_, rfl, kp u5, ?_⟩
    rw [Bool.not_not]
    have v5 := u4.then u5
    refine brb (fun hg w6 u6 => ke 58 w6 ?_ (by decide) (v5.step0 u6 fr1)) (fun hg w6 u6 => ?_)
    · rw [hq, ← hC]
      unfold arpC
      rw [if_neg (by omega), if_pos (by simpa using hg)]
    have hq0 : qe l = 0 := by
      rw [hq, ← hC]
      unfold arpC
      rw [if_neg (by omega), if_neg]
      intro h
      rcases h with h | h <;> simp [h] at hg
    have := k (w16 l 6) f' 4 f1 g' 4 f3 w6 (by simp [qop, ok0, hq0]) (fun i hi => by simp only [qsm, ok0, hq0, if_true]; exact (hf i hi).1) (by simp [qv, ok0, hq0])
      (fun i hi => by
        simp only [qa1, ok0, hq0, if_true]
        split
        · rename_i h4; exact (hv i h4).1
        · exact (hzz i (by omega)).1) (fun i hi => by simp only [qtm, ok0, hq0, if_true]; exact (hf i hi).2) (by simp [qv, ok0, hq0])
      (fun i hi => by
        simp only [qa2, ok0, hq0, if_true]
        split
        · rename_i h4; exact (hv i h4).2
        · exact (hzz i (by omega)).2) (v5.step0 u6 fr1)
    rwa [hq0] at this
  refine bre' (fun h1 => bre' (fun h2 w5 u5 => ke 57 w5 ?_ (by decide) (u4.step0 u5 fr1)) (fun h2 => ?_)) (fun h1 => ?_)
  · rw [hq]; unfold arpC; rw [if_pos ⟨h1, h2⟩]
  · repeat refine And.intro rfl ?_
    exact main (.inr h2)
  · repeat refine And.intro rfl ?_
    exact main (.inl h1)
end
end Go.Vc.S5
end

section
open Go Go.Vc Go.Proofs
set_option linter.unusedVariables false
set_option linter.unusedSimpArgs false
set_option autoImplicit false
namespace Go.Vc.S5

theorem bt_mid {A C : List Int} {n k i : Nat} {f : Nat → Int} (hA : A.length = k) (hi : i < n) : bt (A ++ (arrL n f ++ C)) ((k + i : Nat) : Int) = f i := by
  subst hA
  rw [bt_app2, bt_app1 (by rw [arrL_len]; exact hi), arrL_bt (by omega) (by omega)]
  simp
theorem arrN {l : List Int} {f : Nat → Int} {k n : Nat} (h : k + n ≤ l.length) (hf : ∀ i, i < n → f i = bt l ((k + i : Nat) : Int)) : l.take (k + n) = l.take k ++ arrL n f := by
  have e : arrL n f = (l.take (k + n)).drop k := by
    refine List.ext_getElem (by rw [arrL_len]; simp; omega) fun i h1 h2 => ?_
    rw [arrL_len] at h1
    have h3 : k + i < l.length := by omega
    simp only [arrL, List.getElem_map, List.getElem_range, List.getElem_drop, List.getElem_take]
    rw [hf i h1, bt_nat h3]
  rw [e]
  have : l.take k = (l.take (k + n)).take k := by rw [List.take_take, Nat.min_eq_left (by omega)]
  rw [this, List.take_append_drop]
section
variable {op v1 v2 : Int} {sm a1 tm a2 : Nat → Int}
theorem arpE_ok (h : arpE op sm v1 a1 v2 a2 = 0) : arpC op sm = 0 ∧ v4 v1 a1 ∧ v4 v2 a2 := by
  unfold arpE at h
  split at h
  · rename_i hne; exact absurd h hne
  · rename_i hC
    split at h
    · omega
    · rename_i hv
      exact ⟨Classical.not_not.1 hC, Classical.not_not.1 fun hh => hv (.inl hh), Classical.not_not.1 fun hh => hv (.inr hh)⟩
theorem arpE_zero (h1 : arpC op sm = 0) (h2 : v4 v1 a1) (h3 : v4 v2 a2) : arpE op sm v1 a1 v2 a2 = 0 := by
  unfold arpE
  rw [if_neg (not_not_intro h1), if_neg (fun h => h.elim (fun h => h h2) (fun h => h h3))]
theorem q_put (hE : arpE op sm v1 a1 v2 a2 = 0) : qe (arpB op sm a1 tm a2) = 0 ∧ qop (arpB op sm a1 tm a2) = op ∧ (∀ i, i < 6 → qsm (arpB op sm a1 tm a2) i = sm i) ∧ qv (arpB op sm a1 tm a2) = v1 ∧ (∀ i, i < 16 → qa1 (arpB op sm a1 tm a2) i = a1 i) ∧
    (∀ i, i < 6 → qtm (arpB op sm a1 tm a2) i = tm i) ∧ qv (arpB op sm a1 tm a2) = v2 ∧ (∀ i, i < 16 → qa2 (arpB op sm a1 tm a2) i = a2 i) := by
  obtain ⟨hC, ⟨rfl, t1⟩, ⟨rfl, t2⟩⟩ := arpE_ok hE
  have hop := (arpC_ok hC).1
  have hlen := arpB_len op sm a1 tm a2
  have e0 : arpB op sm a1 tm a2 = [0, 1, 8, 0, 6, 4] ++ (two op ++ (arrL 6 sm ++ (arrL 4 a1 ++ (arrL 6 tm ++ arrL 4 a2)))) := by
    unfold arpB; simp only [List.append_assoc]
  have hw : w16 (arpB op sm a1 tm a2) 6 = op := by rw [e0]; exact w16_mid _ _ (by omega) rfl
  have b1 : ∀ i, i < 6 → bt (arpB op sm a1 tm a2) ((8 + i : Nat) : Int) = sm i := fun i hi => by
    rw [e0, ← List.append_assoc]; exact bt_mid (by simp [two]) hi
  have b2 : ∀ i, i < 4 → bt (arpB op sm a1 tm a2) ((14 + i : Nat) : Int) = a1 i := fun i hi => by
    rw [e0, ← List.append_assoc, ← List.append_assoc]; exact bt_mid (by simp [two, arrL_len]) hi
  have b3 : ∀ i, i < 6 → bt (arpB op sm a1 tm a2) ((18 + i : Nat) : Int) = tm i := fun i hi => by
    rw [e0, ← List.append_assoc, ← List.append_assoc, ← List.append_assoc]; exact bt_mid (by simp [two, arrL_len]) hi
  have b4 : ∀ i, i < 4 → bt (arpB op sm a1 tm a2) ((24 + i : Nat) : Int) = a2 i := fun i hi => by
    have e1 : arpB op sm a1 tm a2 = ([0, 1, 8, 0, 6, 4] ++ two op ++ arrL 6 sm ++ arrL 4 a1 ++ arrL 6 tm) ++ (arrL 4 a2 ++ []) := by unfold arpB; simp only [List.append_nil]
    rw [e1]; exact bt_mid (by simp [two, arrL_len]) hi
  have hq : qe (arpB op sm a1 tm a2) = 0 := by
    unfold qe
    rw [if_neg (by omega), if_neg (by omega), if_neg (by rw [e0]; simp), hw, arpC_congr b1]
    exact hC
  refine ⟨hq, by unfold qop ok0; rw [if_pos hq, hw], fun i hi => by unfold qsm ok0; rw [if_pos hq, b1 i hi], by unfold qv ok0; rw [if_pos hq], fun i hi => ?_, fun i hi => by unfold qtm ok0; rw [if_pos hq, b3 i hi], by unfold qv ok0; rw [if_pos hq], fun i hi => ?_⟩
  · unfold qa1 ok0
    rw [if_pos hq]
    split
    · rename_i h4; exact b2 i h4
    · exact (t1 i (by omega) hi).symm
  · unfold qa2 ok0
    rw [if_pos hq]
    split
    · rename_i h4; exact b4 i h4
    · exact (t2 i (by omega) hi).symm
/-- what was read is written as it was -/
theorem put_q {l : List Int} (hb : Byt l) (hq : qe l = 0) (h1 : op = qop l) (h2 : ∀ i, i < 6 → sm i = qsm l i) (h3 : v1 = qv l) (h4 : ∀ i, i < 16 → a1 i = qa1 l i) (h5 : ∀ i, i < 6 → tm i = qtm l i) (h6 : v2 = qv l) (h7 : ∀ i, i < 16 → a2 i = qa2 l i) :
    arpE op sm v1 a1 v2 a2 = 0 ∧ arpB op sm a1 tm a2 = l.take 28 ∧ 28 ≤ l.length := by
  have hq' := hq
  unfold qe at hq'
  split at hq'; · omega
  split at hq'; · omega
  split at hq'; · omega
  rename_i g1 g2 g3
  have ez : ∀ v, ok0 l v = v := fun v => by unfold ok0; rw [if_pos hq]
  simp only [qop, qsm, qv, qa1, qtm, qa2, ez] at h1 h2 h3 h4 h5 h6 h7
  refine ⟨arpE_zero ?_ ⟨h3, fun i h i16 => by rw [h4 i i16, if_neg (by omega)]⟩ ⟨h6, fun i h i16 => by rw [h7 i i16, if_neg (by omega)]⟩, ?_, by omega⟩
  · rw [h1, arpC_congr h2]; exact hq'
  · rw [show (28 : Nat) = 24 + 4 from rfl, arrN (l := l) (f := a2) (k := 24) (n := 4) (by omega) (fun i hi => by rw [h7 i (by omega), if_pos hi]), show (24 : Nat) = 18 + 6 from rfl, arrN (l := l) (f := tm) (k := 18) (n := 6) (by omega) h5,
      show (18 : Nat) = 14 + 4 from rfl, arrN (l := l) (f := a1) (k := 14) (n := 4) (by omega) (fun i hi => by rw [h4 i (by omega), if_pos hi]), show (14 : Nat) = 8 + 6 from rfl, arrN (l := l) (f := sm) (k := 8) (n := 6) (by omega) h2,
      show (8 : Nat) = 6 + 2 from rfl, take_two hb (by omega), Classical.not_not.1 g3]
    unfold arpB
    rw [h1]
    rfl
end
end Go.Vc.S5
end
end
