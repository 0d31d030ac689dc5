import Derived.Test.YtopobapmncbjhaaS5B
section
open Go Go.Vc Go.Proofs
set_option linter.unusedVariables false
set_option linter.unusedSimpArgs false
set_option autoImplicit false
namespace Go.Vc.S5

/-- the tags behind byte t, and where the type stands -/
def ploop (l : List Int) : Nat → List Tag → Nat → Except Int (List Tag × Nat)
  | 0, _, _ => .error 51
  | f + 1, tags, t =>
    if isTagN (w16 l t) = true then
      if tags.length = 2 ∨ (tags.length = 1 ∧ w16 l t = 34984) then .error 51
      else if l.length < t + 6 then .error 50
      else if w16 l ((t + 2 : Nat) : Int) % 4096 = 4095 then .error 52
      else ploop l f (tags ++ [⟨w16 l t, w16 l ((t + 2 : Nat) : Int) / 8192, w16 l ((t + 2 : Nat) : Int) / 4096 % 2 == 1, w16 l ((t + 2 : Nat) : Int) % 4096⟩]) (t + 4)
    else if w16 l t < 1536 then .error 53 else .ok (tags, t)
def parse (l : List Int) : Except Int (List Tag × Nat) :=
  if 65535 < l.length then .error 2 else if l.length < 14 then .error 50 else if bt l 6 % 2 = 1 then .error 54 else ploop l 3 [] 12

abbrev frSV (f g : Nat → Int) (s : Sl) (n : Int) (d : Sl) : SV := .struct [.arr .u8 6 f, .arr .u8 6 g, .slice s, .int .i64 n, .slice d]
abbrev nilS : Sl := ⟨none, 0, 0⟩
abbrev frZ : SV := frSV (fun _ => 0) (fun _ => 0) nilS 0 nilS

theorem at_add (s : Sl) (i : Nat) : (s.at 0 0).add (0 + i) = s.at 1 i := by simp [Sl.at]

theorem tag_row {w : World} {b n cap : Nat} {e : Nat} {f : Nat × Nat} {cs : List Value} (t : Tag) (h : w.heap[b]? = some (.cells cs.toArray e f)) (hc : cs = cTag.cells [t]) (hn : n = 1) : Sees cTag w ⟨some ⟨b, 0, none⟩, n, cap⟩ [t] :=
  sees_row h [t] hc hn

set_option maxRecDepth 10000 in
theorem c26 {b : Sl} {l : List Int} {w : World} {R : SV → World → Prop} (h : SeesB w b l) (hb : Byt l) (hc : b.len ≤ b.cap) (hl : l.length ≤ 140737488355328)
    (ke : ∀ e w1, parse l = .error e → Upd [] [] w w1 → R (.tuple [frZ, .int .i64 e]) w1)
    (ko : ∀ tags t f g s w1, parse l = .ok (tags, t) → (∀ i, i < 6 → f i = bt l (i : Nat)) → (∀ i, i < 6 → g i = bt l ((6 + i : Nat) : Int)) → t + 2 ≤ l.length → tags.length ≤ 2 → Upd [] [] w w1 → Sees cTag w1 s tags → Own w.heap.size 4 w1 s →
      R (.tuple [frSV f g s (w16 l t) (b.sub 1 (t + 2) l.length l.length), .int .i64 0]) w1) : Ret Try.prog 26 [.slice b] w R := by
  refine f26_of _ _ _ ?_
  unfold vc26
  have hlen := h.len
  rw [hlen]
  intro b1
  have ke' : ∀ e w1, Upd [] [] w w1 → parse l = .error e → R (.tuple [frZ, .int .i64 e]) w1 := fun e w1 u he => ke e w1 he u
  unfold parse at ke' ko
  refine brd (fun hg w1 u => ke' _ _ u.forget (by rw [if_pos (by omega)])) (fun hg => ?_)
  rw [if_neg (by omega)] at ke' ko
  refine brd (fun hg w1 u => ke' _ _ u.forget (by rw [if_pos (by omega)])) (fun hg2 => ?_)
  rw [if_neg (by omega)] at ke' ko
  refine needD (by omega) (need (by
    have := (h.isSome (by decide) (by omega))
    simp [Sl.sub, this]) ⟨fun i => bt l (i : Nat), fun i hi => ?_, need (by simp; omega) (need (by
    have := (h.isSome (by decide) (by omega))
    simp [Sl.sub]
    split <;> simp [this]) ⟨fun i => bt l ((6 + i : Nat) : Int), fun i hi => ?_, ?_⟩)⟩)
  · rw [at_add]
    have h1 := h.subB (lo := 0) (hi := 6) (mx := b.cap) (by omega) (by omega) (by omega)
    have h2 := byteC h1 i (by simp; omega)
    rw [h2]
    simp [bt, hi]
  · rw [at_add]
    have h1 := h.subB (lo := 6) (hi := 12) (mx := b.cap) (by omega) (by omega) (by omega)
    have h2 := byteC h1 i (by simp; omega)
    rw [h2]
    simp [bt, hi, List.getElem?_drop, List.getElem?_take, show 6 + i < 12 by omega, show (6 + (i : Int)).toNat = 6 + i by omega]
  intro b2
  refine ⟨Upd.refl _, fun w1 u1 => ?_⟩
  have hb1 := u1.new (b := b1) (by simp)
  have hb2 := u1.new (b := b2) (by simp)
  have e6 : (0 : Int) ≤ bt l ((6 + 0 : Nat) : Int) ∧ bt l ((6 + 0 : Nat) : Int) < 256 := hb.bt _
  refine c14 e6 fun w2 u2 => ⟨_, rfl, kp u2, ?_⟩
  have v2 := u1.then u2
  have ge : grp (fun i => bt l ((6 + i : Nat) : Int)) = (bt l 6 % 2 == 1) := rfl
  rw [ge]
  have f1 : ∀ x ∈ [b1], w.heap.size ≤ x := by simp; omega
  have f12 : ∀ x ∈ [b1, b2], w.heap.size ≤ x := by simp; omega
  refine bre (fun hg3 w3 u3 => ke' _ _ (v2.step0 u3 f1) (by rw [if_pos hg3])) (fun hg3 => ?_)
  rw [if_neg hg3] at ke' ko
  refine ⟨fun n _ _ _ _ _ f3 f4 s2 _ _ w3 => Upd [] [] w w3 ∧ w1.heap.size ≤ w3.heap.size ∧ Own w1.heap.size 4 w3 s2 ∧ (∀ i, i < 6 → f3 i = bt l (i : Nat)) ∧ (∀ i, i < 6 → f4 i = bt l ((6 + i : Nat) : Int)) ∧
    ∃ (t fuel : Nat) (tags : List Tag), n = t ∧ t + 2 ≤ l.length ∧ Sees cTag w3 s2 tags ∧ fuel + 1 + tags.length = 3 ∧ ploop l (fuel + 1) tags t = ploop l 3 [] 12,
    fun n _ _ _ _ _ _ _ _ _ _ _ => (l.length - n).toNat, ⟨v2, u2.size, Own.none _ _ _, fun i hi => rfl, fun i hi => rfl, 12, 2, [], rfl, by omega, Sees.nil _ _ _ _, rfl, rfl⟩, ?_⟩
  rintro n _ _ _ _ _ f3 f4 s2 _ _ w3 ⟨u3, z3, o3, hf3, hf4, t, fuel, tags, rfl, ht, hs3, hfu, hpl⟩
  have h3 := h.old u3
  rw [← hpl] at ke' ko
  have hr := w16_r hb t
  have hr2 := w16_r hb ((t + 2 : Nat) : Int)
  have sl := hs3.len
  unfold ploop at ke' ko hpl
  refine c50 h3 hb (by omega) (by omega) (by omega) fun w4 u4 => ⟨_, rfl, kp u4, ?_⟩
  have v4 := u3.then u4
  intro J hJ
  refine c51 ⟨_, rfl, kp (Upd.refl _), ?_⟩
  refine brn (fun hT => ?_) (fun hT => ?_)
  · rw [if_neg (by simp [hT])] at ke' ko
    refine brd (fun hlt w5 u5 => ke' _ _ (v4.step0 u5 f12) (by rw [if_pos hlt])) (fun hge => ?_)
    rw [if_neg hge] at ko
    rw [wr_i64 (by omega) (by omega)]
    refine need (by simp; omega) fun w5 u5 => ?_
    have := ko tags t f3 f4 s2 w5 rfl hf3 hf4 ht (by omega) (v4.step0 u5 f12) ((hs3.old u4).upd u5 (fun x hx hm => by have := (o3.blk x hx).1; simp at hm; omega)) (((o3.old u4).upd u5 (fun x hx hm => by have := (o3.blk x hx).1; simp at hm; omega)).mono u1.size)
    rw [show ((t : Int) + 2).toNat = t + 2 by omega, show ((l.length : Int)).toNat = l.length by omega]
    exact this
  · rw [if_pos hT] at ke' ko hpl
    intro J1 hJ1
    have bad : ∀ {X : Prop}, (tags.length = 2 ∨ (tags.length = 1 ∧ w16 l t = 34984)) → Br true (∀ w1, Upd [b1] [] w4 w1 → R (.tuple [frZ, .int .i64 51]) w1) X := fun hx => brt rfl (fun w5 u5 => ke' _ _ (v4.step0 u5 f1) (by rw [if_pos hx]))
    have good : ¬ (tags.length = 2 ∨ (tags.length = 1 ∧ w16 l t = 34984)) → J1 false w4 := fun hx => by
      refine hJ1 _ _ (brf rfl ?_)
      rw [if_neg hx] at ke' ko hpl
      rw [wr_i64 (by omega) (by omega)]
      refine brd (fun hlt w5 u5 => ke' _ _ (v4.step0 u5 f1) (by rw [if_pos (by omega)])) (fun hge => ⟨rfl, rfl, hJ _ _ _ _ _ _ _ _ _ _ _ ?_⟩)
      rw [if_neg (by omega)] at ke' ko hpl
      rw [wr_i64 (by omega) (by omega)]
      rw [show (t : Int) + 2 = ((t + 2 : Nat) : Int) by omega]
      refine c50 (h3.old u4) hb (by omega) (by omega) (by omega) fun w5 u5 => ⟨_, rfl, kp u5, ?_⟩
      have v5 := v4.then u5
      intro b3
      rw [and_4095, gshr13, gshr12, and_1]
      refine bre (fun hx w6 u6 => ke' _ _ (v5.step0 u6 f1) (by rw [if_pos hx])) (fun hx => ?_)
      rw [if_neg hx] at ke' ko hpl
      intro b4 w6 u6 hrow
      have hb3 := u6.new (b := b3) (by simp)
      have v6 := v5.then u6
      have os := ((o3.old u4).old u5).old u6
      have y4 := u4.size
      have y5 := u5.size
      have y6 := u6.size
      refine append_own (c := cTag) (((hs3.old u4).old u5).old u6) os (tag_row ⟨w16 l t, w16 l ((t + 2 : Nat) : Int) / 8192, w16 l ((t + 2 : Nat) : Int) / 4096 % 2 == 1, w16 l ((t + 2 : Nat) : Int) % 4096⟩ hrow rfl rfl) (by omega) (fun x hx hm => by have := o3.blk x hx; simp at hm; omega) (by decide) (by simp; omega) fun r w7 hr7 ho7 u7 _ => ?_
      intro w8 u8
      have v8 := (v6.step0 u7 (fun x hx => by have := (o3.blk x hx).1; omega)).step0 u8 (by simp; omega)
      refine ⟨rfl, rfl, ⟨v8, ?_, ho7.upd u8 (fun x hx hm => by have := (ho7.blk x hx).1; simp at hm; omega), hf3, hf4, t + 4, fuel - 1, _, ?_, by omega, hr7.upd u8 (fun x hx hm => by have := (ho7.blk x hx).1; simp at hm; omega), ?_, ?_⟩, ?_⟩
      · have := u7.size; have := u8.size; omega
      · rw [wr_i64 (by omega) (by omega)]; omega
      · simp; omega
      · rw [show fuel - 1 + 1 = fuel by omega]; exact hpl
      · rw [wr_i64 (by omega) (by omega)]; (try dsimp only); omega
    rw [sl]
    refine bre (fun h2 => ⟨rfl, rfl, hJ1 _ _ (bad (by omega))⟩) (fun h2 => ?_)
    refine bre (fun h1 => ?_) (fun h1 => ⟨rfl, rfl, good (by omega)⟩)
    by_cases e : w16 l t = 34984
    · rw [e, beq_self_eq_true]
      exact ⟨rfl, rfl, hJ1 _ _ (bad (by omega))⟩
    · rw [show (w16 l t == 34984) = false by simp [e]]
      exact ⟨rfl, rfl, good (by omega)⟩
end Go.Vc.S5
end

section
open Go Go.Vc Go.Proofs
set_option linter.unusedVariables false
set_option linter.unusedSimpArgs false
set_option autoImplicit false
namespace Go.Vc.S5


theorem fset_ne {f : Nat → Int} {n i : Nat} {v : Int} (h : i ≠ n) : fset f n v i = f i := by
  have e : Nat.beq i n = false := by rw [← Bool.not_eq_true, Nat.beq_eq]; exact h
  simp [fset, e]
theorem fset_eq {f : Nat → Int} {n : Nat} {v : Int} : fset f n v n = v := by simp [fset]

set_option maxRecDepth 10000 in
theorem c27 {b : Sl} {l : List Int} {w : World} {R : SV → World → Prop} (h : SeesB w b l) (hb : Byt l) (hl : l.length ≤ 70368744177664)
    (ke : ∀ e w1, parse l = .error e → Upd [] [] w w1 → R (.tuple [frZ, .int .i64 e]) w1)
    (ko : ∀ tags t f g s d w1, parse l = .ok (tags, t) → (∀ i, i < 6 → f i = bt l (i : Nat)) → (∀ i, i < 6 → g i = bt l ((6 + i : Nat) : Int)) → t + 2 ≤ l.length → tags.length ≤ 2 → Upd [] [] w w1 → Sees cTag w1 s tags → Own w.heap.size 4 w1 s →
      SeesB w1 d (l.drop (t + 2)) → Own w.heap.size 1 w1 d → R (.tuple [frSV f g s (w16 l t) d, .int .i64 0]) w1) : Ret Try.prog 27 [.slice b] w R := by
  refine f27_of _ _ _ ?_
  unfold vc27
  have hlen := h.len
  rw [hlen]
  intro b1 b2
  have ke' : ∀ e w1, Upd [] [] w w1 → parse l = .error e → R (.tuple [frZ, .int .i64 e]) w1 := fun e w1 u he => ke e w1 he u
  unfold parse at ke' ko
  refine brd (fun hg w1 u => ke' _ _ u.forget (by rw [if_pos (by omega)])) (fun hg => ?_)
  rw [if_neg (by omega)] at ke' ko
  refine brd (fun hg w1 u => ke' _ _ u.forget (by rw [if_pos (by omega)])) (fun hg2 => ?_)
  rw [if_neg (by omega)] at ke' ko
  intro b3
  refine ⟨fun n f f1 s _ _ w3 => Upd [] [] w w3 ∧ (w.heap.size ≤ b1 ∧ b1 < w3.heap.size) ∧ (w.heap.size ≤ b2 ∧ b2 < w3.heap.size) ∧ (w.heap.size ≤ b3 ∧ b3 < w3.heap.size) ∧ s = nilS ∧ ∃ t : Nat, n = t ∧ t ≤ 6 ∧ ∀ i, i < t → f i = bt l (i : Nat) ∧ f1 i = bt l ((6 + i : Nat) : Int),
    fun n _ _ _ _ _ _ => (6 - n).toNat, fun w1 u => ⟨u.forget, u.new (by simp), u.new (by simp), u.new (by simp), rfl, 0, rfl, by omega, fun i hi => by omega⟩, ?_⟩
  rintro n f f1 s n1 s1 w1 ⟨u1, hb1, hb2, hb3, rfl, t, rfl, ht, hf⟩
  have h1 := h.old u1
  refine brd (fun hlt => ?_) (fun hge => ?_)
  · rw [wr_i64 (by omega) (by omega)]
    refine needB' h1 (by omega) (by omega) ⟨_, h1.byte (by omega) (by omega), needIx2 (by omega) (by omega) (needB' h1 (by omega) (by omega) (fun w2 u2 => ?_))⟩
    have v2 := u1.step0 u2 (by simp; omega)
    refine ⟨_, (h.old v2).byte (by omega) (by omega), needIx2 (by omega) (by omega) (fun w3 u3 => by (repeat refine And.intro rfl ?_); exact ⟨⟨v2.step0 u3 (by simp; omega), by have := u2.size; have := u3.size; omega, by have := u2.size; have := u3.size; omega, by have := u2.size; have := u3.size; omega, rfl, t + 1, wr_succ (by omega), by omega, fun i hi => by
      rw [Int.toNat_natCast]
      by_cases e : i = t
      · subst e
        rw [fset_eq, fset_eq]
        exact ⟨rfl, by congr 1⟩
      · rw [fset_ne e, fset_ne e]
        exact hf i (by omega)⟩, by rw [wr_succ (by omega)]; (try dsimp only); omega⟩)⟩
  have ht6 : t = 6 := by omega
  subst ht6
  have hf1 : ∀ i, i < 6 → f i = bt l (i : Nat) := fun i hi => (hf i hi).1
  have hg1 : ∀ i, i < 6 → f1 i = bt l ((6 + i : Nat) : Int) := fun i hi => (hf i hi).2
  have e60 := hg1 0 (by omega)
  have e6 : (0 : Int) ≤ f1 0 ∧ f1 0 < 256 := by rw [e60]; exact hb.bt _
  refine c15 e6 fun w2 u2 => ⟨_, rfl, kp u2, ?_⟩
  have v2 := u1.then u2
  have ge : grp f1 = (bt l 6 % 2 == 1) := by unfold grp; rw [e60]; rfl
  rw [ge]
  have fr1 : ∀ x ∈ [b1], w.heap.size ≤ x := by simp; omega
  have fr3 : ∀ x ∈ [b3], w.heap.size ≤ x := by simp; omega
  have f13 : ∀ x ∈ [b1, b3], w.heap.size ≤ x := by simp; omega
  refine bre (fun hg3 w3 u3 => ke' _ _ (v2.step0 u3 fr1) (by rw [if_pos hg3])) (fun hg3 => ?_)
  rw [if_neg hg3] at ke' ko
  intro J hJ
  refine ⟨fun n _ _ _ _ _ f3 f4 s2 _ _ w3 => Upd [] [] w w3 ∧ w1.heap.size ≤ w3.heap.size ∧ Own w1.heap.size 4 w3 s2 ∧ (∀ i, i < 6 → f3 i = bt l (i : Nat)) ∧ (∀ i, i < 6 → f4 i = bt l ((6 + i : Nat) : Int)) ∧
    ∃ (t fuel : Nat) (tags : List Tag), n = t ∧ t + 2 ≤ l.length ∧ Sees cTag w3 s2 tags ∧ fuel + 1 + tags.length = 3 ∧ ploop l (fuel + 1) tags t = ploop l 3 [] 12,
    fun n _ _ _ _ _ _ _ _ _ _ _ => (l.length - n).toNat, ⟨v2, u2.size, Own.none _ _ _, hf1, hg1, 12, 2, [], rfl, by omega, Sees.nil _ _ _ _, rfl, rfl⟩, ?_⟩
  rintro n g1 g2 s5 n5 s6 f3 f4 s2 n6 s7 w3 ⟨u3, z3, o3, hf3, hf4, t, fuel, tags, rfl, ht, hs3, hfu, hpl⟩
  have h3 := h.old u3
  rw [← hpl] at ke' ko
  have hr := w16_r hb t
  have hr2 := w16_r hb ((t + 2 : Nat) : Int)
  have sl := hs3.len
  unfold ploop at ke' ko hpl
  intro J1 hJ1
  have tag : isTagN (w16 l t) = true → ∀ w4, Upd [] [] w3 w4 → J1 w4 := by
    intro hT w4 u4
    have v4 := u3.then u4
    refine hJ1 _ ?_
    rw [if_pos hT] at ke' ko hpl
    intro J2 hJ2
    have bad : (tags.length = 2 ∨ (tags.length = 1 ∧ w16 l t = 34984)) → ∀ w5 w6, Upd [] [] w3 w5 → Upd [b1] [] w5 w6 → R (.tuple [frZ, .int .i64 51]) w6 := fun hx w5 w6 u5 u6 => ke' _ _ ((u3.then u5).step0 u6 fr1) (by rw [if_pos hx])
    have good : ¬ (tags.length = 2 ∨ (tags.length = 1 ∧ w16 l t = 34984)) → ∀ w5, Upd [] [] w4 w5 → J2 g1 g2 s5 n5 s6 w5 := by
      intro hx w5 u5
      refine hJ2 _ _ _ _ _ _ ?_
      rw [if_neg hx] at ke' ko hpl
      have v5 := v4.then u5
      rw [wr_i64 (x := (t : Int) + 6) (by omega) (by omega)]
      refine brd (fun hlt w6 u6 => ke' _ _ (v5.step0 u6 fr1) (by rw [if_pos (by omega)])) (fun hge => ?_)
      rw [if_neg (by omega)] at ke' ko hpl
      rw [wr_i64 (x := (t : Int) + 2) (by omega) (by omega), show (t : Int) + 2 = ((t + 2 : Nat) : Int) by omega]
      refine c46 ((h3.old u4).old u5) hb (by omega) (by omega) (by omega) fun w6 u6 => ⟨_, rfl, kp u6, ?_⟩
      refine c46 (((h3.old u4).old u5).old u6) hb (by omega) (by omega) (by omega) fun w7 u7 => ⟨_, rfl, kp u7, ?_⟩
      have v7 := (v5.then u6).then u7
      intro b4
      rw [tmod_pos hr2.1, tdiv_pos hr2.1, tdiv_pos hr2.1, wr_i64 (x := w16 l ((t + 2 : Nat) : Int) / 8192) (by omega) (by omega), wr_i64 (x := w16 l ((t + 2 : Nat) : Int) / 4096) (by omega) (by omega), tmod_pos (show 0 ≤ w16 l ((t + 2 : Nat) : Int) / 4096 by omega)]
      refine bre (fun hx w8 u8 => ke' _ _ (v7.step0 u8 fr1) (by rw [if_pos hx])) (fun hx => ?_)
      rw [if_neg hx] at ke' ko hpl
      intro b5 w8 u8 hrow
      have hb4 := u8.new (b := b4) (by simp)
      have v8 := v7.then u8
      have os := ((((o3.old u4).old u5).old u6).old u7).old u8
      have y4 := u4.size
      have y5 := u5.size
      have y6 := u6.size
      have y7 := u7.size
      have y8 := u8.size
      refine append_own (c := cTag) (((((hs3.old u4).old u5).old u6).old u7).old u8) os (tag_row ⟨w16 l t, w16 l ((t + 2 : Nat) : Int) / 8192, w16 l ((t + 2 : Nat) : Int) / 4096 % 2 == 1, w16 l ((t + 2 : Nat) : Int) % 4096⟩ hrow rfl rfl) (by omega) (fun x hx hm => by have := o3.blk x hx; simp at hm; omega) (by decide) (by simp; omega) fun r w9 hr9 ho9 u9 _ => ?_
      intro w10 u10
      have v10 := (v8.step0 u9 (fun x hx => by have := (o3.blk x hx).1; have := u1.size; omega)).step0 u10 fr3
      repeat refine And.intro rfl ?_
      refine ⟨⟨v10, ?_, ho9.upd u10 (fun x hx hm => by have := (ho9.blk x hx).1; simp at hm; omega), hf3, hf4, t + 4, fuel - 1, _, ?_, by omega, hr9.upd u10 (fun x hx hm => by have := (ho9.blk x hx).1; simp at hm; omega), ?_, ?_⟩, ?_⟩
      · have := u9.size; have := u10.size; omega
      · rw [wr_i64 (by omega) (by omega)]; omega
      · simp; omega
      · rw [show fuel - 1 + 1 = fuel by omega]; exact hpl
      · rw [wr_i64 (by omega) (by omega)]; (try dsimp only); omega
    rw [sl]
    refine bre (fun h2 w5 u5 => bad (by omega) _ _ u4 u5) (fun h2 => bre (fun h1 => ?_) (fun h1 => by (repeat refine And.intro rfl ?_); exact good (by omega) _ (Upd.refl _)))
    refine c46 (h3.old u4) hb (by omega) (by omega) (by omega) fun w5 u5 => ⟨_, rfl, kp u5, bre (fun e w6 u6 => bad (by omega) _ _ (u4.then u5) u6) (fun e => by (repeat refine And.intro rfl ?_); exact good (by omega) _ u5)⟩
  refine c46 h3 hb (by omega) (by omega) (by omega) fun w4 u4 => ⟨_, rfl, kp u4, bre (fun e => by (repeat refine And.intro rfl ?_); exact tag (by unfold isTagN; simp [e]) _ u4) (fun e1 => ?_)⟩
  refine c46 (h3.old u4) hb (by omega) (by omega) (by omega) fun w5 u5 => ⟨_, rfl, kp u5, bre (fun e => by (repeat refine And.intro rfl ?_); exact tag (by unfold isTagN; simp [e]) _ (u4.then u5)) (fun e2 => ?_)⟩
  repeat refine And.intro rfl ?_
  refine hJ _ _ _ _ _ _ _ _ _ _ _ _ ?_
  have hT : isTagN (w16 l t) = false := by unfold isTagN; simp [e1, e2]
  rw [if_neg (by simp [hT])] at ke' ko
  have v5 := (u3.then u4).then u5
  refine c46 ((h3.old u4).old u5) hb (by omega) (by omega) (by omega) fun w6 u6 => ⟨_, rfl, kp u6, ?_⟩
  have v6 := v5.then u6
  refine brd (fun hlt w7 u7 => ke' _ _ (v6.step0 u7 f13) (by rw [if_pos hlt])) (fun hge => fun w7 u7 => ?_)
  rw [if_neg hge] at ko
  have v7 := v6.step0 u7 fr3
  rw [wr_i64 (x := (t : Int) + 2) (by omega) (by omega)]
  refine c41 (h.old v7) (by omega) (Int.le_refl _) (by omega) fun d w8 u8 hs8 ho8 => ⟨_, rfl, kp u8, fun w9 u9 => ?_⟩
  have z1 := u1.size
  have k0 : ∀ x ∈ s2.blk, x ∉ [b3] := fun x hx hm => by have := (o3.blk x hx).1; simp at hm; omega
  have k1 : ∀ x ∈ s2.blk, x ∉ [b1, b3] := fun x hx hm => by have := (o3.blk x hx).1; simp at hm; omega
  have y3 := u3.size
  have y4 := u4.size
  have y5 := u5.size
  have y6 := u6.size
  have y7 := u7.size
  have k2 : ∀ x ∈ d.blk, x ∉ [b1, b3] := fun x hx hm => by have := (ho8.blk x hx).1; simp at hm; omega
  refine ko tags t f3 f4 s2 d w9 rfl hf3 hf4 ht (by omega) ((v7.then u8).step0 u9 f13) ((((((hs3.old u4).old u5).old u6).upd u7 k0).old u8).upd u9 k1) (((((((o3.old u4).old u5).old u6).upd u7 k0).old u8).upd u9 k1).mono z1) (Sees.upd ?_ u9 k2) ((ho8.upd u9 k2).mono v7.size)
  rw [Int.toNat_natCast, List.take_length, show ((t : Int) + 2).toNat = t + 2 by omega] at hs8
  exact hs8
end Go.Vc.S5
end
