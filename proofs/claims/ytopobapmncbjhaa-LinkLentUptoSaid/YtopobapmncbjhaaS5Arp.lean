import Derived.Test.YtopobapmncbjhaaS5U
import Derived.Test.YtopobapmncbjhaaS5TxtF
import Derived.Test.YtopobapmncbjhaaS5FG
import Derived.Test.YtopobapmncbjhaaLoops2
import Derived.Test.YtopobapmncbjhaaS5EP
section
open Go Go.Vc Go.Proofs
set_option linter.unusedVariables false
set_option linter.unusedSimpArgs false
set_option autoImplicit false
namespace Go.Vc.S5

theorem ior_nat_u64 {a b : Int} (ha : 0 ≤ a) (ha1 : a < 9223372036854775808) (hb : 0 ≤ b) (hb1 : b < 9223372036854775808) : ior .u64 a b = ior .i64 a b := by
  rw [ior_nat ha ha1 hb hb1]
  unfold ior ibits
  rw [BitVec.toNat_or, ofInt_toNat ha (by simp only [IntKind.bits]; omega), ofInt_toNat hb (by simp only [IntKind.bits]; omega)]
  have : a.toNat ||| b.toNat < 2 ^ 63 := Nat.or_lt_two_pow (by omega) (by omega)
  have h := wr_u64 (x := ((a.toNat ||| b.toNat : Nat) : Int)) (by omega) (by omega)
  unfold wr at h
  exact h
theorem gshl8_u64 (a : Int) : gshl .u64 a 8 = wr .u64 (a * 256) := by
  unfold gshl
  rw [Nat.min_eq_left (by simp only [IntKind.bits]; omega)]; rfl
theorem step_u64 {x y : Int} (hx : 0 ≤ x ∧ x < 256) (hy : 0 ≤ y ∧ y < 256) : ior .u64 (gshl .u64 x 8) (wr .u64 y) = x * 256 + y := by
  rw [gshl8_u64, wr_u64 (by omega) (by omega), wr_u64 (by omega) (by omega), ior_nat_u64 (by omega) (by omega) (by omega) (by omega)]
  exact ior_add 8 (by omega) (by omega) (by omega) (by omega) (by omega) (by omega)

section
variable {b : Sl} {l : List Int} {w : World} {R : SV → World → Prop}
theorem c61 {i : Int} (h : SeesB w b l) (h0 : 0 ≤ i) (hi : i < l.length) (k : R (.int .u8 (bt l i)) w) : Ret Try.prog 61 [.slice b, .int .i64 i] w R := by
  refine f61_of _ _ _ _ ?_
  unfold vc61
  have := h.len
  intro J hJ
  exact brf (by simp; omega) (brf (by simp; omega) (hJ _ (needB h h0 hi ⟨_, h.byte h0 hi, k⟩)))
theorem c57 (k : R (.bool true) w) : Ret Try.prog 57 [.int .i64 2] w R := by
  refine f57_of _ _ _ ?_
  unfold vc57
  exact brt (by decide) k
theorem c59 {p : Nat} (h : SeesB w b l) (hb : Byt l) (hp : p + 1 < l.length) (hl : l.length < 9223372036854775807) (k : R (.int .u64 (w16 l (p : Nat))) w) : Ret Try.prog 59 [.slice b, .int .i64 p, .int .i64 2] w R := by
  refine f59_of _ _ _ _ _ ?_
  unfold vc59
  have hlen := h.len
  intro J hJ
  refine brf (by simp) (brf (by simp; omega) (hJ _ ?_))
  have b0 := hb.bt (p : Nat)
  have b1 := hb.bt ((p : Int) + 1)
  refine ⟨fun v i w1 => w1 = w ∧ (i = 0 ∧ v = 0 ∨ i = 1 ∧ v = bt l (p : Nat) ∨ i = 2 ∧ v = w16 l (p : Nat)), fun _ i _ => (2 - i).toNat, ⟨rfl, .inl ⟨rfl, rfl⟩⟩, ?_⟩
  rintro v i w1 ⟨rfl, hi⟩
  rcases hi with ⟨rfl, rfl⟩ | ⟨rfl, rfl⟩ | ⟨rfl, rfl⟩
  · refine brt (by decide) ?_
    rw [wr_i64 (by omega) (by omega)]
    refine c61 h (by omega) (by omega) ⟨_, rfl, ?_⟩
    rw [Int.add_zero, step_u64 (by omega) b0]
    exact ⟨⟨rfl, .inr (.inl ⟨rfl, by omega⟩)⟩, by rw [wr_i64 (by omega) (by omega)]; (try dsimp only); omega⟩
  · refine brt (by decide) ?_
    rw [wr_i64 (by omega) (by omega)]
    refine c61 h (by omega) (by omega) ⟨_, rfl, ?_⟩
    rw [step_u64 b0 b1]
    exact ⟨⟨rfl, .inr (.inr ⟨rfl, rfl⟩)⟩, by rw [wr_i64 (by omega) (by omega)]; (try dsimp only); omega⟩
  · exact brf (by decide) k

def cU64 : Cod Int := ⟨1, fun n => [.int .u64 n], fun _ => rfl, by simp [Value.oneCell']⟩
theorem c45 {p : Nat} (h : SeesB w b l) (hb : Byt l) (hp : p + 1 < l.length) (hl : l.length < 9223372036854775807) (k : ∀ w1, Upd [] [] w w1 → R (.tuple [.int .u64 (w16 l (p : Nat)), .int .i64 0]) w1) : Ret Try.prog 45 [.slice b, .int .i64 p, .int .i64 2] w R := by
  refine f45_of _ _ _ _ _ ?_
  unfold vc45
  intro b1 b2 w1 u1
  have hb1 := u1.new (b := b1) (by simp)
  have hb2 := u1.new (b := b2) (by simp)
  refine c57 ⟨_, rfl, kp (Upd.refl _), brf rfl fun r1 r2 => ?_⟩
  have hne : b1 ≠ b2 := by
    intro e; subst e
    rw [r1] at r2
    simp [SV.cells] at r2
  refine c59 (h.old u1) hb hp hl ⟨_, rfl, ?_⟩
  have s1 := sees_row (c := cU64) (n := 1) (cap := 1) r1 [0] rfl rfl
  have o1 := own_row (n := 1) (cap := 1) (sz := 1) r1 hb1.1 rfl (Nat.le_refl _)
  have s2 := sees_row (c := cI64) (n := 1) (cap := 1) r2 [0] rfl rfl
  have o2 := own_row (n := 1) (cap := 1) (sz := 1) r2 hb2.1 rfl (Nat.le_refl _)
  refine own_set (c := cU64) (i := 0) (x := w16 l (p : Nat)) s1 o1 (by decide) (by decide) rfl (by simp) fun w2 s1 o1 u2 => ?_
  have n1 : ∀ x ∈ Sl.blk ⟨some ⟨b2, 0, none⟩, 1, 1⟩, x ∉ Sl.blk ⟨some ⟨b1, 0, none⟩, 1, 1⟩ := by simp [Sl.blk]; exact fun e => hne e.symm
  have n2 : ∀ x ∈ Sl.blk ⟨some ⟨b1, 0, none⟩, 1, 1⟩, x ∉ Sl.blk ⟨some ⟨b2, 0, none⟩, 1, 1⟩ := by simp [Sl.blk]; exact hne
  refine own_set (c := cI64) (i := 0) (x := 0) (s2.upd u2 n1) (o2.upd u2 n1) (by decide) (by decide) rfl (by simp) fun w3 s2 o2 u3 => ?_
  have s1 := s1.upd u3 n2
  refine c58 ?_
  have e1 := s1.elem (i := 0) (by simp) 0 (by simp [cU64])
  have e2 := s2.elem (i := 0) (by simp) 0 (by simp [cI64])
  refine ⟨_, e1, _, e2, k w3 ?_⟩
  exact (u1.step0 u2 (by simp [Sl.blk]; exact hb1.1)).step0 u3 (by simp [Sl.blk]; exact hb2.1)

theorem c43 (h : SeesB w b l) (hl : 4 ≤ l.length) (k : ∀ f w1, (∀ i, f i = if i < 4 then bt l (i : Nat) else 0) → Upd [] [] w w1 → R (.struct [.int .i64 4, .arr .u8 16 f]) w1) : Ret Try.prog 43 [.slice b] w R := by
  refine f43_of _ _ _ ?_
  unfold vc43
  intro b1
  refine needCB h 0 (by omega) ⟨_, byteC h 0 (by omega), needCB h 1 (by omega) ⟨_, byteC h 1 (by omega), needCB h 2 (by omega) ⟨_, byteC h 2 (by omega), needCB h 3 (by omega) ⟨_, byteC h 3 (by omega), fun w1 u1 => k _ w1 (fun i => ?_) u1.forget⟩⟩⟩⟩
  rcases i with _ | _ | _ | _ | i
  · rfl
  · rfl
  · rfl
  · rfl
  · rw [if_neg (by omega), fset_ne (by omega), fset_ne (by omega), fset_ne (by omega), fset_ne (by omega)]
end
section
variable {m : Nat → Int} {w : World} {R : SV → World → Prop}
abbrev z6 : Nat → Int := fun _ => 0
def arpC (op : Int) (m : Nat → Int) : Int := if op ≠ 1 ∧ op ≠ 2 then 57 else if grp m = true ∨ eqArr 6 m z6 = true then 58 else 0
theorem c42 {op : Int} (hm : 0 ≤ m 0 ∧ m 0 < 256) (k : ∀ w1, Upd [] [] w w1 → R (.int .i64 (arpC op m)) w1) : Ret Try.prog 42 [.int .i64 op, .arr .u8 6 m] w R := by
  refine f42_of _ _ _ _ ?_
  unfold vc42
  intro b J hJ
  have main : (op = 1 ∨ op = 2) → ∀ w1, Upd [] [b] w w1 → J w1 := by
    intro ho w1 u1
    refine hJ _ ?_
    have k1 : ∀ e w2, Upd [] [] w w2 → arpC op m = e → R (.int .i64 e) w2 := fun e w2 u he => he ▸ k w2 u
    unfold arpC at k1
    rw [if_neg (by omega)] at k1
    refine c14 hm fun w2 u2 => ⟨_, rfl, kp u2, brb (fun hg => k1 _ _ (u1.then u2) (by rw [if_pos (.inl hg)])) (fun hg => brb (fun hz => k1 _ _ (u1.then u2) (by rw [if_pos (.inr hz)])) (fun hz => k1 _ _ (u1.then u2) (by rw [if_neg (by simp [hg, hz])])))⟩
  refine bre' (fun h1 => bre' (fun h2 w1 u1 => ?_) (fun h2 w1 u1 => ?_)) (fun h1 w1 u1 => ?_)
  · have := k w1 u1.forget
    unfold arpC at this
    rwa [if_pos ⟨h1, h2⟩] at this
  · exact ⟨rfl, main (.inr h2) w1 u1⟩
  · exact ⟨rfl, main (.inl h1) w1 u1⟩
theorem c47 (hm : 0 ≤ m 0 ∧ m 0 < 256) (k : ∀ w1, Upd [] [] w w1 → R (.bool (!(grp m || eqArr 6 m z6))) w1) : Ret Try.prog 47 [.arr .u8 6 m] w R := by
  refine f47_of _ _ _ ?_
  unfold vc47
  intro b w1 u1
  refine c15 hm fun w2 u2 => ⟨_, rfl, kp u2, ?_⟩
  have v2 := u1.then u2
  refine brn (fun hg => ?_) (fun hg => ?_)
  · have := k w2 v2
    rw [hg, Bool.false_or] at this
    exact this
  · have := k w2 v2
    rw [hg, Bool.true_or] at this
    exact this
def tail0 (a : Nat → Int) : Prop := ∀ i, 4 ≤ i → i < 16 → a i = 0
theorem c48 {a : Nat → Int} (k1 : tail0 a → ∀ w1, Upd [] [] w w1 → R (.bool true) w1) (k2 : ¬ tail0 a → ∀ w1, Upd [] [] w w1 → R (.bool false) w1) : Ret Try.prog 48 [.struct [.int .i64 4, .arr .u8 16 a]] w R := by
  refine f48_of _ _ _ _ ?_
  unfold vc48
  intro b
  refine brf (by decide) ?_
  refine ⟨fun n w1 => Upd [] [] w w1 ∧ ∃ t : Nat, n = t ∧ 4 ≤ t ∧ t ≤ 16 ∧ ∀ i, 4 ≤ i → i < t → a i = 0, fun n _ => (16 - n).toNat, fun w1 u1 => ⟨u1.forget, 4, rfl, by omega, by omega, fun i h1 h2 => by omega⟩, ?_⟩
  rintro n w1 ⟨u1, t, rfl, h4, h16, hz⟩
  refine brd (fun hlt => ?_) (fun hge => k1 (fun i h1 h2 => hz i h1 (by omega)) w1 u1)
  refine needIx2 (by omega) (by omega) (bre' (fun hne => k2 (fun hT => hne (hT _ (by omega) (by omega))) w1 u1) (fun he => ?_))
  repeat refine And.intro rfl ?_
  refine ⟨⟨u1, t + 1, wr_succ (by omega), by omega, by omega, fun i h1 h2 => ?_⟩, by rw [wr_succ (by omega)]; (try dsimp only); omega⟩
  by_cases e : i = t
  · subst e; simpa using he
  · exact hz i h1 (by omega)
theorem c21 (k : ∀ f w1, (∀ i, i < 6 → f i = bt [2, 0, 0, 0, 0, 1] (i : Nat)) → Upd [] [] w w1 → R (.struct [.int .i64 1, .arr .u8 6 f, .struct [.int .i64 4, .arr .u8 16 fun _ => 0], .arr .u8 6 fun _ => 0, .struct [.int .i64 4, .arr .u8 16 fun _ => 0]]) w1) : Ret Try.prog 21 [] w R := by
  refine f21_of _ _ ?_
  unfold vc21
  intro b w1 u1
  refine k _ w1 (fun i hi => ?_) u1.forget
  rcases i with _ | _ | _ | _ | _ | _ | i
  all_goals first | rfl | omega
end
end Go.Vc.S5
end

section
open Go Go.Vc Go.Proofs
set_option linter.unusedVariables false
set_option linter.unusedSimpArgs false
set_option autoImplicit false
namespace Go.Vc.S5

abbrev arpSV (op : Int) (sm : Nat → Int) (v1 : Int) (a1 : Nat → Int) (tm : Nat → Int) (v2 : Int) (a2 : Nat → Int) : SV :=
  .struct [.int .i64 op, .arr .u8 6 sm, .struct [.int .i64 v1, .arr .u8 16 a1], .arr .u8 6 tm, .struct [.int .i64 v2, .arr .u8 16 a2]]
def v4 (v : Int) (a : Nat → Int) : Prop := v = 4 ∧ tail0 a
open Classical in
noncomputable def arpE (op : Int) (sm : Nat → Int) (v1 : Int) (a1 : Nat → Int) (v2 : Int) (a2 : Nat → Int) : Int := if arpC op sm ≠ 0 then arpC op sm else if ¬ v4 v1 a1 ∨ ¬ v4 v2 a2 then 20 else 0
def arpB (op : Int) (sm a1 tm a2 : Nat → Int) : List Int := [0, 1, 8, 0, 6, 4] ++ two op ++ arrL 6 sm ++ arrL 4 a1 ++ arrL 6 tm ++ arrL 4 a2
theorem arpB_len (op : Int) (sm a1 tm a2 : Nat → Int) : (arpB op sm a1 tm a2).length = 28 := by
  unfold arpB
  simp only [List.length_append, arrL_len, two, List.length_cons, List.length_nil]
theorem arp_take (f : Nat → Int) : ((arrL 16 f).take 4).drop 0 = arrL 4 f := by
  simp only [arrL, List.drop_zero, ← List.map_take, List.take_range]
  rfl
theorem arpC_ok {op : Int} {m : Nat → Int} (h : arpC op m = 0) : (op = 1 ∨ op = 2) ∧ (grp m || eqArr 6 m z6) = false := by
  unfold arpC at h
  split at h
  · omega
  · split at h
    · omega
    · rename_i h1 h2
      refine ⟨by omega, ?_⟩
      cases hg : grp m <;> cases hz : eqArr 6 m z6 <;> simp_all

/-- a row of bytes that a constant text was made into -/
theorem mark_row {w : World} {b e n N : Nat} {bs : List Nat} {F : World → Prop} {cs : List Value} (hrow : w.heap[b]? = some (.cells cs.toArray e (0, 0))) (hb : b ∉ bs) (hN : N ≤ b) (l : List Int) (hl : cs = cU8.cells l) (hn : n = l.length)
    (k : ∀ w1, Upd [b] [] w w1 → SeesB w1 ⟨some ⟨b, 0, none⟩, n, n⟩ l → Own N 1 w1 ⟨some ⟨b, 0, none⟩, n, n⟩ → F w1) : MarkStr w ⟨some ⟨b, 0, none⟩, n, n⟩ bs F := by
  refine ⟨_, _, hrow, hb, fun w1 u h => ?_⟩
  have hsz : cs.length = n := by rw [hl, Cod.cells_length, hn]; exact Nat.mul_one _
  refine k w1 u (rowB h l hl hn) ⟨Nat.le_refl _, by simp, fun x hx => ?_, fun a ha => ?_⟩
  · simp [Sl.blk] at hx; subst hx; exact ⟨hN, (Array.getElem?_eq_some_iff.1 h).1⟩
  · simp at ha
    subst ha
    refine ⟨rfl, fun i hi => ?_⟩
    simp at hi
    rw [add_none, cell_of_block h]
    refine ⟨by simp [hsz, hi], ?_⟩
    simp [World.frozen?, h, hsz]
    omega

section
variable {op v1 v2 : Int} {sm a1 tm a2 : Nat → Int} {w : World} {R : SV → World → Prop}
set_option maxRecDepth 10000 in
theorem c20 (hm : 0 ≤ sm 0 ∧ sm 0 < 256)
    (k : ∀ s w1, Upd [] [] w w1 → SeesB w1 s (if arpE op sm v1 a1 v2 a2 = 0 then arpB op sm a1 tm a2 else []) → Own w.heap.size 1 w1 s → R (.tuple [.slice s, .int .i64 (arpE op sm v1 a1 v2 a2)]) w1) :
    Ret Try.prog 20 [arpSV op sm v1 a1 tm v2 a2] w R := by
  refine f20_of _ _ _ _ _ _ _ _ _ ?_
  unfold vc20
  intro b w1 u1
  have hb := u1.new (b := b) (by simp)
  have k1 : ∀ e w2, Upd [] [] w w2 → arpE op sm v1 a1 v2 a2 = e → e ≠ 0 → R (.tuple [.slice nilS, .int .i64 e]) w2 := fun e w2 u he hne => by
    have := k nilS w2 u (by rw [he, if_neg hne]; exact Sees.nil _ _ _ _) (Own.none _ _ _)
    rwa [he] at this
  refine c42 hm fun w2 u2 => ⟨_, rfl, kp u2, ?_⟩
  have v2' := u1.then u2
  have hbw := hb.2
  have y2 := u2.size
  refine bre' (fun hne => k1 _ _ v2' (by unfold arpE; rw [if_pos hne]) hne) (fun he => ?_)
  have hE : arpE op sm v1 a1 v2 a2 = (open Classical in if ¬ v4 v1 a1 ∨ ¬ v4 v2 a2 then 20 else 0) := by unfold arpE; rw [if_neg (by simp [he])]
  rw [hE] at k k1
  obtain ⟨hop, hsend⟩ := arpC_ok he
  have same4 : ∀ {v : Int} {a f : Nat → Int}, (∀ i, f i = if i < 4 then bt (arrL 4 a) (i : Nat) else 0) → ((v == 4 && eqArr 16 a f) = true ↔ v4 v a) := by
    intro v a f hf
    rw [Bool.and_eq_true, eqArr_iff]
    have hf' : ∀ i, i < 4 → f i = a i := fun i hi => by
      rw [hf i, if_pos hi, arrL_bt (by omega) (by omega)]; simp
    constructor
    · rintro ⟨h1, h2⟩
      refine ⟨by simpa using h1, fun i h4 h16 => ?_⟩
      rw [h2 i h16, hf i, if_neg (by omega)]
    · rintro ⟨h1, h2⟩
      refine ⟨by simpa using h1, fun i hi => ?_⟩
      by_cases h4 : i < 4
      · rw [hf' i h4]
      · rw [h2 i (by omega) hi, hf i, if_neg h4]
  refine ⟨fun n w3 => Upd [] [] w2 w3 ∧ (n = 0 ∨ (n = 1 ∧ v4 v1 a1) ∨ (n = 2 ∧ v4 v1 a1 ∧ v4 v2 a2)), fun n _ => (2 - n).toNat, ⟨Upd.refl _, .inl rfl⟩, ?_⟩
  rintro n w3 ⟨u3, hn⟩
  refine brd (fun hlt => ?_) (fun hge => ?_)
  · refine needIx2 (by omega) (by omega) ?_
    have each : ∀ (v : Int) (a : Nat → Int) (X : Prop), (¬ v4 v a → ∀ w4, Upd [] [] w3 w4 → R (.tuple [.slice nilS, .int .i64 20]) w4) → (v4 v a → ∀ w4, Upd [] [] w3 w4 → X) → True := fun _ _ _ _ _ => trivial
    have bad : ¬ v4 v1 a1 ∨ ¬ v4 v2 a2 → ∀ w4, Upd [] [] w3 w4 → R (.tuple [.slice nilS, .int .i64 20]) w4 := fun h w4 u4 => k1 20 w4 ((v2'.then u3).then u4) (by rw [if_pos h]) (by decide)
    refine ⟨fun h0 b4 w4 u4 hr4 => ?_, fun h1 b4 w4 u4 hr4 => ?_, trivial⟩
    · have hc : ∀ i, i < 16 → w4.cell? ((⟨b4, 0, none⟩ : Addr).add (1 + i)) = some (.int .u8 (a1 i)) := fun i hi => by
        rw [add_none, cell_of_block hr4]
        simp [SV.cells, SV.cellsL, hi, Nat.add_comm 1 i]
      have hin := rowMid (o := 1) (n := 16) (cap := 16) hr4 [.int .i64 v1] [] (arrL 16 a1) (by simp [SV.cells, SV.cellsL, ← arrL_cells]) rfl (arrL_len _ _).symm
      have h4 := hin.subB (lo := 0) (hi := 4) (mx := 16) (by omega) (by rw [arrL_len]; omega) (by omega)
      rw [arp_take] at h4
      refine ⟨v1, by rw [cell_of_block hr4]; simp [SV.cells, SV.cellsL], a1, hc, Upd.refl _, fun w5 u5 => ?_⟩
      refine c43 (h4.old u5) (by rw [arrL_len]; omega) fun f w6 hf u6 => ⟨_, _, rfl, kp u6, u5.then u6, ?_⟩
      have v6 := (u4.then u5).then u6
      refine brn (fun hx => bad (.inl (fun h => ?_)) _ v6) (fun hx => ?_)
      · rw [← same4 hf] at h
        rw [hx] at h; cases h
      · have := (same4 hf).1 hx
        have h00 : n = 0 := by omega
        subst h00
        repeat refine And.intro rfl ?_
        exact ⟨⟨u3.then v6, .inr (.inl ⟨by rw [wr_i64 (by omega) (by omega)]; omega, this⟩)⟩, by rw [wr_i64 (by omega) (by omega)]; (try dsimp only); omega⟩
    · have hc : ∀ i, i < 16 → w4.cell? ((⟨b4, 0, none⟩ : Addr).add (1 + i)) = some (.int .u8 (a2 i)) := fun i hi => by
        rw [add_none, cell_of_block hr4]
        simp [SV.cells, SV.cellsL, hi, Nat.add_comm 1 i]
      have hin := rowMid (o := 1) (n := 16) (cap := 16) hr4 [.int .i64 v2] [] (arrL 16 a2) (by simp [SV.cells, SV.cellsL, ← arrL_cells]) rfl (arrL_len _ _).symm
      have h4 := hin.subB (lo := 0) (hi := 4) (mx := 16) (by omega) (by rw [arrL_len]; omega) (by omega)
      rw [arp_take] at h4
      refine ⟨v2, by rw [cell_of_block hr4]; simp [SV.cells, SV.cellsL], a2, hc, Upd.refl _, fun w5 u5 => ?_⟩
      refine c43 (h4.old u5) (by rw [arrL_len]; omega) fun f w6 hf u6 => ⟨_, _, rfl, kp u6, u5.then u6, ?_⟩
      have v6 := (u4.then u5).then u6
      refine brn (fun hx => bad (.inr (fun h => ?_)) _ v6) (fun hx => ?_)
      · rw [← same4 hf] at h
        rw [hx] at h; cases h
      · have := (same4 hf).1 hx
        have h00 : n = 1 := by omega
        subst h00
        repeat refine And.intro rfl ?_
        exact ⟨⟨u3.then v6, .inr (.inr ⟨by rw [wr_i64 (by omega) (by omega)]; omega, by rcases hn with h | ⟨_, h⟩ | ⟨h, _⟩ <;> first | exact h | omega, this⟩)⟩, by rw [wr_i64 (by omega) (by omega)]; (try dsimp only); omega⟩
  · have hv : v4 v1 a1 ∧ v4 v2 a2 := by
      rcases hn with h | ⟨h, _⟩ | ⟨_, h⟩
      · omega
      · omega
      · exact h
    rw [if_neg (show ¬ (¬ v4 v1 a1 ∨ ¬ v4 v2 a2) from fun h => h.elim (fun h => h hv.1) (fun h => h hv.2))] at k
    simp only [if_true] at k
    intro b4 w4 u4 hr4
    have hb4 := u4.new (b := b4) (by simp)
    have y3 := u3.size
    refine mark_row (N := w3.heap.size) hr4 (by simp; omega) hb4.1 [0, 1, 8, 0, 6, 4] rfl rfl fun w5 u5 hs5 ho5 => ?_
    have y4 := u4.size
    have y5 := u5.size
    have v5 := (u3.then u4).step0 u5 (by simp; omega)
    refine c44 hs5 ho5 (by omega) (by simp) fun s w6 u6 hs6 ho6 hn6 => ⟨_, rfl, ?_, ?_⟩
    · exact kpm u6 (by simp; omega) (fun x hx hm => by have := ho5.blk x hm; simp at hx; omega)
    have v6 := v5.step0 u6 (fun x hx => by have := (ho5.blk x hx).1; omega)
    intro hrow
    have y6 := u6.size
    have hcells : SV.cells (arpSV op sm v1 a1 tm v2 a2) = [.int .i64 op] ++ cU8.cells (arrL 6 sm) ++ [.int .i64 v1] ++ cU8.cells (arrL 16 a1) ++ cU8.cells (arrL 6 tm) ++ [.int .i64 v2] ++ cU8.cells (arrL 16 a2) := by
      simp [SV.cells, SV.cellsL, ← arrL_cells]
    have lc : ∀ (n : Nat) (f : Nat → Int), (cU8.cells (arrL n f)).length = n := fun n f => by rw [Cod.cells_length, arrL_len]; exact Nat.mul_one _
    have r1 := rowMid (o := 1) (n := 6) (cap := 6) hrow [.int .i64 op] ([.int .i64 v1] ++ cU8.cells (arrL 16 a1) ++ cU8.cells (arrL 6 tm) ++ [.int .i64 v2] ++ cU8.cells (arrL 16 a2)) (arrL 6 sm) (by rw [hcells]; simp only [List.append_assoc]) rfl (arrL_len _ _).symm
    have r2 := rowMid (o := 8) (n := 16) (cap := 16) hrow ([.int .i64 op] ++ cU8.cells (arrL 6 sm) ++ [.int .i64 v1]) (cU8.cells (arrL 6 tm) ++ [.int .i64 v2] ++ cU8.cells (arrL 16 a2)) (arrL 16 a1) (by rw [hcells]; simp only [List.append_assoc]) (by simp only [List.length_append, lc, List.length_cons, List.length_nil]) (arrL_len _ _).symm
    have r3 := rowMid (o := 24) (n := 6) (cap := 6) hrow ([.int .i64 op] ++ cU8.cells (arrL 6 sm) ++ [.int .i64 v1] ++ cU8.cells (arrL 16 a1)) ([.int .i64 v2] ++ cU8.cells (arrL 16 a2)) (arrL 6 tm) (by rw [hcells]; simp only [List.append_assoc]) (by simp only [List.length_append, lc, List.length_cons, List.length_nil]) (arrL_len _ _).symm
    have r4 := rowMid (o := 31) (n := 16) (cap := 16) hrow ([.int .i64 op] ++ cU8.cells (arrL 6 sm) ++ [.int .i64 v1] ++ cU8.cells (arrL 16 a1) ++ cU8.cells (arrL 6 tm) ++ [.int .i64 v2]) [] (arrL 16 a2) (by rw [hcells]; simp only [List.append_assoc, List.append_nil]) (by simp only [List.length_append, lc, List.length_cons, List.length_nil]) (arrL_len _ _).symm
    have r1' := r1.subB (lo := 0) (hi := 6) (mx := 6) (by omega) (by rw [arrL_len]; omega) (by omega)
    have r2' := r2.subB (lo := 0) (hi := 4) (mx := 16) (by omega) (by rw [arrL_len]; omega) (by omega)
    have r3' := r3.subB (lo := 0) (hi := 6) (mx := 6) (by omega) (by rw [arrL_len]; omega) (by omega)
    have r4' := r4.subB (lo := 0) (hi := 4) (mx := 16) (by omega) (by rw [arrL_len]; omega) (by omega)
    rw [arr_take] at r1' r3'
    rw [arp_take] at r2' r4'
    have bk : ∀ {w' : World} {s' : Sl}, Own w3.heap.size 1 w' s' → ∀ x ∈ Sl.blk s', w3.heap.size ≤ x := fun o x hx => (o.blk x hx).1
    have step : ∀ {w7 w8 : World} {s' : Sl}, Upd [] [] w6 w7 → Own w6.heap.size 1 w7 s' → Upd s'.blk [] w7 w8 → Upd [] [] w6 w8 := fun u o u' => u.step0 u' (fun x hx => (o.blk x hx).1)
    -- the first append has its array in w6 itself
    have keep : ∀ {w7 w8 : World} {s' : Sl} {m : List Nat}, Own w3.heap.size 1 w7 s' → b < w3.heap.size → b ∉ s'.blk := fun o hb' hm => by have := (o.blk b hm).1; omega
    have hb3 : b < w3.heap.size := by omega
    have old : ∀ {t : Sl} {L : List Int} {w7 w8 : World} {s' : Sl}, SeesB w7 t L → (∀ x ∈ t.blk, x = b) → Own w3.heap.size 1 w7 s' → Upd s'.blk [] w7 w8 → SeesB w8 t L := fun h hx o u => h.upd u (fun x hx' hm => by have := hx x hx'; subst this; have := (o.blk x hm).1; omega)
    have q2 : ∀ x ∈ (Sl.sub ⟨some ⟨b, 8, none⟩, 16, 16⟩ 1 0 4 16).blk, x = b := by intro x hx; simpa [Sl.blk, Sl.sub] using hx
    have q3 : ∀ x ∈ (Sl.sub ⟨some ⟨b, 24, none⟩, 6, 6⟩ 1 0 6 6).blk, x = b := by intro x hx; simpa [Sl.blk, Sl.sub] using hx
    have q4 : ∀ x ∈ (Sl.sub ⟨some ⟨b, 31, none⟩, 16, 16⟩ 1 0 4 16).blk, x = b := by intro x hx; simpa [Sl.blk, Sl.sub] using hx
    refine ⟨⟨?_, ?_⟩, ?_⟩
    all_goals
      intro w7 u7
      have o7 := ho6.old u7
      have v7 := v6.then u7
      refine append_own (c := cU8) (hs6.old u7) o7 (show SeesB w7 _ (arrL 6 sm) from r1'.old u7) (by have := u7.size; omega) (by simp) (by decide) (by simp [arrL_len, two]) fun x8 w8 h8 o8 u8 _ => ?_
      have v8 := v7.step0 u8 (fun x hx => bk o7 x hx |> fun h => Nat.le_trans u3.size h)
      have R2 := old (r2'.old u7) q2 o7 u8
      have R3 := old (r3'.old u7) q3 o7 u8
      have R4 := old (r4'.old u7) q4 o7 u8
      refine append_own (c := cU8) h8 o8 (show SeesB w8 _ (arrL 4 a1) from R2) (by have := u7.size; have := u8.size; omega) (by simp) (by decide) (by simp [arrL_len, two]) fun x9 w9 h9 o9 u9 _ => ?_
      have v9 := v8.step0 u9 (fun x hx => bk o8 x hx |> fun h => Nat.le_trans u3.size h)
      have R3 := old R3 q3 o8 u9
      have R4 := old R4 q4 o8 u9
      refine ⟨⟨?_, ?_⟩, ?_⟩
      all_goals
        intro w10 u10
        have o10 := o9.old u10
        have v10 := v9.then u10
        have sz : w3.heap.size ≤ w10.heap.size := by have := u7.size; have := u8.size; have := u9.size; have := u10.size; omega
        refine append_own (c := cU8) (h9.old u10) o10 (show SeesB w10 _ (arrL 6 tm) from R3.old u10) sz (by simp) (by decide) (by simp [arrL_len, two]) fun x11 w11 h11 o11 u11 _ => ?_
        have v11 := v10.step0 u11 (fun x hx => bk o10 x hx |> fun h => Nat.le_trans u3.size h)
        have R4 := old (R4.old u10) q4 o10 u11
        refine append_own (c := cU8) h11 o11 (show SeesB w11 _ (arrL 4 a2) from R4) (Nat.le_trans sz u11.size) (by simp) (by decide) (by simp [arrL_len, two]) fun x12 w12 h12 o12 u12 _ => ?_
        have v12 := v11.step0 u12 (fun x hx => bk o11 x hx |> fun h => Nat.le_trans u3.size h)
        exact k _ _ (v2'.then v12) h12 (o12.mono (by have := v2'.size; omega))
end
end Go.Vc.S5
end

section
open Go Go.Vc Go.Proofs
set_option linter.unusedVariables false
set_option linter.unusedSimpArgs false
set_option autoImplicit false
namespace Go.Vc.S5

section
variable {op v1 v2 : Int} {sm a1 tm a2 : Nat → Int} {w : World} {R : SV → World → Prop}
set_option maxRecDepth 10000 in
theorem c24 (hm : 0 ≤ sm 0 ∧ sm 0 < 256)
    (k : ∀ s w1, Upd [] [] w w1 → SeesB w1 s (if arpE op sm v1 a1 v2 a2 = 0 then arpB op sm a1 tm a2 else []) → Own w.heap.size 1 w1 s → R (.tuple [.slice s, .int .i64 (arpE op sm v1 a1 v2 a2)]) w1) :
    Ret Try.prog 24 [arpSV op sm v1 a1 tm v2 a2] w R := by
  refine f24_of _ _ _ _ _ _ _ _ _ ?_
  unfold vc24
  intro b J hJ
  have k1 : ∀ e w2, Upd [] [] w w2 → arpE op sm v1 a1 v2 a2 = e → e ≠ 0 → R (.tuple [.slice nilS, .int .i64 e]) w2 := fun e w2 u he hne => by
    have := k nilS w2 u (by rw [he, if_neg hne]; exact Sees.nil _ _ _ _) (Own.none _ _ _)
    rwa [he] at this
  have main : (op = 1 ∨ op = 2) → ∀ w1, Upd [] [b] w w1 → J w1 := by
    intro ho w1 u1
    have hb := u1.new (b := b) (by simp)
    refine hJ _ ?_
    refine c47 hm fun w2 u2 => ⟨_, rfl, kp u2, ?_⟩
    have v2' := u1.then u2
    have y2 := u2.size
    rw [Bool.not_not]
    refine brb (fun hg => k1 58 _ v2' ?_ (by decide)) (fun hg => ?_)
    · have hC : arpC op sm = 58 := by
        unfold arpC
        rw [if_neg (by omega), if_pos (by simpa using hg)]
      unfold arpE; rw [hC, if_pos (by decide)]
    have hC : arpC op sm = 0 := by
      unfold arpC
      rw [if_neg (by omega), if_neg]
      intro h
      rcases h with h | h <;> simp [h] at hg
    have hE : arpE op sm v1 a1 v2 a2 = (open Classical in if ¬ v4 v1 a1 ∨ ¬ v4 v2 a2 then 20 else 0) := by unfold arpE; rw [if_neg (by simp [hC])]
    rw [hE] at k k1
    intro J2 hJ2
    refine bre' (fun h1 => k1 20 _ v2' (by rw [if_pos (.inl fun h => h1 h.1)]) (by decide)) (fun h1 => ?_)
    refine bre' (fun h2 => k1 20 _ v2' (by rw [if_pos (.inr fun h => h2 h.1)]) (by decide)) (fun h2 => ?_)
    subst h1 h2
    refine c48 (fun ht1 w3 u3 => ⟨_, rfl, kp u3, brf rfl ?_⟩) (fun ht1 w3 u3 => ⟨_, rfl, kp u3, brt rfl (k1 20 _ (v2'.then u3) (by rw [if_pos (.inl fun h => ht1 h.2)]) (by decide))⟩)
    refine c48 (fun ht2 w4 u4 => ⟨_, rfl, kp u4, brf rfl ?_⟩) (fun ht2 w4 u4 => ⟨_, rfl, kp u4, brt rfl (k1 20 _ ((v2'.then u3).then u4) (by rw [if_pos (.inr fun h => ht2 h.2)]) (by decide))⟩)
    repeat refine And.intro rfl ?_
    refine hJ2 _ ?_
    rw [if_neg (show ¬ (¬ v4 4 a1 ∨ ¬ v4 4 a2) from fun h => h.elim (fun h => h ⟨rfl, ht1⟩) (fun h => h ⟨rfl, ht2⟩))] at k
    simp only [if_true] at k
    have v4' := (v2'.then u3).then u4
    have y3 := u3.size
    have y4 := u4.size
    intro b2 w5 u5 hr5
    have hb2 := u5.new (b := b2) (by simp)
    have s5 := rowB (n := 8) (cap := 8) hr5 ([0, 1, 8, 0, 6, 4] ++ two op) (by
      rw [wr_u8, show two op = [0, op % 256] by unfold two; congr 1; omega]; rfl) rfl
    have o5 := own_row (N := w4.heap.size) (n := 8) (cap := 8) (sz := 1) hr5 hb2.1 rfl (Nat.le_refl _)
    have hbs : ∀ x ∈ [b], x < w4.heap.size := by simp; omega
    refine app_loop (w0 := w4) (m := 6) (f := sm) rfl u5.forget s5 o5 (by simp [two]) (fun t ht => by simp [SV.cells, SV.cellsL]) hbs (fun I M s n w r w' h1 h2 => ⟨rfl, h1, h2⟩) fun s w6 u6 hs6 ho6 => ?_
    intro b3 w7 u7 hr7
    have y7 := u7.size
    have v7 := u6.then u7
    have kb : ∀ {s' : Sl} {w' : World}, Own w4.heap.size 1 w' s' → ∀ x ∈ s'.blk, x ∉ [b] := fun o x hx hm => by have := (o.blk x hx).1; simp at hm; omega
    refine append_own (c := cU8) (hs6.old u7) (ho6.old u7) (rowB hr7 (arrL 4 a1) (by simp [SV.cells, SV.cellsL, arrL, List.range, List.range.loop, Cod.cells, cU8]) (by rw [arrL_len])) v7.size (kb (ho6.old u7)) (by decide) (by simp [arrL_len, two]) fun r w8 hr8 ho8 u8 _ => ?_
    have v8 := v7.step0 u8 (fun x hx => ((ho6.old u7).blk x hx).1)
    refine app_loop (w0 := w4) (m := 6) (f := tm) rfl v8 hr8 ho8 (by simp [arrL_len, two]) (fun t ht => by simp [SV.cells, SV.cellsL]) hbs (fun I M s n w r w' h1 h2 => ⟨rfl, h1, h2⟩) fun s9 w9 u9 hs9 ho9 => ?_
    intro b4 w10 u10 hr10
    have v10 := u9.then u10
    refine append_own (c := cU8) (hs9.old u10) (ho9.old u10) (rowB hr10 (arrL 4 a2) (by simp [SV.cells, SV.cellsL, arrL, List.range, List.range.loop, Cod.cells, cU8]) (by rw [arrL_len])) v10.size (kb (ho9.old u10)) (by decide) (by simp [arrL_len, two]) fun r w11 hr11 ho11 u11 _ => ?_
    exact k _ _ (v4'.then (v10.step0 u11 (fun x hx => ((ho9.old u10).blk x hx).1))) hr11 (ho11.mono v4'.size)
  have e57 : op ≠ 1 → op ≠ 2 → ∀ w1, Upd [] [b] w w1 → R (.tuple [.slice nilS, .int .i64 57]) w1 := fun h1 h2 w1 u1 => k1 57 w1 u1.forget (by
    have hC : arpC op sm = 57 := by unfold arpC; rw [if_pos ⟨h1, h2⟩]
    unfold arpE; rw [hC, if_pos (by decide)]) (by decide)
  refine bre' (fun h1 => bre' (fun h2 w1 u1 => e57 h1 h2 w1 u1) (fun h2 w1 u1 => ?_)) (fun h1 w1 u1 => ?_)
  · repeat refine And.intro rfl ?_
    exact main (.inr h2) w1 u1
  · repeat refine And.intro rfl ?_
    exact main (.inl h1) w1 u1
end

/-- what ParseArp answers -/
def qe (l : List Int) : Int := if 65535 < l.length then 2 else if l.length < 28 then 55 else if l.take 6 ≠ [0, 1, 8, 0, 6, 4] then 56 else arpC (w16 l 6) (fun i => bt l ((8 + i : Nat) : Int))
def ok0 (l : List Int) (v : Int) : Int := if qe l = 0 then v else 0
def qop (l : List Int) : Int := ok0 l (w16 l 6)
def qsm (l : List Int) (i : Nat) : Int := ok0 l (bt l ((8 + i : Nat) : Int))
def qv (l : List Int) : Int := ok0 l 4
def qa1 (l : List Int) (i : Nat) : Int := ok0 l (if i < 4 then bt l ((14 + i : Nat) : Int) else 0)
def qtm (l : List Int) (i : Nat) : Int := ok0 l (bt l ((18 + i : Nat) : Int))
def qa2 (l : List Int) (i : Nat) : Int := ok0 l (if i < 4 then bt l ((24 + i : Nat) : Int) else 0)

theorem str_eq {w : World} {s : Sl} {l : List Int} {F : ByteArray → Prop} (h : SeesB w s l) (hb : Byt l) (hlen : 0 < l.length) (k : F ⟨(l.map fun x => UInt8.ofNat x.toNat).toArray⟩) : BytesStr w s F := by
  refine ⟨l.map fun x => UInt8.ofNat x.toNat, by rw [List.length_map, h.len], fun hn => ?_, fun i hi => ?_, k⟩
  · have := h.isSome (by decide) hlen
    rw [hn] at this; cases this
  · rw [List.length_map] at hi
    rw [byteC h i hi, bt_nat hi, List.getElem_map]
    have := hb l[i] (List.getElem_mem hi)
    congr 2
    rw [UInt8.toNat_ofNat', Nat.mod_eq_of_lt (by omega)]
    omega
theorem str_six {l : List Int} (hb : Byt l) : ((⟨(l.map fun x => UInt8.ofNat x.toNat).toArray⟩ : ByteArray) == ⟨#[0, 1, 8, 0, 6, 4]⟩) = decide (l = [0, 1, 8, 0, 6, 4]) := by
  by_cases h : l = [0, 1, 8, 0, 6, 4]
  · subst h; rfl
  · have eb : ∀ a b : ByteArray, (a == b) = (a.data == b.data) := fun a b => by cases a; cases b; rfl
    rw [decide_eq_false h, eb, beq_eq_false_iff_ne]
    intro e
    apply h
    have e := congrArg Array.toList e
    simp only [List.toList_toArray] at e
    have e2 : (l.map fun x => UInt8.ofNat x.toNat).map (fun u => ((u.toNat : Nat) : Int)) = l := by
      rw [List.map_map]
      refine (List.map_congr_left fun x hx => ?_).trans (List.map_id l)
      have := hb x hx
      simp only [Function.comp, UInt8.toNat_ofNat', id]
      rw [Nat.mod_eq_of_lt (by omega)]
      omega
    rw [← e2, e]
    rfl
end Go.Vc.S5
end

section
open Go Go.Vc Go.Proofs
set_option linter.unusedVariables false
set_option linter.unusedSimpArgs false
set_option autoImplicit false
namespace Go.Vc.S5

abbrev arpZ : SV := arpSV 0 (fun _ => 0) 0 (fun _ => 0) (fun _ => 0) 0 (fun _ => 0)
theorem arpC_congr {op : Int} {m m' : Nat → Int} (h : ∀ i, i < 6 → m i = m' i) : arpC op m = arpC op m' := by
  have e1 : grp m = grp m' := by unfold grp; rw [h 0 (by omega)]
  have e2 : eqArr 6 m z6 = eqArr 6 m' z6 := by
    rw [Bool.eq_iff_iff, eqArr_iff, eqArr_iff]
    exact ⟨fun hh i hi => by rw [← h i hi]; exact hh i hi, fun hh i hi => by rw [h i hi]; exact hh i hi⟩
  unfold arpC
  rw [e1, e2]

section
variable {b : Sl} {l : List Int} {w : World} {R : SV → World → Prop}
theorem arr_at (h : SeesB w b l) {lo hi n : Nat} (h1 : lo + n = hi) (h2 : hi ≤ l.length) (hc : b.len ≤ b.cap) : ∀ i, i < n → w.cell? (((b.sub 1 lo hi b.cap).at 0 0).add (0 + i)) = some (.int .u8 (bt l ((lo + i : Nat) : Int))) := by
  intro i hin
  have hlen := h.len
  rw [at_add]
  have h3 := h.subB (lo := lo) (hi := hi) (mx := b.cap) (by omega) h2 (by omega)
  rw [byteC h3 i (by simp; omega)]
  have : ((lo : Int) + (i : Int)).toNat = lo + i := by omega
  simp [bt, List.getElem?_drop, List.getElem?_take, show lo + i < hi by omega, this]
theorem sub_some (h : SeesB w b l) {lo hi m : Nat} (h2 : 0 < l.length) : ((b.sub 1 lo hi m).ptr).isSome = true := by
  have := h.isSome (by decide) h2
  simp only [Sl.sub]
  split <;> simp [this]

set_option maxRecDepth 10000 in
theorem c22 (h : SeesB w b l) (hb : Byt l) (hc : b.len ≤ b.cap) (hl : l.length ≤ 140737488355328)
    (k : ∀ op f v1 a1 g v2 a2 w1, op = qop l → (∀ i, i < 6 → f i = qsm l i) → v1 = qv l → (∀ i, i < 16 → a1 i = qa1 l i) → (∀ i, i < 6 → g i = qtm l i) → v2 = qv l → (∀ i, i < 16 → a2 i = qa2 l i) → Upd [] [] w w1 →
      R (.tuple [arpSV op f v1 a1 g v2 a2, .int .i64 (qe l)]) w1) : Ret Try.prog 22 [.slice b] w R := by
  refine f22_of _ _ _ ?_
  unfold vc22
  have hlen := h.len
  rw [hlen]
  intro b1
  have ke : ∀ e w1, qe l = e → e ≠ 0 → Upd [] [] w w1 → R (.tuple [arpZ, .int .i64 e]) w1 := fun e w1 he hne u => by
    have := k 0 (fun _ => 0) 0 (fun _ => 0) (fun _ => 0) 0 (fun _ => 0) w1 (by simp [qop, ok0, he, hne]) (by simp [qsm, ok0, he, hne]) (by simp [qv, ok0, he, hne]) (by simp [qa1, ok0, he, hne]) (by simp [qtm, ok0, he, hne]) (by simp [qv, ok0, he, hne]) (by simp [qa2, ok0, he, hne]) u
    rwa [he] at this
  have hq : qe l = if 65535 < l.length then 2 else if l.length < 28 then 55 else if l.take 6 ≠ [0, 1, 8, 0, 6, 4] then 56 else arpC (w16 l 6) (fun i => bt l ((8 + i : Nat) : Int)) := rfl
  refine brd (fun hg w1 u => ke 2 w1 (by rw [hq, if_pos (by omega)]) (by decide) u.forget) (fun hg => ?_)
  rw [if_neg (by omega)] at hq
  refine brd (fun hg w1 u => ke 55 w1 (by rw [hq, if_pos (by omega)]) (by decide) u.forget) (fun hg2 => ?_)
  rw [if_neg (by omega)] at hq
  have h6 := h.subB (lo := 0) (hi := 6) (mx := b.cap) (by omega) (by omega) (by omega)
  rw [List.drop_zero] at h6
  refine needD (by omega) (str_eq h6 (hb.take 6) (by simp; omega) ?_)
  rw [str_six (hb.take 6)]
  refine brn (fun hd w1 u => ke 56 w1 (by rw [hq, if_pos (by simpa using hd)]) (by decide) u.forget) (fun hd w1 u1 => ?_)
  rw [if_neg (by simpa using hd)] at hq
  have hb1 := u1.new (b := b1) (by simp)
  have fr1 : ∀ x ∈ [b1], w.heap.size ≤ x := by simp; omega
  refine c45 (p := 6) (h.old u1) hb (by omega) (by omega) fun w2 u2 => ⟨_, _, rfl, kp u2, ?_⟩
  have v2 := u1.then u2
  have h2 := h.old v2
  have hop := w16_r hb ((6 : Nat) : Int)
  rw [wr_i64 (x := w16 l ((6 : Nat) : Int)) (by omega) (by omega)]
  refine need (by simp; omega) (need (by rw [sub_some h (by omega)]; simp [Sl.sub]) ⟨fun i => bt l ((8 + i : Nat) : Int), arr_at h2 (by omega) (by omega) hc, need (by simp; omega) (need (by simp; omega) (need (by rw [sub_some h (by omega)]; simp [Sl.sub]) ⟨fun i => bt l ((18 + i : Nat) : Int), arr_at h2 (by omega) (by omega) hc, need (by simp; omega) ?_⟩))⟩)
  have hs1 : ∀ w', Upd [] [] w2 w' → SeesB w' (b.sub 1 14 18 b.cap) ((l.take 18).drop 14) := fun w' u => (h2.old u).subB (by omega) (by omega) (by omega)
  have hs2 : ∀ w', Upd [] [] w2 w' → SeesB w' (b.sub 1 24 28 b.cap) ((l.take 28).drop 24) := fun w' u => (h2.old u).subB (by omega) (by omega) (by omega)
  have e1 : ∀ i : Nat, i < 4 → bt ((l.take 18).drop 14) (i : Nat) = bt l ((14 + i : Nat) : Int) := fun i hi => by
    have : ((14 : Int) + (i : Int)).toNat = 14 + i := by omega
    simp [bt, List.getElem?_drop, List.getElem?_take, show 14 + i < 18 by omega, this]
  have e2 : ∀ i : Nat, i < 4 → bt ((l.take 28).drop 24) (i : Nat) = bt l ((24 + i : Nat) : Int) := fun i hi => by
    have : ((24 : Int) + (i : Int)).toNat = 24 + i := by omega
    simp [bt, List.getElem?_drop, List.getElem?_take, show 24 + i < 28 by omega, this]
  have l1 : 4 ≤ ((l.take 18).drop 14).length := by simp; omega
  have l2 : 4 ≤ ((l.take 28).drop 24).length := by simp; omega
  have fin : ∀ (bs : List Nat) (w5 : World) (f2 f3 : Nat → Int), Upd [] [] w2 w5 → (∀ i, f2 i = if i < 4 then bt ((l.take 18).drop 14) (i : Nat) else 0) → (∀ i, f3 i = if i < 4 then bt ((l.take 28).drop 24) (i : Nat) else 0) →
      Ret Try.prog 42 [.int .i64 (w16 l ((6 : Nat) : Int)), .arr .u8 6 fun i => bt l ((8 + i : Nat) : Int)] w5 fun r w6 => ∃ n4 : Int, r = .int .i64 n4 ∧ Keeps bs w5 w6 ∧
        Br (n4 != 0) (∀ w7, Upd [b1] [] w6 w7 → R (.tuple [arpZ, .int .i64 n4]) w7)
          (∀ w7, Upd [b1] [] w6 w7 → R (.tuple [arpSV (w16 l ((6 : Nat) : Int)) (fun i => bt l ((8 + i : Nat) : Int)) 4 f2 (fun i => bt l ((18 + i : Nat) : Int)) 4 f3, .int .i64 0]) w7) := by
    intro bs w5 f2 f3 u5 hf2 hf3
    refine c42 (hb.bt _) fun w6 u6 => ⟨_, rfl, kp u6, ?_⟩
    have v6 := (v2.then u5).then u6
    refine bre' (fun hne w7 u7 => ke _ w7 (by rw [hq]; rfl) hne (v6.step0 u7 fr1)) (fun he w7 u7 => ?_)
    have hq0 : qe l = 0 := by rw [hq]; exact he
    have := k (w16 l ((6 : Nat) : Int)) (fun i => bt l ((8 + i : Nat) : Int)) 4 f2 (fun i => bt l ((18 + i : Nat) : Int)) 4 f3 w7 (by simp [qop, ok0, hq0]) (by simp [qsm, ok0, hq0]) (by simp [qv, ok0, hq0])
      (fun i hi => by
        rw [hf2 i]; unfold qa1 ok0; rw [if_pos hq0]
        split
        · rename_i h4; exact e1 i h4
        · rfl) (by simp [qtm, ok0, hq0]) (by simp [qv, ok0, hq0])
      (fun i hi => by
        rw [hf3 i]; unfold qa2 ok0; rw [if_pos hq0]
        split
        · rename_i h4; exact e2 i h4
        · rfl) (v6.step0 u7 fr1)
    rwa [hq0] at this
  refine ⟨fun w3 u3 => ?_, fun b3 => ⟨Upd.refl _, fun w3 u3 => ?_⟩⟩
  · refine c43 (hs1 _ u3) l1 fun f2 w4 hf2 u4 => ⟨_, _, rfl, kp u4, u3.then u4, ?_, fun b3 => ⟨u3.then u4, fun w5 u5 => ?_⟩⟩
    · refine c43 (hs2 _ (u3.then u4)) l2 fun f3 w5 hf3 u5 => ⟨_, _, rfl, kp u5, (u3.then u4).then u5, fun b3 => ⟨(u3.then u4).then u5, fun w6 u6 => ?_⟩⟩
      exact fin _ _ _ _ (((u3.then u4).then u5).then u6) hf2 hf3
    · have hb3 := u5.new (b := b3) (by simp)
      refine c43 (hs2 _ ((u3.then u4).then u5)) l2 fun f3 w6 hf3 u6 => ⟨_, _, rfl, kp u6, ((u3.then u4).then u5).then u6, fun w7 u7 => ?_⟩
      exact fin _ _ _ _ ((((u3.then u4).then u5).then u6).step0 u7 (by have := u3.size; have := u4.size; simp; omega)) hf2 hf3
  · have hb3 := u3.new (b := b3) (by simp)
    refine c43 (hs1 _ u3.forget) l1 fun f2 w4 hf2 u4 => ⟨_, _, rfl, kp u4, u3.then u4, ?_⟩
    refine c43 (hs2 _ (u3.then u4)) l2 fun f3 w5 hf3 u5 => ⟨_, _, rfl, kp u5, (u3.then u4).then u5, fun w6 u6 => ?_⟩
    exact fin _ _ _ _ (((u3.then u4).then u5).step0 u6 (by simp; omega)) hf2 hf3

set_option maxRecDepth 10000 in
theorem c23 (h : SeesB w b l) (hb : Byt l) (hc : b.len ≤ b.cap) (hl : l.length ≤ 140737488355328)
    (k : ∀ op f v1 a1 g v2 a2 w1, op = qop l → (∀ i, i < 6 → f i = qsm l i) → v1 = qv l → (∀ i, i < 16 → a1 i = qa1 l i) → (∀ i, i < 6 → g i = qtm l i) → v2 = qv l → (∀ i, i < 16 → a2 i = qa2 l i) → Upd [] [] w w1 →
      R (.tuple [arpSV op f v1 a1 g v2 a2, .int .i64 (qe l)]) w1) : Ret Try.prog 23 [.slice b] w R := by
  refine f23_of _ _ _ ?_
  unfold vc23
  have hlen := h.len
  rw [hlen]
  intro b1 b2
  have ke : ∀ e w1, qe l = e → e ≠ 0 → Upd [] [] w w1 → R (.tuple [arpZ, .int .i64 e]) w1 := fun e w1 he hne u => by
    have := k 0 (fun _ => 0) 0 (fun _ => 0) (fun _ => 0) 0 (fun _ => 0) w1 (by simp [qop, ok0, he, hne]) (by simp [qsm, ok0, he, hne]) (by simp [qv, ok0, he, hne]) (by simp [qa1, ok0, he, hne]) (by simp [qtm, ok0, he, hne]) (by simp [qv, ok0, he, hne]) (by simp [qa2, ok0, he, hne]) u
    rwa [he] at this
  have hq : qe l = if 65535 < l.length then 2 else if l.length < 28 then 55 else if l.take 6 ≠ [0, 1, 8, 0, 6, 4] then 56 else arpC (w16 l 6) (fun i => bt l ((8 + i : Nat) : Int)) := rfl
  refine brd (fun hg w1 u => ke 2 w1 (by rw [hq, if_pos (by omega)]) (by decide) u.forget) (fun hg => ?_)
  rw [if_neg (by omega)] at hq
  refine brd (fun hg w1 u => ke 55 w1 (by rw [hq, if_pos (by omega)]) (by decide) u.forget) (fun hg2 => ?_)
  rw [if_neg (by omega)] at hq
  have h6 := h.subB (lo := 0) (hi := 6) (mx := b.cap) (by omega) (by omega) (by omega)
  rw [List.drop_zero] at h6
  refine needD (by omega) (str_eq h6 (hb.take 6) (by simp; omega) ?_)
  rw [str_six (hb.take 6)]
  refine brn (fun hd w1 u => ke 56 w1 (by rw [hq, if_pos (by simpa using hd)]) (by decide) u.forget) (fun hd w1 u1 => ?_)
  rw [if_neg (by simpa using hd)] at hq
  have hb1 := u1.new (b := b1) (by simp)
  have fr1 : ∀ x ∈ [b1], w.heap.size ≤ x := by simp; omega
  refine c46 (h.old u1) hb (by omega) (by omega) (by omega) fun w2 u2 => ⟨_, rfl, kp u2, ?_⟩
  have v2 := u1.then u2
  have y1 := u1.size
  have y2 := u2.size
  intro b4
  refine ⟨fun n n1 f n2 f1 g n3 f3 w3 => Upd [] [] w w3 ∧ w.heap.size ≤ b4 ∧ n1 = w16 l 6 ∧ n2 = 4 ∧ n3 = 4 ∧ (∀ i, f1 i = 0) ∧ (∀ i, f3 i = 0) ∧ ∃ t : Nat, n = t ∧ t ≤ 6 ∧ ∀ i, i < t → f i = bt l ((8 + i : Nat) : Int) ∧ g i = bt l ((18 + i : Nat) : Int),
    fun n _ _ _ _ _ _ _ _ => (6 - n).toNat, fun w3 u3 => ⟨v2.then u3, by have := u3.new (b := b4) (by simp); omega, rfl, rfl, rfl, fun _ => rfl, fun _ => rfl, 0, rfl, by omega, fun i hi => by omega⟩, ?_⟩
  rintro n n1 f n2 f1 g n3 f3 w3 ⟨u3, hb4, rfl, rfl, rfl, hz1, hz3, t, rfl, ht, hf⟩
  have fr4 : ∀ x ∈ [b4], w.heap.size ≤ x := by simp; omega
  refine brd (fun hlt => ?_) (fun hge => ?_)
  · rw [wr_i64 (x := 8 + (t : Int)) (by omega) (by omega), wr_i64 (x := 18 + (t : Int)) (by omega) (by omega)]
    refine needB' (h.old u3) (by omega) (by omega) ⟨_, (h.old u3).byte (by omega) (by omega), needIx2 (by omega) (by omega) (needB' (h.old u3) (by omega) (by omega) fun w4 u4 => ?_)⟩
    have v4 := u3.step0 u4 fr4
    refine ⟨_, (h.old v4).byte (by omega) (by omega), needIx2 (by omega) (by omega) fun w5 u5 => ?_⟩
    repeat refine And.intro rfl ?_
    refine ⟨⟨v4.step0 u5 fr4, hb4, rfl, rfl, rfl, hz1, hz3, t + 1, wr_succ (by omega), by omega, fun i hi => ?_⟩, by rw [wr_succ (by omega)]; (try dsimp only); omega⟩
    rw [Int.toNat_natCast]
    by_cases e : i = t
    · subst e
      rw [fset_eq, fset_eq]
      exact ⟨by congr 1, by congr 1⟩
    · rw [fset_ne e, fset_ne e]
      exact hf i (by omega)
  have ht6 : t = 6 := by omega
  subst ht6
  refine ⟨fun n n1 f' n2 f1 g' n3 f3 w4 => Upd [] [] w w4 ∧ n1 = w16 l 6 ∧ f' = f ∧ g' = g ∧ n2 = 4 ∧ n3 = 4 ∧ ∃ t : Nat, n = t ∧ t ≤ 4 ∧ (∀ i, i < t → f1 i = bt l ((14 + i : Nat) : Int) ∧ f3 i = bt l ((24 + i : Nat) : Int)) ∧ ∀ i, t ≤ i → f1 i = 0 ∧ f3 i = 0,
    fun n _ _ _ _ _ _ _ _ => (4 - n).toNat, ⟨u3, rfl, rfl, rfl, rfl, rfl, 0, rfl, by omega, fun i hi => by omega, fun i _ => ⟨hz1 i, hz3 i⟩⟩, ?_⟩
  rintro n n1 f' n2 f1 g' n3 f3 w4 ⟨u4, rfl, rfl, rfl, rfl, rfl, t, rfl, ht, hv, hzz⟩
  refine brd (fun hlt => ?_) (fun hge => ?_)
  · rw [wr_i64 (x := 14 + (t : Int)) (by omega) (by omega), wr_i64 (x := 24 + (t : Int)) (by omega) (by omega)]
    refine needB' (h.old u4) (by omega) (by omega) ⟨_, (h.old u4).byte (by omega) (by omega), needIx2 (by omega) (by omega) (needB' (h.old u4) (by omega) (by omega) fun w5 u5 => ?_)⟩
    have v5 := u4.step0 u5 fr4
    refine ⟨_, (h.old v5).byte (by omega) (by omega), needIx2 (by omega) (by omega) fun w6 u6 => ?_⟩
    repeat refine And.intro rfl ?_
    refine ⟨⟨v5.step0 u6 fr4, rfl, rfl, rfl, rfl, rfl, t + 1, wr_succ (by omega), by omega, fun i hi => ?_, fun i hi => ?_⟩, by rw [wr_succ (by omega)]; (try dsimp only); omega⟩
    · rw [Int.toNat_natCast]
      by_cases e : i = t
      · subst e
        rw [fset_eq, fset_eq]
        exact ⟨by congr 1, by congr 1⟩
      · rw [fset_ne e, fset_ne e]
        exact hv i (by omega)
    · rw [Int.toNat_natCast, fset_ne (by omega), fset_ne (by omega)]
      exact hzz i (by omega)
  have ht4 : t = 4 := by omega
  subst ht4
  have hC : arpC (w16 l 6) f' = arpC (w16 l 6) (fun i => bt l ((8 + i : Nat) : Int)) := arpC_congr fun i hi => (hf i hi).1
  have hf0 : 0 ≤ f' 0 ∧ f' 0 < 256 := by rw [(hf 0 (by omega)).1]; exact hb.bt _
  intro J hJ
  have main : (w16 l 6 = 1 ∨ w16 l 6 = 2) → J 0 (fun _ => 0) 0 (fun _ => 0) (fun _ => 0) 0 (fun _ => 0) w4 := by
    intro ho
    refine hJ _ _ _ _ _ _ _ _ ?_
    refine c47 hf0 fun w5 u5 => ⟨_, rfl, kp u5, ?_⟩
    rw [Bool.not_not]
    have v5 := u4.then u5
    refine brb (fun hg w6 u6 => ke 58 w6 ?_ (by decide) (v5.step0 u6 fr1)) (fun hg w6 u6 => ?_)
    · rw [hq, ← hC]
      unfold arpC
      rw [if_neg (by omega), if_pos (by simpa using hg)]
    have hq0 : qe l = 0 := by
      rw [hq, ← hC]
      unfold arpC
      rw [if_neg (by omega), if_neg]
      intro h
      rcases h with h | h <;> simp [h] at hg
    have := k (w16 l 6) f' 4 f1 g' 4 f3 w6 (by simp [qop, ok0, hq0]) (fun i hi => by simp only [qsm, ok0, hq0, if_true]; exact (hf i hi).1) (by simp [qv, ok0, hq0])
      (fun i hi => by
        simp only [qa1, ok0, hq0, if_true]
        split
        · rename_i h4; exact (hv i h4).1
        · exact (hzz i (by omega)).1) (fun i hi => by simp only [qtm, ok0, hq0, if_true]; exact (hf i hi).2) (by simp [qv, ok0, hq0])
      (fun i hi => by
        simp only [qa2, ok0, hq0, if_true]
        split
        · rename_i h4; exact (hv i h4).2
        · exact (hzz i (by omega)).2) (v5.step0 u6 fr1)
    rwa [hq0] at this
  refine bre' (fun h1 => bre' (fun h2 w5 u5 => ke 57 w5 ?_ (by decide) (u4.step0 u5 fr1)) (fun h2 => ?_)) (fun h1 => ?_)
  · rw [hq]; unfold arpC; rw [if_pos ⟨h1, h2⟩]
  · repeat refine And.intro rfl ?_
    exact main (.inr h2)
  · repeat refine And.intro rfl ?_
    exact main (.inl h1)
end
end Go.Vc.S5
end

section
open Go Go.Vc Go.Proofs
set_option linter.unusedVariables false
set_option linter.unusedSimpArgs false
set_option autoImplicit false
namespace Go.Vc.S5

theorem bt_mid {A C : List Int} {n k i : Nat} {f : Nat → Int} (hA : A.length = k) (hi : i < n) : bt (A ++ (arrL n f ++ C)) ((k + i : Nat) : Int) = f i := by
  subst hA
  rw [bt_app2, bt_app1 (by rw [arrL_len]; exact hi), arrL_bt (by omega) (by omega)]
  simp
theorem arrN {l : List Int} {f : Nat → Int} {k n : Nat} (h : k + n ≤ l.length) (hf : ∀ i, i < n → f i = bt l ((k + i : Nat) : Int)) : l.take (k + n) = l.take k ++ arrL n f := by
  have e : arrL n f = (l.take (k + n)).drop k := by
    refine List.ext_getElem (by rw [arrL_len]; simp; omega) fun i h1 h2 => ?_
    rw [arrL_len] at h1
    have h3 : k + i < l.length := by omega
    simp only [arrL, List.getElem_map, List.getElem_range, List.getElem_drop, List.getElem_take]
    rw [hf i h1, bt_nat h3]
  rw [e]
  have : l.take k = (l.take (k + n)).take k := by rw [List.take_take, Nat.min_eq_left (by omega)]
  rw [this, List.take_append_drop]
section
variable {op v1 v2 : Int} {sm a1 tm a2 : Nat → Int}
theorem arpE_ok (h : arpE op sm v1 a1 v2 a2 = 0) : arpC op sm = 0 ∧ v4 v1 a1 ∧ v4 v2 a2 := by
  unfold arpE at h
  split at h
  · rename_i hne; exact absurd h hne
  · rename_i hC
    split at h
    · omega
    · rename_i hv
      exact ⟨Classical.not_not.1 hC, Classical.not_not.1 fun hh => hv (.inl hh), Classical.not_not.1 fun hh => hv (.inr hh)⟩
theorem arpE_zero (h1 : arpC op sm = 0) (h2 : v4 v1 a1) (h3 : v4 v2 a2) : arpE op sm v1 a1 v2 a2 = 0 := by
  unfold arpE
  rw [if_neg (not_not_intro h1), if_neg (fun h => h.elim (fun h => h h2) (fun h => h h3))]
theorem q_put (hE : arpE op sm v1 a1 v2 a2 = 0) : qe (arpB op sm a1 tm a2) = 0 ∧ qop (arpB op sm a1 tm a2) = op ∧ (∀ i, i < 6 → qsm (arpB op sm a1 tm a2) i = sm i) ∧ qv (arpB op sm a1 tm a2) = v1 ∧ (∀ i, i < 16 → qa1 (arpB op sm a1 tm a2) i = a1 i) ∧
    (∀ i, i < 6 → qtm (arpB op sm a1 tm a2) i = tm i) ∧ qv (arpB op sm a1 tm a2) = v2 ∧ (∀ i, i < 16 → qa2 (arpB op sm a1 tm a2) i = a2 i) := by
  obtain ⟨hC, ⟨rfl, t1⟩, ⟨rfl, t2⟩⟩ := arpE_ok hE
  have hop := (arpC_ok hC).1
  have hlen := arpB_len op sm a1 tm a2
  have e0 : arpB op sm a1 tm a2 = [0, 1, 8, 0, 6, 4] ++ (two op ++ (arrL 6 sm ++ (arrL 4 a1 ++ (arrL 6 tm ++ arrL 4 a2)))) := by
    unfold arpB; simp only [List.append_assoc]
  have hw : w16 (arpB op sm a1 tm a2) 6 = op := by rw [e0]; exact w16_mid _ _ (by omega) rfl
  have b1 : ∀ i, i < 6 → bt (arpB op sm a1 tm a2) ((8 + i : Nat) : Int) = sm i := fun i hi => by
    rw [e0, ← List.append_assoc]; exact bt_mid (by simp [two]) hi
  have b2 : ∀ i, i < 4 → bt (arpB op sm a1 tm a2) ((14 + i : Nat) : Int) = a1 i := fun i hi => by
    rw [e0, ← List.append_assoc, ← List.append_assoc]; exact bt_mid (by simp [two, arrL_len]) hi
  have b3 : ∀ i, i < 6 → bt (arpB op sm a1 tm a2) ((18 + i : Nat) : Int) = tm i := fun i hi => by
    rw [e0, ← List.append_assoc, ← List.append_assoc, ← List.append_assoc]; exact bt_mid (by simp [two, arrL_len]) hi
  have b4 : ∀ i, i < 4 → bt (arpB op sm a1 tm a2) ((24 + i : Nat) : Int) = a2 i := fun i hi => by
    have e1 : arpB op sm a1 tm a2 = ([0, 1, 8, 0, 6, 4] ++ two op ++ arrL 6 sm ++ arrL 4 a1 ++ arrL 6 tm) ++ (arrL 4 a2 ++ []) := by unfold arpB; simp only [List.append_nil]
    rw [e1]; exact bt_mid (by simp [two, arrL_len]) hi
  have hq : qe (arpB op sm a1 tm a2) = 0 := by
    unfold qe
    rw [if_neg (by omega), if_neg (by omega), if_neg (by rw [e0]; simp), hw, arpC_congr b1]
    exact hC
  refine ⟨hq, by unfold qop ok0; rw [if_pos hq, hw], fun i hi => by unfold qsm ok0; rw [if_pos hq, b1 i hi], by unfold qv ok0; rw [if_pos hq], fun i hi => ?_, fun i hi => by unfold qtm ok0; rw [if_pos hq, b3 i hi], by unfold qv ok0; rw [if_pos hq], fun i hi => ?_⟩
  · unfold qa1 ok0
    rw [if_pos hq]
    split
    · rename_i h4; exact b2 i h4
    · exact (t1 i (by omega) hi).symm
  · unfold qa2 ok0
    rw [if_pos hq]
    split
    · rename_i h4; exact b4 i h4
    · exact (t2 i (by omega) hi).symm
/-- what was read is written as it was -/
theorem put_q {l : List Int} (hb : Byt l) (hq : qe l = 0) (h1 : op = qop l) (h2 : ∀ i, i < 6 → sm i = qsm l i) (h3 : v1 = qv l) (h4 : ∀ i, i < 16 → a1 i = qa1 l i) (h5 : ∀ i, i < 6 → tm i = qtm l i) (h6 : v2 = qv l) (h7 : ∀ i, i < 16 → a2 i = qa2 l i) :
    arpE op sm v1 a1 v2 a2 = 0 ∧ arpB op sm a1 tm a2 = l.take 28 ∧ 28 ≤ l.length := by
  have hq' := hq
  unfold qe at hq'
  split at hq'; · omega
  split at hq'; · omega
  split at hq'; · omega
  rename_i g1 g2 g3
  have ez : ∀ v, ok0 l v = v := fun v => by unfold ok0; rw [if_pos hq]
  simp only [qop, qsm, qv, qa1, qtm, qa2, ez] at h1 h2 h3 h4 h5 h6 h7
  refine ⟨arpE_zero ?_ ⟨h3, fun i h i16 => by rw [h4 i i16, if_neg (by omega)]⟩ ⟨h6, fun i h i16 => by rw [h7 i i16, if_neg (by omega)]⟩, ?_, by omega⟩
  · rw [h1, arpC_congr h2]; exact hq'
  · rw [show (28 : Nat) = 24 + 4 from rfl, arrN (l := l) (f := a2) (k := 24) (n := 4) (by omega) (fun i hi => by rw [h7 i (by omega), if_pos hi]), show (24 : Nat) = 18 + 6 from rfl, arrN (l := l) (f := tm) (k := 18) (n := 6) (by omega) h5,
      show (18 : Nat) = 14 + 4 from rfl, arrN (l := l) (f := a1) (k := 14) (n := 4) (by omega) (fun i hi => by rw [h4 i (by omega), if_pos hi]), show (14 : Nat) = 8 + 6 from rfl, arrN (l := l) (f := sm) (k := 8) (n := 6) (by omega) h2,
      show (8 : Nat) = 6 + 2 from rfl, take_two hb (by omega), Classical.not_not.1 g3]
    unfold arpB
    rw [h1]
    rfl
end
end Go.Vc.S5
end
