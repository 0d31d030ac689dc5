import Derived.Test.YtopobapmncbjhaaS5WideF
open Go Go.Vc Go.Proofs
set_option linter.unusedVariables false
set_option linter.unusedSimpArgs false
set_option autoImplicit false
namespace Go.Vc.S5

theorem sub0 (s : Sl) (sz h m : Nat) : Sl.sub s sz 0 h m = ⟨s.ptr, h, m⟩ := by
  cases s with
  | mk p l c => cases p <;> simp [Sl.sub]
theorem wideT_len (l : List Tag) : (wideT l).length = 2 * l.length + 9 := by simp [wideT]; omega
theorem wideT_lo {l : List Tag} {t : Nat} (h : t < l.length) : (wideT l)[t]'(by rw [wideT_len]; omega) = l[t] := by
  simp only [wideT]
  rw [List.getElem_append_left h]
theorem wideT_hi {l : List Tag} {t : Nat} (h : l.length ≤ t) (h2 : t < 2 * l.length + 9) : (wideT l)[t]'(by rw [wideT_len]; omega) = tk (t - l.length) := by
  simp only [wideT]
  rw [List.getElem_append_right h]
  simp
theorem c37T {f f' g g' : Nat → Int} {s ts ds : Sl} {bk : Nat} {tags : List Tag} {ty ty' : Int} {data : List Int} {w : World} {R : SV → World → Prop} (hw : Sees cTag w s (wideT tags)) (hsc : s.len ≤ s.cap) (h : Sees cTag w ts tags)
    (hwd : SeesB w (wideS bk (2 * data.length + 70)) (wideL data)) (hd : SeesB w ds data) (hl : data.length ≤ 70368744177000) (ht : tags.length ≤ 1000000000) (k : ∀ w1, Upd [] [] w w1 → R (.bool true) w1) :
    Ret Try.prog 37 [.struct [.arr .u8 6 f, .arr .u8 6 g, .slice (Sl.sub s 4 0 tags.length s.cap), .int .i64 ty, .slice ⟨some ⟨bk, 0, none⟩, data.length, 2 * data.length + 70⟩], .struct [.arr .u8 6 f', .arr .u8 6 g', .slice ts, .int .i64 ty', .slice ds]] w R := by
  refine f37_of _ _ _ _ _ _ _ _ _ _ _ _ ?_
  unfold vc37
  simp only [sub0]
  have hlen := h.len
  have hsl := hw.len
  rw [wideT_len] at hsl
  have e0 : wr .i64 (wr .i64 (2 * (ts.len : Int)) + 9) = ((2 * tags.length + 9 : Nat) : Int) := by rw [wr_i64 (x := 2 * (ts.len : Int)) (by omega) (by omega), wr_i64 (by omega) (by omega)]; omega
  rw [e0, Int.toNat_natCast]
  intro b1 b2 J hJ w1 u1
  refine c38T (hwd.old u1) (hd.old u1) hl fun w2 u2 => ⟨_, rfl, kp u2, brf rfl (brf (by simp [hlen]) ?_)⟩
  repeat first | refine And.intro trivial ?_ | refine And.intro rfl ?_
  refine hJ _ ?_
  clear hJ
  refine needIxLe (by omega) (by omega) ?_
  have v2 := u1.then u2
  refine ⟨fun n w' => Upd [] [] w w' ∧ ∃ t : Nat, n = t ∧ t ≤ 2 * tags.length + 9, fun n _ => (2 * tags.length + 9 - n).toNat, ⟨v2, 0, rfl, by omega⟩, ?_⟩
  rintro n w3 ⟨u3, t, rfl, ht3⟩
  have S3 : Sees cTag w3 ⟨s.ptr, 2 * tags.length + 9, s.cap⟩ (wideT tags) := by
    have := (hw.old u3).take (n := 2 * tags.length + 9) (by rw [wideT_len]; omega) s.cap
    rwa [List.take_of_length_le (by rw [wideT_len]; omega)] at this
  have T3 := h.old u3
  refine brd (fun hlt => ?_) (fun hge => k w3 u3)
  intro J hJ
  have fin : ∀ w4, Upd [] [] w3 w4 → J w4 := fun w4 u4 => hJ _ (by (repeat first | refine And.intro trivial ?_ | refine And.intro rfl ?_); exact ⟨⟨u3.then u4, t + 1, wr_succ (by omega), by omega⟩, by rw [wr_succ (by omega)]; (try dsimp only); omega⟩)
  have hwl := wideT_len tags
  have cs := tag_cells S3 (i := (t : Int)) (by omega) (by omega)
  simp only [Int.toNat_natCast] at cs
  have nd : ∀ {X : Prop}, X → Need (decide (0 ≤ (t : Int)) && decide ((t : Int) < ((2 * tags.length + 9 : Nat) : Int)) && s.ptr.isSome) X := fun x => needT S3 (by omega) (by omega) x
  refine brd (fun hlo => ?_) (fun hlo => ?_)
  · have ct := tag_cells T3 (i := (t : Int)) (by omega) (by omega)
    simp only [Int.toNat_natCast] at ct
    rw [wideT_lo (by omega)] at cs
    refine nd ⟨_, (by rw [Int.toNat_natCast]; exact cs.1), _, (by rw [Int.toNat_natCast]; exact cs.2.1), _, (by rw [Int.toNat_natCast]; exact cs.2.2.1), _, (by rw [Int.toNat_natCast]; exact cs.2.2.2), ?_⟩
    refine needT T3 (by omega) (by omega) ⟨_, (by rw [Int.toNat_natCast]; exact ct.1), _, (by rw [Int.toNat_natCast]; exact ct.2.1), _, (by rw [Int.toNat_natCast]; exact ct.2.2.1), _, (by rw [Int.toNat_natCast]; exact ct.2.2.2), ?_⟩
    refine brf (by simp) (brf (by simp; omega) fun w4 u4 => ?_)
    repeat first | refine And.intro trivial ?_ | refine And.intro rfl ?_
    exact fin w4 u4
  · rw [wideT_hi (by omega) (by omega)] at cs
    refine brt (by simp; omega) (nd ⟨_, (by rw [Int.toNat_natCast]; exact cs.1), _, (by rw [Int.toNat_natCast]; exact cs.2.1), _, (by rw [Int.toNat_natCast]; exact cs.2.2.1), _, (by rw [Int.toNat_natCast]; exact cs.2.2.2), ?_⟩)
    have e : wr .i64 (wr .i64 (-7 - (t : Int)) + (ts.len : Int)) = (tk (t - tags.length)).tpid := by
      unfold tk
      dsimp only
      rw [wr_i64 (x := -7 - (t : Int)) (by omega) (by omega), wr_i64 (by omega) (by omega), wr_i64 (by omega) (by omega)]
      omega
    rw [e]
    refine brf (by simp [tk]) fun w4 u4 => ?_
    repeat first | refine And.intro trivial ?_ | refine And.intro rfl ?_
    exact fin w4 u4
end Go.Vc.S5
