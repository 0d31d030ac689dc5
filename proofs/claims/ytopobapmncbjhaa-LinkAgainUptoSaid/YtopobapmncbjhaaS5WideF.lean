import Derived.Test.YtopobapmncbjhaaS5TxtK
import Derived.Test.YtopobapmncbjhaaS5Wide
import Derived.Test.YtopobapmncbjhaaG5
open Go Go.Vc Go.Proofs
set_option linter.unusedVariables false
set_option linter.unusedSimpArgs false
set_option autoImplicit false
namespace Go.Vc.S5

/-- the mark in the room behind tags -/
def tk (j : Nat) : Tag := ⟨wr .i64 (-7 - (j : Int)), 0, false, 0⟩
def wideT (l : List Tag) : List Tag := l ++ (List.range (l.length + 9)).map tk
theorem c35 {dst src : Nat → Int} {ts ds : Sl} {tags : List Tag} {type : Int} {data : List Int} {w : World} {R : SV → World → Prop} (h : Sees cTag w ts tags) (hd : SeesB w ds data) (hl : data.length ≤ 70368744177000) (ht : tags.length ≤ 1000000000)
    (k : ∀ s bk w1, Upd [] [] w w1 → Sees cTag w1 s (wideT tags) → Own w.heap.size 4 w1 s → SeesB w1 (wideS bk (2 * data.length + 70)) (wideL data) → Own w.heap.size 1 w1 (wideS bk (2 * data.length + 70)) → (∀ x ∈ s.blk, x < bk) →
      R (.struct [.arr .u8 6 dst, .arr .u8 6 src, .slice (Sl.sub s 4 0 tags.length s.cap), .int .i64 type, .slice ⟨some ⟨bk, 0, none⟩, data.length, 2 * data.length + 70⟩]) w1) :
    Ret Try.prog 35 [.struct [.arr .u8 6 dst, .arr .u8 6 src, .slice ts, .int .i64 type, .slice ds]] w R := by
  refine f35_of _ _ _ _ _ _ _ ?_
  unfold vc35
  intro b1 b2 w1 u1
  have hb1 := u1.new (b := b1) (by simp)
  have hb2 := u1.new (b := b2) (by simp)
  have hlen := h.len
  refine append_own (c := cTag) (Sees.nil _ _ _ _) (Own.none w1.heap.size _ _) (h.old u1) (Nat.le_refl _) (by simp [Sl.blk]) (by decide) (by simp; omega) fun r w2 hr hro u2 _ => ?_
  have u2' : Upd [] [] w1 w2 := u2
  rw [List.nil_append] at hr
  have e9 : wr .i64 ((ts.len : Int) + 9) = ((tags.length + 9 : Nat) : Int) := by rw [wr_i64 (by omega) (by omega)]; omega
  rw [e9]
  refine ⟨fun s n w' => Upd [] [] w1 w' ∧ Own w1.heap.size 4 w' s ∧ ∃ t : Nat, n = t ∧ t ≤ tags.length + 9 ∧ Sees cTag w' s (tags ++ (List.range t).map tk), fun _ n _ => (tags.length + 9 - n).toNat, ⟨u2', hro, 0, rfl, by omega, by simpa using hr⟩, ?_⟩
  rintro s n w3 ⟨u3, o3, t, rfl, ht3, s3⟩
  refine brd (fun hlt => ?_) (fun hge => ?_)
  · intro b4 w4 u4 hr4
    have y4 := u4.size
    have y3 := u3.size
    refine append_own (c := cTag) (s3.old u4) (o3.old u4) (tag_row (n := 1) (cap := 1) (tk t) hr4 rfl rfl) (by omega) (fun x hx hm => by have := o3.blk x hx; simp at hm; omega) (by decide) (by simp; omega) fun r2 w5 hr5 ho5 u5 _ => ?_
    repeat refine And.intro rfl ?_
    refine ⟨⟨(u3.then u4).step0 u5 (fun x hx => (o3.blk x hx).1), ho5, t + 1, wr_succ (by omega), by omega, ?_⟩, by rw [wr_succ (by omega)]; (try dsimp only); omega⟩
    rw [List.range_succ, List.map_append, ← List.append_assoc]
    exact hr5
  · have ht2 : t = tags.length + 9 := by omega
    subst ht2
    have v3 := u1.then u3
    have hsl := s3.len
    have hsc := o3.le
    simp at hsl
    refine c36 (hd.old v3) hl fun bk w4 u4 hbk h4 o4 => ⟨_, rfl, kp u4, needIxLe (by omega) (by omega) fun w5 u5 => ?_⟩
    have y1 := u1.size
    have y3 := u3.size
    have q : ∀ x ∈ s.blk, x ∉ [b2, b1] := fun x hx hm => by have := o3.blk x hx; simp at hm; omega
    have q2 : ∀ x ∈ (wideS bk (2 * data.length + 70)).blk, x ∉ [b2, b1] := fun x hx hm => by simp [Sl.blk] at hx; simp at hm; omega
    rw [hlen, Int.toNat_natCast, sub_wide]
    exact k s bk w5 ((v3.then u4).step0 u5 (by simp; omega)) ((s3.old u4).upd u5 q) (((o3.old u4).upd u5 q).mono y1) (h4.upd u5 q2) ((o4.upd u5 q2).mono v3.size) (fun x hx => by have := (o3.blk x hx).2; omega)
end Go.Vc.S5
