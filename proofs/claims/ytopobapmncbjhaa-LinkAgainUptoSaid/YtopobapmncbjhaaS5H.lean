import Derived.Test.YtopobapmncbjhaaG5
open Go Go.Vc Go.Proofs
set_option linter.unusedVariables false
set_option linter.unusedSimpArgs false
set_option autoImplicit false
namespace Go.Vc.S5

def pe (l : List Int) : Int := match parse l with | .error e => e | .ok _ => 0
def pf (l : List Int) : Nat → Int := match parse l with | .error _ => fun _ => 0 | .ok _ => fun i => bt l (i : Nat)
def pg (l : List Int) : Nat → Int := match parse l with | .error _ => fun _ => 0 | .ok _ => fun i => bt l ((6 + i : Nat) : Int)
def pty (l : List Int) : Int := match parse l with | .error _ => 0 | .ok (_, t) => w16 l (t : Nat)
def ptags (l : List Int) : List Tag := match parse l with | .error _ => [] | .ok (g, _) => g
def pdata (l : List Int) : List Int := match parse l with | .error _ => [] | .ok (_, t) => l.drop (t + 2)

section
variable {b : Sl} {l : List Int} {w : World} {R : SV → World → Prop}
theorem c26' (h : SeesB w b l) (hb : Byt l) (hc : b.len ≤ b.cap) (hl : l.length ≤ 140737488355328)
    (k : ∀ f g s d w1, (∀ i, i < 6 → f i = pf l i) → (∀ i, i < 6 → g i = pg l i) → Upd [] [] w w1 → Sees cTag w1 s (ptags l) → Own w.heap.size 4 w1 s → (ptags l).length ≤ 2 →
      (d = nilS ∧ pdata l = [] ∨ ∃ t, d = b.sub 1 t l.length l.length ∧ t ≤ l.length ∧ pdata l = l.drop t) → R (.tuple [frSV f g s (pty l) d, .int .i64 (pe l)]) w1) : Ret Try.prog 26 [.slice b] w R := by
  refine c26 h hb hc hl (fun e w1 he u => ?_) (fun tags t f g s w1 he hf hg hl2 ht u hs ho => ?_)
  · have := k (fun _ => 0) (fun _ => 0) nilS nilS w1 (by simp [pf, he]) (by simp [pg, he]) u (by simp only [ptags, he]; exact Sees.nil _ _ _ _) (Own.none _ _ _) (by simp [ptags, he]) (.inl ⟨rfl, by simp [pdata, he]⟩)
    simpa only [pty, pe, he] using this
  · have := k f g s _ w1 (by simpa [pf, he] using hf) (by simpa [pg, he] using hg) u (by simp only [ptags, he]; exact hs) ho (by simpa [ptags, he] using ht) (.inr ⟨t + 2, rfl, hl2, by simp [pdata, he]⟩)
    simpa only [pty, pe, he] using this
theorem c27' (h : SeesB w b l) (hb : Byt l) (hl : l.length ≤ 70368744177664)
    (k : ∀ f g s d w1, (∀ i, i < 6 → f i = pf l i) → (∀ i, i < 6 → g i = pg l i) → Upd [] [] w w1 → Sees cTag w1 s (ptags l) → Own w.heap.size 4 w1 s →
      SeesB w1 d (pdata l) → Own w.heap.size 1 w1 d → R (.tuple [frSV f g s (pty l) d, .int .i64 (pe l)]) w1) : Ret Try.prog 27 [.slice b] w R := by
  refine c27 h hb hl (fun e w1 he u => ?_) (fun tags t f g s d w1 he hf hg hl2 ht u hs ho hd hdo => ?_)
  · have := k (fun _ => 0) (fun _ => 0) nilS nilS w1 (by simp [pf, he]) (by simp [pg, he]) u (by simp only [ptags, he]; exact Sees.nil _ _ _ _) (Own.none _ _ _) (by simp only [pdata, he]; exact Sees.nil _ _ _ _) (Own.none _ _ _)
    simpa only [pty, pe, he] using this
  · have := k f g s d w1 (by simpa [pf, he] using hf) (by simpa [pg, he] using hg) u (by simp only [ptags, he]; exact hs) ho (by simp only [pdata, he]; exact hd) hdo
    simpa only [pty, pe, he] using this
end
theorem pdata_len (l : List Int) : (pdata l).length ≤ l.length := by
  unfold pdata
  split <;> simp
noncomputable def serOf (f g : Nat → Int) (tags : List Tag) (type : Int) (data : List Int) : List Int := if chk (g 0) tags type data.length = 0 then ser f g tags type data else []
theorem serOf_len (f g : Nat → Int) (tags : List Tag) (type : Int) (data : List Int) : (serOf f g tags type data).length ≤ 65535 := by
  unfold serOf
  split
  · rename_i h
    obtain ⟨_, h2, _, _, _, _, _, h8⟩ := chk_ok (src := g) h
    unfold ser
    simp only [List.length_append, arrL_len, tags_len, two, List.length_cons, List.length_nil]; omega
  · simp
section
variable {dst src : Nat → Int} {ts ds : Sl} {tags : List Tag} {type : Int} {data : List Int} {w : World} {R : SV → World → Prop}
theorem c31' (h : Sees cTag w ts tags) (hd : SeesB w ds data) (hs : 0 ≤ src 0 ∧ src 0 < 256) (hl : data.length ≤ 140737488355328)
    (k : ∀ s w1, Upd [] [] w w1 → SeesB w1 s (serOf dst src tags type data) → Own w.heap.size 1 w1 s → R (.tuple [.slice s, .int .i64 (chk (src 0) tags type data.length)]) w1) :
    Ret Try.prog 31 [frSV dst src ts type ds] w R := by
  refine c31 h hd hs hl (fun w1 hne u => k _ _ u ?_ (Own.none _ _ _)) (fun s w1 he u hs ho => ?_)
  · unfold serOf; rw [if_neg hne]; exact Sees.nil _ _ _ _
  · have := k s w1 u (by unfold serOf; rw [if_pos he]; exact hs) ho
    rwa [he] at this
theorem c32' (h : Sees cTag w ts tags) (hd : SeesB w ds data) (hs : 0 ≤ src 0 ∧ src 0 < 256) (hl : data.length ≤ 140737488355328)
    (k : ∀ s w1, Upd [] [] w w1 → SeesB w1 s (serOf dst src tags type data) → Own w.heap.size 1 w1 s → R (.tuple [.slice s, .int .i64 (chk (src 0) tags type data.length)]) w1) :
    Ret Try.prog 32 [frSV dst src ts type ds] w R := by
  refine c32 h hd hs hl (fun w1 hne u => k _ _ u ?_ (Own.none _ _ _)) (fun s w1 he u hs ho => ?_)
  · unfold serOf; rw [if_neg hne]; exact Sees.nil _ _ _ _
  · have := k s w1 u (by unfold serOf; rw [if_pos he]; exact hs) ho
    rwa [he] at this
end
theorem cut_cut (l : List Int) : cutOf (cutOf l) = cutOf l := by unfold cutOf; rw [List.take_take]; rfl

end Go.Vc.S5
