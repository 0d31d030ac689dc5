import Derived.Test.YtopobapmncbjhaaS5TxtB
import Derived.Test.YtopobapmncbjhaaS5A
import Derived.Test.YtopobapmncbjhaaMemE
open Go Go.Vc Go.Proofs
set_option linter.unusedVariables false
set_option linter.unusedSimpArgs false
set_option autoImplicit false
namespace Go.Vc.S5

structure Tag where
  tpid : Int
  pcp : Int
  dei : Bool
  vid : Int
  deriving DecidableEq
def cTag : Cod Tag := ⟨4, fun t => [.int .i64 t.tpid, .int .i64 t.pcp, .bool t.dei, .int .i64 t.vid], fun _ => rfl, by simp [Value.oneCell']⟩

/-- a tag's cells -/
theorem tag_cells {w : World} {s : Sl} {l : List Tag} (h : Sees cTag w s l) {i : Int} (h0 : 0 ≤ i) (hi : i < l.length) :
    w.cell? (s.at 4 i.toNat) = some (.int .i64 (l[i.toNat]'(by omega)).tpid) ∧ w.cell? ((s.at 4 i.toNat).add 1) = some (.int .i64 (l[i.toNat]'(by omega)).pcp) ∧
    w.cell? ((s.at 4 i.toNat).add 2) = some (.bool (l[i.toNat]'(by omega)).dei) ∧ w.cell? ((s.at 4 i.toNat).add 3) = some (.int .i64 (l[i.toNat]'(by omega)).vid) := by
  have he := h.elem (i := i.toNat) (by omega)
  have h1 := he 0 (by simp [cTag])
  have h2 := he 1 (by simp [cTag])
  have h3 := he 2 (by simp [cTag])
  have h4 := he 3 (by simp [cTag])
  rw [add_zero] at h1
  exact ⟨h1, h2, h3, h4⟩
theorem needT {X : Prop} {w : World} {s : Sl} {l : List Tag} (h : Sees cTag w s l) {i : Int} (h0 : 0 ≤ i) (h1 : i < l.length) (x : X) : Need (decide (0 ≤ i) && decide (i < (s.len : Int)) && s.ptr.isSome) X :=
  needIx h0 (by rw [h.len]; exact h1) (h.isSome (by decide) (by omega)) x

def isTagN (n : Int) : Bool := n == 33024 || n == 34984
theorem c51 {n : Int} {w : World} {R : SV → World → Prop} (k : R (.bool (isTagN n)) w) : Ret Try.prog 51 [.int .i64 n] w R := by
  refine f51_of _ _ _ ?_
  unfold vc51
  unfold isTagN at k
  refine bre (fun h => ?_) (fun h => ?_)
  · subst h; exact k
  · have : (n == 33024) = false := by simp [h]
    rw [this] at k; exact k

/-- a number of two bytes -/
def w16 (l : List Int) (i : Int) : Int := bt l i * 256 + bt l (i + 1)
theorem w16_r {l : List Int} (h : Byt l) (i : Int) : 0 ≤ w16 l i ∧ w16 l i ≤ 65535 := by
  have := h.bt i
  have := h.bt (i + 1)
  unfold w16; omega
theorem c46 {b : Sl} {l : List Int} {i : Int} {w : World} {R : SV → World → Prop} (h : SeesB w b l) (hb : Byt l) (h0 : 0 ≤ i) (hi : i + 1 < l.length) (hl : l.length < 9223372036854775807) (k : ∀ w1, Upd [] [] w w1 → R (.int .i64 (w16 l i)) w1) : Ret Try.prog 46 [.slice b, .int .i64 i] w R := by
  refine f46_of _ _ _ _ ?_
  unfold vc46
  have h1 := hb.bt i
  have h2 := hb.bt (i + 1)
  refine needB h h0 (by omega) ⟨_, h.byte h0 (by omega), ?_⟩
  rw [wr_i64 (x := i + 1) (by omega) (by omega)]
  refine needB h (by omega) (by omega) ⟨_, h.byte (by omega) (by omega), fun w1 u => ?_⟩
  rw [wr_i64 (x := bt l i) (by omega) (by omega), wr_i64 (x := bt l (i + 1)) (by omega) (by omega), wr_i64 (x := bt l i * 256) (by omega) (by omega), wr_i64 (by omega) (by omega)]
  exact k w1 u
theorem c50 {b : Sl} {l : List Int} {i : Int} {w : World} {R : SV → World → Prop} (h : SeesB w b l) (hb : Byt l) (h0 : 0 ≤ i) (hi : i + 1 < l.length) (hl : l.length < 9223372036854775807) (k : ∀ w1, Upd [] [] w w1 → R (.int .i64 (w16 l i)) w1) : Ret Try.prog 50 [.slice b, .int .i64 i] w R := by
  refine f50_of _ _ _ _ ?_
  unfold vc50
  have h1 := hb.bt i
  have h2 := hb.bt (i + 1)
  refine needB h h0 (by omega) ⟨_, h.byte h0 (by omega), ?_⟩
  rw [wr_i64 (x := i + 1) (by omega) (by omega)]
  refine needB h (by omega) (by omega) ⟨_, h.byte (by omega) (by omega), fun w1 u => ?_⟩
  rw [wr_i64 (x := bt l i) (by omega) (by omega), wr_i64 (x := bt l (i + 1)) (by omega) (by omega), gshl8, wr_i64 (x := bt l i * 256) (by omega) (by omega), ior_add 8 (by omega) (by omega) (by omega) (by omega) (by omega) (by omega)]
  exact k w1 u
/-- a number of two bytes, written -/
def two (n : Int) : List Int := [n / 256 % 256, n % 256]
theorem two_byt (n : Int) : Byt (two n) := by simp [Byt, two]; omega
theorem c44 {N : Nat} {b : Sl} {l : List Int} {n : Int} {w : World} {R : SV → World → Prop} (h : SeesB w b l) (o : Own N 1 w b) (hN : N ≤ w.heap.size) (hl : l.length ≤ 70368744177000)
    (k : ∀ r w1, Upd b.blk [] w w1 → SeesB w1 r (l ++ two n) → Own N 1 w1 r → (∀ x ∈ r.blk, x ∈ b.blk ∨ w.heap.size ≤ x) → R (.slice r) w1) : Ret Try.prog 44 [.slice b, .int .i64 n] w R := by
  refine f44_of _ _ _ _ ?_
  unfold vc44
  intro b1 w1 u1 hrow
  refine append_own (c := cU8) (new := two n) (h.old u1) (o.old u1) (rowB hrow _ (by rw [gshr8, wr_u8, wr_u8]; rfl) rfl) (by have := u1.size; omega) (by simp) (by decide) (by simp [two]; omega) fun r w2 hr ho u2 hn => ?_
  exact k r w2 ((u1.wide (m' := b.blk) (by simp)).step u2 (fun x hx => .inr hx)) hr ho (fun x hx => (hn x hx).imp id (fun h => Nat.le_trans u1.size h))
theorem c53 {n : Int} {w : World} {R : SV → World → Prop} (h : 0 ≤ n ∧ n ≤ 65535) (k : ∀ s w1, Upd [] [] w w1 → SeesB w1 s (two n) → R (.slice s) w1) : Ret Try.prog 53 [.int .i64 n] w R := by
  refine f53_of _ _ _ ?_
  unfold vc53
  intro b1 w1 u1 hrow
  have e1 : wr .u8 (wr .i64 (Int.tdiv n 256)) = n / 256 % 256 := by rw [tdiv_pos h.1, wr_i64 (by omega) (by omega), wr_u8]
  have e2 : wr .u8 (Int.tmod n 256) = n % 256 := by rw [tmod_pos h.1, wr_u8]; omega
  rw [e1, e2] at hrow
  exact k _ w1 u1.forget (rowB hrow (two n) rfl rfl)

/-- the tags' numbers; their values -/
def tagsT (l : List Tag) : Prop := ∀ i (h : i < l.length), l[i].tpid = 33024 ∨ (i = 0 ∧ l[i].tpid = 34984)
def tagV (t : Tag) : Prop := 0 ≤ t.pcp ∧ t.pcp ≤ 7 ∧ 0 ≤ t.vid ∧ t.vid ≤ 4094
open Classical in
/-- may these values be a frame? -/
noncomputable def chk (src0 : Int) (tags : List Tag) (type : Int) (n : Nat) : Int :=
  if src0 % 2 = 1 then 54 else if 2 < tags.length then 51 else if ¬ tagsT tags then 51 else if ¬ ∀ t ∈ tags, tagV t then 52
  else if type < 1536 ∨ 65535 < type ∨ isTagN type = true then 53 else if 65535 < 14 + 4 * tags.length + n then 2 else 0

section
variable {dst src : Nat → Int} {ts ds : Sl} {tags : List Tag} {type : Int} {data : List Int} {w : World} {R : SV → World → Prop}

theorem c60 (h : Sees cTag w ts tags) (k : R (.int .i64 (if 2 < tags.length then 51 else open Classical in if tagsT tags then 0 else 51)) w) : Ret Try.prog 60 [.slice ts] w R := by
  refine f60_of _ _ _ ?_
  unfold vc60
  have hl := h.len
  refine brd (fun hgt => ?_) (fun hle => ?_)
  · rw [if_pos (by omega)] at k; exact k
  · rw [if_neg (by omega)] at k
    refine ⟨fun i w1 => w1 = w ∧ ∃ t : Nat, i = t ∧ t ≤ tags.length ∧ ∀ j (hj : j < tags.length), j < t → (tags[j].tpid = 33024 ∨ (j = 0 ∧ tags[j].tpid = 34984)), fun i _ => (tags.length - i).toNat, ⟨rfl, 0, rfl, by omega, fun j _ hj => by omega⟩, ?_⟩
    rintro i w1 ⟨rfl, t, rfl, ht, hj⟩
    refine brd (fun hlt => ?_) (fun hge => ?_)
    · have ht2 : t < tags.length := by omega
      have hc := tag_cells h (i := (t : Int)) (by omega) (by omega)
      simp only [Int.toNat_natCast] at hc
      intro J hJ
      have bad : (¬ (tags[t].tpid = 33024 ∨ (t = 0 ∧ tags[t].tpid = 34984))) → R (.int .i64 51) w1 := fun hb => by
        rw [if_neg (fun hT => hb (hT t ht2))] at k; exact k
      have good : (tags[t].tpid = 33024 ∨ (t = 0 ∧ tags[t].tpid = 34984)) → J w1 := fun hg => hJ _ ⟨⟨rfl, t + 1, wr_succ (by omega), by omega, fun j hj2 hjt => by
        by_cases e : j = t
        · subst e; exact hg
        · exact hj j hj2 (by omega)⟩, by rw [wr_succ (by omega)]; (try dsimp only); omega⟩
      refine needT h (by omega) (by omega) ⟨_, (by rw [Int.toNat_natCast]; exact hc.1), bre' (fun h1 => ?_) (fun h1 => good (.inl h1))⟩
      refine needT h (by omega) (by omega) ⟨_, (by rw [Int.toNat_natCast]; exact hc.1), bre' (fun h2 => bad (by omega)) (fun h2 => brd (fun h3 => bad (by omega)) (fun h3 => good (.inr ⟨by omega, h2⟩)))⟩
    · rw [if_pos (show tagsT tags from fun j hj2 => hj j hj2 (by omega))] at k
      exact k

theorem c52 (h : Sees cTag w ts tags) (hd : ds.len = data.length) (hs : 0 ≤ src 0 ∧ src 0 < 256) (hl : data.length ≤ 140737488355328) (k : ∀ w1, Upd [] [] w w1 → R (.int .i64 (chk (src 0) tags type data.length)) w1) :
    Ret Try.prog 52 [.struct [.arr .u8 6 dst, .arr .u8 6 src, .slice ts, .int .i64 type, .slice ds]] w R := by
  refine f52_of _ _ _ _ _ _ _ ?_
  unfold vc52
  intro b w1 u1
  have k1 : ∀ e w2, Upd [] [] w w2 → chk (src 0) tags type data.length = e → R (.int .i64 e) w2 := fun e w2 u he => he ▸ k w2 u
  refine c15 hs fun w2 u2 => ⟨_, rfl, kp u2, ?_⟩
  have v2 := u1.then u2
  unfold chk at k1
  refine brb (fun hg => k1 _ _ v2 (by rw [if_pos (by unfold grp at hg; simpa using hg)])) (fun hg => ?_)
  rw [if_neg (by unfold grp at hg; simpa using hg)] at k1
  refine c60 (h.old v2) ⟨_, rfl, .inl (Upd.refl _), ?_⟩
  by_cases h2 : 2 < tags.length
  · rw [if_pos h2] at k1 ⊢
    exact brt (by decide) (k1 _ _ v2 rfl)
  rw [if_neg h2] at k1 ⊢
  by_cases hT : tagsT tags
  · rw [if_pos hT]
    rw [if_neg (by simpa using hT)] at k1
    refine brf (by decide) ?_
    have h' := h.old v2
    have hlen := h.len
    refine ⟨fun i w3 => Upd [] [] w w3 ∧ ∃ t : Nat, i = t ∧ t ≤ tags.length ∧ ∀ j (hj : j < tags.length), j < t → tagV tags[j], fun i _ => (tags.length - i).toNat, ⟨v2, 0, rfl, by omega, fun j _ hj => by omega⟩, ?_⟩
    rintro i w3 ⟨u3, t, rfl, ht, hj⟩
    have h3 := h.old u3
    refine brd (fun hlt => ?_) (fun hge => ?_)
    · have ht2 : t < tags.length := by omega
      have hc := tag_cells h3 (i := (t : Int)) (by omega) (by omega)
      simp only [Int.toNat_natCast] at hc
      intro J hJ
      refine needT h3 (by omega) (by omega) ⟨_, (by rw [Int.toNat_natCast]; exact hc.1), _, (by rw [Int.toNat_natCast]; exact hc.2.1), _, (by rw [Int.toNat_natCast]; exact hc.2.2.1), _, (by rw [Int.toNat_natCast]; exact hc.2.2.2), ?_⟩
      intro b4
      have bad : ¬ tagV tags[t] → ∀ w4, Upd [] [b4] w3 w4 → R (.int .i64 52) w4 := fun hb w4 u4 => k1 _ _ (u3.then u4) (by
        rw [if_pos]
        intro hh
        exact hb (hh _ (List.getElem_mem _)))
      refine brd (fun g => bad (by unfold tagV; omega)) (fun g1 => brd (fun g => bad (by unfold tagV; omega)) (fun g2 => brd (fun g => bad (by unfold tagV; omega)) (fun g3 => brd (fun g => bad (by unfold tagV; omega)) (fun g4 w4 u4 => ⟨rfl, hJ _ ⟨rfl, ⟨u3.then u4, t + 1, wr_succ (by omega), by omega, fun j hj2 hjt => ?_⟩, by rw [wr_succ (by omega)]; (try dsimp only); omega⟩⟩))))
      by_cases e : j = t
      · subst e; unfold tagV; omega
      · exact hj j hj2 (by omega)
    · have hV : ∀ t ∈ tags, tagV t := fun x hx => by
        obtain ⟨j, hj2, rfl⟩ := List.getElem_of_mem hx
        exact hj j hj2 (by omega)
      rw [if_neg (by simpa using hV)] at k1
      intro J hJ
      have bad : (type < 1536 ∨ 65535 < type ∨ isTagN type = true) → R (.int .i64 53) w3 := fun hb => k1 _ _ u3 (by rw [if_pos hb])
      refine brd (fun g => bad (.inl g)) (fun g1 => brd (fun g => bad (.inr (.inl g))) (fun g2 => bre (fun g => bad (.inr (.inr (by unfold isTagN; simp [g])))) (fun g3 => bre (fun g => bad (.inr (.inr (by unfold isTagN; simp [g])))) (fun g4 => ⟨rfl, hJ _ ?_⟩))))
      rw [if_neg (by unfold isTagN; simp [g3, g4]; omega)] at k1
      rw [hlen, wr_i64 (x := 4 * (tags.length : Int)) (by omega) (by omega), wr_i64 (by omega) (by omega), hd]
      refine brd (fun g => k1 _ _ u3 (by rw [if_pos (by omega)])) (fun g => k1 _ _ u3 (by rw [if_neg (by omega)]))
  · rw [if_neg hT]
    rw [if_pos hT] at k1
    exact brt (by decide) (k1 _ _ v2 rfl)

theorem c30 (h : Sees cTag w ts tags) (hd : ds.len = data.length) (hs : 0 ≤ src 0 ∧ src 0 < 256) (hl : data.length ≤ 140737488355328) (k : ∀ w1, Upd [] [] w w1 → R (.int .i64 (chk (src 0) tags type data.length)) w1) :
    Ret Try.prog 30 [.struct [.arr .u8 6 dst, .arr .u8 6 src, .slice ts, .int .i64 type, .slice ds]] w R := by
  refine f30_of _ _ _ _ _ _ _ ?_
  unfold vc30
  intro b w1 u1
  have k1 : ∀ e w2, Upd [] [] w w2 → chk (src 0) tags type data.length = e → R (.int .i64 e) w2 := fun e w2 u he => he ▸ k w2 u
  refine c14 hs fun w2 u2 => ⟨_, rfl, kp u2, ?_⟩
  have v2 := u1.then u2
  have hlen := h.len
  unfold chk at k1
  refine brb (fun hg => k1 _ _ v2 (by rw [if_pos (by unfold grp at hg; simpa using hg)])) (fun hg => ?_)
  rw [if_neg (by unfold grp at hg; simpa using hg)] at k1
  refine brd (fun h2 => k1 _ _ v2 (by rw [if_pos (by omega)])) (fun h2 => ?_)
  rw [if_neg (by omega)] at k1
  refine ⟨fun i w3 => Upd [] [] w w3 ∧ ∃ t : Nat, i = t ∧ t ≤ tags.length ∧ ∀ j (hj : j < tags.length), j < t → (tags[j].tpid = 33024 ∨ (j = 0 ∧ tags[j].tpid = 34984)), fun i _ => (tags.length - i).toNat, ⟨v2, 0, rfl, by omega, fun j _ hj => by omega⟩, ?_⟩
  rintro i w3 ⟨u3, t, rfl, ht, hj⟩
  have h3 := h.old u3
  refine brd (fun hlt => ?_) (fun hge => ?_)
  · have ht2 : t < tags.length := by omega
    have hc := tag_cells h3 (i := (t : Int)) (by omega) (by omega)
    simp only [Int.toNat_natCast] at hc
    refine needT h3 (by omega) (by omega) ⟨_, (by rw [Int.toNat_natCast]; exact hc.1), _, (by rw [Int.toNat_natCast]; exact hc.2.1), _, (by rw [Int.toNat_natCast]; exact hc.2.2.1), _, (by rw [Int.toNat_natCast]; exact hc.2.2.2), ?_⟩
    intro b4 w4 u4
    have v4 := u3.then u4
    have bad : (¬ (tags[t].tpid = 33024 ∨ (t = 0 ∧ tags[t].tpid = 34984))) → R (.int .i64 51) w4 := fun hb => k1 _ _ v4 (by rw [if_pos (fun hT => hb (hT t ht2))])
    have next : ∀ {X : Prop}, (tags[t].tpid = 33024 ∨ (t = 0 ∧ tags[t].tpid = 34984)) → ((Upd [] [] w w4 ∧ ∃ t' : Nat, wr .i64 ((t : Int) + 1) = t' ∧ t' ≤ tags.length ∧ ∀ j (hj : j < tags.length), j < t' → (tags[j].tpid = 33024 ∨ (j = 0 ∧ tags[j].tpid = 34984))) → (tags.length - wr .i64 ((t : Int) + 1)).toNat < (tags.length - (t : Int)).toNat → X) → X := fun hg K => K ⟨v4, t + 1, wr_succ (by omega), by omega, fun j hj2 hjt => by
        by_cases e : j = t
        · subst e; exact hg
        · exact hj j hj2 (by omega)⟩ (by rw [wr_succ (by omega)]; omega)
    refine c51 ⟨_, rfl, .inl (Upd.refl _), ?_⟩
    unfold isTagN
    refine brn (fun hf => bad ?_) (fun hf => bre (fun h4 => bre' (fun h5 => bad (by omega)) (fun h5 => next (.inl h5) (fun a b => ⟨rfl, a, b⟩))) (fun h4 => next ?_ (fun a b => ⟨rfl, a, b⟩)))
    · simp at hf; omega
    · simp at hf; omega
  · have hT : tagsT tags := fun j hj2 => hj j hj2 (by omega)
    rw [if_neg (by simpa using hT)] at k1
    refine ⟨fun i w4 => Upd [] [] w w4 ∧ ∃ t : Nat, i = t ∧ t ≤ tags.length ∧ ∀ j (hj : j < tags.length), j < t → tagV tags[j], fun i _ => (tags.length - i).toNat, ⟨u3, 0, rfl, by omega, fun j _ hj => by omega⟩, ?_⟩
    rintro i w4 ⟨u4, t, rfl, ht, hj⟩
    have h4 := h.old u4
    refine brd (fun hlt => ?_) (fun hge => ?_)
    · have ht2 : t < tags.length := by omega
      have hc := tag_cells h4 (i := (t : Int)) (by omega) (by omega)
      simp only [Int.toNat_natCast] at hc
      refine needT h4 (by omega) (by omega) ⟨_, (by rw [Int.toNat_natCast]; exact hc.1), _, (by rw [Int.toNat_natCast]; exact hc.2.1), _, (by rw [Int.toNat_natCast]; exact hc.2.2.1), _, (by rw [Int.toNat_natCast]; exact hc.2.2.2), ?_⟩
      intro b5
      have bad : ¬ tagV tags[t] → ∀ w5, Upd [] [b5] w4 w5 → R (.int .i64 52) w5 := fun hb w5 u5 => k1 _ _ (u4.then u5) (by
        rw [if_pos]
        intro hh
        exact hb (hh _ (List.getElem_mem _)))
      refine brd (fun g => bad (by unfold tagV; omega)) (fun g1 => brd (fun g => bad (by unfold tagV; omega)) (fun g2 => brd (fun g => bad (by unfold tagV; omega)) (fun g3 => brd (fun g => bad (by unfold tagV; omega)) (fun g4 w5 u5 => ⟨rfl, ⟨u4.then u5, t + 1, wr_succ (by omega), by omega, fun j hj2 hjt => ?_⟩, by rw [wr_succ (by omega)]; (try dsimp only); omega⟩))))
      by_cases e : j = t
      · subst e; unfold tagV; omega
      · exact hj j hj2 (by omega)
    · have hV : ∀ t ∈ tags, tagV t := fun x hx => by
        obtain ⟨j, hj2, rfl⟩ := List.getElem_of_mem hx
        exact hj j hj2 (by omega)
      rw [if_neg (by simpa using hV)] at k1
      intro J hJ
      have bad : (type < 1536 ∨ 65535 < type ∨ isTagN type = true) → R (.int .i64 53) w4 := fun hb => k1 _ _ u4 (by rw [if_pos hb])
      refine brd (fun g => bad (.inl g)) (fun g1 => brd (fun g => bad (.inr (.inl g))) (fun g2 => ?_))
      refine c51 ⟨_, rfl, .inl (Upd.refl _), brb (fun g => bad (.inr (.inr g))) (fun g => ⟨rfl, hJ _ ?_⟩)⟩
      rw [if_neg (by simp [g]; omega)] at k1
      rw [hlen, wr_i64 (x := 4 * (tags.length : Int)) (by omega) (by omega), wr_i64 (x := 14 + 4 * (tags.length : Int)) (by omega) (by omega), wr_i64 (by omega) (by omega), hd]
      refine brd (fun g => k1 _ _ u4 (by rw [if_pos (by omega)])) (fun g => k1 _ _ u4 (by rw [if_neg (by omega)]))
end
end Go.Vc.S5
