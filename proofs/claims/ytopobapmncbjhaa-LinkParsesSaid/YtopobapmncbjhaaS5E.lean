import Derived.Test.YtopobapmncbjhaaS5D
import Derived.Test.YtopobapmncbjhaaLoops2
open Go Go.Vc Go.Proofs
set_option linter.unusedVariables false
set_option linter.unusedSimpArgs false
set_option autoImplicit false
namespace Go.Vc.S5

def tci (t : Tag) : Int := t.pcp * 8192 + t.vid + if t.dei then 4096 else 0
def tagB (t : Tag) : List Int := two t.tpid ++ two (tci t)
def ser (f g : Nat → Int) (tags : List Tag) (type : Int) (data : List Int) : List Int := arrL 6 f ++ arrL 6 g ++ tags.flatMap tagB ++ two type ++ data
theorem flatMap_snoc {α β : Type} {l : List α} {t : Nat} (h : t < l.length) (g : α → List β) : (l.take (t + 1)).flatMap g = (l.take t).flatMap g ++ g l[t] := by
  rw [take_snoc h, List.flatMap_append]; simp
theorem tagB_len (t : Tag) : (tagB t).length = 4 := rfl
theorem tags_len : ∀ l : List Tag, (l.flatMap tagB).length = 4 * l.length
  | [] => rfl
  | t :: r => by rw [List.flatMap_cons, List.length_append, tags_len r, tagB_len]; simp; omega
theorem ior_tci {p v : Int} (hp : 0 ≤ p ∧ p ≤ 7) (hv : 0 ≤ v ∧ v ≤ 4094) : ior .i64 (gshl .i64 p 13) v = p * 8192 + v ∧ ior .i64 (ior .i64 (gshl .i64 p 13) v) 4096 = p * 8192 + v + 4096 := by
  rw [gshl13, wr_i64 (by omega) (by omega)]
  have e1 : ior .i64 (p * 8192) v = p * 8192 + v := ior_add 13 (by omega) (by omega) (by omega) (by omega) (by omega) (by omega)
  refine ⟨e1, ?_⟩
  have e2 : ior .i64 4096 v = 4096 + v := ior_add 12 (by omega) (by omega) (by omega) (by omega) (by omega) (by omega)
  have e3 : ior .i64 (p * 8192) (ior .i64 4096 v) = p * 8192 + (4096 + v) := by rw [e2]; exact ior_add 13 (by omega) (by omega) (by omega) (by omega) (by omega) (by omega)
  rw [show p * 8192 + v + 4096 = p * 8192 + (4096 + v) by omega, ← e3]
  rw [ior_nat (a := p * 8192) (b := v) (by omega) (by omega) (by omega) (by omega), ior_nat (a := 4096) (b := v) (by omega) (by omega) (by omega) (by omega)]
  have l1 : (p * 8192).toNat ||| v.toNat < 2 ^ 63 := Nat.or_lt_two_pow (by omega) (by omega)
  have l2 : (4096 : Int).toNat ||| v.toNat < 2 ^ 63 := Nat.or_lt_two_pow (by decide) (by omega)
  rw [ior_nat (by omega) (by omega) (by omega) (by omega), ior_nat (by omega) (by omega) (by omega) (by omega)]
  simp only [Int.toNat_natCast]
  rw [Nat.or_assoc, Nat.or_comm v.toNat]

section
variable {dst src : Nat → Int} {ts ds : Sl} {tags : List Tag} {type : Int} {data : List Int} {w : World} {R : SV → World → Prop}
theorem chk_ok (h : chk (src 0) tags type data.length = 0) : src 0 % 2 ≠ 1 ∧ tags.length ≤ 2 ∧ tagsT tags ∧ (∀ t ∈ tags, tagV t) ∧ 1536 ≤ type ∧ type ≤ 65535 ∧ isTagN type = false ∧ 14 + 4 * tags.length + data.length ≤ 65535 := by
  unfold chk at h
  split at h; · omega
  split at h; · omega
  split at h; · omega
  split at h; · omega
  split at h; · omega
  split at h; · omega
  rename_i h1 h2 h3 h4 h5 h6
  refine ⟨h1, by omega, Classical.not_not.1 h3, Classical.not_not.1 h4, by omega, by omega, ?_, by omega⟩
  cases hT : isTagN type
  · rfl
  · exact absurd (.inr (.inr hT)) h5

theorem arr_take (f : Nat → Int) : ((arrL 6 f).take 6).drop 0 = arrL 6 f := by
  rw [List.take_of_length_le (by rw [arrL_len]; omega)]; rfl

set_option maxRecDepth 10000 in
theorem c31 (h : Sees cTag w ts tags) (hd : SeesB w ds data) (hs : 0 ≤ src 0 ∧ src 0 < 256) (hl : data.length ≤ 140737488355328)
    (ke : ∀ w1, chk (src 0) tags type data.length ≠ 0 → Upd [] [] w w1 → R (.tuple [.slice nilS, .int .i64 (chk (src 0) tags type data.length)]) w1)
    (ko : ∀ s w1, chk (src 0) tags type data.length = 0 → Upd [] [] w w1 → SeesB w1 s (ser dst src tags type data) → Own w.heap.size 1 w1 s → R (.tuple [.slice s, .int .i64 0]) w1) :
    Ret Try.prog 31 [frSV dst src ts type ds] w R := by
  refine f31_of _ _ _ _ _ _ _ ?_
  unfold vc31
  intro b w1 u1
  refine c30 (h.old u1) hd.len hs hl fun w2 u2 => ⟨_, rfl, kp u2, ?_⟩
  have v2 := u1.then u2
  refine bre' (fun hne => ke _ hne v2) (fun he => ?_)
  rw [he] at ko
  obtain ⟨_, h2, hT, hV, ht1, ht2, _, hsz⟩ := chk_ok he
  intro hrow
  have hb : w.heap.size ≤ b ∧ b < w2.heap.size := by have := u1.new (b := b) (by simp); have := u2.size; omega
  have hcs : ∀ (i : Nat) v, (SV.cells (frSV dst src ts type ds))[i]? = some v → ∀ w3 m n, Upd m n w2 w3 → b ∉ m → w3.cell? ((⟨b, 0, none⟩ : Addr).add i) = some v := by
    intro i v hv w3 m n u hm
    have h1 : w2.cell? ((⟨b, 0, none⟩ : Addr).add i) = some v := by
      rw [add_none, cell_of_block hrow]
      simpa using hv
    rw [u.cell' (by rw [h1]; rfl) (by rw [add_none]; exact hm)]
    exact h1
  have hcells : SV.cells (frSV dst src ts type ds) = cU8.cells (arrL 6 dst) ++ cU8.cells (arrL 6 src) ++ [ts.val, .int .i64 type, ds.val] := by
    simp [SV.cells, SV.cellsL, ← arrL_cells]
  have hl12 : (cU8.cells (arrL 6 dst) ++ cU8.cells (arrL 6 src)).length = 12 := by
    rw [List.length_append, Cod.cells_length, Cod.cells_length, arrL_len, arrL_len]; rfl
  have g12 : ∀ w3, Upd [] [] w2 w3 → w3.cell? ((⟨b, 0, none⟩ : Addr).add 12) = some ts.val := fun w3 u => hcs 12 _ (by rw [hcells, List.getElem?_append_right (by omega), hl12]; rfl) w3 _ _ u (by simp)
  have g13 : ∀ w3, Upd [] [] w2 w3 → w3.cell? ((⟨b, 0, none⟩ : Addr).add 13) = some (.int .i64 type) := fun w3 u => hcs 13 _ (by rw [hcells, List.getElem?_append_right (by omega), hl12]; rfl) w3 _ _ u (by simp)
  have g14 : ∀ w3, Upd [] [] w2 w3 → w3.cell? ((⟨b, 0, none⟩ : Addr).add 14) = some ds.val := fun w3 u => hcs 14 _ (by rw [hcells, List.getElem?_append_right (by omega), hl12]; rfl) w3 _ _ u (by simp)
  have s1 := rowMid (o := 0) (n := 6) (cap := 6) hrow [] (cU8.cells (arrL 6 src) ++ [ts.val, .int .i64 type, ds.val]) (arrL 6 dst) (by rw [hcells]; simp) rfl (arrL_len _ _).symm
  have s2 := rowMid (o := 6) (n := 6) (cap := 6) hrow (cU8.cells (arrL 6 dst)) [ts.val, .int .i64 type, ds.val] (arrL 6 src) hcells (by rw [Cod.cells_length, arrL_len]; rfl) (arrL_len _ _).symm
  have s1' := s1.subB (lo := 0) (hi := 6) (mx := 6) (by omega) (by rw [arrL_len]; omega) (by omega)
  have s2' := s2.subB (lo := 0) (hi := 6) (mx := 6) (by omega) (by rw [arrL_len]; omega) (by omega)
  rw [arr_take] at s1' s2'
  have h2' := (h.old u1).old u2
  have hd2 := (hd.old u1).old u2
  refine ⟨[], fun x hx => by simp at hx, ⟨?_, ?_⟩, ?_⟩
  all_goals
    intro w3 u3
    refine c40 (s1'.old u3) (by rw [arrL_len]; omega) fun s w4 u4 hs4 ho4 => ⟨_, rfl, ?_⟩
    have v4 := u3.then u4
    refine append_own (c := cU8) hs4 ho4 (show SeesB w4 _ (arrL 6 src) from s2'.old v4) u4.size (by simp) (by decide) (by simp [arrL_len]) fun r w5 hr5 ho5 u5 _ => ?_
    have v5 := v4.step0 u5 (fun x hx => by have := (ho4.blk x hx).1; have := u3.size; omega)
    refine ⟨_, g12 _ v5, ?_⟩
    refine ⟨fun s n w6 => Upd [] [] w2 w6 ∧ Own w2.heap.size 1 w6 s ∧ ∃ t : Nat, n = t ∧ t ≤ tags.length ∧ SeesB w6 s (arrL 6 dst ++ arrL 6 src ++ (tags.take t).flatMap tagB), fun _ n _ => (tags.length - n).toNat, ⟨v5, ho5.mono u3.size, 0, rfl, by omega, by simpa using hr5⟩, ?_⟩
    rintro s n w6 ⟨u6, o6, t, rfl, ht, hs6⟩
    have hlen := h.len
    refine brd (fun hlt => ?_) (fun hge => ?_)
    · have ht2 : t < tags.length := by omega
      have h6 := h2'.old u6
      have hc := tag_cells h6 (i := (t : Int)) (by omega) (by omega)
      simp only [Int.toNat_natCast] at hc
      refine needT h6 (by omega) (by omega) ⟨_, (by rw [Int.toNat_natCast]; exact hc.1), _, (by rw [Int.toNat_natCast]; exact hc.2.1), _, (by rw [Int.toNat_natCast]; exact hc.2.2.1), _, (by rw [Int.toNat_natCast]; exact hc.2.2.2), ?_⟩
      have hv := hV _ (List.getElem_mem ht2)
      unfold tagV at hv
      have ht4 : ((tags.take t).flatMap tagB).length ≤ 8 := by rw [tags_len, List.length_take]; omega
      intro b1 J hJ
      have fin : ∀ w7, Upd [] [b1] w6 w7 → J (tci tags[t]) w7 := by
        intro w7 u7
        have hb1 := u7.new (b := b1) (by simp)
        refine hJ _ _ ?_
        have v7 := u6.then u7
        have o7 := o6.old u7
        refine c44 (hs6.old u7) o7 v7.size (by simp only [List.length_append, arrL_len]; omega) fun r w8 u8 hr8 ho8 hn8 => ⟨_, rfl, ?_, ?_⟩
        · exact kpm u8 (by simp; omega) (fun x hx hm => by have := (o6.blk x hm).2; simp at hx; omega)
        have v8 := v7.step0 u8 (fun x hx => (o7.blk x hx).1)
        refine c44 hr8 ho8 v8.size (by simp only [List.length_append, arrL_len, two, List.length_cons, List.length_nil]; omega) fun r2 w9 u9 hr9 ho9 hn9 => ⟨_, rfl, ?_, ?_⟩
        · exact kpm u9 (by have := u8.size; simp; omega) (fun x hx hm => by
            simp at hx; subst hx
            rcases hn8 x hm with h' | h'
            · have := (o6.blk x h').2; omega
            · omega)
        have v9 := v8.step0 u9 (fun x hx => (ho8.blk x hx).1)
        refine ⟨⟨v9, ho9, t + 1, wr_succ (by omega), by omega, ?_⟩, by rw [wr_succ (by omega)]; (try dsimp only); omega⟩
        rw [flatMap_snoc ht2]
        rw [show tagB tags[t] = two tags[t].tpid ++ two (tci tags[t]) from rfl, ← List.append_assoc, ← List.append_assoc]
        exact hr9
      have hi := ior_tci (p := tags[t].pcp) (v := tags[t].vid) (by omega) (by omega)
      refine brb (fun hde w7 u7 => ?_) (fun hde w7 u7 => ?_)
      · have := fin w7 u7
        unfold tci at this
        rw [if_pos hde] at this
        rw [hi.2]
        exact ⟨rfl, this⟩
      · have := fin w7 u7
        unfold tci at this
        rw [if_neg (by simp [hde])] at this
        rw [hi.1]
        simpa using this
    · have ht2 : t = tags.length := by omega
      subst ht2
      rw [List.take_length] at hs6
      refine ⟨[b], fun x hx => ?_, by rw [add_none]; simp, _, g13 _ u6, by rw [add_none]; simp, _, g14 _ u6, fun w7 u7 => ?_⟩
      · have hx : x = b := by simpa using hx
        subst hx
        exact Nat.lt_of_lt_of_le hb.2 u6.size
      have v7 := u6.then u7
      have ht4 : (tags.flatMap tagB).length ≤ 8 := by rw [tags_len]; omega
      refine c44 (hs6.old u7) (o6.old u7) v7.size (by simp only [List.length_append, arrL_len]; omega) fun r w8 u8 hr8 ho8 hn8 => ⟨_, rfl, ?_, ?_⟩
      · intro x hx
        have hx : x = b := by simpa using hx
        subst hx
        have y6 := u6.size
        have y7 := u7.size
        rw [u8.keep x (by omega) (fun hm => by have := (o6.blk x hm).1; omega), u7.keep x (by omega) (by simp)]
      have v8 := v7.step0 u8 (fun x hx => (o6.blk x hx).1)
      refine append_own (c := cU8) hr8 ho8 (hd2.old v8) v8.size (by simp) (by decide) (by simp only [List.length_append, arrL_len, two, List.length_cons, List.length_nil]; omega) fun r2 w9 hr9 ho9 u9 _ => ?_
      exact ko r2 w9 rfl (v2.step0 (v8.step u9 (m := []) (fun x hx => .inl (ho8.blk x hx).1)) (by simp)) hr9 (ho9.mono v2.size)
end
end Go.Vc.S5
