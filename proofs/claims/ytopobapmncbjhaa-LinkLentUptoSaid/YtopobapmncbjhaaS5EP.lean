import Derived.Test.YtopobapmncbjhaaS5CD
import Derived.Test.YtopobapmncbjhaaLoops2
section
open Go Go.Vc Go.Proofs
set_option linter.unusedVariables false
set_option linter.unusedSimpArgs false
set_option autoImplicit false
namespace Go.Vc.S5

def tci (t : Tag) : Int := t.pcp * 8192 + t.vid + if t.dei then 4096 else 0
def tagB (t : Tag) : List Int := two t.tpid ++ two (tci t)
def ser (f g : Nat → Int) (tags : List Tag) (type : Int) (data : List Int) : List Int := arrL 6 f ++ arrL 6 g ++ tags.flatMap tagB ++ two type ++ data
theorem flatMap_snoc {α β : Type} {l : List α} {t : Nat} (h : t < l.length) (g : α → List β) : (l.take (t + 1)).flatMap g = (l.take t).flatMap g ++ g l[t] := by
  rw [take_snoc h, List.flatMap_append]; simp
theorem tagB_len (t : Tag) : (tagB t).length = 4 := rfl
theorem tags_len : ∀ l : List Tag, (l.flatMap tagB).length = 4 * l.length
  | [] => rfl
  | t :: r => by rw [List.flatMap_cons, List.length_append, tags_len r, tagB_len]; simp; omega
theorem ior_tci {p v : Int} (hp : 0 ≤ p ∧ p ≤ 7) (hv : 0 ≤ v ∧ v ≤ 4094) : ior .i64 (gshl .i64 p 13) v = p * 8192 + v ∧ ior .i64 (ior .i64 (gshl .i64 p 13) v) 4096 = p * 8192 + v + 4096 := by
  rw [gshl13, wr_i64 (by omega) (by omega)]
  have e1 : ior .i64 (p * 8192) v = p * 8192 + v := ior_add 13 (by omega) (by omega) (by omega) (by omega) (by omega) (by omega)
  refine ⟨e1, ?_⟩
  have e2 : ior .i64 4096 v = 4096 + v := ior_add 12 (by omega) (by omega) (by omega) (by omega) (by omega) (by omega)
  have e3 : ior .i64 (p * 8192) (ior .i64 4096 v) = p * 8192 + (4096 + v) := by rw [e2]; exact ior_add 13 (by omega) (by omega) (by omega) (by omega) (by omega) (by omega)
  rw [show p * 8192 + v + 4096 = p * 8192 + (4096 + v) by omega, ← e3]
  rw [ior_nat (a := p * 8192) (b := v) (by omega) (by omega) (by omega) (by omega), ior_nat (a := 4096) (b := v) (by omega) (by omega) (by omega) (by omega)]
  have l1 : (p * 8192).toNat ||| v.toNat < 2 ^ 63 := Nat.or_lt_two_pow (by omega) (by omega)
  have l2 : (4096 : Int).toNat ||| v.toNat < 2 ^ 63 := Nat.or_lt_two_pow (by decide) (by omega)
  rw [ior_nat (by omega) (by omega) (by omega) (by omega), ior_nat (by omega) (by omega) (by omega) (by omega)]
  simp only [Int.toNat_natCast]
  rw [Nat.or_assoc, Nat.or_comm v.toNat]

section
variable {dst src : Nat → Int} {ts ds : Sl} {tags : List Tag} {type : Int} {data : List Int} {w : World} {R : SV → World → Prop}
theorem chk_ok (h : chk (src 0) tags type data.length = 0) : src 0 % 2 ≠ 1 ∧ tags.length ≤ 2 ∧ tagsT tags ∧ (∀ t ∈ tags, tagV t) ∧ 1536 ≤ type ∧ type ≤ 65535 ∧ isTagN type = false ∧ 14 + 4 * tags.length + data.length ≤ 65535 := by
  unfold chk at h
  split at h; · omega
  split at h; · omega
  split at h; · omega
  split at h; · omega
  split at h; · omega
  split at h; · omega
  rename_i h1 h2 h3 h4 h5 h6
  refine ⟨h1, by omega, Classical.not_not.1 h3, Classical.not_not.1 h4, by omega, by omega, ?_, by omega⟩
  cases hT : isTagN type
  · rfl
  · exact absurd (.inr (.inr hT)) h5

theorem arr_take (f : Nat → Int) : ((arrL 6 f).take 6).drop 0 = arrL 6 f := by
  rw [List.take_of_length_le (by rw [arrL_len]; omega)]; rfl

set_option maxRecDepth 10000 in
theorem c31 (h : Sees cTag w ts tags) (hd : SeesB w ds data) (hs : 0 ≤ src 0 ∧ src 0 < 256) (hl : data.length ≤ 140737488355328)
    (ke : ∀ w1, chk (src 0) tags type data.length ≠ 0 → Upd [] [] w w1 → R (.tuple [.slice nilS, .int .i64 (chk (src 0) tags type data.length)]) w1)
    (ko : ∀ s w1, chk (src 0) tags type data.length = 0 → Upd [] [] w w1 → SeesB w1 s (ser dst src tags type data) → Own w.heap.size 1 w1 s → R (.tuple [.slice s, .int .i64 0]) w1) :
    Ret Try.prog 31 [frSV dst src ts type ds] w R := by
  refine f31_of _ _ _ _ _ _ _ ?_
  unfold vc31
  intro b w1 u1
  refine c30 (h.old u1) hd.len hs hl fun w2 u2 => ⟨_, rfl, kp u2, ?_⟩
  have v2 := u1.then u2
  refine bre' (fun hne => ke _ hne v2) (fun he => ?_)
  rw [he] at ko
  obtain ⟨_, h2, hT, hV, ht1, ht2, _, hsz⟩ := chk_ok he
  intro hrow
  have hb : w.heap.size ≤ b ∧ b < w2.heap.size := by have := u1.new (b := b) (by simp); have := u2.size; omega
  have hcs : ∀ (i : Nat) v, (SV.cells (frSV dst src ts type ds))[i]? = some v → ∀ w3 m n, Upd m n w2 w3 → b ∉ m → w3.cell? ((⟨b, 0, none⟩ : Addr).add i) = some v := by
    intro i v hv w3 m n u hm
    have h1 : w2.cell? ((⟨b, 0, none⟩ : Addr).add i) = some v := by
      rw [add_none, cell_of_block hrow]
      simpa using hv
    rw [u.cell' (by rw [h1]; rfl) (by rw [add_none]; exact hm)]
    exact h1
  have hcells : SV.cells (frSV dst src ts type ds) = cU8.cells (arrL 6 dst) ++ cU8.cells (arrL 6 src) ++ [ts.val, .int .i64 type, ds.val] := by
    simp [SV.cells, SV.cellsL, ← arrL_cells]
  have hl12 : (cU8.cells (arrL 6 dst) ++ cU8.cells (arrL 6 src)).length = 12 := by
    rw [List.length_append, Cod.cells_length, Cod.cells_length, arrL_len, arrL_len]; rfl
  have g12 : ∀ w3, Upd [] [] w2 w3 → w3.cell? ((⟨b, 0, none⟩ : Addr).add 12) = some ts.val := fun w3 u => hcs 12 _ (by rw [hcells, List.getElem?_append_right (by omega), hl12]; rfl) w3 _ _ u (by simp)
  have g13 : ∀ w3, Upd [] [] w2 w3 → w3.cell? ((⟨b, 0, none⟩ : Addr).add 13) = some (.int .i64 type) := fun w3 u => hcs 13 _ (by rw [hcells, List.getElem?_append_right (by omega), hl12]; rfl) w3 _ _ u (by simp)
  have g14 : ∀ w3, Upd [] [] w2 w3 → w3.cell? ((⟨b, 0, none⟩ : Addr).add 14) = some ds.val := fun w3 u => hcs 14 _ (by rw [hcells, List.getElem?_append_right (by omega), hl12]; rfl) w3 _ _ u (by simp)
  have s1 := rowMid (o := 0) (n := 6) (cap := 6) hrow [] (cU8.cells (arrL 6 src) ++ [ts.val, .int .i64 type, ds.val]) (arrL 6 dst) (by rw [hcells]; simp) rfl (arrL_len _ _).symm
  have s2 := rowMid (o := 6) (n := 6) (cap := 6) hrow (cU8.cells (arrL 6 dst)) [ts.val, .int .i64 type, ds.val] (arrL 6 src) hcells (by rw [Cod.cells_length, arrL_len]; rfl) (arrL_len _ _).symm
  have s1' := s1.subB (lo := 0) (hi := 6) (mx := 6) (by omega) (by rw [arrL_len]; omega) (by omega)
  have s2' := s2.subB (lo := 0) (hi := 6) (mx := 6) (by omega) (by rw [arrL_len]; omega) (by omega)
  rw [arr_take] at s1' s2'
  have h2' := (h.old u1).old u2
  have hd2 := (hd.old u1).old u2
  refine ⟨[], fun x hx => by simp at hx, ⟨?_, ?_⟩, ?_⟩
  all_goals
    intro w3 u3
    refine c40 (s1'.old u3) (by rw [arrL_len]; omega) fun s w4 u4 hs4 ho4 => ⟨_, rfl, ?_⟩
    have v4 := u3.then u4
    refine append_own (c := cU8) hs4 ho4 (show SeesB w4 _ (arrL 6 src) from s2'.old v4) u4.size (by simp) (by decide) (by simp [arrL_len]) fun r w5 hr5 ho5 u5 _ => ?_
    have v5 := v4.step0 u5 (fun x hx => by have := (ho4.blk x hx).1; have := u3.size; omega)
    refine ⟨_, g12 _ v5, ?_⟩
    refine ⟨fun s n w6 => Upd [] [] w2 w6 ∧ Own w2.heap.size 1 w6 s ∧ ∃ t : Nat, n = t ∧ t ≤ tags.length ∧ SeesB w6 s (arrL 6 dst ++ arrL 6 src ++ (tags.take t).flatMap tagB), fun _ n _ => (tags.length - n).toNat, ⟨v5, ho5.mono u3.size, 0, rfl, by omega, by simpa using hr5⟩, ?_⟩
    rintro s n w6 ⟨u6, o6, t, rfl, ht, hs6⟩
    have hlen := h.len
    refine brd (fun hlt => ?_) (fun hge => ?_)
    · have ht2 : t < tags.length := by omega
      have h6 := h2'.old u6
      have hc := tag_cells h6 (i := (t : Int)) (by omega) (by omega)
      simp only [Int.toNat_natCast] at hc
      refine needT h6 (by omega) (by omega) ⟨_, (by rw [Int.toNat_natCast]; exact hc.1), _, (by rw [Int.toNat_natCast]; exact hc.2.1), _, (by rw [Int.toNat_natCast]; exact hc.2.2.1), _, (by rw [Int.toNat_natCast]; exact hc.2.2.2), ?_⟩
      have hv := hV _ (List.getElem_mem ht2)
      unfold tagV at hv
      have ht4 : ((tags.take t).flatMap tagB).length ≤ 8 := by rw [tags_len, List.length_take]; omega
      intro b1 J hJ
      have fin : ∀ w7, Upd [] [b1] w6 w7 → J (tci tags[t]) w7 := by
        intro w7 u7
        have hb1 := u7.new (b := b1) (by simp)
        refine hJ _ _ ?_
        have v7 := u6.then u7
        have o7 := o6.old u7
        refine c44 (hs6.old u7) o7 v7.size (by simp only [List.length_append, arrL_len]; omega) fun r w8 u8 hr8 ho8 hn8 => ⟨_, rfl, ?_, ?_⟩
        · exact kpm u8 (by simp; omega) (fun x hx hm => by have := (o6.blk x hm).2; simp at hx; omega)
        have v8 := v7.step0 u8 (fun x hx => (o7.blk x hx).1)
        refine c44 hr8 ho8 v8.size (by simp only [List.length_append, arrL_len, two, List.length_cons, List.length_nil]; omega) fun r2 w9 u9 hr9 ho9 hn9 => ⟨_, rfl, ?_, ?_⟩
        · exact kpm u9 (by have := u8.size; simp; omega) (fun x hx hm => by
            simp at hx; subst hx
            rcases hn8 x hm with h' | h'
            · have := (o6.blk x h').2; omega
            · omega)
        have v9 := v8.step0 u9 (fun x hx => (ho8.blk x hx).1)
        refine ⟨⟨v9, ho9, t + 1, wr_succ (by omega), by omega, ?_⟩, by rw [wr_succ (by omega)]; (try dsimp only); omega⟩
        rw [flatMap_snoc ht2]
        rw [show tagB tags[t] = two tags[t].tpid ++ two (tci tags[t]) from rfl, ← List.append_assoc, ← List.append_assoc]
        exact hr9
      have hi := ior_tci (p := tags[t].pcp) (v := tags[t].vid) (by omega) (by omega)
      refine brb (fun hde w7 u7 => ?_) (fun hde w7 u7 => ?_)
      · have := fin w7 u7
        unfold tci at this
        rw [if_pos hde] at this
        rw [hi.2]
        exact ⟨rfl, this⟩
      · have := fin w7 u7
        unfold tci at this
        rw [if_neg (by simp [hde])] at this
        rw [hi.1]
        simpa using this
    · have ht2 : t = tags.length := by omega
      subst ht2
      rw [List.take_length] at hs6
      refine ⟨[b], fun x hx => ?_, by rw [add_none]; simp, _, g13 _ u6, by rw [add_none]; simp, _, g14 _ u6, fun w7 u7 => ?_⟩
      · have hx : x = b := by simpa using hx
        subst hx
        exact Nat.lt_of_lt_of_le hb.2 u6.size
      have v7 := u6.then u7
      have ht4 : (tags.flatMap tagB).length ≤ 8 := by rw [tags_len]; omega
      refine c44 (hs6.old u7) (o6.old u7) v7.size (by simp only [List.length_append, arrL_len]; omega) fun r w8 u8 hr8 ho8 hn8 => ⟨_, rfl, ?_, ?_⟩
      · intro x hx
        have hx : x = b := by simpa using hx
        subst hx
        have y6 := u6.size
        have y7 := u7.size
        rw [u8.keep x (by omega) (fun hm => by have := (o6.blk x hm).1; omega), u7.keep x (by omega) (by simp)]
      have v8 := v7.step0 u8 (fun x hx => (o6.blk x hx).1)
      refine append_own (c := cU8) hr8 ho8 (hd2.old v8) v8.size (by simp) (by decide) (by simp only [List.length_append, arrL_len, two, List.length_cons, List.length_nil]; omega) fun r2 w9 hr9 ho9 u9 _ => ?_
      exact ko r2 w9 rfl (v2.step0 (v8.step u9 (m := []) (fun x hx => .inl (ho8.blk x hx).1)) (by simp)) hr9 (ho9.mono v2.size)
end
end Go.Vc.S5
end

section
open Go Go.Vc Go.Proofs
set_option linter.unusedVariables false
set_option linter.unusedSimpArgs false
set_option autoImplicit false
namespace Go.Vc.S5

theorem two_w16 {l : List Int} (hb : Byt l) {i : Nat} (h : i + 1 < l.length) : two (w16 l (i : Nat)) = [l[i], l[i + 1]] := by
  have h1 := hb.bt (i : Nat)
  have h2 := hb.bt ((i : Int) + 1)
  have e1 := bt_nat (l := l) (i := i) (by omega)
  have e2 : bt l ((i : Int) + 1) = l[i + 1] := by
    have := bt_nat (l := l) (i := i + 1) h
    simpa using this
  unfold two w16
  rw [← e1, ← e2]
  congr 1
  · omega
  · congr 1
    omega
theorem take_two {l : List Int} (hb : Byt l) {i : Nat} (h : i + 2 ≤ l.length) : l.take (i + 2) = l.take i ++ two (w16 l (i : Nat)) := by
  rw [two_w16 hb (by omega), take_snoc (show i + 1 < l.length by omega), take_snoc (show i < l.length by omega), List.append_assoc]
  rfl
theorem tci_of {v : Int} (h : 0 ≤ v ∧ v ≤ 65535) (n : Int) : tci ⟨n, v / 8192, v / 4096 % 2 == 1, v % 4096⟩ = v := by
  unfold tci
  by_cases e : v / 4096 % 2 = 1
  · simp [e]; omega
  · simp [e]; omega

structure Good (l : List Int) (tags : List Tag) (t : Nat) : Prop where
  pos : t = 12 + 4 * tags.length
  lim : t + 2 ≤ l.length
  tpid : tagsT tags
  val : ∀ x ∈ tags, tagV x
  pre : l.take t = l.take 12 ++ tags.flatMap tagB
theorem ploop_ok {l : List Int} (hb : Byt l) : ∀ (f : Nat) (tags : List Tag) (t : Nat) (tags' : List Tag) (t' : Nat), f + tags.length = 3 → Good l tags t → ploop l f tags t = .ok (tags', t') →
    Good l tags' t' ∧ tags'.length ≤ 2 ∧ isTagN (w16 l t') = false ∧ 1536 ≤ w16 l t'
  | 0, tags, t, tags', t', hf, hg, h => by simp [ploop] at h
  | f + 1, tags, t, tags', t', hf, hg, h => by
    unfold ploop at h
    split at h
    · rename_i hT
      split at h; · cases h
      split at h; · cases h
      split at h; · cases h
      rename_i h1 h2 h3
      have hr := w16_r hb ((t + 2 : Nat) : Int)
      refine ploop_ok hb f _ _ _ _ (by simp; omega) ⟨by have := hg.pos; simp; omega, by omega, fun i hi => ?_, fun x hx => ?_, ?_⟩ h
      · rcases Nat.lt_or_ge i tags.length with hlt | hge
        · rw [List.getElem_append_left hlt]; exact hg.tpid i hlt
        · rw [List.getElem_append_right hge]
          simp at hi
          simp only [List.getElem_singleton]
          simp [isTagN] at hT
          have : i = tags.length := by omega
          omega
      · rcases List.mem_append.1 hx with hx | hx
        · exact hg.val x hx
        · obtain rfl := List.mem_singleton.1 hx
          unfold tagV
          dsimp only
          omega
      · rw [show t + 4 = (t + 2) + 2 by omega, take_two hb (by omega), take_two hb (by omega), hg.pre, List.flatMap_append]
        have e : tagB ⟨w16 l t, w16 l ((t + 2 : Nat) : Int) / 8192, w16 l ((t + 2 : Nat) : Int) / 4096 % 2 == 1, w16 l ((t + 2 : Nat) : Int) % 4096⟩ = two (w16 l t) ++ two (w16 l ((t + 2 : Nat) : Int)) := by
          unfold tagB
          rw [tci_of hr]
        simp only [List.flatMap_cons, List.flatMap_nil, List.append_nil, e, List.append_assoc]
    · rename_i hT
      split at h; · cases h
      rename_i h1
      injection h with h
      injection h with h2 h3
      subst h2 h3
      exact ⟨hg, by omega, by simpa using hT, by omega⟩
theorem parse_ok {l : List Int} (hb : Byt l) {tags : List Tag} {t : Nat} (h : parse l = .ok (tags, t)) : l.length ≤ 65535 ∧ 14 ≤ l.length ∧ bt l 6 % 2 ≠ 1 ∧ Good l tags t ∧ tags.length ≤ 2 ∧ isTagN (w16 l t) = false ∧ 1536 ≤ w16 l t := by
  unfold parse at h
  split at h; · cases h
  split at h; · cases h
  split at h; · cases h
  rename_i h1 h2 h3
  exact ⟨by omega, by omega, h3, ploop_ok hb 3 [] 12 tags t rfl ⟨rfl, by omega, fun i hi => by simp at hi, by simp, by simp⟩ h⟩
theorem chk_zero {s0 type : Int} {tags : List Tag} {n : Nat} (h1 : s0 % 2 ≠ 1) (h2 : tags.length ≤ 2) (h3 : tagsT tags) (h4 : ∀ t ∈ tags, tagV t) (h5 : 1536 ≤ type) (h6 : type ≤ 65535) (h7 : isTagN type = false) (h8 : 14 + 4 * tags.length + n ≤ 65535) :
    chk s0 tags type n = 0 := by
  unfold chk
  rw [if_neg h1, if_neg (by omega), if_neg (not_not_intro h3), if_neg (not_not_intro h4), if_neg (by simp [h7]; omega), if_neg (by omega)]
theorem arr6 {l : List Int} {f : Nat → Int} {k : Nat} (h : k + 6 ≤ l.length) (hf : ∀ i, i < 6 → f i = bt l ((k + i : Nat) : Int)) : arrL 6 f = (l.take (k + 6)).drop k := by
  refine List.ext_getElem (by rw [arrL_len]; simp; omega) fun i h1 h2 => ?_
  rw [arrL_len] at h1
  have h3 : k + i < l.length := by omega
  simp only [arrL, List.getElem_map, List.getElem_range, List.getElem_drop, List.getElem_take]
  rw [hf i h1, bt_nat h3]
/-- what was read is written as it was -/
theorem ser_parse {l : List Int} (hb : Byt l) {tags : List Tag} {t : Nat} (h : parse l = .ok (tags, t)) {f g : Nat → Int} (hf : ∀ i, i < 6 → f i = bt l (i : Nat)) (hg : ∀ i, i < 6 → g i = bt l ((6 + i : Nat) : Int)) :
    chk (g 0) tags (w16 l t) (l.drop (t + 2)).length = 0 ∧ ser f g tags (w16 l t) (l.drop (t + 2)) = l := by
  obtain ⟨h1, h2, h3, h4, h5, h6, h7⟩ := parse_ok hb h
  have hp := h4.pos
  have hlim := h4.lim
  have hr := w16_r hb t
  refine ⟨chk_zero (by rw [hg 0 (by omega)]; exact h3) h5 h4.tpid h4.val h7 hr.2 h6 (by rw [List.length_drop]; omega), ?_⟩
  unfold ser
  rw [arr6 (l := l) (f := f) (k := 0) (by omega) (fun i hi => by rw [hf i hi]; congr 1; omega), arr6 (l := l) (f := g) (k := 6) (by omega) hg]
  have e12 : (l.take (0 + 6)).drop 0 ++ (l.take (6 + 6)).drop 6 = l.take 12 := by
    rw [List.drop_zero, show l.take (0 + 6) = (l.take (6 + 6)).take 6 by rw [List.take_take]; rfl, List.take_append_drop]
  rw [e12, ← h4.pre, ← take_two hb hlim, List.take_append_drop]
/-- and read as it was -/
theorem small_parse : parse [255, 255, 255, 255, 255, 255, 2, 0, 0, 0, 0, 1, 8, 0, 7] = .ok ([], 12) := by
  simp [parse, ploop, w16, bt, isTagN]
end Go.Vc.S5
end

section
open Go Go.Vc Go.Proofs
set_option linter.unusedVariables false
set_option linter.unusedSimpArgs false
set_option autoImplicit false
namespace Go.Vc.S5

theorem w16_mid (A B : List Int) {n : Int} (h : 0 ≤ n ∧ n ≤ 65535) {i : Int} (hi : i = A.length) : w16 (A ++ (two n ++ B)) i = n := by
  subst hi
  unfold w16 bt two
  have e1 : ((A.length : Int)).toNat = A.length := by omega
  have e2 : ((A.length : Int) + 1).toNat = A.length + 1 := by omega
  rw [e1, e2]
  simp [List.getElem?_append_right]
  omega
theorem tci_r {t : Tag} (h : tagV t) : 0 ≤ tci t ∧ tci t ≤ 65535 ∧ tci t % 4096 = t.vid ∧ tci t / 8192 = t.pcp ∧ (tci t / 4096 % 2 == 1) = t.dei := by
  unfold tagV at h
  unfold tci
  cases hd : t.dei <;> simp <;> omega
theorem ploop_ser {type : Int} {data : List Int} (h1 : 1536 ≤ type) (h2 : type ≤ 65535) (h3 : isTagN type = false) : ∀ (rest done : List Tag) (A : List Int) (fuel : Nat), fuel + done.length = 3 → done.length + rest.length ≤ 2 →
    tagsT (done ++ rest) → (∀ x ∈ rest, tagV x) → ploop (A ++ (rest.flatMap tagB ++ (two type ++ data))) fuel done A.length = .ok (done ++ rest, A.length + 4 * rest.length)
  | [], done, A, fuel, hf, hl, hT, hV => by
    obtain ⟨f, rfl⟩ : ∃ f, fuel = f + 1 := ⟨fuel - 1, by omega⟩
    unfold ploop
    rw [List.flatMap_nil, List.nil_append, w16_mid A data ⟨by omega, h2⟩ rfl, if_neg (by simp [h3]), if_neg (by omega)]
    simp
  | x :: r, done, A, fuel, hf, hl, hT, hV => by
    obtain ⟨f, rfl⟩ : ∃ f, fuel = f + 1 := ⟨fuel - 1, by omega⟩
    simp at hl
    have hx := hT done.length (by simp)
    rw [List.getElem_append_right (Nat.le_refl _)] at hx
    simp only [Nat.sub_self, List.getElem_cons_zero] at hx
    have hv := hV x (by simp)
    obtain ⟨c1, c2, c3, c4, c5⟩ := tci_r hv
    have e0 : A ++ ((x :: r).flatMap tagB ++ (two type ++ data)) = A ++ (two x.tpid ++ (two (tci x) ++ (r.flatMap tagB ++ (two type ++ data)))) := by
      rw [List.flatMap_cons]
      unfold tagB
      simp only [List.append_assoc]
    have e1 : w16 (A ++ ((x :: r).flatMap tagB ++ (two type ++ data))) A.length = x.tpid := by rw [e0]; exact w16_mid _ _ (by omega) rfl
    have e2 : w16 (A ++ ((x :: r).flatMap tagB ++ (two type ++ data))) ((A.length + 2 : Nat) : Int) = tci x := by
      rw [e0, ← List.append_assoc]
      exact w16_mid _ _ ⟨c1, c2⟩ (by simp [two])
    have ih := ploop_ser (data := data) h1 h2 h3 r (done ++ [x]) (A ++ tagB x) f (by simp; omega) (by simp; omega) (by simpa using hT) (fun y hy => hV y (by simp [hy]))
    have e3 : A ++ tagB x ++ (r.flatMap tagB ++ (two type ++ data)) = A ++ ((x :: r).flatMap tagB ++ (two type ++ data)) := by simp [List.append_assoc]
    rw [e3] at ih
    unfold ploop
    rw [e1, e2, if_pos (by unfold isTagN; simp; omega), if_neg (by omega), if_neg (by simp [two, tagB_len]; omega), if_neg (by unfold tagV at hv; omega), c3, c4, c5]
    rw [List.length_append, tagB_len] at ih
    rw [show (⟨x.tpid, x.pcp, x.dei, x.vid⟩ : Tag) = x from rfl, ih]
    simp
    omega
theorem bt_app1 {A B : List Int} {i : Nat} (h : i < A.length) : bt (A ++ B) (i : Nat) = bt A (i : Nat) := by
  simp [bt, List.getElem?_append_left h]
theorem bt_app2 {A B : List Int} {i : Nat} : bt (A ++ B) ((A.length + i : Nat) : Int) = bt B (i : Nat) := by
  have : ((A.length : Int) + (i : Int)).toNat = A.length + i := by omega
  simp [bt, List.getElem?_append_right, this]
/-- what was written is read as it was -/
theorem parse_ser {f g : Nat → Int} {tags : List Tag} {type : Int} {data : List Int} (h : chk (g 0) tags type data.length = 0) :
    parse (ser f g tags type data) = .ok (tags, 12 + 4 * tags.length) ∧ w16 (ser f g tags type data) ((12 + 4 * tags.length : Nat) : Int) = type ∧ (ser f g tags type data).drop (12 + 4 * tags.length + 2) = data ∧
    (∀ i, i < 6 → bt (ser f g tags type data) (i : Nat) = f i) ∧ (∀ i, i < 6 → bt (ser f g tags type data) ((6 + i : Nat) : Int) = g i) := by
  obtain ⟨h1, h2, h3, h4, h5, h6, h7, h8⟩ := chk_ok (src := g) h
  have hlen : (ser f g tags type data).length = 14 + 4 * tags.length + data.length := by
    unfold ser
    simp only [List.length_append, arrL_len, tags_len, two, List.length_cons, List.length_nil]; omega
  have e0 : ser f g tags type data = (arrL 6 f ++ arrL 6 g) ++ (tags.flatMap tagB ++ (two type ++ data)) := by
    unfold ser
    simp only [List.append_assoc]
  have l12 : (arrL 6 f ++ arrL 6 g).length = 12 := by simp [arrL_len]
  have hf : ∀ i, i < 6 → bt (ser f g tags type data) (i : Nat) = f i := fun i hi => by
    rw [e0, bt_app1 (by omega), bt_app1 (by rw [arrL_len]; exact hi), arrL_bt (by omega) (by omega)]
    simp
  have hg : ∀ i, i < 6 → bt (ser f g tags type data) ((6 + i : Nat) : Int) = g i := fun i hi => by
    have : bt (arrL 6 f ++ arrL 6 g) ((6 + i : Nat) : Int) = bt (arrL 6 g) (i : Nat) := by
      have := bt_app2 (A := arrL 6 f) (B := arrL 6 g) (i := i)
      rwa [arrL_len] at this
    rw [e0, bt_app1 (by omega), this, arrL_bt (by omega) (by omega)]
    simp
  refine ⟨?_, ?_, ?_, hf, hg⟩
  · unfold parse
    rw [if_neg (by omega), if_neg (by omega)]
    have h60 := hg 0 (by omega)
    rw [if_neg (by rw [show ((6 : Int)) = ((6 + 0 : Nat) : Int) from rfl, h60]; exact h1)]
    have := ploop_ser (type := type) (data := data) h5 h6 h7 tags [] (arrL 6 f ++ arrL 6 g) 3 rfl (by simpa using h2) (by simpa using h3) h4
    rw [e0]
    rw [l12] at this
    simpa using this
  · rw [e0, ← List.append_assoc]
    exact w16_mid _ _ ⟨by omega, h6⟩ (by rw [List.length_append, l12, tags_len])
  · rw [e0, ← List.append_assoc, ← List.append_assoc]
    exact List.drop_left' (by simp only [List.length_append, arrL_len, tags_len, two, List.length_cons, List.length_nil])
end Go.Vc.S5
end
