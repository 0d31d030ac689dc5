import Derived.Test.YthijmbkpkopdpaaTopWholeOnce4K4
import Derived.Test.YthijmbkpkopdpaaTopWholeOnce4K2
import Derived.KernelRfl
section
open Go Go.Vc Go.Proofs
set_option linter.unusedVariables false
set_option linter.unusedSimpArgs false
set_option autoImplicit false
namespace Go.Vc.Stop
/-- a context as a value; p: where its struct lies; tk: what was laid into its holes -/
structure Cv where
  key : KeyV
  began : Int
  left : Int
  state : Int
  why : Int
  frags : Int
  first : Bool
  h : IpV
  S : Hs
  tk : List (Int × List Int)
  p : Nat
structure Tv where
  max : Int
  ticks : Int
  begun : Int
  cs : List Cv
def ctxL (c : Cv) (hp : Option Addr) (so sd : Sl) (j : List Value) : List Value :=
  SV.cells (kSV c.key) ++ ([.int .i64 c.began, .int .i64 c.left, .int .i64 c.state, .int .i64 c.why, .pointer hp, .int .i64 c.frags, .bool c.first] ++ (SV.cells (ipSV c.h so sd) ++ j))
def optB (s : Sl) (os : List (Int × Sl)) : List Nat := s.blk ++ os.flatMap fun x => x.2.blk
theorem optB_mem {s : Sl} {os : List (Int × Sl)} {b : Nat} : b ∈ optB s os ↔ b ∈ s.blk ∨ ∃ x ∈ os, b ∈ x.2.blk := by simp [optB]
theorem Opts.updB {w w1 : World} {s : Sl} {l : List Opt} {os : List (Int × Sl)} {m n : List Nat} (h : Opts w s l os) (u : Upd m n w w1) (hm : ∀ x ∈ optB s os, x ∉ m) : Opts w1 s l os :=
  h.upd u (fun b hb => hm b (optB_mem.2 (.inl hb))) (fun x hx b hb => hm b (optB_mem.2 (.inr ⟨x, hx, hb⟩)))
/-- the holes of an open context -/
def HolP (N : Nat) (w : World) (c : Cv) (hp : Option Addr) (hb : List Nat) : Prop :=
  if c.state = 0 then ∃ h B G m, hp = some ⟨h, 0, none⟩ ∧ Hol N w h c.S B G m ∧ Good c.S ∧ First c.S c.tk ∧ c.S.max = 65515 ∧ hb = hblk h B G m else hb = []
theorem HolP.upd {N : Nat} {w w1 : World} {c : Cv} {hp : Option Addr} {hb m n : List Nat} (h : HolP N w c hp hb) (u : Upd m n w w1) (hm : ∀ x ∈ hb, x ∉ m) : HolP N w1 c hp hb := by
  unfold HolP at h ⊢
  split
  · rename_i hs
    rw [if_pos hs] at h
    obtain ⟨a, B, G, q, h1, h2, h3, h4, h5, rfl⟩ := h
    exact ⟨a, B, G, q, h1, h2.upd u hm, h3, h4, h5, rfl⟩
  · rename_i hs
    rw [if_neg hs] at h
    exact h
theorem HolP.lt {N : Nat} {w : World} {c : Cv} {hp : Option Addr} {hb : List Nat} (h : HolP N w c hp hb) : ∀ x ∈ hb, N ≤ x ∧ x < w.heap.size := by
  unfold HolP at h
  split at h
  · obtain ⟨a, B, G, q, h1, h2, h3, h4, h5, rfl⟩ := h
    exact h2.lt
  · subst h; simp
/-- a context in memory; hd: its blocks -/
structure CxM (N : Nat) (w : World) (c : Cv) (hd : List Nat) : Prop where
  ex : ∃ hp so sd j os hb, Blk w c.p (ctxL c hp so sd j) ∧ j.length = 44 ∧ HolP N w c hp hb ∧ Opts w so c.h.opts os ∧ (∀ x ∈ optB so os, N ≤ x ∧ x < w.heap.size) ∧ hd = c.p :: (hb ++ optB so os) ∧ c.p ∉ hb ∧ c.p ∉ optB so os ∧ (∀ x ∈ hb, x ∉ optB so os)
  le : N ≤ c.p
  key : c.key.Ok
  few : c.h.opts.length ≤ 4398046511000
  small : ∀ o ∈ c.h.opts, o.data.length ≤ 140737488351232
  byt : ∀ o ∈ c.h.opts, Byt o.data
section
variable {N : Nat} {w w1 : World} {c : Cv} {hd : List Nat}
theorem CxM.upd {m n : List Nat} (h : CxM N w c hd) (u : Upd m n w w1) (hm : ∀ x ∈ hd, x ∉ m) : CxM N w1 c hd := by
  obtain ⟨hp, so, sd, j, os, hb, h1, h2, h3, h4, h5, rfl, h6, h7, h8⟩ := h.ex
  have z := u.size
  exact ⟨⟨hp, so, sd, j, os, hb, h1.upd u (hm _ (by simp)), h2, h3.upd u (fun x hx => hm x (by simp [hx])), Opts.updB h4 u (fun x hx => hm x (by simp [hx])), fun x hx => by have := h5 x hx; omega, rfl, h6, h7, h8⟩, h.le, h.key, h.few, h.small, h.byt⟩
theorem CxM.lt (h : CxM N w c hd) : ∀ x ∈ hd, N ≤ x ∧ x < w.heap.size := by
  obtain ⟨hp, so, sd, j, os, hb, h1, h2, h3, h4, h5, rfl, h6, h7, h8⟩ := h.ex
  intro x hx
  rcases List.mem_cons.1 hx with rfl | q
  · exact ⟨h.le, h1.lt⟩
  · rcases List.mem_append.1 q with q | q
    · exact h3.lt x q
    · exact h5 x q
theorem CxM.mem (h : CxM N w c hd) : c.p ∈ hd := by
  obtain ⟨hp, so, sd, j, os, hb, h1, h2, h3, h4, h5, rfl, h6, h7, h8⟩ := h.ex
  simp
end
def ents (cs : List Cv) : List (Value × SV) := cs.map fun c => ((kSV c.key).enc, .ptr (some ⟨c.p, 0, none⟩))
/-- the table in memory; hd: all its blocks -/
structure TbAt (N : Nat) (w : World) (t : Nat) (T : Tv) (hd : List Nat) : Prop where
  ex : ∃ (mb : Nat) (col : Nat → Nat), Blk w t [.int .i64 T.max, .int .i64 T.ticks, .int .i64 T.begun, .map (some mb)] ∧ MapL w mb (ents T.cs) ∧ (t ∈ hd ∧ col t = 1) ∧ (mb ∈ hd ∧ col mb = 2) ∧ ∀ i (h : i < T.cs.length), ∃ hdi, CxM N w T.cs[i] hdi ∧ ∀ x ∈ hdi, x ∈ hd ∧ col x = 3 + i
  lt : ∀ x ∈ hd, N ≤ x ∧ x < w.heap.size
  dis : ∀ i j (hi : i < T.cs.length) (hj : j < T.cs.length), (kSV T.cs[i].key).enc = (kSV T.cs[j].key).enc → i = j
section
variable {N t : Nat} {w w1 : World} {T : Tv} {hd : List Nat}
theorem TbAt.upd {m n : List Nat} (h : TbAt N w t T hd) (u : Upd m n w w1) (hm : ∀ x ∈ hd, x ∉ m) : TbAt N w1 t T hd := by
  obtain ⟨mb, col, h1, h2, h3, h4, h5⟩ := h.ex
  have z := u.size
  refine ⟨⟨mb, col, h1.upd u (hm _ h3.1), h2.upd u (hm _ h4.1), h3, h4, fun i hi => ?_⟩, fun x hx => by have := h.lt x hx; omega, h.dis⟩
  obtain ⟨hdi, a, b⟩ := h5 i hi
  exact ⟨hdi, a.upd u (fun x hx => hm x (b x hx).1), b⟩
theorem TbAt.old {n : List Nat} (h : TbAt N w t T hd) (u : Upd [] n w w1) : TbAt N w1 t T hd := h.upd u (by simp)
theorem ents_keys {cs : List Cv} (h : ∀ c ∈ cs, c.key.Ok) {k : KeyV} (hk : k.Ok) : KeysOk Try.prog 66 (kSV k).enc (ents cs) :=
  ⟨keyLaw66, key_ok2 hk, fun p hp => by
    obtain ⟨c, hc, rfl⟩ := List.mem_map.1 hp
    exact key_ok2 (h c hc)⟩
theorem ents_shape {cs : List Cv} : AllShape (.ptr 83) (ents cs) := fun p hp => by
  obtain ⟨c, hc, rfl⟩ := List.mem_map.1 hp
  rfl
theorem TbAt.keys (h : TbAt N w t T hd) {k : KeyV} (hk : k.Ok) : KeysOk Try.prog 66 (kSV k).enc (ents T.cs) := by
  obtain ⟨mb, col, h1, h2, h3, h4, h5⟩ := h.ex
  refine ents_keys (fun c hc => ?_) hk
  obtain ⟨i, hi, rfl⟩ := List.getElem_of_mem hc
  obtain ⟨hdi, a, _⟩ := h5 i hi
  exact a.key
/-- what is found under a key -/
theorem found_ents {cs : List Cv} {k : KeyV} {p : Option Addr} {b : Bool} (h : Found (ents cs) (kSV k).enc (.ptr none) (.ptr p) b) :
    (p = none ∧ ∀ c ∈ cs, (kSV c.key).enc ≠ (kSV k).enc) ∨ ∃ i, ∃ hi : i < cs.length, (kSV cs[i].key).enc = (kSV k).enc ∧ p = some ⟨cs[i].p, 0, none⟩ := by
  rcases h with ⟨_, q, hq, e1, e2⟩ | ⟨_, h2, e⟩
  · obtain ⟨c, hc, rfl⟩ := List.mem_map.1 hq
    obtain ⟨i, hi, rfl⟩ := List.getElem_of_mem hc
    exact .inr ⟨i, hi, e1, by injection e2⟩
  · refine .inl ⟨by injection e, fun c hc => h2 _ (List.mem_map.2 ⟨c, hc, rfl⟩)⟩
/-- one context is another -/
theorem TbAt.at (h : TbAt N w t T hd) {i : Nat} (hi : i < T.cs.length) : ∃ hdi, CxM N w T.cs[i] hdi ∧ (∀ x ∈ hdi, x ∈ hd) ∧
    ∀ {m n hdi' : List Nat} {w1 : World} {c' : Cv}, Upd m n w w1 → (∀ x ∈ m, x ∈ hdi) → CxM N w1 c' hdi' → (∀ x ∈ hdi', x ∈ hdi ∨ w.heap.size ≤ x) → c'.key = T.cs[i].key → c'.p = T.cs[i].p →
      ∃ hd', TbAt N w1 t { T with cs := T.cs.set i c' } hd' ∧ ∀ x ∈ hd', x ∈ hd ∨ w.heap.size ≤ x := by
  obtain ⟨mb, col, h1, h2, h3, h4, h5⟩ := h.ex
  obtain ⟨hdi, a, b⟩ := h5 i hi
  refine ⟨hdi, a, fun x hx => (b x hx).1, fun {m n hdi' w1 c'} u hm hc hn ek ep => ?_⟩
  have z := u.size
  have lt := h.lt
  have alt := a.lt
  have clt := hc.lt
  let col' : Nat → Nat := fun x => if x < w.heap.size then col x else 3 + i
  have co : ∀ x, x < w.heap.size → col' x = col x := fun x hx => by simp only [col']; rw [if_pos hx]
  have cn : ∀ x, w.heap.size ≤ x → col' x = 3 + i := fun x hx => by simp only [col']; rw [if_neg (by omega)]
  have off : ∀ x, x ∈ hd → col x ≠ 3 + i → x ∉ m := fun x hx hne hmm => hne (b x (hm x hmm)).2
  have he : ents (T.cs.set i c') = ents T.cs := by
    unfold ents
    rw [List.map_set, ek, ep]
    apply List.ext_getElem
    · simp
    · intro j h1 h2
      rw [List.getElem_set]
      split
      · rename_i e; subst e; simp
      · rfl
  refine ⟨hd ++ hdi', ⟨⟨mb, col', h1.upd u (off t h3.1 (by omega)), ?_, ⟨by simp [h3.1], by rw [co t (lt t h3.1).2]; exact h3.2⟩, ⟨by simp [h4.1], by rw [co mb (lt mb h4.1).2]; exact h4.2⟩, fun j hj => ?_⟩, fun x hx => ?_, fun j k hj hk e => ?_⟩, fun x hx => ?_⟩
  · rw [he]; exact h2.upd u (off mb h4.1 (by omega))
  · simp only [List.length_set] at hj
    by_cases e : i = j
    · subst e
      refine ⟨hdi', by simpa using hc, fun x hx => ⟨by simp [hx], ?_⟩⟩
      rcases hn x hx with q | q
      · rw [co x (alt x q).2]; exact (b x q).2
      · exact cn x q
    · obtain ⟨hdj, a2, b2⟩ := h5 j hj
      refine ⟨hdj, ?_, fun x hx => ⟨by simp [(b2 x hx).1], by rw [co x (a2.lt x hx).2]; exact (b2 x hx).2⟩⟩
      rw [List.getElem_set_ne e]
      exact a2.upd u (fun x hx => off x (b2 x hx).1 (by have := (b2 x hx).2; omega))
  · rcases List.mem_append.1 hx with q | q
    · have := lt x q; omega
    · exact clt x q
  · simp only [List.length_set] at hj hk
    have key : ∀ q (hq : q < T.cs.length), ((T.cs.set i c')[q]'(by simpa using hq)).key = T.cs[q].key := fun q hq => by
      rw [List.getElem_set]
      split
      · rename_i e; subst e; exact ek
      · rfl
    rw [key j hj, key k hk] at e
    exact h.dis j k hj hk e
  · rcases List.mem_append.1 hx with q | q
    · exact .inl q
    · rcases hn x q with q | q
      · exact .inl (b x q).1
      · exact .inr q
/-- one context more -/
theorem TbAt.more (h : TbAt N w t T hd) : ∃ mb, Blk w t [.int .i64 T.max, .int .i64 T.ticks, .int .i64 T.begun, .map (some mb)] ∧ MapL w mb (ents T.cs) ∧ t ∈ hd ∧ mb ∈ hd ∧ t ≠ mb ∧
    ∀ {m n hdc : List Nat} {w1 : World} {c : Cv} {g : Int}, Upd m n w w1 → (∀ x ∈ m, x = t ∨ x = mb ∨ x ∈ hdc) → (∀ x ∈ hdc, x ∉ hd) → CxM N w1 c hdc → Blk w1 t [.int .i64 T.max, .int .i64 T.ticks, .int .i64 g, .map (some mb)] → MapL w1 mb (ents (T.cs ++ [c])) →
      (∀ x ∈ T.cs, (kSV x.key).enc ≠ (kSV c.key).enc) → TbAt N w1 t { T with begun := g, cs := T.cs ++ [c] } (hd ++ hdc) := by
  obtain ⟨mb, col, h1, h2, h3, h4, h5⟩ := h.ex
  refine ⟨mb, h1, h2, h3.1, h4.1, fun e => by have := h3.2; have := h4.2; rw [e] at *; omega, fun {m n hdc w1 c g} u hm hdis hc hb hmp hk => ?_⟩
  have z := u.size
  have lt := h.lt
  let col' : Nat → Nat := fun x => if x ∈ hd then col x else 3 + T.cs.length
  have co : ∀ x, x ∈ hd → col' x = col x := fun x hx => by simp only [col']; rw [if_pos hx]
  have cn : ∀ x, x ∈ hdc → col' x = 3 + T.cs.length := fun x hx => by simp only [col']; rw [if_neg (hdis x hx)]
  refine ⟨⟨mb, col', hb, hmp, ⟨by simp [h3.1], by rw [co t h3.1]; exact h3.2⟩, ⟨by simp [h4.1], by rw [co mb h4.1]; exact h4.2⟩, fun j hj => ?_⟩, fun x hx => ?_, fun j k hj hk2 e => ?_⟩
  · by_cases ej : j < T.cs.length
    · obtain ⟨hdj, a2, b2⟩ := h5 j ej
      refine ⟨hdj, ?_, fun x hx => ⟨by simp [(b2 x hx).1], by rw [co x (b2 x hx).1]; exact (b2 x hx).2⟩⟩
      rw [List.getElem_append_left ej]
      refine a2.upd u (fun x hx hmm => ?_)
      have := (b2 x hx).2
      rcases hm x hmm with e | e | e
      · subst e; have := h3.2; omega
      · subst e; have := h4.2; omega
      · exact hdis x e (b2 x hx).1
    · have e : j = T.cs.length := by simp at hj; omega
      subst e
      exact ⟨hdc, by simpa using hc, fun x hx => ⟨by simp [hx], cn x hx⟩⟩
  · rcases List.mem_append.1 hx with q | q
    · have := lt x q; omega
    · exact hc.lt x q
  · simp only [List.length_append, List.length_cons, List.length_nil] at hj hk2
    by_cases ej : j < T.cs.length
    · by_cases ek : k < T.cs.length
      · rw [List.getElem_append_left ej, List.getElem_append_left ek] at e
        exact h.dis j k ej ek e
      · have : k = T.cs.length := by omega
        subst this
        rw [List.getElem_append_left ej] at e
        simp at e
        exact absurd (by simpa using e) (hk _ (List.getElem_mem ej))
    · have : j = T.cs.length := by omega
      subst this
      by_cases ek : k < T.cs.length
      · rw [List.getElem_append_left ek] at e
        exact absurd (by simpa using e.symm) (hk _ (List.getElem_mem ek))
      · omega
end
end Go.Vc.Stop
end

section
open Go Go.Vc Go.Vc.Stop Go.Proofs
set_option maxRecDepth 100000
set_option linter.unusedVariables false
namespace Go.Vc.Stop
def vc5 (max : Int) (ticks : Int) (w : World) (R : SV → World → Prop) : Prop :=
  ∀ (J : World → Prop),
    (∀ (w1 : World),
        (∀ (b : Nat) (w1_1 : World),
            Upd [] [b] w1 w1_1 →
              MapL w1_1 b [] →
                ∀ (b_1 : Nat) (w1 : World),
                  Upd [] [b_1] w1_1 w1 →
                    (World.heap w1)[b_1]? =
                        some (Obj.cells { toList := SV.cells (SV.struct [SV.int IntKind.i64 max, SV.int IntKind.i64 ticks, SV.int IntKind.i64 0, SV.map (some b)]) } 58) →
                      R (SV.tuple [SV.ptr (some { block := b_1, off := 0 }), SV.int IntKind.i64 0]) w1) →
          J w1) →
      Br (decide (max < 1)) (R (SV.tuple [SV.ptr none, SV.int IntKind.i64 1]) w)
        (Br (decide (max > 256)) (R (SV.tuple [SV.ptr none, SV.int IntKind.i64 1]) w)
          (Br (decide (ticks < 1)) (R (SV.tuple [SV.ptr none, SV.int IntKind.i64 1]) w) (Br (decide (ticks > 1048576)) (R (SV.tuple [SV.ptr none, SV.int IntKind.i64 1]) w) (J w))))
theorem f5_of (max : Int) (ticks : Int) (w : World) (R : SV → World → Prop) (hV : vc5 max ticks w R) : Ret Try.prog 5 [.int .i64 max, .int .i64 ticks] w R :=
  have e : vc5 max ticks w R = fnVC X Try.f5 a5 [.int .i64 max, .int .i64 ticks] w R := by kernel_rfl
  fnVC_sound X_ok (n := a5) (e ▸ hV) (by kernel_rfl) (by kernel_rfl) rfl rfl

def tail7b (p0 : Int) (p1 : Nat) (p2 : World) (p3 : SV → World → Prop) (p4 : Option Addr) (p5 : Nat) (p6 : Nat) (p7 : Nat) (p8 : Int) (p9 : Int) (p10 :
  Int) (p11 : Bool) (p12 : Bool) (p13 : Int) (p14 : Int) (p15 : Int) (p16 : Nat → Int) (p17 : Int) (p18 : Nat → Int) (p19 : Sl) (p20 : Sl) (p21 : Int) (p22
  : Int) (p23 : Bool) (p24 : Bool) (p25 : Int) (p26 : Int) (p27 : Int) (p28 : Int) (p29 : Nat → Int) (p30 : Int) (p31 : Nat → Int) (p32 : Sl) (p33 : Sl) (p34
  : Bool) (p35 : Int) (p36 : Int) (p37 : Bool) (p38 : Bool) (p39 : Int → World → Prop) : Prop := Br (p0 != 0) (∀ (z0 : World), Upd [p1] [] p2 z0 → p3 (SV.tuple
  [SV.struct [SV.int IntKind.i64 0, SV.int IntKind.i64 0, SV.bool false, SV.bool false, SV.int IntKind.i64 0, SV.int IntKind.i64 0, SV.int IntKind.i64 0,
  SV.struct [SV.int IntKind.i64 0, SV.arr IntKind.u8 16 fun (z1 : Nat) => 0], SV.struct [SV.int IntKind.i64 0, SV.arr IntKind.u8 16 fun (z2 : Nat) => 0],
  SV.slice { ptr := none, len := 0, cap := 0 }, SV.slice { ptr := none, len := 0, cap := 0 }], SV.int IntKind.i64 0, SV.int IntKind.i64 p0]) z0) (∀ (z3 :
  World → Prop), (∀ (z4 : World), (deref p4 fun (z5 : Addr) => ∃ (z6 : Option Addr), World.cell? z4 (Addr.add z5 40) = some (Value.pointer z6) ∧ Ret Try.prog
  28 [SV.ptr z6] z4 fun (z7 : SV) (z8 : World) => ∃ (z9 : Sl), ∃ (z10 : Bool), z7 = SV.tuple [SV.slice z9, SV.bool z10] ∧ Keeps [p5, p1, p6, p7] z4 z8 ∧ Br
  (!z10) (∀ (z11 : World), Upd [p1] [] z8 z11 → p3 (SV.tuple [SV.struct [SV.int IntKind.i64 0, SV.int IntKind.i64 0, SV.bool false, SV.bool false, SV.int
  IntKind.i64 0, SV.int IntKind.i64 0, SV.int IntKind.i64 0, SV.struct [SV.int IntKind.i64 0, SV.arr IntKind.u8 16 fun (z12 : Nat) => 0], SV.struct [SV.int
  IntKind.i64 0, SV.arr IntKind.u8 16 fun (z13 : Nat) => 0], SV.slice { ptr := none, len := 0, cap := 0 }, SV.slice { ptr := none, len := 0, cap := 0 }],
  SV.int IntKind.i64 2, SV.int IntKind.i64 0]) z11) (deref p4 fun (z14 : Addr) => ∃ (z15 : Int), World.cell? z8 (Addr.add z14 43) = some (Value.int IntKind.i64
  z15) ∧ ∃ (z16 : Int), World.cell? z8 (Addr.add (Addr.add z14 43) 1) = some (Value.int IntKind.i64 z16) ∧ ∃ (z17 : Bool), World.cell? z8 (Addr.add (Addr.add
  z14 43) 2) = some (Value.bool z17) ∧ ∃ (z18 : Bool), World.cell? z8 (Addr.add (Addr.add z14 43) 3) = some (Value.bool z18) ∧ ∃ (z19 : Int), World.cell?
  z8 (Addr.add (Addr.add z14 43) 4) = some (Value.int IntKind.i64 z19) ∧ ∃ (z20 : Int), World.cell? z8 (Addr.add (Addr.add z14 43) 5) = some (Value.int IntKind.i64
  z20) ∧ ∃ (z21 : Int), World.cell? z8 (Addr.add (Addr.add z14 43) 6) = some (Value.int IntKind.i64 z21) ∧ ∃ (z22 : Int), World.cell? z8 (Addr.add (Addr.add
  z14 43) 7) = some (Value.int IntKind.i64 z22) ∧ ∃ (z23 : Nat → Int), (∀ (z24 : Nat), z24 < 16 → World.cell? z8 (Addr.add (Addr.add z14 43) (8 + z24)) =
  some (Value.int IntKind.u8 (z23 z24))) ∧ ∃ (z25 : Int), World.cell? z8 (Addr.add (Addr.add z14 43) 24) = some (Value.int IntKind.i64 z25) ∧ ∃ (z26 : Nat
  → Int), (∀ (z27 : Nat), z27 < 16 → World.cell? z8 (Addr.add (Addr.add z14 43) (25 + z27)) = some (Value.int IntKind.u8 (z26 z27))) ∧ ∃ (z28 : Sl), World.cell?
  z8 (Addr.add (Addr.add z14 43) 41) = some (Sl.val z28) ∧ ∃ (z29 : Sl), World.cell? z8 (Addr.add (Addr.add z14 43) 42) = some (Sl.val z29) ∧ ∀ (z30 : Nat)
  (z31 : World), Upd [] [z30] z8 z31 → Ret Try.prog 23 [SV.struct [SV.int IntKind.i64 z15, SV.int IntKind.i64 z16, SV.bool z17, SV.bool false, SV.int IntKind.i64
  0, SV.int IntKind.i64 z20, SV.int IntKind.i64 z21, SV.struct [SV.int IntKind.i64 z22, SV.arr IntKind.u8 16 z23], SV.struct [SV.int IntKind.i64 z25, SV.arr
  IntKind.u8 16 z26], SV.slice z28, SV.slice z9]] z31 fun (z32 : SV) (z33 : World) => ∃ (z34 : Int), z32 = SV.int IntKind.i64 z34 ∧ Keeps [p5, p1, p6, p7,
  z30] z31 z33 ∧ Br (z34 != 0) (deref p4 fun (z35 : Addr) => ∃ (z36 : Int), World.cell? z33 (Addr.add z35 41) = some (Value.int IntKind.i64 z36) ∧ ∀ (z37
  : World), Upd [] [] z33 z37 → Ret Try.prog 29 [SV.ptr p4, SV.int IntKind.i64 123, SV.int IntKind.i64 (wr IntKind.i64 (z36 - 1))] z37 fun (z38 : SV) (z39
  : World) => z38 = SV.tuple [] ∧ Keeps [p5, p1, p6, p7, z30] z37 z39 ∧ ∀ (z40 : World), Upd [p1] [] z39 z40 → p3 (SV.tuple [SV.struct [SV.int IntKind.i64
  0, SV.int IntKind.i64 0, SV.bool false, SV.bool false, SV.int IntKind.i64 0, SV.int IntKind.i64 0, SV.int IntKind.i64 0, SV.struct [SV.int IntKind.i64 0,
  SV.arr IntKind.u8 16 fun (z41 : Nat) => 0], SV.struct [SV.int IntKind.i64 0, SV.arr IntKind.u8 16 fun (z42 : Nat) => 0], SV.slice { ptr := none, len := 0, cap := 0 },
  SV.slice { ptr := none, len := 0, cap := 0 }], SV.int IntKind.i64 0, SV.int IntKind.i64 123]) z40) (Ret Try.prog 30 [SV.ptr p4] z33 fun (z43 : SV) (z44
  : World) => z43 = SV.tuple [] ∧ Keeps [p5, p1, p6, p7, z30] z33 z44 ∧ ∀ (z45 : World), Upd [p1] [] z44 z45 → p3 (SV.tuple [SV.struct [SV.int IntKind.i64
  z15, SV.int IntKind.i64 z16, SV.bool z17, SV.bool false, SV.int IntKind.i64 0, SV.int IntKind.i64 z20, SV.int IntKind.i64 z21, SV.struct [SV.int IntKind.i64
  z22, SV.arr IntKind.u8 16 z23], SV.struct [SV.int IntKind.i64 z25, SV.arr IntKind.u8 16 z26], SV.slice z28, SV.slice z9], SV.int IntKind.i64 1, SV.int IntKind.i64
  0]) z45))) → z3 z4) → Br (p8 == 0) (deref p4 fun (z46 : Addr) => ∃ (z47 : Bool), World.cell? p2 (Addr.add z46 42) = some (Value.bool z47) ∧ Br (!z47) (∃
  (z48 : List Nat), (∀ (z49 : Nat), z49 ∈ z48 → z49 < List.length (World.heap p2).1) ∧ ∀ (z50 : World), Upd [] [] p2 z50 → Ret Try.prog 27 [SV.struct [SV.int
  IntKind.i64 p9, SV.int IntKind.i64 p10, SV.bool p11, SV.bool p12, SV.int IntKind.i64 p8, SV.int IntKind.i64 p13, SV.int IntKind.i64 p14, SV.struct [SV.int
  IntKind.i64 p15, SV.arr IntKind.u8 16 p16], SV.struct [SV.int IntKind.i64 p17, SV.arr IntKind.u8 16 p18], SV.slice p19, SV.slice p20]] z50 fun (z51 : SV)
  (z52 : World) => ∃ (z53 : Int), ∃ (z54 : Int), ∃ (z55 : Bool), ∃ (z56 : Bool), ∃ (z57 : Int), ∃ (z58 : Int), ∃ (z59 : Int), ∃ (z60 : Int), ∃ (z61 : Nat
  → Int), ∃ (z62 : Int), ∃ (z63 : Nat → Int), ∃ (z64 : Sl), ∃ (z65 : Sl), z51 = SV.struct [SV.int IntKind.i64 z53, SV.int IntKind.i64 z54, SV.bool z55, SV.bool
  z56, SV.int IntKind.i64 z57, SV.int IntKind.i64 z58, SV.int IntKind.i64 z59, SV.struct [SV.int IntKind.i64 z60, SV.arr IntKind.u8 16 z61], SV.struct [SV.int
  IntKind.i64 z62, SV.arr IntKind.u8 16 z63], SV.slice z64, SV.slice z65] ∧ Keeps [p5, p1, p6, p7] z50 z52 ∧ Kept z48 p2 z52 ∧ deref p4 fun (z66 : Addr) =>
  Store z52 (Addr.add z66 42) (SV.cells (SV.bool true)) [p5, p1, p6, p7] fun (z67 : World) => Kept z48 p2 z67 ∧ deref p4 fun (z68 : Addr) => Store z67 (Addr.add
  z68 43) (SV.cells (SV.struct [SV.int IntKind.i64 z53, SV.int IntKind.i64 z54, SV.bool z55, SV.bool z56, SV.int IntKind.i64 z57, SV.int IntKind.i64 z58,
  SV.int IntKind.i64 z59, SV.struct [SV.int IntKind.i64 z60, SV.arr IntKind.u8 16 z61], SV.struct [SV.int IntKind.i64 z62, SV.arr IntKind.u8 16 z63], SV.slice
  z64, SV.slice z65])) [p5, p1, p6, p7] fun (z69 : World) => some (SV.box p5 28 (SV.struct [SV.int IntKind.i64 p9, SV.int IntKind.i64 p10, SV.bool p11, SV.bool
  p12, SV.int IntKind.i64 p8, SV.int IntKind.i64 p13, SV.int IntKind.i64 p14, SV.struct [SV.int IntKind.i64 p15, SV.arr IntKind.u8 16 p16], SV.struct [SV.int
  IntKind.i64 p17, SV.arr IntKind.u8 16 p18], SV.slice p19, SV.slice p20])) = some (SV.box p5 28 (SV.struct [SV.int IntKind.i64 p9, SV.int IntKind.i64 p10,
  SV.bool p11, SV.bool p12, SV.int IntKind.i64 p8, SV.int IntKind.i64 p13, SV.int IntKind.i64 p14, SV.struct [SV.int IntKind.i64 p15, SV.arr IntKind.u8 16
  p16], SV.struct [SV.int IntKind.i64 p17, SV.arr IntKind.u8 16 p18], SV.slice p19, SV.slice p20])) ∧ some (SV.box p1 28 (SV.struct [SV.int IntKind.i64 p21,
  SV.int IntKind.i64 p22, SV.bool p23, SV.bool p24, SV.int IntKind.i64 p25, SV.int IntKind.i64 p26, SV.int IntKind.i64 p27, SV.struct [SV.int IntKind.i64
  p28, SV.arr IntKind.u8 16 p29], SV.struct [SV.int IntKind.i64 p30, SV.arr IntKind.u8 16 p31], SV.slice p32, SV.slice p33])) = some (SV.box p1 28 (SV.struct
  [SV.int IntKind.i64 p21, SV.int IntKind.i64 p22, SV.bool p23, SV.bool p24, SV.int IntKind.i64 p25, SV.int IntKind.i64 p26, SV.int IntKind.i64 p27, SV.struct
  [SV.int IntKind.i64 p28, SV.arr IntKind.u8 16 p29], SV.struct [SV.int IntKind.i64 p30, SV.arr IntKind.u8 16 p31], SV.slice p32, SV.slice p33])) ∧ some (SV.box
  p6 66 (SV.struct [SV.struct [SV.int IntKind.i64 p15, SV.arr IntKind.u8 16 p16], SV.struct [SV.int IntKind.i64 p17, SV.arr IntKind.u8 16 p18], SV.int IntKind.i64
  p14, SV.int IntKind.i64 p10])) = some (SV.box p6 66 (SV.struct [SV.struct [SV.int IntKind.i64 p15, SV.arr IntKind.u8 16 p16], SV.struct [SV.int IntKind.i64
  p17, SV.arr IntKind.u8 16 p18], SV.int IntKind.i64 p14, SV.int IntKind.i64 p10])) ∧ some (SV.box p7 72 (SV.struct [SV.ptr p4, SV.bool p34, SV.struct [SV.int
  IntKind.i64 p35, SV.int IntKind.i64 p36, SV.bool p37], SV.bool p38])) = some (SV.box p7 72 (SV.struct [SV.ptr p4, SV.bool p34, SV.struct [SV.int IntKind.i64
  p35, SV.int IntKind.i64 p36, SV.bool p37], SV.bool p38])) ∧ z3 z69) (some (SV.box p5 28 (SV.struct [SV.int IntKind.i64 p9, SV.int IntKind.i64 p10, SV.bool
  p11, SV.bool p12, SV.int IntKind.i64 p8, SV.int IntKind.i64 p13, SV.int IntKind.i64 p14, SV.struct [SV.int IntKind.i64 p15, SV.arr IntKind.u8 16 p16], SV.struct
  [SV.int IntKind.i64 p17, SV.arr IntKind.u8 16 p18], SV.slice p19, SV.slice p20])) = some (SV.box p5 28 (SV.struct [SV.int IntKind.i64 p9, SV.int IntKind.i64
  p10, SV.bool p11, SV.bool p12, SV.int IntKind.i64 p8, SV.int IntKind.i64 p13, SV.int IntKind.i64 p14, SV.struct [SV.int IntKind.i64 p15, SV.arr IntKind.u8
  16 p16], SV.struct [SV.int IntKind.i64 p17, SV.arr IntKind.u8 16 p18], SV.slice p19, SV.slice p20])) ∧ some (SV.box p1 28 (SV.struct [SV.int IntKind.i64
  p21, SV.int IntKind.i64 p22, SV.bool p23, SV.bool p24, SV.int IntKind.i64 p25, SV.int IntKind.i64 p26, SV.int IntKind.i64 p27, SV.struct [SV.int IntKind.i64
  p28, SV.arr IntKind.u8 16 p29], SV.struct [SV.int IntKind.i64 p30, SV.arr IntKind.u8 16 p31], SV.slice p32, SV.slice p33])) = some (SV.box p1 28 (SV.struct
  [SV.int IntKind.i64 p21, SV.int IntKind.i64 p22, SV.bool p23, SV.bool p24, SV.int IntKind.i64 p25, SV.int IntKind.i64 p26, SV.int IntKind.i64 p27, SV.struct
  [SV.int IntKind.i64 p28, SV.arr IntKind.u8 16 p29], SV.struct [SV.int IntKind.i64 p30, SV.arr IntKind.u8 16 p31], SV.slice p32, SV.slice p33])) ∧ some (SV.box
  p6 66 (SV.struct [SV.struct [SV.int IntKind.i64 p15, SV.arr IntKind.u8 16 p16], SV.struct [SV.int IntKind.i64 p17, SV.arr IntKind.u8 16 p18], SV.int IntKind.i64
  p14, SV.int IntKind.i64 p10])) = some (SV.box p6 66 (SV.struct [SV.struct [SV.int IntKind.i64 p15, SV.arr IntKind.u8 16 p16], SV.struct [SV.int IntKind.i64
  p17, SV.arr IntKind.u8 16 p18], SV.int IntKind.i64 p14, SV.int IntKind.i64 p10])) ∧ some (SV.box p7 72 (SV.struct [SV.ptr p4, SV.bool p34, SV.struct [SV.int
  IntKind.i64 p35, SV.int IntKind.i64 p36, SV.bool p37], SV.bool p38])) = some (SV.box p7 72 (SV.struct [SV.ptr p4, SV.bool p34, SV.struct [SV.int IntKind.i64
  p35, SV.int IntKind.i64 p36, SV.bool p37], SV.bool p38])) ∧ z3 p2)) (some (SV.box p5 28 (SV.struct [SV.int IntKind.i64 p9, SV.int IntKind.i64 p10, SV.bool
  p11, SV.bool p12, SV.int IntKind.i64 p8, SV.int IntKind.i64 p13, SV.int IntKind.i64 p14, SV.struct [SV.int IntKind.i64 p15, SV.arr IntKind.u8 16 p16], SV.struct
  [SV.int IntKind.i64 p17, SV.arr IntKind.u8 16 p18], SV.slice p19, SV.slice p20])) = some (SV.box p5 28 (SV.struct [SV.int IntKind.i64 p9, SV.int IntKind.i64
  p10, SV.bool p11, SV.bool p12, SV.int IntKind.i64 p8, SV.int IntKind.i64 p13, SV.int IntKind.i64 p14, SV.struct [SV.int IntKind.i64 p15, SV.arr IntKind.u8
  16 p16], SV.struct [SV.int IntKind.i64 p17, SV.arr IntKind.u8 16 p18], SV.slice p19, SV.slice p20])) ∧ some (SV.box p1 28 (SV.struct [SV.int IntKind.i64
  p21, SV.int IntKind.i64 p22, SV.bool p23, SV.bool p24, SV.int IntKind.i64 p25, SV.int IntKind.i64 p26, SV.int IntKind.i64 p27, SV.struct [SV.int IntKind.i64
  p28, SV.arr IntKind.u8 16 p29], SV.struct [SV.int IntKind.i64 p30, SV.arr IntKind.u8 16 p31], SV.slice p32, SV.slice p33])) = some (SV.box p1 28 (SV.struct
  [SV.int IntKind.i64 p21, SV.int IntKind.i64 p22, SV.bool p23, SV.bool p24, SV.int IntKind.i64 p25, SV.int IntKind.i64 p26, SV.int IntKind.i64 p27, SV.struct
  [SV.int IntKind.i64 p28, SV.arr IntKind.u8 16 p29], SV.struct [SV.int IntKind.i64 p30, SV.arr IntKind.u8 16 p31], SV.slice p32, SV.slice p33])) ∧ some (SV.box
  p6 66 (SV.struct [SV.struct [SV.int IntKind.i64 p15, SV.arr IntKind.u8 16 p16], SV.struct [SV.int IntKind.i64 p17, SV.arr IntKind.u8 16 p18], SV.int IntKind.i64
  p14, SV.int IntKind.i64 p10])) = some (SV.box p6 66 (SV.struct [SV.struct [SV.int IntKind.i64 p15, SV.arr IntKind.u8 16 p16], SV.struct [SV.int IntKind.i64
  p17, SV.arr IntKind.u8 16 p18], SV.int IntKind.i64 p14, SV.int IntKind.i64 p10])) ∧ some (SV.box p7 72 (SV.struct [SV.ptr p4, SV.bool p34, SV.struct [SV.int
  IntKind.i64 p35, SV.int IntKind.i64 p36, SV.bool p37], SV.bool p38])) = some (SV.box p7 72 (SV.struct [SV.ptr p4, SV.bool p34, SV.struct [SV.int IntKind.i64
  p35, SV.int IntKind.i64 p36, SV.bool p37], SV.bool p38])) ∧ z3 p2)) → p39 p0 p2
def tail7r (p0 : Nat) (p1 : SV → World → Prop) (p2 : Option Addr) (p3 : Nat) (p4 : Nat) (p5 : Int) (p6 : Int) (p7 : Int) (p8 : Bool) (p9 : Bool) (p10 :
  Int) (p11 : Int) (p12 : Int) (p13 : Nat → Int) (p14 : Int) (p15 : Nat → Int) (p16 : Sl) (p17 : Sl) (p18 : Int) (p19 : Int) (p20 : Bool) (p21 : Bool) (p22
  : Int) (p23 : Int) (p24 : Int) (p25 : Int) (p26 : Nat → Int) (p27 : Int) (p28 : Nat → Int) (p29 : Sl) (p30 : Sl) (p31 : Bool) (p32 : Int) (p33 : Int) (p34
  : Bool) (p35 : Bool) (p36 : Option Addr) (p37 : Int) (p38 : World) : Prop := ∀ (z0 : Nat) (z1 : Int → World → Prop), (∀ (z2 : Int) (z3 : World), (∀ (z4
  : Int → World → Prop), (∀ (z5 : Int) (z6 : World), tail7b z5 p0 z6 p1 p2 p3 p4 z0 p5 p6 p7 p8 p9 p10 p11 p12 p13 p14 p15 p16 p17 p18 p19 p20 p21 p22 p23
  p24 p25 p26 p27 p28 p29 p30 p31 p32 p33 p34 p35 z4) → Br (z2 == 0) (Ret Try.prog 26 [SV.ptr p36, SV.struct [SV.ptr p2, SV.bool p31, SV.struct [SV.int IntKind.i64
  p32, SV.int IntKind.i64 p33, SV.bool p34], SV.bool p35]] z3 fun (z7 : SV) (z8 : World) => ∃ (z9 : Int), z7 = SV.int IntKind.i64 z9 ∧ Keeps [p3, p0, p4,
  z0] z3 z8 ∧ some (SV.box p3 28 (SV.struct [SV.int IntKind.i64 p6, SV.int IntKind.i64 p7, SV.bool p8, SV.bool p9, SV.int IntKind.i64 p5, SV.int IntKind.i64
  p10, SV.int IntKind.i64 p11, SV.struct [SV.int IntKind.i64 p12, SV.arr IntKind.u8 16 p13], SV.struct [SV.int IntKind.i64 p14, SV.arr IntKind.u8 16 p15],
  SV.slice p16, SV.slice p17])) = some (SV.box p3 28 (SV.struct [SV.int IntKind.i64 p6, SV.int IntKind.i64 p7, SV.bool p8, SV.bool p9, SV.int IntKind.i64
  p5, SV.int IntKind.i64 p10, SV.int IntKind.i64 p11, SV.struct [SV.int IntKind.i64 p12, SV.arr IntKind.u8 16 p13], SV.struct [SV.int IntKind.i64 p14, SV.arr
  IntKind.u8 16 p15], SV.slice p16, SV.slice p17])) ∧ some (SV.box p0 28 (SV.struct [SV.int IntKind.i64 p18, SV.int IntKind.i64 p19, SV.bool p20, SV.bool
  p21, SV.int IntKind.i64 p22, SV.int IntKind.i64 p23, SV.int IntKind.i64 p24, SV.struct [SV.int IntKind.i64 p25, SV.arr IntKind.u8 16 p26], SV.struct [SV.int
  IntKind.i64 p27, SV.arr IntKind.u8 16 p28], SV.slice p29, SV.slice p30])) = some (SV.box p0 28 (SV.struct [SV.int IntKind.i64 p18, SV.int IntKind.i64 p19,
  SV.bool p20, SV.bool p21, SV.int IntKind.i64 p22, SV.int IntKind.i64 p23, SV.int IntKind.i64 p24, SV.struct [SV.int IntKind.i64 p25, SV.arr IntKind.u8 16
  p26], SV.struct [SV.int IntKind.i64 p27, SV.arr IntKind.u8 16 p28], SV.slice p29, SV.slice p30])) ∧ some (SV.box p4 66 (SV.struct [SV.struct [SV.int IntKind.i64
  p12, SV.arr IntKind.u8 16 p13], SV.struct [SV.int IntKind.i64 p14, SV.arr IntKind.u8 16 p15], SV.int IntKind.i64 p11, SV.int IntKind.i64 p7])) = some (SV.box
  p4 66 (SV.struct [SV.struct [SV.int IntKind.i64 p12, SV.arr IntKind.u8 16 p13], SV.struct [SV.int IntKind.i64 p14, SV.arr IntKind.u8 16 p15], SV.int IntKind.i64
  p11, SV.int IntKind.i64 p7])) ∧ some (SV.box z0 72 (SV.struct [SV.ptr p2, SV.bool p31, SV.struct [SV.int IntKind.i64 p32, SV.int IntKind.i64 p33, SV.bool
  p34], SV.bool p35])) = some (SV.box z0 72 (SV.struct [SV.ptr p2, SV.bool p31, SV.struct [SV.int IntKind.i64 p32, SV.int IntKind.i64 p33, SV.bool p34], SV.bool
  p35])) ∧ z4 z9 z8) (some (SV.box p3 28 (SV.struct [SV.int IntKind.i64 p6, SV.int IntKind.i64 p7, SV.bool p8, SV.bool p9, SV.int IntKind.i64 p5, SV.int IntKind.i64
  p10, SV.int IntKind.i64 p11, SV.struct [SV.int IntKind.i64 p12, SV.arr IntKind.u8 16 p13], SV.struct [SV.int IntKind.i64 p14, SV.arr IntKind.u8 16 p15],
  SV.slice p16, SV.slice p17])) = some (SV.box p3 28 (SV.struct [SV.int IntKind.i64 p6, SV.int IntKind.i64 p7, SV.bool p8, SV.bool p9, SV.int IntKind.i64
  p5, SV.int IntKind.i64 p10, SV.int IntKind.i64 p11, SV.struct [SV.int IntKind.i64 p12, SV.arr IntKind.u8 16 p13], SV.struct [SV.int IntKind.i64 p14, SV.arr
  IntKind.u8 16 p15], SV.slice p16, SV.slice p17])) ∧ some (SV.box p0 28 (SV.struct [SV.int IntKind.i64 p18, SV.int IntKind.i64 p19, SV.bool p20, SV.bool
  p21, SV.int IntKind.i64 p22, SV.int IntKind.i64 p23, SV.int IntKind.i64 p24, SV.struct [SV.int IntKind.i64 p25, SV.arr IntKind.u8 16 p26], SV.struct [SV.int
  IntKind.i64 p27, SV.arr IntKind.u8 16 p28], SV.slice p29, SV.slice p30])) = some (SV.box p0 28 (SV.struct [SV.int IntKind.i64 p18, SV.int IntKind.i64 p19,
  SV.bool p20, SV.bool p21, SV.int IntKind.i64 p22, SV.int IntKind.i64 p23, SV.int IntKind.i64 p24, SV.struct [SV.int IntKind.i64 p25, SV.arr IntKind.u8 16
  p26], SV.struct [SV.int IntKind.i64 p27, SV.arr IntKind.u8 16 p28], SV.slice p29, SV.slice p30])) ∧ some (SV.box p4 66 (SV.struct [SV.struct [SV.int IntKind.i64
  p12, SV.arr IntKind.u8 16 p13], SV.struct [SV.int IntKind.i64 p14, SV.arr IntKind.u8 16 p15], SV.int IntKind.i64 p11, SV.int IntKind.i64 p7])) = some (SV.box
  p4 66 (SV.struct [SV.struct [SV.int IntKind.i64 p12, SV.arr IntKind.u8 16 p13], SV.struct [SV.int IntKind.i64 p14, SV.arr IntKind.u8 16 p15], SV.int IntKind.i64
  p11, SV.int IntKind.i64 p7])) ∧ some (SV.box z0 72 (SV.struct [SV.ptr p2, SV.bool p31, SV.struct [SV.int IntKind.i64 p32, SV.int IntKind.i64 p33, SV.bool
  p34], SV.bool p35])) = some (SV.box z0 72 (SV.struct [SV.ptr p2, SV.bool p31, SV.struct [SV.int IntKind.i64 p32, SV.int IntKind.i64 p33, SV.bool p34], SV.bool
  p35])) ∧ z4 z2 z3)) → z1 z2 z3) → Br (p37 == 0) (Br (p32 == 0) (Br (!p35) (∀ (z10 : World), Upd [] [z0] p38 z10 → some (SV.box p3 28 (SV.struct [SV.int
  IntKind.i64 p6, SV.int IntKind.i64 p7, SV.bool p8, SV.bool p9, SV.int IntKind.i64 p5, SV.int IntKind.i64 p10, SV.int IntKind.i64 p11, SV.struct [SV.int
  IntKind.i64 p12, SV.arr IntKind.u8 16 p13], SV.struct [SV.int IntKind.i64 p14, SV.arr IntKind.u8 16 p15], SV.slice p16, SV.slice p17])) = some (SV.box p3
  28 (SV.struct [SV.int IntKind.i64 p6, SV.int IntKind.i64 p7, SV.bool p8, SV.bool p9, SV.int IntKind.i64 p5, SV.int IntKind.i64 p10, SV.int IntKind.i64 p11,
  SV.struct [SV.int IntKind.i64 p12, SV.arr IntKind.u8 16 p13], SV.struct [SV.int IntKind.i64 p14, SV.arr IntKind.u8 16 p15], SV.slice p16, SV.slice p17]))
  ∧ some (SV.box p0 28 (SV.struct [SV.int IntKind.i64 p18, SV.int IntKind.i64 p19, SV.bool p20, SV.bool p21, SV.int IntKind.i64 p22, SV.int IntKind.i64 p23,
  SV.int IntKind.i64 p24, SV.struct [SV.int IntKind.i64 p25, SV.arr IntKind.u8 16 p26], SV.struct [SV.int IntKind.i64 p27, SV.arr IntKind.u8 16 p28], SV.slice
  p29, SV.slice p30])) = some (SV.box p0 28 (SV.struct [SV.int IntKind.i64 p18, SV.int IntKind.i64 p19, SV.bool p20, SV.bool p21, SV.int IntKind.i64 p22,
  SV.int IntKind.i64 p23, SV.int IntKind.i64 p24, SV.struct [SV.int IntKind.i64 p25, SV.arr IntKind.u8 16 p26], SV.struct [SV.int IntKind.i64 p27, SV.arr
  IntKind.u8 16 p28], SV.slice p29, SV.slice p30])) ∧ some (SV.box p4 66 (SV.struct [SV.struct [SV.int IntKind.i64 p12, SV.arr IntKind.u8 16 p13], SV.struct
  [SV.int IntKind.i64 p14, SV.arr IntKind.u8 16 p15], SV.int IntKind.i64 p11, SV.int IntKind.i64 p7])) = some (SV.box p4 66 (SV.struct [SV.struct [SV.int
  IntKind.i64 p12, SV.arr IntKind.u8 16 p13], SV.struct [SV.int IntKind.i64 p14, SV.arr IntKind.u8 16 p15], SV.int IntKind.i64 p11, SV.int IntKind.i64 p7]))
  ∧ some (SV.box z0 72 (SV.struct [SV.ptr p2, SV.bool p31, SV.struct [SV.int IntKind.i64 p32, SV.int IntKind.i64 p33, SV.bool p34], SV.bool p35])) = some
  (SV.box z0 72 (SV.struct [SV.ptr p2, SV.bool p31, SV.struct [SV.int IntKind.i64 p32, SV.int IntKind.i64 p33, SV.bool p34], SV.bool p35])) ∧ z1 121 z10)
  (∀ (z11 : World), Upd [] [z0] p38 z11 → some (SV.box p3 28 (SV.struct [SV.int IntKind.i64 p6, SV.int IntKind.i64 p7, SV.bool p8, SV.bool p9, SV.int IntKind.i64
  p5, SV.int IntKind.i64 p10, SV.int IntKind.i64 p11, SV.struct [SV.int IntKind.i64 p12, SV.arr IntKind.u8 16 p13], SV.struct [SV.int IntKind.i64 p14, SV.arr
  IntKind.u8 16 p15], SV.slice p16, SV.slice p17])) = some (SV.box p3 28 (SV.struct [SV.int IntKind.i64 p6, SV.int IntKind.i64 p7, SV.bool p8, SV.bool p9,
  SV.int IntKind.i64 p5, SV.int IntKind.i64 p10, SV.int IntKind.i64 p11, SV.struct [SV.int IntKind.i64 p12, SV.arr IntKind.u8 16 p13], SV.struct [SV.int IntKind.i64
  p14, SV.arr IntKind.u8 16 p15], SV.slice p16, SV.slice p17])) ∧ some (SV.box p0 28 (SV.struct [SV.int IntKind.i64 p18, SV.int IntKind.i64 p19, SV.bool p20,
  SV.bool p21, SV.int IntKind.i64 p22, SV.int IntKind.i64 p23, SV.int IntKind.i64 p24, SV.struct [SV.int IntKind.i64 p25, SV.arr IntKind.u8 16 p26], SV.struct
  [SV.int IntKind.i64 p27, SV.arr IntKind.u8 16 p28], SV.slice p29, SV.slice p30])) = some (SV.box p0 28 (SV.struct [SV.int IntKind.i64 p18, SV.int IntKind.i64
  p19, SV.bool p20, SV.bool p21, SV.int IntKind.i64 p22, SV.int IntKind.i64 p23, SV.int IntKind.i64 p24, SV.struct [SV.int IntKind.i64 p25, SV.arr IntKind.u8
  16 p26], SV.struct [SV.int IntKind.i64 p27, SV.arr IntKind.u8 16 p28], SV.slice p29, SV.slice p30])) ∧ some (SV.box p4 66 (SV.struct [SV.struct [SV.int
  IntKind.i64 p12, SV.arr IntKind.u8 16 p13], SV.struct [SV.int IntKind.i64 p14, SV.arr IntKind.u8 16 p15], SV.int IntKind.i64 p11, SV.int IntKind.i64 p7]))
  = some (SV.box p4 66 (SV.struct [SV.struct [SV.int IntKind.i64 p12, SV.arr IntKind.u8 16 p13], SV.struct [SV.int IntKind.i64 p14, SV.arr IntKind.u8 16 p15],
  SV.int IntKind.i64 p11, SV.int IntKind.i64 p7])) ∧ some (SV.box z0 72 (SV.struct [SV.ptr p2, SV.bool p31, SV.struct [SV.int IntKind.i64 p32, SV.int IntKind.i64
  p33, SV.bool p34], SV.bool p35])) = some (SV.box z0 72 (SV.struct [SV.ptr p2, SV.bool p31, SV.struct [SV.int IntKind.i64 p32, SV.int IntKind.i64 p33, SV.bool
  p34], SV.bool p35])) ∧ z1 p37 z11)) (∀ (z12 : World), Upd [] [z0] p38 z12 → some (SV.box p3 28 (SV.struct [SV.int IntKind.i64 p6, SV.int IntKind.i64 p7,
  SV.bool p8, SV.bool p9, SV.int IntKind.i64 p5, SV.int IntKind.i64 p10, SV.int IntKind.i64 p11, SV.struct [SV.int IntKind.i64 p12, SV.arr IntKind.u8 16 p13],
  SV.struct [SV.int IntKind.i64 p14, SV.arr IntKind.u8 16 p15], SV.slice p16, SV.slice p17])) = some (SV.box p3 28 (SV.struct [SV.int IntKind.i64 p6, SV.int
  IntKind.i64 p7, SV.bool p8, SV.bool p9, SV.int IntKind.i64 p5, SV.int IntKind.i64 p10, SV.int IntKind.i64 p11, SV.struct [SV.int IntKind.i64 p12, SV.arr
  IntKind.u8 16 p13], SV.struct [SV.int IntKind.i64 p14, SV.arr IntKind.u8 16 p15], SV.slice p16, SV.slice p17])) ∧ some (SV.box p0 28 (SV.struct [SV.int
  IntKind.i64 p18, SV.int IntKind.i64 p19, SV.bool p20, SV.bool p21, SV.int IntKind.i64 p22, SV.int IntKind.i64 p23, SV.int IntKind.i64 p24, SV.struct [SV.int
  IntKind.i64 p25, SV.arr IntKind.u8 16 p26], SV.struct [SV.int IntKind.i64 p27, SV.arr IntKind.u8 16 p28], SV.slice p29, SV.slice p30])) = some (SV.box p0
  28 (SV.struct [SV.int IntKind.i64 p18, SV.int IntKind.i64 p19, SV.bool p20, SV.bool p21, SV.int IntKind.i64 p22, SV.int IntKind.i64 p23, SV.int IntKind.i64
  p24, SV.struct [SV.int IntKind.i64 p25, SV.arr IntKind.u8 16 p26], SV.struct [SV.int IntKind.i64 p27, SV.arr IntKind.u8 16 p28], SV.slice p29, SV.slice
  p30])) ∧ some (SV.box p4 66 (SV.struct [SV.struct [SV.int IntKind.i64 p12, SV.arr IntKind.u8 16 p13], SV.struct [SV.int IntKind.i64 p14, SV.arr IntKind.u8
  16 p15], SV.int IntKind.i64 p11, SV.int IntKind.i64 p7])) = some (SV.box p4 66 (SV.struct [SV.struct [SV.int IntKind.i64 p12, SV.arr IntKind.u8 16 p13],
  SV.struct [SV.int IntKind.i64 p14, SV.arr IntKind.u8 16 p15], SV.int IntKind.i64 p11, SV.int IntKind.i64 p7])) ∧ some (SV.box z0 72 (SV.struct [SV.ptr p2,
  SV.bool p31, SV.struct [SV.int IntKind.i64 p32, SV.int IntKind.i64 p33, SV.bool p34], SV.bool p35])) = some (SV.box z0 72 (SV.struct [SV.ptr p2, SV.bool
  p31, SV.struct [SV.int IntKind.i64 p32, SV.int IntKind.i64 p33, SV.bool p34], SV.bool p35])) ∧ z1 p37 z12)) (∀ (z13 : World), Upd [] [z0] p38 z13 → some
  (SV.box p3 28 (SV.struct [SV.int IntKind.i64 p6, SV.int IntKind.i64 p7, SV.bool p8, SV.bool p9, SV.int IntKind.i64 p5, SV.int IntKind.i64 p10, SV.int IntKind.i64
  p11, SV.struct [SV.int IntKind.i64 p12, SV.arr IntKind.u8 16 p13], SV.struct [SV.int IntKind.i64 p14, SV.arr IntKind.u8 16 p15], SV.slice p16, SV.slice
  p17])) = some (SV.box p3 28 (SV.struct [SV.int IntKind.i64 p6, SV.int IntKind.i64 p7, SV.bool p8, SV.bool p9, SV.int IntKind.i64 p5, SV.int IntKind.i64
  p10, SV.int IntKind.i64 p11, SV.struct [SV.int IntKind.i64 p12, SV.arr IntKind.u8 16 p13], SV.struct [SV.int IntKind.i64 p14, SV.arr IntKind.u8 16 p15],
  SV.slice p16, SV.slice p17])) ∧ some (SV.box p0 28 (SV.struct [SV.int IntKind.i64 p18, SV.int IntKind.i64 p19, SV.bool p20, SV.bool p21, SV.int IntKind.i64
  p22, SV.int IntKind.i64 p23, SV.int IntKind.i64 p24, SV.struct [SV.int IntKind.i64 p25, SV.arr IntKind.u8 16 p26], SV.struct [SV.int IntKind.i64 p27, SV.arr
  IntKind.u8 16 p28], SV.slice p29, SV.slice p30])) = some (SV.box p0 28 (SV.struct [SV.int IntKind.i64 p18, SV.int IntKind.i64 p19, SV.bool p20, SV.bool
  p21, SV.int IntKind.i64 p22, SV.int IntKind.i64 p23, SV.int IntKind.i64 p24, SV.struct [SV.int IntKind.i64 p25, SV.arr IntKind.u8 16 p26], SV.struct [SV.int
  IntKind.i64 p27, SV.arr IntKind.u8 16 p28], SV.slice p29, SV.slice p30])) ∧ some (SV.box p4 66 (SV.struct [SV.struct [SV.int IntKind.i64 p12, SV.arr IntKind.u8
  16 p13], SV.struct [SV.int IntKind.i64 p14, SV.arr IntKind.u8 16 p15], SV.int IntKind.i64 p11, SV.int IntKind.i64 p7])) = some (SV.box p4 66 (SV.struct
  [SV.struct [SV.int IntKind.i64 p12, SV.arr IntKind.u8 16 p13], SV.struct [SV.int IntKind.i64 p14, SV.arr IntKind.u8 16 p15], SV.int IntKind.i64 p11, SV.int
  IntKind.i64 p7])) ∧ some (SV.box z0 72 (SV.struct [SV.ptr p2, SV.bool p31, SV.struct [SV.int IntKind.i64 p32, SV.int IntKind.i64 p33, SV.bool p34], SV.bool
  p35])) = some (SV.box z0 72 (SV.struct [SV.ptr p2, SV.bool p31, SV.struct [SV.int IntKind.i64 p32, SV.int IntKind.i64 p33, SV.bool p34], SV.bool p35]))
  ∧ z1 p37 z13)
def vc7 (t : Option Addr) (h_0 : Int) (h_1 : Int) (h_2 : Bool) (h_3 : Bool) (h_4 : Int) (h_5 : Int) (h_6 : Int) (h_7_0 : Int) (h_7_1 : Nat → Int) (h_8_0
  : Int) (h_8_1 : Nat → Int) (h_9 : Sl) (h_10 : Sl) (w : World) (R : SV → World → Prop) : Prop := ∀ (b b_1 : Nat) (w1 : World), Upd [] [b_1, b] w w1 → Ret
  Try.prog 23 [SV.struct [SV.int IntKind.i64 h_0, SV.int IntKind.i64 h_1, SV.bool h_2, SV.bool h_3, SV.int IntKind.i64 h_4, SV.int IntKind.i64 h_5, SV.int
  IntKind.i64 h_6, SV.struct [SV.int IntKind.i64 h_7_0, SV.arr IntKind.u8 16 h_7_1], SV.struct [SV.int IntKind.i64 h_8_0, SV.arr IntKind.u8 16 h_8_1], SV.slice
  h_9, SV.slice h_10]] w1 fun (r : SV) (w1_1 : World) => ∃ (n : Int), r = SV.int IntKind.i64 n ∧ Keeps [b, b_1] w1 w1_1 ∧ Br (n != 0) (∀ (w1 : World), Upd
  [b_1] [] w1_1 w1 → R (SV.tuple [SV.struct [SV.int IntKind.i64 0, SV.int IntKind.i64 0, SV.bool false, SV.bool false, SV.int IntKind.i64 0, SV.int IntKind.i64
  0, SV.int IntKind.i64 0, SV.struct [SV.int IntKind.i64 0, SV.arr IntKind.u8 16 fun (x : Nat) => 0], SV.struct [SV.int IntKind.i64 0, SV.arr IntKind.u8 16
  fun (x : Nat) => 0], SV.slice { ptr := none, len := 0, cap := 0 }, SV.slice { ptr := none, len := 0, cap := 0 }], SV.int IntKind.i64 0, SV.int IntKind.i64
  n]) w1) (∀ (J : Int → Int → Bool → Bool → Int → Int → Int → Int → (Nat → Int) → Int → (Nat → Int) → Sl → Sl → World → Prop), (∀ (n n_1 : Int) (b_2 b_3 :
  Bool) (n_2 n_3 n_4 n_5 : Int) (f : Nat → Int) (n_6 : Int) (f_1 : Nat → Int) (s s_1 : Sl) (w1 : World), (∀ (b_4 : Nat), deref t fun (a : Addr) => ∃ (r :
  Option Nat), World.cell? w1 (Addr.add a 3) = some (Value.map r) ∧ derefN r fun (r : Nat) => ∀ (w1_2 : World), Upd [] [b_4] w1 w1_2 → Program.underlying
  Try.prog 56 = some (TypeDesc.map 66 67) ∧ ∃ (l : List (Value × SV)), MapL w1_2 r l ∧ KeysOk Try.prog 66 (SV.enc (SV.struct [SV.struct [SV.int IntKind.i64
  h_7_0, SV.arr IntKind.u8 16 h_7_1], SV.struct [SV.int IntKind.i64 h_8_0, SV.arr IntKind.u8 16 h_8_1], SV.int IntKind.i64 h_6, SV.int IntKind.i64 h_1]))
  l ∧ AllShape (Ty.ptr 83) l ∧ ∀ (p : Option Addr) (b_5 : Bool), Vc.Found l (SV.enc (SV.struct [SV.struct [SV.int IntKind.i64 h_7_0, SV.arr IntKind.u8 16
  h_7_1], SV.struct [SV.int IntKind.i64 h_8_0, SV.arr IntKind.u8 16 h_8_1], SV.int IntKind.i64 h_6, SV.int IntKind.i64 h_1])) (SV.ptr none) (SV.ptr p) b_5
  → Ret Try.prog 24 [SV.ptr p, SV.int IntKind.i64 125, SV.int IntKind.i64 123] w1_2 fun (r : SV) (w1 : World) => ∃ (n_7 : Int), r = SV.int IntKind.i64 n_7
  ∧ Keeps [b, b_1, b_4] w1_2 w1 ∧ Br (n_7 != 0) (∀ (w1_3 : World), Upd [b_1] [] w1 w1_3 → R (SV.tuple [SV.struct [SV.int IntKind.i64 0, SV.int IntKind.i64
  0, SV.bool false, SV.bool false, SV.int IntKind.i64 0, SV.int IntKind.i64 0, SV.int IntKind.i64 0, SV.struct [SV.int IntKind.i64 0, SV.arr IntKind.u8 16
  fun (x : Nat) => 0], SV.struct [SV.int IntKind.i64 0, SV.arr IntKind.u8 16 fun (x : Nat) => 0], SV.slice { ptr := none, len := 0, cap := 0 }, SV.slice { ptr := none, len := 0, cap := 0 }],
  SV.int IntKind.i64 0, SV.int IntKind.i64 n_7]) w1_3) (Ret Try.prog 25 [SV.ptr t, SV.struct [SV.struct [SV.int IntKind.i64 h_7_0, SV.arr IntKind.u8 16 h_7_1],
  SV.struct [SV.int IntKind.i64 h_8_0, SV.arr IntKind.u8 16 h_8_1], SV.int IntKind.i64 h_6, SV.int IntKind.i64 h_1], SV.int IntKind.i64 65515, SV.int IntKind.i64
  h_4, SV.slice h_10, SV.bool h_3] w1 fun (r : SV) (w1_3 : World) => ∃ (p : Option Addr), ∃ (b_6 : Bool), ∃ (n_8 : Int), ∃ (n_9 : Int), ∃ (b_7 : Bool), ∃
  (b_8 : Bool), ∃ (n_10 : Int), r = SV.tuple [SV.struct [SV.ptr p, SV.bool b_6, SV.struct [SV.int IntKind.i64 n_8, SV.int IntKind.i64 n_9, SV.bool b_7], SV.bool
  b_8], SV.int IntKind.i64 n_10] ∧ Keeps [b, b_1, b_4] w1 w1_3 ∧ tail7r b_1 R p b b_4 h_4 h_0 h_1 h_2 h_3 h_5 h_6 h_7_0 h_7_1 h_8_0 h_8_1 h_9 h_10 n n_1 b_2
  b_3 n_2 n_3 n_4 n_5 f n_6 f_1 s s_1 b_6 n_8 n_9 b_7 b_8 t n_10 w1_3)) → J n n_1 b_2 b_3 n_2 n_3 n_4 n_5 f n_6 f_1 s s_1 w1) → Br (!h_3) (Br (h_4 == 0) (∀
  (w1 : World), Upd [b_1] [] w1_1 w1 → R (SV.tuple [SV.struct [SV.int IntKind.i64 h_0, SV.int IntKind.i64 h_1, SV.bool h_2, SV.bool h_3, SV.int IntKind.i64
  h_4, SV.int IntKind.i64 h_5, SV.int IntKind.i64 h_6, SV.struct [SV.int IntKind.i64 h_7_0, SV.arr IntKind.u8 16 h_7_1], SV.struct [SV.int IntKind.i64 h_8_0,
  SV.arr IntKind.u8 16 h_8_1], SV.slice h_9, SV.slice h_10], SV.int IntKind.i64 1, SV.int IntKind.i64 0]) w1) (some (SV.box b 28 (SV.struct [SV.int IntKind.i64
  h_0, SV.int IntKind.i64 h_1, SV.bool h_2, SV.bool h_3, SV.int IntKind.i64 h_4, SV.int IntKind.i64 h_5, SV.int IntKind.i64 h_6, SV.struct [SV.int IntKind.i64
  h_7_0, SV.arr IntKind.u8 16 h_7_1], SV.struct [SV.int IntKind.i64 h_8_0, SV.arr IntKind.u8 16 h_8_1], SV.slice h_9, SV.slice h_10])) = some (SV.box b 28
  (SV.struct [SV.int IntKind.i64 h_0, SV.int IntKind.i64 h_1, SV.bool h_2, SV.bool h_3, SV.int IntKind.i64 h_4, SV.int IntKind.i64 h_5, SV.int IntKind.i64
  h_6, SV.struct [SV.int IntKind.i64 h_7_0, SV.arr IntKind.u8 16 h_7_1], SV.struct [SV.int IntKind.i64 h_8_0, SV.arr IntKind.u8 16 h_8_1], SV.slice h_9, SV.slice
  h_10])) ∧ (b_1, 28) = (b_1, 28) ∧ J 0 0 false false 0 0 0 0 (fun (x : Nat) => 0) 0 (fun (x : Nat) => 0) { ptr := none, len := 0, cap := 0 } { ptr := none, len := 0, cap := 0 }
  w1_1)) (some (SV.box b 28 (SV.struct [SV.int IntKind.i64 h_0, SV.int IntKind.i64 h_1, SV.bool h_2, SV.bool h_3, SV.int IntKind.i64 h_4, SV.int IntKind.i64
  h_5, SV.int IntKind.i64 h_6, SV.struct [SV.int IntKind.i64 h_7_0, SV.arr IntKind.u8 16 h_7_1], SV.struct [SV.int IntKind.i64 h_8_0, SV.arr IntKind.u8 16
  h_8_1], SV.slice h_9, SV.slice h_10])) = some (SV.box b 28 (SV.struct [SV.int IntKind.i64 h_0, SV.int IntKind.i64 h_1, SV.bool h_2, SV.bool h_3, SV.int
  IntKind.i64 h_4, SV.int IntKind.i64 h_5, SV.int IntKind.i64 h_6, SV.struct [SV.int IntKind.i64 h_7_0, SV.arr IntKind.u8 16 h_7_1], SV.struct [SV.int IntKind.i64
  h_8_0, SV.arr IntKind.u8 16 h_8_1], SV.slice h_9, SV.slice h_10])) ∧ (b_1, 28) = (b_1, 28) ∧ J 0 0 false false 0 0 0 0 (fun (x : Nat) => 0) 0 (fun (x :
  Nat) => 0) { ptr := none, len := 0, cap := 0 } { ptr := none, len := 0, cap := 0 } w1_1))
theorem f7_of (t : Option Addr) (h_0 : Int) (h_1 : Int) (h_2 : Bool) (h_3 : Bool) (h_4 : Int) (h_5 : Int) (h_6 : Int) (h_7_0 : Int) (h_7_1 : Nat → Int) (h_8_0 : Int) (h_8_1 : Nat → Int) (h_9 : Sl) (h_10 : Sl) (w : World) (R : SV → World → Prop) (hV : vc7 t h_0 h_1 h_2 h_3 h_4 h_5 h_6 h_7_0 h_7_1 h_8_0 h_8_1 h_9 h_10 w R) : Ret Try.prog 7 [.ptr t, .struct [.int .i64 h_0, .int .i64 h_1, .bool h_2, .bool h_3, .int .i64 h_4, .int .i64 h_5, .int .i64 h_6, .struct [.int .i64 h_7_0, .arr .u8 16 h_7_1], .struct [.int .i64 h_8_0, .arr .u8 16 h_8_1], .slice h_9, .slice h_10]] w R :=
  have e : vc7 t h_0 h_1 h_2 h_3 h_4 h_5 h_6 h_7_0 h_7_1 h_8_0 h_8_1 h_9 h_10 w R = fnVC X Try.f7 a7 [.ptr t, .struct [.int .i64 h_0, .int .i64 h_1, .bool h_2, .bool h_3, .int .i64 h_4, .int .i64 h_5, .int .i64 h_6, .struct [.int .i64 h_7_0, .arr .u8 16 h_7_1], .struct [.int .i64 h_8_0, .arr .u8 16 h_8_1], .slice h_9, .slice h_10]] w R := by kernel_rfl
  fnVC_sound X_ok (n := a7) (e ▸ hV) (by kernel_rfl) (by kernel_rfl) rfl rfl

def vc24 (c : Option Addr) (done : Int) (spoiled : Int) (w : World) (R : SV → World → Prop) : Prop :=
  Br (Option.isNone c) (R (SV.int IntKind.i64 0) w)
    (deref c fun (a : Addr) =>
      ∃ (n : Int),
        World.cell? w (Addr.add a 38) = some (Value.int IntKind.i64 n) ∧
          Br (n == 1) (R (SV.int IntKind.i64 done) w)
            (deref c fun (a : Addr) =>
              ∃ (n : Int),
                World.cell? w (Addr.add a 38) = some (Value.int IntKind.i64 n) ∧
                  Br (n == 2) (R (SV.int IntKind.i64 spoiled) w)
                    (deref c fun (a : Addr) =>
                      ∃ (n : Int), World.cell? w (Addr.add a 41) = some (Value.int IntKind.i64 n) ∧ Br (n == 1024) (R (SV.int IntKind.i64 124) w) (R (SV.int IntKind.i64 0) w))))
theorem f24_of (c : Option Addr) (done : Int) (spoiled : Int) (w : World) (R : SV → World → Prop) (hV : vc24 c done spoiled w R) : Ret Try.prog 24 [.ptr c, .int .i64 done, .int .i64 spoiled] w R :=
  have e : vc24 c done spoiled w R = fnVC X Try.f24 a24 [.ptr c, .int .i64 done, .int .i64 spoiled] w R := by kernel_rfl
  fnVC_sound X_ok (n := a24) (e ▸ hV) (by kernel_rfl) (by kernel_rfl) rfl rfl

def tail25 (p0 : Option Addr) (p1 : World) (p2 : Nat) (p3 : Nat) (p4 : Nat) (p5 : Int) (p6 : Sl) (p7 : Bool) (p8 : SV → World → Prop) (p9 : Bool) (p10 :
  Bool) (p11 : Int) (p12 : Nat → Int) (p13 : Int) (p14 : Nat → Int) (p15 : Int) (p16 : Int) (p17 : Option Addr) (p18 : Bool) (p19 : Int) (p20 : Int) (p21
  : Bool) (p22 : Bool) : Prop := deref p0 fun (z0 : Addr) => ∃ (z1 : Option Addr), World.cell? p1 (Addr.add z0 40) = some (Value.pointer z1) ∧ Ret Try.prog
  48 [SV.ptr z1] p1 fun (z2 : SV) (z3 : World) => ∃ (z4 : Int), ∃ (z5 : Bool), z2 = SV.tuple [SV.int IntKind.i64 z4, SV.bool z5] ∧ Keeps [p2, p3, p4] p1 z3
  ∧ deref p0 fun (z6 : Addr) => ∃ (z7 : Option Addr), World.cell? z3 (Addr.add z6 40) = some (Value.pointer z7) ∧ Ret Try.prog 49 [SV.ptr z7, SV.int IntKind.i64
  p5, SV.slice p6, SV.bool p7] z3 fun (z8 : SV) (z9 : World) => ∃ (z10 : Int), ∃ (z11 : Int), ∃ (z12 : Bool), ∃ (z13 : Int), z8 = SV.tuple [SV.struct [SV.int
  IntKind.i64 z10, SV.int IntKind.i64 z11, SV.bool z12], SV.int IntKind.i64 z13] ∧ Keeps [p2, p3, p4] z3 z9 ∧ Br (z13 == 0) (deref p0 fun (z14 : Addr) =>
  ∀ (z15 : World), Upd [p4] [] z9 z15 → ∃ (z16 : Option Addr), World.cell? z15 (Addr.add z14 40) = some (Value.pointer z16) ∧ Ret Try.prog 48 [SV.ptr z16]
  z15 fun (z17 : SV) (z18 : World) => ∃ (z19 : Int), ∃ (z20 : Bool), z17 = SV.tuple [SV.int IntKind.i64 z19, SV.bool z20] ∧ Keeps [p2, p3, p4] z15 z18 ∧ Br
  z20 (∀ (z21 : World), Upd [p3, p4] [] z18 z21 → p8 (SV.tuple [SV.struct [SV.ptr p0, SV.bool p9, SV.struct [SV.int IntKind.i64 z10, SV.int IntKind.i64 z11,
  SV.bool z12], SV.bool !z5], SV.int IntKind.i64 0]) z21) (∀ (z22 : World), Upd [p3, p4] [] z18 z22 → p8 (SV.tuple [SV.struct [SV.ptr p0, SV.bool p9, SV.struct
  [SV.int IntKind.i64 z10, SV.int IntKind.i64 z11, SV.bool z12], SV.bool false], SV.int IntKind.i64 0]) z22)) (∀ (z23 : Bool → World → Prop), (∀ (z24 : Bool)
  (z25 : World), Br z24 (∀ (z26 : World), Upd [p3] [] z25 z26 → p8 (SV.tuple [SV.struct [SV.ptr p0, SV.bool p9, SV.struct [SV.int IntKind.i64 z10, SV.int
  IntKind.i64 z11, SV.bool z12], SV.bool p10], SV.int IntKind.i64 123]) z26) (∀ (z27 : World), Upd [p3] [] z25 z27 → p8 (SV.tuple [SV.struct [SV.ptr p0, SV.bool
  p9, SV.struct [SV.int IntKind.i64 z10, SV.int IntKind.i64 z11, SV.bool z12], SV.bool p10], SV.int IntKind.i64 z13]) z27) → z23 z24 z25) → Br (z13 == 112)
  (∀ (z28 : World), Upd [p4] [] z9 z28 → some (SV.box p2 66 (SV.struct [SV.struct [SV.int IntKind.i64 p11, SV.arr IntKind.u8 16 p12], SV.struct [SV.int IntKind.i64
  p13, SV.arr IntKind.u8 16 p14], SV.int IntKind.i64 p15, SV.int IntKind.i64 p16])) = some (SV.box p2 66 (SV.struct [SV.struct [SV.int IntKind.i64 p11, SV.arr
  IntKind.u8 16 p12], SV.struct [SV.int IntKind.i64 p13, SV.arr IntKind.u8 16 p14], SV.int IntKind.i64 p15, SV.int IntKind.i64 p16])) ∧ some (SV.box p3 72
  (SV.struct [SV.ptr p17, SV.bool p18, SV.struct [SV.int IntKind.i64 p19, SV.int IntKind.i64 p20, SV.bool p21], SV.bool p22])) = some (SV.box p3 72 (SV.struct
  [SV.ptr p17, SV.bool p18, SV.struct [SV.int IntKind.i64 p19, SV.int IntKind.i64 p20, SV.bool p21], SV.bool p22])) ∧ some (SV.box p4 72 (SV.struct [SV.ptr
  p0, SV.bool p9, SV.struct [SV.int IntKind.i64 z10, SV.int IntKind.i64 z11, SV.bool z12], SV.bool p10])) = some (SV.box p4 72 (SV.struct [SV.ptr p0, SV.bool
  p9, SV.struct [SV.int IntKind.i64 z10, SV.int IntKind.i64 z11, SV.bool z12], SV.bool p10])) ∧ z23 true z28) (Br (z13 == 113) (∀ (z29 : World), Upd [p4]
  [] z9 z29 → some (SV.box p2 66 (SV.struct [SV.struct [SV.int IntKind.i64 p11, SV.arr IntKind.u8 16 p12], SV.struct [SV.int IntKind.i64 p13, SV.arr IntKind.u8
  16 p14], SV.int IntKind.i64 p15, SV.int IntKind.i64 p16])) = some (SV.box p2 66 (SV.struct [SV.struct [SV.int IntKind.i64 p11, SV.arr IntKind.u8 16 p12],
  SV.struct [SV.int IntKind.i64 p13, SV.arr IntKind.u8 16 p14], SV.int IntKind.i64 p15, SV.int IntKind.i64 p16])) ∧ some (SV.box p3 72 (SV.struct [SV.ptr
  p17, SV.bool p18, SV.struct [SV.int IntKind.i64 p19, SV.int IntKind.i64 p20, SV.bool p21], SV.bool p22])) = some (SV.box p3 72 (SV.struct [SV.ptr p17, SV.bool
  p18, SV.struct [SV.int IntKind.i64 p19, SV.int IntKind.i64 p20, SV.bool p21], SV.bool p22])) ∧ some (SV.box p4 72 (SV.struct [SV.ptr p0, SV.bool p9, SV.struct
  [SV.int IntKind.i64 z10, SV.int IntKind.i64 z11, SV.bool z12], SV.bool p10])) = some (SV.box p4 72 (SV.struct [SV.ptr p0, SV.bool p9, SV.struct [SV.int
  IntKind.i64 z10, SV.int IntKind.i64 z11, SV.bool z12], SV.bool p10])) ∧ z23 true z29) (∀ (z30 : World), Upd [p4] [] z9 z30 → some (SV.box p2 66 (SV.struct
  [SV.struct [SV.int IntKind.i64 p11, SV.arr IntKind.u8 16 p12], SV.struct [SV.int IntKind.i64 p13, SV.arr IntKind.u8 16 p14], SV.int IntKind.i64 p15, SV.int
  IntKind.i64 p16])) = some (SV.box p2 66 (SV.struct [SV.struct [SV.int IntKind.i64 p11, SV.arr IntKind.u8 16 p12], SV.struct [SV.int IntKind.i64 p13, SV.arr
  IntKind.u8 16 p14], SV.int IntKind.i64 p15, SV.int IntKind.i64 p16])) ∧ some (SV.box p3 72 (SV.struct [SV.ptr p17, SV.bool p18, SV.struct [SV.int IntKind.i64
  p19, SV.int IntKind.i64 p20, SV.bool p21], SV.bool p22])) = some (SV.box p3 72 (SV.struct [SV.ptr p17, SV.bool p18, SV.struct [SV.int IntKind.i64 p19, SV.int
  IntKind.i64 p20, SV.bool p21], SV.bool p22])) ∧ some (SV.box p4 72 (SV.struct [SV.ptr p0, SV.bool p9, SV.struct [SV.int IntKind.i64 z10, SV.int IntKind.i64
  z11, SV.bool z12], SV.bool p10])) = some (SV.box p4 72 (SV.struct [SV.ptr p0, SV.bool p9, SV.struct [SV.int IntKind.i64 z10, SV.int IntKind.i64 z11, SV.bool
  z12], SV.bool p10])) ∧ z23 (z13 == 114) z30)))
def vc25 (t : Option Addr) (k_0_0 : Int) (k_0_1 : Nat → Int) (k_1_0 : Int) (k_1_1 : Nat → Int) (k_2 : Int) (k_3 : Int) (most : Int) (off : Int) (data :
  Sl) (more : Bool) (w : World) (R : SV → World → Prop) : Prop := ∀ (b b_1 : Nat), deref t fun (a : Addr) => ∃ (r : Option Nat), World.cell? w (Addr.add a
  3) = some (Value.map r) ∧ (derefN r fun (r : Nat) => ∀ (w1 : World), Upd [] [b_1, b] w w1 → Program.underlying Try.prog 56 = some (TypeDesc.map 66 67) ∧
  ∃ (l : List (Value × SV)), MapL w1 r l ∧ KeysOk Try.prog 66 (SV.enc (SV.struct [SV.struct [SV.int IntKind.i64 k_0_0, SV.arr IntKind.u8 16 k_0_1], SV.struct
  [SV.int IntKind.i64 k_1_0, SV.arr IntKind.u8 16 k_1_1], SV.int IntKind.i64 k_2, SV.int IntKind.i64 k_3])) l ∧ AllShape (Ty.ptr 83) l ∧ ∀ (p : Option Addr)
  (b_2 : Bool), Vc.Found l (SV.enc (SV.struct [SV.struct [SV.int IntKind.i64 k_0_0, SV.arr IntKind.u8 16 k_0_1], SV.struct [SV.int IntKind.i64 k_1_0, SV.arr
  IntKind.u8 16 k_1_1], SV.int IntKind.i64 k_2, SV.int IntKind.i64 k_3])) (SV.ptr none) (SV.ptr p) b_2 → ∀ (b_3 : Nat), Upd [] [] w w1 ∧ ∀ (J : Option Addr
  → Bool → Int → Int → Bool → Bool → Option Addr → Bool → Int → Int → Bool → Bool → World → Prop), (∀ (p : Option Addr) (b_4 : Bool) (n n_1 : Int) (b_5 b_6
  : Bool) (p_1 : Option Addr) (b_7 : Bool) (n_2 n_3 : Int) (b_8 b_9 : Bool) (w1 : World), (tail25 p_1 w1 b b_1 b_3 off data more R b_7 b_9 k_0_0 k_0_1 k_1_0
  k_1_1 k_2 k_3 p b_4 n n_1 b_5 b_6) → J p b_4 n n_1 b_5 b_6 p_1 b_7 n_2 n_3 b_8 b_9 w1) → Br (Option.isNone p) (∀ (w1_1 : World), Upd [] [b_3] w1 w1_1 →
  Ret Try.prog 47 [SV.int IntKind.i64 most] w1_1 fun (r : SV) (w1 : World) => ∃ (p_1 : Option Addr), ∃ (n : Int), r = SV.tuple [SV.ptr p_1, SV.int IntKind.i64
  n] ∧ Keeps [b, b_1, b_3] w1_1 w1 ∧ Br (n != 0) (∀ (w1_2 : World), Upd [b_1] [] w1 w1_2 → R (SV.tuple [SV.struct [SV.ptr p, SV.bool false, SV.struct [SV.int
  IntKind.i64 0, SV.int IntKind.i64 0, SV.bool false], SV.bool false], SV.int IntKind.i64 n]) w1_2) (deref t fun (a : Addr) => ∃ (n : Int), World.cell? w1
  (Addr.add a 1) = some (Value.int IntKind.i64 n) ∧ ∀ (b_4 : Nat) (w1_2 : World), Upd [] [b_4] w1 w1_2 → (World.heap w1_2)[b_4]? = some (Obj.cells { toList := SV.cells (SV.struct [SV.struct [SV.struct [SV.int IntKind.i64 k_0_0, SV.arr IntKind.u8 16 k_0_1], SV.struct [SV.int IntKind.i64 k_1_0, SV.arr IntKind.u8 16 k_1_1], SV.int IntKind.i64 k_2, SV.int IntKind.i64 k_3], SV.int IntKind.i64 0, SV.int IntKind.i64 n, SV.int IntKind.i64 0, SV.int IntKind.i64 0, SV.ptr p_1, SV.int IntKind.i64 0, SV.bool false, SV.struct [SV.int IntKind.i64 0, SV.int IntKind.i64 0, SV.bool false, SV.bool false, SV.int IntKind.i64 0, SV.int IntKind.i64 0, SV.int IntKind.i64 0, SV.struct [SV.int IntKind.i64 0, SV.arr IntKind.u8 16 fun (x : Nat) => 0], SV.struct [SV.int IntKind.i64 0, SV.arr IntKind.u8 16 fun (x : Nat) => 0], SV.slice { ptr := none, len := 0, cap := 0 }, SV.slice { ptr := none, len := 0, cap := 0 }], SV.struct [SV.int IntKind.i64 0, SV.int IntKind.i64 0, SV.int IntKind.i64 0, SV.struct [SV.int IntKind.i64 0, SV.arr IntKind.u8 16 fun (x : Nat) => 0], SV.struct [SV.int IntKind.i64 0, SV.arr IntKind.u8 16 fun (x : Nat) => 0], SV.slice { ptr := none, len := 0, cap := 0 }, SV.struct [SV.bool false, SV.bool false, SV.int IntKind.i64 0, SV.int IntKind.i64 0], SV.int IntKind.i64 0, SV.slice { ptr := none, len := 0, cap := 0 }]]) }
  83) → Off b_4 [b, b_1, b_3] → ∀ (w1 : World), Upd [b_3] [] w1_2 w1 → some (SV.box b 66 (SV.struct [SV.struct [SV.int IntKind.i64 k_0_0, SV.arr IntKind.u8
  16 k_0_1], SV.struct [SV.int IntKind.i64 k_1_0, SV.arr IntKind.u8 16 k_1_1], SV.int IntKind.i64 k_2, SV.int IntKind.i64 k_3])) = some (SV.box b 66 (SV.struct
  [SV.struct [SV.int IntKind.i64 k_0_0, SV.arr IntKind.u8 16 k_0_1], SV.struct [SV.int IntKind.i64 k_1_0, SV.arr IntKind.u8 16 k_1_1], SV.int IntKind.i64
  k_2, SV.int IntKind.i64 k_3])) ∧ (b_1, 72) = (b_1, 72) ∧ (b_3, 72) = (b_3, 72) ∧ J none false 0 0 false false (some { block := b_4, off := 0 }) true 0 0
  false false w1)) (∀ (w1_1 : World), Upd [] [b_3] w1 w1_1 → some (SV.box b 66 (SV.struct [SV.struct [SV.int IntKind.i64 k_0_0, SV.arr IntKind.u8 16 k_0_1],
  SV.struct [SV.int IntKind.i64 k_1_0, SV.arr IntKind.u8 16 k_1_1], SV.int IntKind.i64 k_2, SV.int IntKind.i64 k_3])) = some (SV.box b 66 (SV.struct [SV.struct
  [SV.int IntKind.i64 k_0_0, SV.arr IntKind.u8 16 k_0_1], SV.struct [SV.int IntKind.i64 k_1_0, SV.arr IntKind.u8 16 k_1_1], SV.int IntKind.i64 k_2, SV.int
  IntKind.i64 k_3])) ∧ (b_1, 72) = (b_1, 72) ∧ (b_3, 72) = (b_3, 72) ∧ J none false 0 0 false false p false 0 0 false false w1_1)) ∧ ∀ (b_2 : Nat), Upd []
  [] w w ∧ derefN r fun (r : Nat) => ∀ (w1 : World), Upd [] [b_2, b_1, b] w w1 → Program.underlying Try.prog 56 = some (TypeDesc.map 66 67) ∧ ∃ (l : List
  (Value × SV)), MapL w1 r l ∧ KeysOk Try.prog 66 (SV.enc (SV.struct [SV.struct [SV.int IntKind.i64 k_0_0, SV.arr IntKind.u8 16 k_0_1], SV.struct [SV.int
  IntKind.i64 k_1_0, SV.arr IntKind.u8 16 k_1_1], SV.int IntKind.i64 k_2, SV.int IntKind.i64 k_3])) l ∧ AllShape (Ty.ptr 83) l ∧ ∀ (p : Option Addr) (b_3
  : Bool), Vc.Found l (SV.enc (SV.struct [SV.struct [SV.int IntKind.i64 k_0_0, SV.arr IntKind.u8 16 k_0_1], SV.struct [SV.int IntKind.i64 k_1_0, SV.arr IntKind.u8
  16 k_1_1], SV.int IntKind.i64 k_2, SV.int IntKind.i64 k_3])) (SV.ptr none) (SV.ptr p) b_3 → ∀ (J : Option Addr → Bool → Int → Int → Bool → Bool → Option
  Addr → Bool → Int → Int → Bool → Bool → World → Prop), (∀ (p : Option Addr) (b_4 : Bool) (n n_1 : Int) (b_5 b_6 : Bool) (p_1 : Option Addr) (b_7 : Bool)
  (n_2 n_3 : Int) (b_8 b_9 : Bool) (w1 : World), (tail25 p_1 w1 b b_1 b_2 off data more R b_7 b_9 k_0_0 k_0_1 k_1_0 k_1_1 k_2 k_3 p b_4 n n_1 b_5 b_6) → J
  p b_4 n n_1 b_5 b_6 p_1 b_7 n_2 n_3 b_8 b_9 w1) → Br (Option.isNone p) (∀ (w1_1 : World), Upd [b_2] [] w1 w1_1 → Ret Try.prog 47 [SV.int IntKind.i64 most]
  w1_1 fun (r : SV) (w1 : World) => ∃ (p_1 : Option Addr), ∃ (n : Int), r = SV.tuple [SV.ptr p_1, SV.int IntKind.i64 n] ∧ Keeps [b, b_1, b_2] w1_1 w1 ∧ Br
  (n != 0) (∀ (w1_2 : World), Upd [b_1] [] w1 w1_2 → R (SV.tuple [SV.struct [SV.ptr p, SV.bool false, SV.struct [SV.int IntKind.i64 0, SV.int IntKind.i64
  0, SV.bool false], SV.bool false], SV.int IntKind.i64 n]) w1_2) (deref t fun (a : Addr) => ∃ (n : Int), World.cell? w1 (Addr.add a 1) = some (Value.int
  IntKind.i64 n) ∧ ∀ (b_4 : Nat) (w1_2 : World), Upd [] [b_4] w1 w1_2 → (World.heap w1_2)[b_4]? = some (Obj.cells { toList := SV.cells (SV.struct [SV.struct [SV.struct [SV.int IntKind.i64 k_0_0, SV.arr IntKind.u8 16 k_0_1], SV.struct [SV.int IntKind.i64 k_1_0, SV.arr IntKind.u8 16 k_1_1], SV.int IntKind.i64 k_2, SV.int IntKind.i64 k_3], SV.int IntKind.i64 0, SV.int IntKind.i64 n, SV.int IntKind.i64 0, SV.int IntKind.i64 0, SV.ptr p_1, SV.int IntKind.i64 0, SV.bool false, SV.struct [SV.int IntKind.i64 0, SV.int IntKind.i64 0, SV.bool false, SV.bool false, SV.int IntKind.i64 0, SV.int IntKind.i64 0, SV.int IntKind.i64 0, SV.struct [SV.int IntKind.i64 0, SV.arr IntKind.u8 16 fun (x : Nat) => 0], SV.struct [SV.int IntKind.i64 0, SV.arr IntKind.u8 16 fun (x : Nat) => 0], SV.slice { ptr := none, len := 0, cap := 0 }, SV.slice { ptr := none, len := 0, cap := 0 }], SV.struct [SV.int IntKind.i64 0, SV.int IntKind.i64 0, SV.int IntKind.i64 0, SV.struct [SV.int IntKind.i64 0, SV.arr IntKind.u8 16 fun (x : Nat) => 0], SV.struct [SV.int IntKind.i64 0, SV.arr IntKind.u8 16 fun (x : Nat) => 0], SV.slice { ptr := none, len := 0, cap := 0 }, SV.struct [SV.bool false, SV.bool false, SV.int IntKind.i64 0, SV.int IntKind.i64 0], SV.int IntKind.i64 0, SV.slice { ptr := none, len := 0, cap := 0 }]]) }
  83) → Off b_4 [b, b_1, b_2] → ∀ (w1 : World), Upd [b_2] [] w1_2 w1 → some (SV.box b 66 (SV.struct [SV.struct [SV.int IntKind.i64 k_0_0, SV.arr IntKind.u8
  16 k_0_1], SV.struct [SV.int IntKind.i64 k_1_0, SV.arr IntKind.u8 16 k_1_1], SV.int IntKind.i64 k_2, SV.int IntKind.i64 k_3])) = some (SV.box b 66 (SV.struct
  [SV.struct [SV.int IntKind.i64 k_0_0, SV.arr IntKind.u8 16 k_0_1], SV.struct [SV.int IntKind.i64 k_1_0, SV.arr IntKind.u8 16 k_1_1], SV.int IntKind.i64
  k_2, SV.int IntKind.i64 k_3])) ∧ (b_1, 72) = (b_1, 72) ∧ (b_2, 72) = (b_2, 72) ∧ J none false 0 0 false false (some { block := b_4, off := 0 }) true 0 0
  false false w1)) (∀ (w1_1 : World), Upd [b_2] [] w1 w1_1 → some (SV.box b 66 (SV.struct [SV.struct [SV.int IntKind.i64 k_0_0, SV.arr IntKind.u8 16 k_0_1],
  SV.struct [SV.int IntKind.i64 k_1_0, SV.arr IntKind.u8 16 k_1_1], SV.int IntKind.i64 k_2, SV.int IntKind.i64 k_3])) = some (SV.box b 66 (SV.struct [SV.struct
  [SV.int IntKind.i64 k_0_0, SV.arr IntKind.u8 16 k_0_1], SV.struct [SV.int IntKind.i64 k_1_0, SV.arr IntKind.u8 16 k_1_1], SV.int IntKind.i64 k_2, SV.int
  IntKind.i64 k_3])) ∧ (b_1, 72) = (b_1, 72) ∧ (b_2, 72) = (b_2, 72) ∧ J none false 0 0 false false p false 0 0 false false w1_1)
theorem f25_of (t : Option Addr) (k_0_0 : Int) (k_0_1 : Nat → Int) (k_1_0 : Int) (k_1_1 : Nat → Int) (k_2 : Int) (k_3 : Int) (most : Int) (off : Int) (data : Sl) (more : Bool) (w : World) (R : SV → World → Prop) (hV : vc25 t k_0_0 k_0_1 k_1_0 k_1_1 k_2 k_3 most off data more w R) : Ret Try.prog 25 [.ptr t, .struct [.struct [.int .i64 k_0_0, .arr .u8 16 k_0_1], .struct [.int .i64 k_1_0, .arr .u8 16 k_1_1], .int .i64 k_2, .int .i64 k_3], .int .i64 most, .int .i64 off, .slice data, .bool more] w R :=
  have e : vc25 t k_0_0 k_0_1 k_1_0 k_1_1 k_2 k_3 most off data more w R = fnVC X Try.f25 a25 [.ptr t, .struct [.struct [.int .i64 k_0_0, .arr .u8 16 k_0_1], .struct [.int .i64 k_1_0, .arr .u8 16 k_1_1], .int .i64 k_2, .int .i64 k_3], .int .i64 most, .int .i64 off, .slice data, .bool more] w R := by kernel_rfl
  fnVC_sound X_ok (n := a25) (e ▸ hV) (by kernel_rfl) (by kernel_rfl) rfl rfl

def vc26 (t : Option Addr) (p_0 : Option Addr) (p_1 : Bool) (p_2_0 : Int) (p_2_1 : Int) (p_2_2 : Bool) (p_3 : Bool) (w : World) (R : SV → World → Prop) : Prop :=
  ∀ (b : Nat) (J : World → Prop),
    (∀ (w1 : World),
        (deref p_0 fun (a : Addr) =>
            ∃ (n : Int),
              World.cell? w1 (Addr.add a 41) = some (Value.int IntKind.i64 n) ∧
                deref p_0 fun (a : Addr) => Store w1 (Addr.add a 41) (SV.cells (SV.int IntKind.i64 (wr IntKind.i64 (n + 1)))) [b] fun (w1 : World) => R (SV.int IntKind.i64 0) w1) →
          J w1) →
      Br p_1
        (∀ (w1 : World),
          Upd [] [b] w w1 →
            Ret Try.prog 50 [SV.ptr t] w1 fun (r : SV) (w1_1 : World) =>
              ∃ (n : Int),
                r = SV.int IntKind.i64 n ∧
                  Keeps [b] w1 w1_1 ∧
                    Br (n != 0) (R (SV.int IntKind.i64 n) w1_1)
                      (deref t fun (a : Addr) =>
                        ∃ (n : Int),
                          World.cell? w1_1 (Addr.add a 2) = some (Value.int IntKind.i64 n) ∧
                            deref p_0 fun (a : Addr) =>
                              ∀ (w1 : World),
                                Upd [] [] w1_1 w1 →
                                  Store w1 (Addr.add a 36) (SV.cells (SV.int IntKind.i64 n)) [b] fun (w1 : World) =>
                                    deref t fun (a : Addr) =>
                                      ∃ (n : Int),
                                        World.cell? w1 (Addr.add a 2) = some (Value.int IntKind.i64 n) ∧
                                          deref t fun (a : Addr) =>
                                            Store w1 (Addr.add a 2) (SV.cells (SV.int IntKind.i64 (wr IntKind.i64 (n + 1)))) [b] fun (w1 : World) =>
                                              deref t fun (a : Addr) =>
                                                ∃ (r : Option Nat),
                                                  World.cell? w1 (Addr.add a 3) = some (Value.map r) ∧
                                                    deref p_0 fun (a : Addr) =>
                                                      ∃ (n : Int),
                                                        World.cell? w1 a = some (Value.int IntKind.i64 n) ∧
                                                          ∃ (f : Nat → Int),
                                                            (∀ (i : Nat), i < 16 → World.cell? w1 (Addr.add a (1 + i)) = some (Value.int IntKind.u8 (f i))) ∧
                                                              ∃ (n_1 : Int),
                                                                World.cell? w1 (Addr.add a 17) = some (Value.int IntKind.i64 n_1) ∧
                                                                  ∃ (f_1 : Nat → Int),
                                                                    (∀ (i : Nat), i < 16 → World.cell? w1 (Addr.add a (18 + i)) = some (Value.int IntKind.u8 (f_1 i))) ∧
                                                                      ∃ (n_2 : Int),
                                                                        World.cell? w1 (Addr.add a 34) = some (Value.int IntKind.i64 n_2) ∧
                                                                          ∃ (n_3 : Int),
                                                                            World.cell? w1 (Addr.add a 35) = some (Value.int IntKind.i64 n_3) ∧
                                                                              derefN r fun (r : Nat) =>
                                                                                ∀ (w1_2 : World),
                                                                                  Upd [] [] w1 w1_2 →
                                                                                    Program.underlying Try.prog 56 = some (TypeDesc.map 66 67) ∧
                                                                                      ¬r ∈ [b] ∧
                                                                                        ∃ (l : List (Value × SV)),
                                                                                          MapL w1_2 r l ∧
                                                                                            KeysOk Try.prog 66
                                                                                                (SV.enc
                                                                                                  (SV.struct
                                                                                                    [SV.struct [SV.int IntKind.i64 n, SV.arr IntKind.u8 16 f],
                                                                                                      SV.struct [SV.int IntKind.i64 n_1, SV.arr IntKind.u8 16 f_1],
                                                                                                      SV.int IntKind.i64 n_2, SV.int IntKind.i64 n_3]))
                                                                                                l ∧
                                                                                              ∀ (l' : List (Value × SV)) (w1 : World),
                                                                                                SetAt l
                                                                                                    (SV.enc
                                                                                                      (SV.struct
                                                                                                        [SV.struct [SV.int IntKind.i64 n, SV.arr IntKind.u8 16 f],
                                                                                                          SV.struct [SV.int IntKind.i64 n_1, SV.arr IntKind.u8 16 f_1],
                                                                                                          SV.int IntKind.i64 n_2, SV.int IntKind.i64 n_3]))
                                                                                                    (SV.ptr p_0) l' →
                                                                                                  Upd [r] [] w1_2 w1 →
                                                                                                    MapL w1 r l' →
                                                                                                      some
                                                                                                            (SV.box b 72
                                                                                                              (SV.struct
                                                                                                                [SV.ptr p_0, SV.bool p_1,
                                                                                                                  SV.struct
                                                                                                                    [SV.int IntKind.i64 p_2_0, SV.int IntKind.i64 p_2_1,
                                                                                                                      SV.bool p_2_2],
                                                                                                                  SV.bool p_3])) =
                                                                                                          some
                                                                                                            (SV.box b 72
                                                                                                              (SV.struct
                                                                                                                [SV.ptr p_0, SV.bool p_1,
                                                                                                                  SV.struct
                                                                                                                    [SV.int IntKind.i64 p_2_0, SV.int IntKind.i64 p_2_1,
                                                                                                                      SV.bool p_2_2],
                                                                                                                  SV.bool p_3])) ∧
                                                                                                        J w1))
        (∀ (w1 : World),
          Upd [] [b] w w1 →
            some (SV.box b 72 (SV.struct [SV.ptr p_0, SV.bool p_1, SV.struct [SV.int IntKind.i64 p_2_0, SV.int IntKind.i64 p_2_1, SV.bool p_2_2], SV.bool p_3])) =
                some (SV.box b 72 (SV.struct [SV.ptr p_0, SV.bool p_1, SV.struct [SV.int IntKind.i64 p_2_0, SV.int IntKind.i64 p_2_1, SV.bool p_2_2], SV.bool p_3])) ∧
              J w1)
theorem f26_of (t : Option Addr) (p_0 : Option Addr) (p_1 : Bool) (p_2_0 : Int) (p_2_1 : Int) (p_2_2 : Bool) (p_3 : Bool) (w : World) (R : SV → World → Prop) (hV : vc26 t p_0 p_1 p_2_0 p_2_1 p_2_2 p_3 w R) : Ret Try.prog 26 [.ptr t, .struct [.ptr p_0, .bool p_1, .struct [.int .i64 p_2_0, .int .i64 p_2_1, .bool p_2_2], .bool p_3]] w R :=
  have e : vc26 t p_0 p_1 p_2_0 p_2_1 p_2_2 p_3 w R = fnVC X Try.f26 a26 [.ptr t, .struct [.ptr p_0, .bool p_1, .struct [.int .i64 p_2_0, .int .i64 p_2_1, .bool p_2_2], .bool p_3]] w R := by kernel_rfl
  fnVC_sound X_ok (n := a26) (e ▸ hV) (by kernel_rfl) (by kernel_rfl) rfl rfl

def vc27 (h_0 : Int) (h_1 : Int) (h_2 : Bool) (h_3 : Bool) (h_4 : Int) (h_5 : Int) (h_6 : Int) (h_7_0 : Int) (h_7_1 : Nat → Int) (h_8_0 : Int) (h_8_1 : Nat → Int) (h_9 : Sl) (h_10 : Sl) (w : World) (R : SV → World → Prop) : Prop :=
  ∀ (b b_1 : Nat) (w1 : World),
    Upd [] [b_1, b] w w1 →
      Ret Try.prog 51 [SV.slice h_9] w1 fun (r : SV) (w1_1 : World) =>
        ∃ (s : Sl),
          r = SV.slice s ∧
            Keeps [b, b_1] w1 w1_1 ∧
              Upd [] [] w w1_1 ∧
                Ret Try.prog 52 [SV.slice h_10] w1_1 fun (r : SV) (w1 : World) =>
                  ∃ (s_1 : Sl),
                    r = SV.slice s_1 ∧
                      Keeps [b, b_1] w1_1 w1 ∧
                        ∀ (w1_2 : World),
                          Upd [b_1, b] [] w1 w1_2 →
                            R
                              (SV.struct
                                [SV.int IntKind.i64 h_0, SV.int IntKind.i64 h_1, SV.bool h_2, SV.bool h_3, SV.int IntKind.i64 h_4, SV.int IntKind.i64 h_5, SV.int IntKind.i64 h_6,
                                  SV.struct [SV.int IntKind.i64 h_7_0, SV.arr IntKind.u8 16 h_7_1], SV.struct [SV.int IntKind.i64 h_8_0, SV.arr IntKind.u8 16 h_8_1], SV.slice s,
                                  SV.slice s_1])
                              w1_2
theorem f27_of (h_0 : Int) (h_1 : Int) (h_2 : Bool) (h_3 : Bool) (h_4 : Int) (h_5 : Int) (h_6 : Int) (h_7_0 : Int) (h_7_1 : Nat → Int) (h_8_0 : Int) (h_8_1 : Nat → Int) (h_9 : Sl) (h_10 : Sl) (w : World) (R : SV → World → Prop) (hV : vc27 h_0 h_1 h_2 h_3 h_4 h_5 h_6 h_7_0 h_7_1 h_8_0 h_8_1 h_9 h_10 w R) : Ret Try.prog 27 [.struct [.int .i64 h_0, .int .i64 h_1, .bool h_2, .bool h_3, .int .i64 h_4, .int .i64 h_5, .int .i64 h_6, .struct [.int .i64 h_7_0, .arr .u8 16 h_7_1], .struct [.int .i64 h_8_0, .arr .u8 16 h_8_1], .slice h_9, .slice h_10]] w R :=
  have e : vc27 h_0 h_1 h_2 h_3 h_4 h_5 h_6 h_7_0 h_7_1 h_8_0 h_8_1 h_9 h_10 w R = fnVC X Try.f27 a27 [.struct [.int .i64 h_0, .int .i64 h_1, .bool h_2, .bool h_3, .int .i64 h_4, .int .i64 h_5, .int .i64 h_6, .struct [.int .i64 h_7_0, .arr .u8 16 h_7_1], .struct [.int .i64 h_8_0, .arr .u8 16 h_8_1], .slice h_9, .slice h_10]] w R := by kernel_rfl
  fnVC_sound X_ok (n := a27) (e ▸ hV) (by kernel_rfl) (by kernel_rfl) rfl rfl

def vc29 (c : Option Addr) (why : Int) (n : Int) (w : World) (R : SV → World → Prop) : Prop :=
  Ret Try.prog 55 [SV.ptr c, SV.int IntKind.i64 2] w fun (r : SV) (w1 : World) =>
    r = SV.tuple [] ∧
      deref c fun (a : Addr) =>
        Store w1 (Addr.add a 39) (SV.cells (SV.int IntKind.i64 why)) [] fun (w1 : World) =>
          deref c fun (a : Addr) => Store w1 (Addr.add a 41) (SV.cells (SV.int IntKind.i64 n)) [] fun (w1 : World) => R (SV.tuple []) w1
theorem f29_of (c : Option Addr) (why : Int) (n : Int) (w : World) (R : SV → World → Prop) (hV : vc29 c why n w R) : Ret Try.prog 29 [.ptr c, .int .i64 why, .int .i64 n] w R :=
  have e : vc29 c why n w R = fnVC X Try.f29 a29 [.ptr c, .int .i64 why, .int .i64 n] w R := by kernel_rfl
  fnVC_sound X_ok (n := a29) (e ▸ hV) (by kernel_rfl) (by kernel_rfl) rfl rfl

def vc30 (c : Option Addr) (w : World) (R : SV → World → Prop) : Prop :=
  Ret Try.prog 55 [SV.ptr c, SV.int IntKind.i64 1] w fun (r : SV) (w1 : World) =>
    r = SV.tuple [] ∧ deref c fun (a : Addr) => Store w1 (Addr.add a 41) (SV.cells (SV.int IntKind.i64 0)) [] fun (w1 : World) => R (SV.tuple []) w1
theorem f30_of (c : Option Addr) (w : World) (R : SV → World → Prop) (hV : vc30 c w R) : Ret Try.prog 30 [.ptr c] w R :=
  have e : vc30 c w R = fnVC X Try.f30 a30 [.ptr c] w R := by kernel_rfl
  fnVC_sound X_ok (n := a30) (e ▸ hV) (by kernel_rfl) (by kernel_rfl) rfl rfl

def vc50 (t : Option Addr) (w : World) (R : SV → World → Prop) : Prop :=
  deref t fun (a : Addr) =>
    ∃ (r : Option Nat),
      World.cell? w (Addr.add a 3) = some (Value.map r) ∧
        deref t fun (a : Addr) =>
          ∃ (n : Int),
            World.cell? w a = some (Value.int IntKind.i64 n) ∧
              derefN r fun (r : Nat) =>
                ∀ (w1 : World),
                  Upd [] [] w w1 →
                    Program.underlying Try.prog 56 = some (TypeDesc.map 66 67) ∧
                      ∃ (l : List (Value × SV)),
                        MapL w1 r l ∧
                          Upd [] [] w w1 ∧
                            Br (decide ((↑(List.length l) : Int) < n)) (R (SV.int IntKind.i64 0) w1)
                              (Ret Try.prog 42 [SV.ptr t, SV.int IntKind.i64 1] w1 fun (r : SV) (w1 : World) =>
                                ∃ (s : Sl),
                                  r = SV.slice s ∧
                                    Br ((↑s.2 : Int) == 0) (R (SV.int IntKind.i64 120) w1)
                                      (deref t fun (a : Addr) =>
                                        ∃ (r : Option Nat),
                                          World.cell? w1 (Addr.add a 3) = some (Value.map r) ∧
                                            Need (decide (0 < (↑s.2 : Int)) && Option.isSome s.1)
                                              (∃ (p : Option Addr),
                                                World.cell? w1 (Sl.at s 1 0) = some (Value.pointer p) ∧
                                                  deref p fun (a : Addr) =>
                                                    ∃ (n : Int),
                                                      World.cell? w1 a = some (Value.int IntKind.i64 n) ∧
                                                        ∃ (f : Nat → Int),
                                                          (∀ (i : Nat), i < 16 → World.cell? w1 (Addr.add a (1 + i)) = some (Value.int IntKind.u8 (f i))) ∧
                                                            ∃ (n_1 : Int),
                                                              World.cell? w1 (Addr.add a 17) = some (Value.int IntKind.i64 n_1) ∧
                                                                ∃ (f_1 : Nat → Int),
                                                                  (∀ (i : Nat), i < 16 → World.cell? w1 (Addr.add a (18 + i)) = some (Value.int IntKind.u8 (f_1 i))) ∧
                                                                    ∃ (n_2 : Int),
                                                                      World.cell? w1 (Addr.add a 34) = some (Value.int IntKind.i64 n_2) ∧
                                                                        ∃ (n_3 : Int),
                                                                          World.cell? w1 (Addr.add a 35) = some (Value.int IntKind.i64 n_3) ∧
                                                                            derefN r fun (r : Nat) =>
                                                                              ∀ (w1_1 : World),
                                                                                Upd [] [] w1 w1_1 →
                                                                                  Program.underlying Try.prog 56 = some (TypeDesc.map 66 67) ∧
                                                                                    ¬r ∈ [] ∧
                                                                                      ∃ (l : List (Value × SV)),
                                                                                        MapL w1_1 r l ∧
                                                                                          KeysOk Try.prog 66
                                                                                              (SV.enc
                                                                                                (SV.struct
                                                                                                  [SV.struct [SV.int IntKind.i64 n, SV.arr IntKind.u8 16 f],
                                                                                                    SV.struct [SV.int IntKind.i64 n_1, SV.arr IntKind.u8 16 f_1],
                                                                                                    SV.int IntKind.i64 n_2, SV.int IntKind.i64 n_3]))
                                                                                              l ∧
                                                                                            ∀ (l' : List (Value × SV)) (w1 : World),
                                                                                              DelAt l
                                                                                                  (SV.enc
                                                                                                    (SV.struct
                                                                                                      [SV.struct [SV.int IntKind.i64 n, SV.arr IntKind.u8 16 f],
                                                                                                        SV.struct [SV.int IntKind.i64 n_1, SV.arr IntKind.u8 16 f_1],
                                                                                                        SV.int IntKind.i64 n_2, SV.int IntKind.i64 n_3]))
                                                                                                  l' →
                                                                                                Upd [r] [] w1_1 w1 → MapL w1 r l' → R (SV.int IntKind.i64 0) w1)))
theorem f50_of (t : Option Addr) (w : World) (R : SV → World → Prop) (hV : vc50 t w R) : Ret Try.prog 50 [.ptr t] w R :=
  have e : vc50 t w R = fnVC X Try.f50 a50 [.ptr t] w R := by kernel_rfl
  fnVC_sound X_ok (n := a50) (e ▸ hV) (by kernel_rfl) (by kernel_rfl) rfl rfl

def vc51 (l : Sl) (w : World) (R : SV → World → Prop) : Prop :=
  ∃ (I : Sl → Int → World → Prop),
    ∃ (M : Sl → Int → World → Nat),
      I { ptr := none, len := 0, cap := 0 } 0 w ∧
        ∀ (s : Sl) (n : Int) (w1 : World),
          I s n w1 →
            Br (decide (n < (↑l.2 : Int)))
              (Need (decide (0 ≤ n) && decide (n < (↑l.2 : Int)) && Option.isSome l.1)
                (∃ (n_1 : Int),
                  World.cell? w1 (Sl.at l 2 (Int.toNat n)) = some (Value.int IntKind.i64 n_1) ∧
                    ∃ (s_1 : Sl),
                      World.cell? w1 (Addr.add (Sl.at l 2 (Int.toNat n)) 1) = some (Sl.val s_1) ∧
                        ∀ (b : Nat) (w1_1 : World),
                          Upd [] [b] w1 w1_1 →
                            Ret Try.prog 52 [SV.slice s_1] w1_1 fun (r : SV) (w1_2 : World) =>
                              ∃ (s_2 : Sl),
                                r = SV.slice s_2 ∧
                                  Keeps [b] w1_1 w1_2 ∧
                                    Upd [] [] w1 w1_2 ∧
                                      ∀ (b_1 : Nat) (w1_3 : World),
                                        Upd [] [b_1] w1_2 w1_3 →
                                          (World.heap w1_3)[b_1]? = some (Obj.cells { toList := SV.cells (SV.struct [SV.struct [SV.int IntKind.i64 n_1, SV.slice s_2]]) } 104) →
                                            Vc.Append 104 2 32 s { ptr := some { block := b_1, off := 0 }, len := 1, cap := 1 } [b] w1_3 fun (r : Sl) (w : World) =>
                                              I r (wr IntKind.i64 (n + 1)) w ∧ M r (wr IntKind.i64 (n + 1)) w < M s n w1))
              (R (SV.slice s) w1)
theorem f51_of (l : Sl) (w : World) (R : SV → World → Prop) (hV : vc51 l w R) : Ret Try.prog 51 [.slice l] w R :=
  have e : vc51 l w R = fnVC X Try.f51 a51 [.slice l] w R := by kernel_rfl
  fnVC_sound X_ok (n := a51) (e ▸ hV) (by kernel_rfl) (by kernel_rfl) rfl rfl

def vc52 (b : Sl) (w : World) (R : SV → World → Prop) : Prop :=
  Vc.Append 5 1 1 { ptr := none, len := 0, cap := 0 } b [] w fun (r : Sl) (w : World) => R (SV.slice r) w
theorem f52_of (b : Sl) (w : World) (R : SV → World → Prop) (hV : vc52 b w R) : Ret Try.prog 52 [.slice b] w R :=
  have e : vc52 b w R = fnVC X Try.f52 a52 [.slice b] w R := by kernel_rfl
  fnVC_sound X_ok (n := a52) (e ▸ hV) (by kernel_rfl) (by kernel_rfl) rfl rfl

def vc55 (c : Option Addr) (state : Int) (w : World) (R : SV → World → Prop) : Prop :=
  deref c fun (a : Addr) =>
    Store w (Addr.add a 38) (SV.cells (SV.int IntKind.i64 state)) [] fun (w1 : World) =>
      deref c fun (a : Addr) =>
        Store w1 (Addr.add a 40) (SV.cells (SV.ptr none)) [] fun (w1 : World) =>
          deref c fun (a : Addr) =>
            Store w1 (Addr.add a 42) (SV.cells (SV.bool false)) [] fun (w1 : World) =>
              deref c fun (a : Addr) =>
                Store w1 (Addr.add a 43)
                  (SV.cells
                    (SV.struct
                      [SV.int IntKind.i64 0, SV.int IntKind.i64 0, SV.bool false, SV.bool false, SV.int IntKind.i64 0, SV.int IntKind.i64 0, SV.int IntKind.i64 0,
                        SV.struct [SV.int IntKind.i64 0, SV.arr IntKind.u8 16 fun (x : Nat) => 0], SV.struct [SV.int IntKind.i64 0, SV.arr IntKind.u8 16 fun (x : Nat) => 0],
                        SV.slice { ptr := none, len := 0, cap := 0 }, SV.slice { ptr := none, len := 0, cap := 0 }]))
                  [] fun (w1 : World) =>
                  deref c fun (a : Addr) =>
                    Store w1 (Addr.add a 86)
                      (SV.cells
                        (SV.struct
                          [SV.int IntKind.i64 0, SV.int IntKind.i64 0, SV.int IntKind.i64 0, SV.struct [SV.int IntKind.i64 0, SV.arr IntKind.u8 16 fun (x : Nat) => 0],
                            SV.struct [SV.int IntKind.i64 0, SV.arr IntKind.u8 16 fun (x : Nat) => 0], SV.slice { ptr := none, len := 0, cap := 0 },
                            SV.struct [SV.bool false, SV.bool false, SV.int IntKind.i64 0, SV.int IntKind.i64 0], SV.int IntKind.i64 0,
                            SV.slice { ptr := none, len := 0, cap := 0 }]))
                      [] fun (w1 : World) => R (SV.tuple []) w1
theorem f55_of (c : Option Addr) (state : Int) (w : World) (R : SV → World → Prop) (hV : vc55 c state w R) : Ret Try.prog 55 [.ptr c, .int .i64 state] w R :=
  have e : vc55 c state w R = fnVC X Try.f55 a55 [.ptr c, .int .i64 state] w R := by kernel_rfl
  fnVC_sound X_ok (n := a55) (e ▸ hV) (by kernel_rfl) (by kernel_rfl) rfl rfl

end Go.Vc.Stop
end

section
open Go Go.Vc Go.Proofs
set_option linter.unusedVariables false
set_option linter.unusedSimpArgs false
set_option autoImplicit false
namespace Go.Vc.Stop
section
variable {w : World} {R : SV → World → Prop} {c : Cv} {hp : Option Addr} {so sd : Sl} {j : List Value}
def readyV (c : Cv) (d s : Int) : Int := if c.state = 1 then d else if c.state = 2 then s else if c.frags = 1024 then 124 else 0
theorem c24N {d s : Int} (k : R (.int .i64 0) w) : Ret Try.prog 24 [.ptr none, .int .i64 d, .int .i64 s] w R := by
  refine f24_of _ _ _ _ _ ?_
  unfold vc24
  exact brt rfl k
theorem c24 {d s : Int} (hB : Blk w c.p (ctxL c hp so sd j)) (k : R (.int .i64 (readyV c d s)) w) : Ret Try.prog 24 [.ptr (some ⟨c.p, 0, none⟩), .int .i64 d, .int .i64 s] w R := by
  refine f24_of _ _ _ _ _ ?_
  unfold vc24
  dsimp only [deref]
  have s1 := hB.at_ 38 (v := .int .i64 c.state) rfl
  have s2 := hB.at_ 41 (v := .int .i64 c.frags) rfl
  unfold readyV at k
  refine brf rfl ⟨_, s1, bre (fun e => by rw [if_pos e] at k; exact k) (fun e1 => ⟨_, s1, bre (fun e => by rw [if_neg e1, if_pos e] at k; exact k) (fun e2 => ⟨_, s2, bre (fun e => by rw [if_neg e1, if_neg e2, if_pos e] at k; exact k) (fun e3 => by rw [if_neg e1, if_neg e2, if_neg e3] at k; exact k)⟩)⟩)⟩
theorem ctxL_len (hj : j.length = 44) : (ctxL c hp so sd j).length = 130 := by
  simp [ctxL, SV.cells, SV.cellsL, hj]
def z6 : SV := .struct [.int .i64 0, .int .i64 0, .int .i64 0, .struct [.int .i64 0, .arr .u8 16 fun _ => 0], .struct [.int .i64 0, .arr .u8 16 fun _ => 0], .slice ⟨none, 0, 0⟩, .struct [.bool false, .bool false, .int .i64 0, .int .i64 0], .int .i64 0, .slice ⟨none, 0, 0⟩]
/-- a context lets go of what it holds -/
def endC (c : Cv) (st : Int) : Cv := { c with state := st, first := false, h := ipZ }
theorem c55 {st : Int} (hB : Blk w c.p (ctxL c hp so sd j)) (hj : j.length = 44) (k : ∀ w1 j', Upd [c.p] [] w w1 → Blk w1 c.p (ctxL (endC c st) none ⟨none, 0, 0⟩ ⟨none, 0, 0⟩ j') → j'.length = 44 → R (.tuple []) w1) :
    Ret Try.prog 55 [.ptr (some ⟨c.p, 0, none⟩), .int .i64 st] w R := by
  refine f55_of _ _ _ _ ?_
  unfold vc55
  dsimp only [deref]
  refine Blk.store (o := 38) (vs := [.int .i64 st]) hB (by rw [ctxL_len hj]; simp) (by simp) fun w1 h1 u1 => ?_
  have h1 : Blk w1 c.p (ctxL { c with state := st } hp so sd j) := h1
  refine Blk.store (o := 40) (vs := [.pointer none]) h1 (by rw [ctxL_len (c := { c with state := st }) hj]; decide) (by simp) fun w2 h2 u2 => ?_
  have h2 : Blk w2 c.p (ctxL { c with state := st } none so sd j) := h2
  refine Blk.store (o := 42) (vs := [.bool false]) h2 (by rw [ctxL_len (c := { c with state := st }) hj]; decide) (by simp) fun w3 h3 u3 => ?_
  have h3 : Blk w3 c.p (ctxL { c with state := st, first := false } none so sd j) := h3
  refine Blk.store (o := 43) (vs := SV.cells (ipSV ipZ ⟨none, 0, 0⟩ ⟨none, 0, 0⟩)) h3 (by rw [ctxL_len (c := { c with state := st, first := false }) hj]; decide) (by simp) fun w4 h4 u4 => ?_
  have h4 : Blk w4 c.p (ctxL (endC c st) none ⟨none, 0, 0⟩ ⟨none, 0, 0⟩ j) := h4
  refine Blk.store (o := 86) (vs := SV.cells z6) h4 (by rw [ctxL_len (c := endC c st) hj]; decide) (by simp) fun w5 h5 u5 => ?_
  refine k w5 (SV.cells z6) ((((u1.step u2 (by simp)).step u3 (by simp)).step u4 (by simp)).step u5 (by simp)) ?_ (by simp [z6, SV.cells, SV.cellsL])
  have e : (ctxL (endC c st) none ⟨none, 0, 0⟩ ⟨none, 0, 0⟩ j).drop (86 + (SV.cells z6).length) = [] := List.drop_eq_nil_of_le (by rw [ctxL_len (c := endC c st) hj]; decide)
  rw [e, List.append_nil] at h5
  exact h5
theorem c29 {why n : Int} (hB : Blk w c.p (ctxL c hp so sd j)) (hj : j.length = 44) (k : ∀ w1 j', Upd [c.p] [] w w1 → Blk w1 c.p (ctxL { endC c 2 with why := why, frags := n } none ⟨none, 0, 0⟩ ⟨none, 0, 0⟩ j') → j'.length = 44 → R (.tuple []) w1) :
    Ret Try.prog 29 [.ptr (some ⟨c.p, 0, none⟩), .int .i64 why, .int .i64 n] w R := by
  refine f29_of _ _ _ _ _ ?_
  unfold vc29
  refine c55 hB hj fun w1 j' u1 h1 hj' => ⟨rfl, ?_⟩
  dsimp only [deref]
  refine Blk.store (p := c.p) (o := 39) (vs := [.int .i64 why]) h1 (by rw [ctxL_len hj']; simp) (by simp) fun w2 h2 u2 => ?_
  have h2 : Blk w2 c.p (ctxL { endC c 2 with why := why } none ⟨none, 0, 0⟩ ⟨none, 0, 0⟩ j') := h2
  refine Blk.store (p := c.p) (o := 41) (vs := [.int .i64 n]) h2 (by rw [ctxL_len hj']; simp) (by simp) fun w3 h3 u3 => ?_
  exact k w3 j' ((u1.step u2 (by simp)).step u3 (by simp)) h3 hj'
theorem c30 (hB : Blk w c.p (ctxL c hp so sd j)) (hj : j.length = 44) (k : ∀ w1 j', Upd [c.p] [] w w1 → Blk w1 c.p (ctxL { endC c 1 with frags := 0 } none ⟨none, 0, 0⟩ ⟨none, 0, 0⟩ j') → j'.length = 44 → R (.tuple []) w1) :
    Ret Try.prog 30 [.ptr (some ⟨c.p, 0, none⟩)] w R := by
  refine f30_of _ _ _ ?_
  unfold vc30
  refine c55 hB hj fun w1 j' u1 h1 hj' => ⟨rfl, ?_⟩
  dsimp only [deref]
  refine Blk.store (p := c.p) (o := 41) (vs := [.int .i64 0]) h1 (by rw [ctxL_len hj']; decide) (by simp) fun w3 h3 u3 => ?_
  exact k w3 j' (u1.step u3 (by simp)) h3 hj'
theorem c52 {b : Sl} {l : List Int} (h : SeesB w b l) (hl : l.length ≤ 140737488355328) (k : ∀ s w1, Upd [] [] w w1 → SeesB w1 s l → Own w.heap.size 1 w1 s → R (.slice s) w1) : Ret Try.prog 52 [.slice b] w R := by
  refine f52_of _ _ _ ?_
  unfold vc52
  refine append_own (c := cU8) (l := []) (Sees.nil _ _ _ _) (Own.none w.heap.size _ _) h (Nat.le_refl _) (by simp) (by decide) (by simp; omega) fun s w1 hs ho u1 _ => ?_
  exact k s w1 (by simpa [Sl.blk] using u1) hs ho
theorem optRow {b e n cap : Nat} {f : Nat × Nat} {cs : List Value} {x : Int} {s : Sl} (h : w.heap[b]? = some (.cells cs.toArray e f)) (hcs : cs = [.int .i64 x, s.val]) (hn : n = 1) : Sees cOpt w ⟨some ⟨b, 0, none⟩, n, cap⟩ [(x, s)] :=
  sees_row h [(x, s)] (by rw [hcs]; rfl) (by simp [hn])
set_option maxRecDepth 10000 in
/-- options in new memory -/
theorem c51 {a : Sl} {l : List Opt} {os : List (Int × Sl)} (h : Opts w a l os) (hl : l.length ≤ 4398046511104) (hd : ∀ o ∈ l, o.data.length ≤ 140737488355328)
    (k : ∀ s os w1, Upd [] [] w w1 → Opts w1 s l os → Own w.heap.size 2 w1 s → (∀ x ∈ os, Own w.heap.size 1 w1 x.2) → R (.slice s) w1) : Ret Try.prog 51 [.slice a] w R := by
  refine f51_of _ _ _ ?_
  unfold vc51
  have hal := h.slen
  refine ⟨fun s i w1 => Upd [] [] w w1 ∧ ∃ (q : Nat) (os : List (Int × Sl)), i = q ∧ q ≤ l.length ∧ Opts w1 s (l.take q) os ∧ Own w.heap.size 2 w1 s ∧ (∀ x ∈ os, Own w.heap.size 1 w1 x.2) ∧ (∀ x ∈ os, ∀ b ∈ x.2.blk, b ∉ s.blk), fun _ i _ => (l.length - i).toNat,
    ⟨Upd.refl w, 0, [], rfl, by omega, Opts.nil _ _ _, Own.none _ _ _, by simp, by simp⟩, ?_⟩
  rintro s i w1 ⟨u, q, os', rfl, hq, hO, oO, oo, of⟩
  have h1 := h.old u
  refine brd (fun hlt => ?_) (fun hge => ?_)
  · have hq2 : q < l.length := by omega
    obtain ⟨g1, g2, g3, g4⟩ := h1.get q hq2
    refine needO h1 (by omega) (by omega) ⟨_, (by rw [Int.toNat_natCast]; exact g1), ⟨_, (by rw [Int.toNat_natCast]; exact g2), ?_⟩⟩
    intro b w2 u2
    have n2 := u2.new (b := b) (by simp)
    refine c52 (g3.old u2) (hd _ (List.getElem_mem hq2)) fun d w3 u3 hs3 ho3 => ⟨_, rfl, kp u3, u2.forget.then u3, ?_⟩
    have v3 := (u.then u2).then u3
    intro b1 w4 u4 hr4
    have v4 := v3.then u4
    have y2 := u2.size; have y3 := u3.size; have y4 := u4.size
    have hO4 := ((hO.old u2).old u3).old u4
    have oO4 := ((oO.old u2).old u3).old u4
    have bs := oO.blk
    have bo : ∀ x ∈ os', ∀ z ∈ x.2.blk, z < w1.heap.size := fun x hx z hz => ((oo x hx).blk z hz).2
    have hol := hO.len
    refine append_own (c := cOpt) (new := [(l[q].kind, d)]) hO4.row oO4 (optRow hr4 rfl rfl) v4.size (fun x hx hm => by have := (bs x hx).2; simp at hm; omega) (by decide) (by simp [hO4.len]; omega) fun r w5 hr ho5 u5 hn => ?_
    have dis : ∀ x ∈ d.blk, x ∉ s.blk := fun x hx hm => by have := (ho3.blk x hx).1; have := (bs x hm).2; omega
    have hd5 := (hs3.old u4).upd u5 dis
    have hOs := Opts.snoc (o := l[q]) hO4 hr hd5 (fun j h2 => (hO4.each j h2).upd u5 (of _ (List.getElem_mem _)))
    refine ⟨⟨v4.step0 u5 (fun x hx => (bs x hx).1), q + 1, os' ++ [(l[q].kind, d)], wr_succ (by omega), by omega, by rw [take_snoc hq2]; exact hOs, ho5, ?_, ?_⟩, by rw [wr_succ (q := q) (by omega)]; (try dsimp only); omega⟩
    · intro x hx
      rcases List.mem_append.1 hx with hx | hx
      · exact (((((oo x hx).old u2).old u3).old u4).upd u5 (of x hx))
      · rw [List.mem_singleton] at hx
        subst hx
        exact ((ho3.old u4).upd u5 dis).mono (by have := u.size; omega)
    · intro x hx b' hb' hm
      rcases List.mem_append.1 hx with hx | hx
      · rcases hn b' hm with h' | h'
        · exact of x hx b' hb' h'
        · have := bo x hx b' hb'; omega
      · rw [List.mem_singleton] at hx
        subst hx
        rcases hn b' hm with h' | h'
        · exact dis b' hb' h'
        · have := (ho3.blk b' hb').2; omega
  · have : q = l.length := by omega
    subst this
    rw [List.take_length] at hO
    exact k s os' w1 u hO oO oo
/-- the datagram in new memory -/
theorem c27 {v : IpV} {sa da : Sl} {oa : List (Int × Sl)} (hO : Opts w sa v.opts oa) (hl : v.opts.length ≤ 4398046511104) (hod : ∀ o ∈ v.opts, o.data.length ≤ 140737488355328) (hD : SeesB w da v.data) (hdl : v.data.length ≤ 140737488355328)
    (k : ∀ s os d w1, Upd [] [] w w1 → Opts w1 s v.opts os → (∀ x ∈ optB s os, w.heap.size ≤ x ∧ x < w1.heap.size) → R (ipSV v s d) w1) : Ret Try.prog 27 [ipSV v sa da] w R := by
  refine f27_of _ _ _ _ _ _ _ _ _ _ _ _ _ _ _ ?_
  unfold vc27
  intro b b1 w1 u1
  have n1 := u1.new (b := b) (by simp)
  have n2 := u1.new (b := b1) (by simp)
  have y1 := u1.size
  refine c51 (hO.old u1) hl hod fun s os w2 u2 hs ho oo => ⟨_, rfl, kp u2, u1.forget.then u2, ?_⟩
  have y2 := u2.size
  refine c52 ((hD.old u1).old u2) hdl fun d w3 u3 _ _ => ⟨_, rfl, kp u3, fun w4 u4 => ?_⟩
  have y3 := u3.size; have y4 := u4.size
  have bl : ∀ x ∈ optB s os, w1.heap.size ≤ x ∧ x < w2.heap.size := fun x hx => by
    rcases optB_mem.1 hx with q | ⟨y, hy, q⟩
    · exact ho.blk x q
    · exact (oo y hy).blk x q
  exact k s os d w4 (((u1.then u2).then u3).step0 u4 (by simp; omega)) (Opts.updB (hs.old u3) u4 (fun x hx hm => by have := bl x hx; simp at hm; omega)) (fun x hx => by have := bl x hx; omega)
end
end Go.Vc.Stop
end

section
open Go Go.Vc Go.Proofs
set_option linter.unusedVariables false
set_option linter.unusedSimpArgs false
set_option autoImplicit false
namespace Go.Vc.Stop
def lerr (e : Int) : Int := if e = 112 ∨ e = 113 ∨ e = 114 then 123 else e
def endF (S S' : Hs) : Bool := decide (S'.fin ≥ 0) && !decide (S.fin ≥ 0)
def fitSV (S : Hs) (off : Int) (l : List Int) (more : Bool) : SV := .struct [.int .i64 (newN off (off + l.length) S.gaps), .int .i64 (l.length - newN off (off + l.length) S.gaps), .bool (sameS S off l more)]
theorem Hol.mono {N N' h m : Nat} {w : World} {S : Hs} {B G : Sl} (H : Hol N' w h S B G m) (hN : N ≤ N') : Hol N w h S B G m :=
  ⟨H.box, H.buf, H.bo.mono hN, H.gaps, H.go.mono hN, H.map, H.a1, H.a2, H.a3, ⟨by have := H.base; omega, by have := H.base; omega, by have := H.base; omega⟩⟩
section
variable {N h m : Nat} {w : World} {R : SV → World → Prop} {c : Cv} {so sd : Sl} {j : List Value} {B G : Sl}
set_option maxRecDepth 10000 in
theorem tail25_c {b b1 b3 : Nat} {off : Int} {data : Sl} {l : List Int} {more fresh en : Bool} {x1 x3 x5 x6 x8 x9 : Int} {x2 x4 : Nat → Int} {x7 : Option Addr} {y1 y2 y3 : Bool}
    (hB : Blk w c.p (ctxL c (some ⟨h, 0, none⟩) so sd j)) (H : Hol N w h c.S B G m) (g : Good c.S) (hd : SeesB w data l) (hcap : data.len ≤ data.cap) (hb : Byt l) (hdis : 0 < l.length → ∀ x ∈ data.blk, x < w.heap.size ∧ x ∉ hblk h B G m)
    (hbx : ∀ x ∈ [b, b1, b3], x < w.heap.size ∧ x ∉ hblk h B G m ∧ x ≠ c.p) (hp : c.p ∉ hblk h B G m)
    (ke : ∀ w1, Upd [b1, b3] [] w w1 → errS c.S off l.length more ≠ 0 → R (.tuple [.struct [.ptr (some ⟨c.p, 0, none⟩), .bool fresh, .struct [.int .i64 0, .int .i64 0, .bool false], .bool en], .int .i64 (lerr (errS c.S off l.length more))]) w1)
    (k : ∀ B' G' w1, errS c.S off l.length more = 0 → Upd (b1 :: b3 :: hblk h B G m) [] w w1 → Hol N w1 h (putS c.S off l more) B' G' m → (∀ x ∈ hblk h B' G' m, x ∈ hblk h B G m ∨ w.heap.size ≤ x) → R (.tuple [.struct [.ptr (some ⟨c.p, 0, none⟩), .bool fresh, fitSV c.S off l more, .bool (endF c.S (putS c.S off l more))], .int .i64 0]) w1) :
    tail25 (some ⟨c.p, 0, none⟩) w b b1 b3 off data more R fresh en x1 x2 x3 x4 x5 x6 x7 y1 x8 x9 y2 y3 := by
  unfold tail25
  dsimp only [deref]
  have s0 := hB.at_ 40 (v := .pointer (some ⟨h, 0, none⟩)) rfl
  have bb := hbx b (by simp)
  have bb1 := hbx b1 (by simp)
  have bb3 := hbx b3 (by simp)
  refine ⟨_, s0, ?_⟩
  refine c48 H fun w1 u1 => ⟨_, _, rfl, kp u1, ?_⟩
  have s1 := (hB.old u1).at_ 40 (v := .pointer (some ⟨h, 0, none⟩)) rfl
  have z1 := u1.size
  have H1 := H.old u1
  have lt := H.lt
  refine ⟨_, s1, ?_⟩
  refine c49 H1 g.ok (hd.old u1) hcap hb (fun hp x hx => ⟨by have := (hdis hp x hx).1; omega, (hdis hp x hx).2⟩) (fun w2 u2 he => ?_) (fun B' G' w2 he u2 H2 sub => ?_)
  · refine ⟨_, _, _, _, rfl, kp u2, brf (by simpa using he) ?_⟩
    intro J hJ
    have z2 := u2.size
    have v2 := u1.then u2
    have q3 : ∀ {w3}, Upd [b3] [] w2 w3 → Upd [b1, b3] [] w w3 := fun u3 => (v2.wide (m' := [b1, b3]) (by simp)).step u3 (by simp)
    have fin : ∀ w3 w4, Upd [b3] [] w2 w3 → Upd [b1] [] w3 w4 → Upd [b1, b3] [] w w4 := fun w3 w4 u3 u4 => (q3 u3).step u4 (by simp)
    have l1 : (errS c.S off l.length more = 112 ∨ errS c.S off l.length more = 113 ∨ errS c.S off l.length more = 114) → lerr (errS c.S off l.length more) = 123 := fun h => by unfold lerr; rw [if_pos h]
    refine bre (fun e w3 u3 => ?_) (fun n1 => bre (fun e w3 u3 => ?_) (fun n2 w3 u3 => ?_))
    · (repeat refine And.intro rfl ?_)
      refine hJ _ _ (brt rfl fun w4 u4 => ?_)
      have := ke w4 (fin w3 w4 u3 u4) he
      rwa [l1 (.inl e)] at this
    · (repeat refine And.intro rfl ?_)
      refine hJ _ _ (brt rfl fun w4 u4 => ?_)
      have := ke w4 (fin w3 w4 u3 u4) he
      rwa [l1 (.inr (.inl e))] at this
    · (repeat refine And.intro rfl ?_)
      refine hJ _ _ (bre (fun e w4 u4 => ?_) (fun n3 w4 u4 => ?_))
      · have := ke w4 (fin w3 w4 u3 u4) he
        rwa [l1 (.inr (.inr e))] at this
      · have := ke w4 (fin w3 w4 u3 u4) he
        have e0 : lerr (errS c.S off l.length more) = errS c.S off l.length more := by unfold lerr; rw [if_neg (by omega)]
        rwa [e0] at this
  · have z2 := u2.size
    refine ⟨_, _, _, _, rfl, kpm u2 (fun x hx => by have := (hbx x hx).1; omega) (fun x hx => (hbx x hx).2.1), brt rfl fun w3 u3 => ?_⟩
    have off3 : ∀ x ∈ hblk h B' G' m, x ≠ b3 ∧ x ≠ b1 := fun x hx => by
      rcases sub x hx with q | q
      · exact ⟨fun e => bb3.2.1 (e ▸ q), fun e => bb1.2.1 (e ▸ q)⟩
      · omega
    have H3 := H2.upd u3 (fun x hx hm => by simp at hm; exact (off3 x hx).1 hm)
    have hB3 := ((hB.old u1).upd u2 hp).upd u3 (by simp; intro e; exact bb3.2.2 e.symm)
    refine ⟨_, hB3.at_ 40 (v := .pointer (some ⟨h, 0, none⟩)) rfl, ?_⟩
    refine c48 H3 fun w4 u4 => ⟨_, _, rfl, kp u4, ?_⟩
    have U4 : Upd (b1 :: b3 :: hblk h B G m) [] w w4 := (((u1.wide (m' := b1 :: b3 :: hblk h B G m) (by simp)).step u2 (fun x hx => .inr (by simp [hx]))).step u3 (fun x hx => .inr (by simp at hx; simp [hx]))).step u4 (by simp)
    have sub' : ∀ x ∈ hblk h B' G' m, x ∈ hblk h B G m ∨ w.heap.size ≤ x := fun x hx => by
      rcases sub x hx with q | q
      · exact .inl q
      · exact .inr (by omega)
    have fin : ∀ w5, Upd [b1, b3] [] w4 w5 → R (.tuple [.struct [.ptr (some ⟨c.p, 0, none⟩), .bool fresh, fitSV c.S off l more, .bool (endF c.S (putS c.S off l more))], .int .i64 0]) w5 := fun w5 u5 =>
      k B' G' w5 he (U4.step u5 (fun x hx => .inr (by simp at hx ⊢; omega))) ((H3.old u4).upd u5 (fun x hx hm => by have := off3 x hx; simp at hm; omega)) sub'
    refine brb (fun e w5 u5 => ?_) (fun e w5 u5 => ?_)
    · have := fin w5 u5
      unfold endF at this
      rw [e, Bool.true_and] at this
      exact this
    · have := fin w5 u5
      unfold endF at this
      rw [e, Bool.false_and] at this
      exact this
end
end Go.Vc.Stop
end

section
open Go Go.Vc Go.Proofs
set_option linter.unusedVariables false
set_option linter.unusedSimpArgs false
set_option autoImplicit false
namespace Go.Vc.Stop
def newS : Hs := ⟨65515, [], [(0, 65515)], -1, 0, []⟩
def newC (k : KeyV) (tk : Int) (p : Nat) : Cv := ⟨k, 0, tk, 0, 0, 0, false, ipZ, newS, [], p⟩
def putC (c : Cv) (off : Int) (l : List Int) (more : Bool) : Cv := { c with S := putS c.S off l more, tk := c.tk ++ [(off, l)] }
section
variable {N t : Nat} {w : World} {R : SV → World → Prop} {T : Tv} {hd : List Nat}
set_option maxRecDepth 10000 in
set_option maxHeartbeats 1000000 in
theorem c25 {k : KeyV} {off : Int} {data : Sl} {l : List Int} {more : Bool} (hT : TbAt N w t T hd) (hk : k.Ok) (hst : ∀ i (hi : i < T.cs.length), (kSV T.cs[i].key).enc = (kSV k).enc → T.cs[i].state = 0)
    (hd' : SeesB w data l) (hcap : data.len ≤ data.cap) (hb : Byt l) (hdis : 0 < l.length → ∀ x ∈ data.blk, x < w.heap.size ∧ x ∉ hd)
    (ke1 : ∀ i (hi : i < T.cs.length) w1, (kSV T.cs[i].key).enc = (kSV k).enc → Upd [] [] w w1 → errS T.cs[i].S off l.length more ≠ 0 → R (.tuple [.struct [.ptr (some ⟨T.cs[i].p, 0, none⟩), .bool false, .struct [.int .i64 0, .int .i64 0, .bool false], .bool false], .int .i64 (lerr (errS T.cs[i].S off l.length more))]) w1)
    (k1 : ∀ i (hi : i < T.cs.length) w1 hd', (kSV T.cs[i].key).enc = (kSV k).enc → errS T.cs[i].S off l.length more = 0 → Upd hd [] w w1 → TbAt N w1 t { T with cs := T.cs.set i (putC T.cs[i] off l more) } hd' → (∀ x ∈ hd', x ∈ hd ∨ w.heap.size ≤ x) →
      R (.tuple [.struct [.ptr (some ⟨T.cs[i].p, 0, none⟩), .bool false, fitSV T.cs[i].S off l more, .bool (endF T.cs[i].S (putS T.cs[i].S off l more))], .int .i64 0]) w1)
    (ke2 : ∀ p w1, (∀ c ∈ T.cs, (kSV c.key).enc ≠ (kSV k).enc) → Upd [] [] w w1 → errS newS off l.length more ≠ 0 → R (.tuple [.struct [.ptr (some ⟨p, 0, none⟩), .bool true, .struct [.int .i64 0, .int .i64 0, .bool false], .bool false], .int .i64 (lerr (errS newS off l.length more))]) w1)
    (k2 : ∀ p w1 hdc, (∀ c ∈ T.cs, (kSV c.key).enc ≠ (kSV k).enc) → errS newS off l.length more = 0 → Upd [] [] w w1 → CxM N w1 (putC (newC k T.ticks p) off l more) hdc → (∀ x ∈ hdc, w.heap.size ≤ x) →
      R (.tuple [.struct [.ptr (some ⟨p, 0, none⟩), .bool true, fitSV newS off l more, .bool (endF newS (putS newS off l more))], .int .i64 0]) w1) :
    Ret Try.prog 25 [.ptr (some ⟨t, 0, none⟩), kSV k, .int .i64 65515, .int .i64 off, .slice data, .bool more] w R := by
  refine f25_of _ _ _ _ _ _ _ _ _ _ _ _ _ ?_
  unfold vc25
  dsimp only [deref, derefN]
  obtain ⟨mb, bT, mT, tin, mbin, tne, _⟩ := hT.more
  have lt := hT.lt
  have tlt := lt t tin
  intro b b1
  refine ⟨_, bT.at_ 3 (v := .map (some mb)) rfl, ?_⟩
  dsimp only [derefN]
  have keys := hT.keys hk
  -- found
  have fnd : ∀ i (hi : i < T.cs.length) b3 w2 x1 x2 x3 x4 x5 x6 x7 y1 x8 x9 y2 y3, (kSV T.cs[i].key).enc = (kSV k).enc → Upd [] [] w w2 → (∀ x ∈ [b, b1, b3], w.heap.size ≤ x ∧ x < w2.heap.size) → tail25 (some ⟨T.cs[i].p, 0, none⟩) w2 b b1 b3 off data more R false false x1 x2 x3 x4 x5 x6 x7 y1 x8 x9 y2 y3 := by
    intro i hi b3 w2 x1 x2 x3 x4 x5 x6 x7 y1 x8 x9 y2 y3 ek U2 hbx
    obtain ⟨hdi, hC, hsub, hset⟩ := hT.at hi
    have hCl := hC.lt
    obtain ⟨hp, so, sd, j, os, hb', hBk, hj, hHol, hOp, hOb, rfl, d1, d2, d3⟩ := hC.ex
    unfold HolP at hHol
    rw [if_pos (hst i hi ek)] at hHol
    obtain ⟨h, B, G, m, rfl, H, g, F, mx, rfl⟩ := hHol
    have z2 := U2.size
    have sub2 : ∀ x ∈ hblk h B G m, x ∈ hd ∧ N ≤ x ∧ x < w.heap.size := fun x hx => ⟨hsub x (by simp [hx]), hCl x (by simp [hx])⟩
    have b1b := hbx b1 (by simp); have b3b := hbx b3 (by simp)
    refine tail25_c (hBk.old U2) (H.old U2) g (hd'.old U2) hcap hb (fun hp x hx => ⟨by have := (hdis hp x hx).1; omega, fun hm => (hdis hp x hx).2 (sub2 x hm).1⟩) (fun x hx => ⟨(hbx x hx).2, fun hm => by have := sub2 x hm; have := hbx x hx; omega, fun e => by have := hCl _ (List.mem_cons_self ..); have := hbx x hx; omega⟩) d1 (fun w3 u3 he => ?_) (fun B' G' w3 he u3 H3 sub => ?_)
    · exact ke1 i hi w3 ek (U2.step0 u3 (fun x hx => by simp at hx; omega)) he
    · have U3 : Upd (hblk h B G m) [] w w3 := (U2.wide (m' := hblk h B G m) (by simp)).step u3 (fun x hx => by
        rcases List.mem_cons.1 hx with e | hx
        · exact .inl (by omega)
        · rcases List.mem_cons.1 hx with e | hx
          · exact .inl (by omega)
          · exact .inr hx)
      have z3 := U3.size
      have offn : ∀ x ∈ hblk h B' G' m, x ∈ hblk h B G m ∨ w.heap.size ≤ x := fun x hx => by
        rcases sub x hx with q | q
        · exact .inl q
        · exact .inr (by omega)
      have dOp : ∀ x ∈ optB so os, x ∉ hblk h B G m := fun x hx hm => d3 x hm hx
      have hC3 : CxM N w3 (putC T.cs[i] off l more) (T.cs[i].p :: (hblk h B' G' m ++ optB so os)) := by
        refine ⟨⟨some ⟨h, 0, none⟩, so, sd, j, os, hblk h B' G' m, hBk.upd U3 d1, hj, ?_, Opts.updB hOp U3 dOp, fun x hx => by have := hOb x hx; omega, rfl, fun hm => ?_, d2, fun x hx hm => ?_⟩, hC.le, hC.key, hC.few, hC.small, hC.byt⟩
        · unfold HolP
          rw [if_pos (show (putC T.cs[i] off l more).state = 0 from hst i hi ek)]
          exact ⟨h, B', G', m, rfl, H3, g.put he hb, F.put g he hb, by rw [← mx]; rfl, rfl⟩
        · rcases offn _ hm with q | q
          · exact d1 q
          · have := hBk.lt; have e : (putC T.cs[i] off l more).p = T.cs[i].p := rfl; omega
        · rcases offn x hx with q | q
          · exact d3 x q hm
          · have := hOb x hm; omega
      obtain ⟨hd2, hT2, hn2⟩ := hset (c' := putC T.cs[i] off l more) U3 (fun x hx => by simp [hx]) hC3 (fun x hx => by
        rcases List.mem_cons.1 hx with e | hx
        · exact .inl (by simp [e])
        · rcases List.mem_append.1 hx with q | q
          · rcases offn x q with q | q
            · exact .inl (by simp [q])
            · exact .inr q
          · exact .inl (by simp [q])) rfl rfl
      exact k1 i hi w3 hd2 ek he (U3.wide (fun x hx => (sub2 x hx).1)) hT2 hn2
  -- a new one
  have fresh : ∀ (no : ∀ c ∈ T.cs, (kSV c.key).enc ≠ (kSV k).enc) b3 b4 h G m w2 w3 w4 w5 x1 x2 x3 x4 x5 x6 x7 y1 x8 x9 y2 y3, Upd [] [] w w2 → (∀ x ∈ [b, b1, b3], w.heap.size ≤ x ∧ x < w2.heap.size) → Upd [] [] w2 w3 → Hol w2.heap.size w3 h newS ⟨none, 0, 0⟩ G m → Upd [] [b4] w3 w4 → Blk w4 b4 (ctxL (newC k T.ticks b4) (some ⟨h, 0, none⟩) ⟨none, 0, 0⟩ ⟨none, 0, 0⟩ (SV.cells z6)) → Upd [b3] [] w4 w5 →
      tail25 (some ⟨b4, 0, none⟩) w5 b b1 b3 off data more R true false x1 x2 x3 x4 x5 x6 x7 y1 x8 x9 y2 y3 := by
    intro no b3 b4 h G m w2 w3 w4 w5 x1 x2 x3 x4 x5 x6 x7 y1 x8 x9 y2 y3 U2 hbx u3 H3 u4 B4 u5
    have z2 := U2.size; have z3 := u3.size; have z4 := u4.size; have z5 := u5.size
    have n4 := u4.new (b := b4) (by simp)
    have b1b := hbx b1 (by simp); have b3b := hbx b3 (by simp)
    have hlt := H3.lt
    have U5 : Upd [] [] w w5 := ((U2.then u3).then u4).step0 u5 (fun x hx => by simp at hx; omega)
    have off5 : ∀ x ∈ hblk h ⟨none, 0, 0⟩ G m, x ∉ [b3] := fun x hx hm => by have := hlt x hx; simp at hm; omega
    have H5 := ((H3.old u4).upd u5 off5)
    have B5 := B4.upd u5 (by simp; omega)
    have p4 : b4 ∉ hblk h ⟨none, 0, 0⟩ G m := fun hm => by have := hlt b4 hm; omega
    refine tail25_c (c := newC k T.ticks b4) B5 H5 (Good.new (by decide) (by decide)) (hd'.old U5) hcap hb (fun hp x hx => ⟨by have := (hdis hp x hx).1; omega, fun hm => by have := hlt x hm; have := (hdis hp x hx).1; omega⟩) (fun x hx => ⟨by have := hbx x hx; omega, fun hm => by have := hlt x hm; have := hbx x hx; omega, fun e => by have := hbx x hx; have e : x = b4 := e; omega⟩) p4 (fun w6 u6 he => ?_) (fun B' G' w6 he u6 H6 sub => ?_)
    · exact ke2 b4 w6 no (U5.step0 u6 (fun x hx => by simp at hx; omega)) he
    · have U6 : Upd [] [] w w6 := U5.step0 u6 (fun x hx => by
        rcases List.mem_cons.1 hx with e | hx
        · omega
        · rcases List.mem_cons.1 hx with e | hx
          · omega
          · have := hlt x hx; omega)
      have z6' := u6.size
      have nw : ∀ x ∈ hblk h B' G' m, w.heap.size ≤ x := fun x hx => by
        rcases sub x hx with q | q
        · have := hlt x q; omega
        · omega
      have hN : N ≤ w.heap.size := by have := tlt; omega
      have B6 := B5.upd u6 (fun hm => by
        rcases List.mem_cons.1 hm with e | hm
        · omega
        · rcases List.mem_cons.1 hm with e | hm
          · omega
          · exact p4 hm)
      refine k2 b4 w6 (b4 :: (hblk h B' G' m ++ optB ⟨none, 0, 0⟩ [])) no he U6 ⟨⟨some ⟨h, 0, none⟩, ⟨none, 0, 0⟩, ⟨none, 0, 0⟩, SV.cells z6, [], hblk h B' G' m, B6, by simp [z6, SV.cells, SV.cellsL], ?_, Opts.nil _ _ _, by simp [optB, Sl.blk], rfl, fun hm => ?_, by simp [optB, Sl.blk], by simp [optB, Sl.blk]⟩, by show N ≤ b4; omega, hk, by simp [putC, newC, ipZ], by simp [putC, newC, ipZ], by simp [putC, newC, ipZ]⟩ (fun x hx => ?_)
      · unfold HolP
        rw [if_pos (show (putC (newC k T.ticks b4) off l more).state = 0 from rfl)]
        exact ⟨h, B', G', m, rfl, Hol.mono H6 (by omega), Good.put (S := newS) (Good.new (by decide) (by decide)) he hb, First.put (S := newS) (l := []) (Good.new (by decide) (by decide)) (First.new (by decide)) he hb, rfl, rfl⟩
      · have e : (putC (newC k T.ticks b4) off l more).p = b4 := rfl
        rw [e] at hm
        rcases sub b4 hm with q | q
        · exact p4 q
        · omega
      · rcases List.mem_cons.1 hx with e | hx
        · omega
        · rcases List.mem_append.1 hx with q | q
          · exact nw x q
          · simp [optB, Sl.blk] at q
  refine ⟨fun w1 u1 => ⟨und56, _, mT.upd u1 (by simp), keys, ents_shape, fun p bb hf b3 => ⟨u1.forget, fun J hJ => ?_⟩⟩, fun b3 => ⟨Upd.refl _, fun w1 u1 => ⟨und56, _, mT.upd u1 (by simp), keys, ents_shape, fun p bb hf J hJ => ?_⟩⟩⟩
  all_goals
    have nb := u1.new (b := b) (by simp)
    have nb1 := u1.new (b := b1) (by simp)
    have z1 := u1.size
    rcases found_ents hf with ⟨rfl, no⟩ | ⟨i, hi, ek, rfl⟩
    · refine brt rfl (fun w2 u2 => ?_)
      have z2 := u2.size
      have U2 : Upd [] [] w w2 := by first
        | exact u1.forget.then u2
        | exact u1.forget.step0 u2 (fun x hx => by have := u1.new (b := b3) (by simp); simp at hx; omega)
      have nb3 : w.heap.size ≤ b3 ∧ b3 < w2.heap.size := by first
        | (have := u2.new (b := b3) (List.mem_cons_self ..); omega)
        | (have := u1.new (b := b3) (List.mem_cons_self ..); omega)
      have hbx : ∀ x ∈ [b, b1, b3], w.heap.size ≤ x ∧ x < w2.heap.size := fun x hx => by
        simp only [List.mem_cons, List.not_mem_nil, or_false] at hx
        rcases hx with e | e | e <;> subst e <;> omega
      refine c47 (fun h => by omega) (fun _ _ h G0 m0 w3 u3 H3 => ⟨_, _, rfl, kp u3, brf rfl ?_⟩)
      refine ⟨_, (bT.old (U2.then u3)).at_ 1 (v := .int .i64 T.ticks) rfl, fun b4 w4 u4 hr4 of4 w5 u5 => ?_⟩
      (repeat refine And.intro rfl ?_)
      exact hJ _ _ _ _ _ _ _ _ _ _ _ _ _ (fresh no b3 b4 h m0 G0 w2 w3 w4 w5 _ _ _ _ _ _ _ _ _ _ _ _ U2 hbx u3 H3 u4 (Blk.row (L := ctxL (newC k T.ticks b4) (some ⟨h, 0, none⟩) ⟨none, 0, 0⟩ ⟨none, 0, 0⟩ (SV.cells z6)) hr4) u5)
    · refine brf rfl (fun w2 u2 => ?_)
      have z2 := u2.size
      have U2 : Upd [] [] w w2 := by first
        | exact u1.forget.then u2
        | exact u1.forget.step0 u2 (fun x hx => by have := u1.new (b := b3) (by simp); simp at hx; omega)
      have nb3 : w.heap.size ≤ b3 ∧ b3 < w2.heap.size := by first
        | (have := u2.new (b := b3) (List.mem_cons_self ..); omega)
        | (have := u1.new (b := b3) (List.mem_cons_self ..); omega)
      have hbx : ∀ x ∈ [b, b1, b3], w.heap.size ≤ x ∧ x < w2.heap.size := fun x hx => by
        simp only [List.mem_cons, List.not_mem_nil, or_false] at hx
        rcases hx with e | e | e <;> subst e <;> omega
      (repeat refine And.intro rfl ?_)
      exact hJ _ _ _ _ _ _ _ _ _ _ _ _ _ (fnd i hi b3 w2 _ _ _ _ _ _ _ _ _ _ _ _ ek U2 hbx)
end
end Go.Vc.Stop
end

section
open Go Go.Vc Go.Proofs
set_option linter.unusedVariables false
set_option linter.unusedSimpArgs false
set_option autoImplicit false
namespace Go.Vc.Stop
section
variable {N t : Nat} {w : World} {R : SV → World → Prop} {T : Tv} {hd : List Nat}
theorem ents_len (cs : List Cv) : (ents cs).length = cs.length := by simp [ents]
theorem c50 (hT : TbAt N w t T hd) (hlt : (T.cs.length : Int) < T.max) (k : ∀ w1, Upd [] [] w w1 → R (.int .i64 0) w1) : Ret Try.prog 50 [.ptr (some ⟨t, 0, none⟩)] w R := by
  refine f50_of _ _ _ ?_
  unfold vc50
  dsimp only [deref, derefN]
  obtain ⟨mb, bT, mT, _⟩ := hT.more
  refine ⟨_, bT.at_ 3 (v := .map (some mb)) rfl, _, bT.at0 (v := .int .i64 T.max) rfl, ?_⟩
  dsimp only [derefN]
  refine fun w1 u1 => ⟨und56, _, mT.upd u1 (by simp), u1, brt (by rw [ents_len]; simpa using hlt) (k w1 u1)⟩
theorem key_cells {c : Cv} {hp : Option Addr} {so sd : Sl} {j : List Value} (hB : Blk w c.p (ctxL c hp so sd j)) :
    w.cell? ⟨c.p, 0, none⟩ = some (.int .i64 c.key.sv) ∧ (∀ i, i < 16 → w.cell? ((⟨c.p, 0, none⟩ : Addr).add (1 + i)) = some (.int .u8 (c.key.sa i))) ∧ w.cell? ((⟨c.p, 0, none⟩ : Addr).add 17) = some (.int .i64 c.key.dv) ∧ (∀ i, i < 16 → w.cell? ((⟨c.p, 0, none⟩ : Addr).add (18 + i)) = some (.int .u8 (c.key.da i))) ∧ w.cell? ((⟨c.p, 0, none⟩ : Addr).add 34) = some (.int .i64 c.key.proto) ∧ w.cell? ((⟨c.p, 0, none⟩ : Addr).add 35) = some (.int .i64 c.key.id) := by
  refine ⟨hB.at0 rfl, fun i hi => hB.at_ _ ?_, hB.at_ 17 rfl, fun i hi => hB.at_ _ ?_, hB.at_ 34 rfl, hB.at_ 35 rfl⟩
  · rcases i with _ | _ | _ | _ | _ | _ | _ | _ | _ | _ | _ | _ | _ | _ | _ | _ | i <;> first | rfl | omega
  · rcases i with _ | _ | _ | _ | _ | _ | _ | _ | _ | _ | _ | _ | _ | _ | _ | _ | i <;> first | rfl | omega
def incC (c : Cv) : Cv := { c with frags := wr .i64 (c.frags + 1) }
/-- a fragment more of a context that stood -/
theorem c26F {i : Nat} (hT : TbAt N w t T hd) (hi : i < T.cs.length) {x1 x2 : Int} {y1 y2 : Bool}
    (k : ∀ w1 hd', Upd hd [] w w1 → TbAt N w1 t { T with cs := T.cs.set i (incC T.cs[i]) } hd' → (∀ x ∈ hd', x ∈ hd ∨ w.heap.size ≤ x) → R (.int .i64 0) w1) :
    Ret Try.prog 26 [.ptr (some ⟨t, 0, none⟩), .struct [.ptr (some ⟨T.cs[i].p, 0, none⟩), .bool false, .struct [.int .i64 x1, .int .i64 x2, .bool y1], .bool y2]] w R := by
  refine f26_of _ _ _ _ _ _ _ _ _ ?_
  unfold vc26
  intro b J hJ
  refine brf rfl (fun w1 u1 => ⟨rfl, hJ _ ?_⟩)
  clear hJ
  have n1 := u1.new (b := b) (by simp)
  obtain ⟨hdi, hC, hsub, hset⟩ := hT.at hi
  have hCl := hC.lt
  obtain ⟨hp, so, sd, j, os, hb', hBk, hj, hHol, hOp, hOb, rfl, d1, d2, d3⟩ := hC.ex
  have pl := hCl _ (List.mem_cons_self ..)
  dsimp only [deref]
  refine ⟨_, (hBk.old u1).at_ 41 (v := .int .i64 T.cs[i].frags) rfl, ?_⟩
  refine Blk.store (o := 41) (vs := [.int .i64 (wr .i64 (T.cs[i].frags + 1))]) (hBk.old u1) (by rw [ctxL_len hj]; simp) (by simp; omega) fun w2 h2 u2 => ?_
  have U2 : Upd [T.cs[i].p] [] w w2 := (u1.wide (m' := [T.cs[i].p]) (by simp)).step u2 (by simp)
  have z2 := U2.size
  have hC2 : CxM N w2 (incC T.cs[i]) (T.cs[i].p :: (hb' ++ optB so os)) := by
    refine ⟨⟨hp, so, sd, j, os, hb', h2, hj, hHol.upd U2 (fun x hx hm => by simp at hm; exact d1 (hm ▸ hx)), Opts.updB hOp U2 (fun x hx hm => by simp at hm; exact d2 (hm ▸ hx)), fun x hx => by have := hOb x hx; omega, rfl, d1, d2, d3⟩, hC.le, hC.key, hC.few, hC.small, hC.byt⟩
  obtain ⟨hd2, hT2, hn2⟩ := hset (c' := incC T.cs[i]) U2 (fun x hx => by simp at hx; simp [hx]) hC2 (fun x hx => .inl hx) rfl rfl
  exact k w2 hd2 (U2.wide (fun x hx => by simp at hx; exact hsub x (by simp [hx]))) hT2 hn2
/-- a new context joins the table -/
theorem c26N {c : Cv} {hdc : List Nat} (hT : TbAt N w t T hd) (hlt : (T.cs.length : Int) < T.max) (hC : CxM N w c hdc) (hdis : ∀ x ∈ hdc, x ∉ hd) (no : ∀ x ∈ T.cs, (kSV x.key).enc ≠ (kSV c.key).enc) {x1 x2 : Int} {y1 y2 : Bool}
    (k : ∀ w1, Upd (hd ++ hdc) [] w w1 → TbAt N w1 t { T with begun := wr .i64 (T.begun + 1), cs := T.cs ++ [incC { c with began := T.begun }] } (hd ++ hdc) → R (.int .i64 0) w1) :
    Ret Try.prog 26 [.ptr (some ⟨t, 0, none⟩), .struct [.ptr (some ⟨c.p, 0, none⟩), .bool true, .struct [.int .i64 x1, .int .i64 x2, .bool y1], .bool y2]] w R := by
  refine f26_of _ _ _ _ _ _ _ _ _ ?_
  unfold vc26
  intro b J hJ
  refine brt rfl (fun w1 u1 => ?_)
  have n1 := u1.new (b := b) (by simp)
  obtain ⟨mb, bT, mT, tin, mbin, tne, hmore⟩ := hT.more
  have lt := hT.lt
  have tlt := lt t tin; have mlt := lt mb mbin
  have hCl := hC.lt
  obtain ⟨hp, so, sd, j, os, hb', hBk, hj, hHol, hOp, hOb, rfl, d1, d2, d3⟩ := hC.ex
  have pl := hCl _ (List.mem_cons_self ..)
  have pt : c.p ≠ t := fun e => hdis c.p (by simp) (e ▸ tin)
  have pm : c.p ≠ mb := fun e => hdis c.p (by simp) (e ▸ mbin)
  refine c50 (hT.old u1) hlt fun w2 u2 => ⟨_, rfl, kp u2, ?_⟩
  refine bre' (fun h => absurd rfl h) (fun _ => ?_)
  dsimp only [deref]
  have U2 := u1.forget.then u2
  refine ⟨_, (bT.old U2).at_ 2 (v := .int .i64 T.begun) rfl, fun w3 u3 => ?_⟩
  have U3 := U2.then u3
  refine Blk.store (o := 36) (vs := [.int .i64 T.begun]) (hBk.old U3) (by rw [ctxL_len hj]; simp) (by simp; omega) fun w4 h4 u4 => ?_
  have h4 : Blk w4 c.p (ctxL { c with began := T.begun } hp so sd j) := h4
  have U4 : Upd [c.p] [] w w4 := (U3.wide (m' := [c.p]) (by simp)).step u4 (by simp)
  have bT4 := bT.upd U4 (by simp; exact fun e => pt e.symm)
  refine ⟨_, bT4.at_ 2 (v := .int .i64 T.begun) rfl, ?_⟩
  refine Blk.store (o := 2) (vs := [.int .i64 (wr .i64 (T.begun + 1))]) bT4 (by simp) (by simp; omega) fun w5 h5 u5 => ?_
  have h5 : Blk w5 t [.int .i64 T.max, .int .i64 T.ticks, .int .i64 (wr .i64 (T.begun + 1)), .map (some mb)] := h5
  have U5 : Upd [c.p, t] [] w w5 := (U4.wide (m' := [c.p, t]) (by simp)).step u5 (by simp)
  refine ⟨_, h5.at_ 3 (v := .map (some mb)) rfl, ?_⟩
  have hB5 := h4.upd u5 (by simp; exact pt)
  obtain ⟨e1, e2, e3, e4, e5, e6⟩ := key_cells (c := { c with began := T.begun }) hB5
  refine ⟨_, e1, _, e2, _, e3, _, e4, _, e5, _, e6, ?_⟩
  dsimp only [derefN]
  refine fun w6 u6 => ⟨und56, by simp; omega, _, (mT.upd U5 (by simp; exact ⟨fun e => pm e.symm, fun e => tne e.symm⟩)).upd u6 (by simp), hT.keys hC.key, fun l' w7 hs u7 m7 => ⟨rfl, hJ _ ?_⟩⟩
  clear hJ
  have U7 : Upd [c.p, t, mb] [] w w7 := ((U5.wide (m' := [c.p, t, mb]) (by simp)).step u6 (by simp)).step u7 (by simp)
  have hB7 := (hB5.old u6).upd u7 (by simp; exact pm)
  have hl : l' = ents T.cs ++ [((kSV c.key).enc, .ptr (some ⟨c.p, 0, none⟩))] := by
    rcases hs with ⟨_, e⟩ | ⟨i, hi, e, _⟩
    · exact e
    · exfalso
      have : (ents T.cs)[i] ∈ ents T.cs := List.getElem_mem hi
      obtain ⟨x, hx, ex⟩ := List.mem_map.1 this
      exact no x hx (by rw [← ex] at e; exact e)
  refine ⟨_, hB7.at_ 41 (v := .int .i64 c.frags) rfl, ?_⟩
  refine Blk.store (o := 41) (vs := [.int .i64 (wr .i64 (c.frags + 1))]) hB7 (by rw [ctxL_len (c := { c with began := T.begun }) hj]; simp) (by simp; omega) fun w8 h8 u8 => ?_
  have h8 : Blk w8 c.p (ctxL (incC { c with began := T.begun }) hp so sd j) := h8
  have U8 : Upd [c.p, t, mb] [] w w8 := U7.step u8 (by simp)
  have z8 := U8.size
  have th : t ∉ c.p :: (hb' ++ optB so os) := fun hm => hdis t hm tin
  have mh : mb ∉ c.p :: (hb' ++ optB so os) := fun hm => hdis mb hm mbin
  have hC8 : CxM N w8 (incC { c with began := T.begun }) (c.p :: (hb' ++ optB so os)) := by
    refine ⟨⟨hp, so, sd, j, os, hb', h8, hj, HolP.upd (c := c) hHol U8 (fun x hx hm => ?_), Opts.updB hOp U8 (fun x hx hm => ?_), fun x hx => by have := hOb x hx; omega, rfl, d1, d2, d3⟩, hC.le, hC.key, hC.few, hC.small, hC.byt⟩
    · simp at hm
      rcases hm with e | e | e
      · exact d1 (e ▸ hx)
      · exact th (by simp [← e, hx])
      · exact mh (by simp [← e, hx])
    · simp at hm
      rcases hm with e | e | e
      · exact d2 (e ▸ hx)
      · exact th (by simp [← e, hx])
      · exact mh (by simp [← e, hx])
  refine k w8 (U8.wide (fun x hx => ?_)) (hmore U8 (fun x hx => ?_) hdis hC8 ?_ ?_ no)
  · simp at hx
    rcases hx with e | e | e <;> subst e <;> simp [tin, mbin]
  · simp at hx
    rcases hx with e | e | e
    · exact .inr (.inr (by simp [e]))
    · exact .inl e
    · exact .inr (.inl e)
  · exact ((h5.old u6).upd u7 (by simp; exact tne)).upd u8 (by simp; exact fun e => pt e.symm)
  · rw [hl] at m7
    have e : ents (T.cs ++ [incC { c with began := T.begun }]) = ents T.cs ++ [((kSV c.key).enc, .ptr (some ⟨c.p, 0, none⟩))] := by simp [ents, incC]
    rw [e]
    exact m7.upd u8 (by simp; exact fun e => pm e.symm)
end
end Go.Vc.Stop
end

section
open Go Go.Vc Go.Proofs
set_option linter.unusedVariables false
set_option linter.unusedSimpArgs false
set_option autoImplicit false
namespace Go.Vc.Stop
def stC (c : Cv) (v : IpV) : Cv := if v.off = 0 ∧ c.first = false then { c with first := true, h := v } else c
def outH (c : Cv) : IpV := { c.h with mf := false, off := 0, data := c.S.buf.take c.S.fin.toNat }
/-- what comes of a piece that was taken; c2: its context with it -/
inductive Acc (T1 : Tv) (i : Nat) (c2 : Cv) : Tv → IpV → Int → Int → Prop
  | held : wholeS c2.S = false → Acc T1 i c2 { T1 with cs := T1.cs.set i c2 } ipZ 2 0
  | bad : wholeS c2.S = true → ipChk (outH c2) ≠ 0 → Acc T1 i c2 { T1 with cs := T1.cs.set i { endC c2 2 with why := 123, frags := wr .i64 (c2.frags - 1) } } ipZ 0 123
  | whole : wholeS c2.S = true → ipChk (outH c2) = 0 → Acc T1 i c2 { T1 with cs := T1.cs.set i { endC c2 1 with frags := 0 } } (outH c2) 1 0
section
variable {N t : Nat} {w w0 : World} {R : SV → World → Prop} {c : Cv} {hp : Option Addr} {so sd : Sl} {j : List Value}
theorem h4_cells (hB : Blk w c.p (ctxL c hp so sd j)) : ∀ k, k < 43 → w.cell? (((⟨c.p, 0, none⟩ : Addr).add 43).add k) = (SV.cells (ipSV c.h so sd))[k]? := by
  intro k hk
  rw [add_add]
  have hl : (SV.cells (ipSV c.h so sd)).length = 43 := by simp [SV.cells, SV.cellsL]
  rw [List.getElem?_eq_getElem (by omega)]
  refine hB.at_ (43 + k) ?_
  unfold ctxL
  have h36 : (SV.cells (kSV c.key)).length = 36 := by simp [SV.cells, SV.cellsL]
  rw [List.getElem?_append_right (by omega), List.getElem?_append_right (by simp; omega), List.getElem?_append_left (by simp; omega), h36]
  simp only [List.length_cons, List.length_nil]
  rw [show 43 + k - 36 - (0 + 1 + 1 + 1 + 1 + 1 + 1 + 1) = k by omega]
  exact List.getElem?_eq_getElem (by omega)
set_option maxRecDepth 20000 in
set_option maxHeartbeats 1000000 in
/-- behind a fragment that was taken -/
theorem body7_ok {T1 : Tv} {i : Nat} {hd0 hd1 : List Nat} {v : IpV} {s0 d0 : Sl} {o0 : List (Int × Sl)} {b b1 b4 b9 : Nat} {J : Int → World → Prop}
    {p21 p22 : Int} {p23 p24 : Bool} {p25 p26 p27 p28 : Int} {p29 : Nat → Int} {p30 : Int} {p31 : Nat → Int} {p32 p33 : Sl} {p34 : Bool} {p35 p36 : Int} {p37 p38 : Bool}
    (hT : TbAt N w t T1 hd1) (hi : i < T1.cs.length) (hst : T1.cs[i].state = 0) (U : Upd hd0 [] w0 w) (hN : N ≤ w0.heap.size) (hsub : ∀ x ∈ hd1, x ∈ hd0 ∨ w0.heap.size ≤ x)
    (hbx : ∀ x ∈ [b, b1, b4, b9], x ∉ hd1 ∧ w0.heap.size ≤ x ∧ x < w.heap.size)
    (hO : Opts w s0 v.opts o0) (hl : v.opts.length ≤ 4398046511000) (hod : ∀ o ∈ v.opts, o.data.length ≤ 140737488351232) (hbo : ∀ o ∈ v.opts, Byt o.data) (hD : SeesB w d0 v.data) (hdl : v.data.length ≤ 140737488351232)
    (k : ∀ T' out o e so sd os w' hd', Acc T1 i (stC T1.cs[i] v) T' out o e → Upd hd0 [] w0 w' → TbAt N w' t T' hd' → (∀ x ∈ hd', x ∈ hd0 ∨ w0.heap.size ≤ x) → Opts w' so out.opts os → SeesB w' sd out.data → (∀ x ∈ sd.blk, w0.heap.size ≤ x) → R (.tuple [ipSV out so sd, .int .i64 o, .int .i64 e]) w')
    (hJ : tail7b 0 b1 w R (some ⟨T1.cs[i].p, 0, none⟩) b b4 b9 v.off v.tos v.id v.df v.mf v.ttl v.proto v.sv v.sa v.dv v.da s0 d0 p21 p22 p23 p24 p25 p26 p27 p28 p29 p30 p31 p32 p33 p34 p35 p36 p37 p38 J) : J 0 w := by
  unfold tail7b at hJ
  refine hJ (brf rfl ?_)
  clear hJ
  intro J4 hJ4
  have z0 := U.size
  obtain ⟨hdi, hC, hsub1, hset⟩ := hT.at hi
  have hCl := hC.lt
  have hCin := hC
  obtain ⟨hp, so, sd, j, os, hb', hBk, hj, hHol, hOp, hOb, rfl, d1, d2, d3⟩ := hC.ex
  have pin : T1.cs[i].p ∈ hd1 := hsub1 _ (List.mem_cons_self ..)
  have pl := hCl _ (List.mem_cons_self ..)
  have pbx : ∀ x ∈ [b, b1, b4, b9], x ≠ T1.cs[i].p := fun x hx e => (hbx x hx).1 (e ▸ pin)
  have b1p := hbx b1 (by simp)
  -- the context with the piece, its first fragment kept if it is that
  have main : ∀ c2 w2 hdi2 (so2 sd2 : Sl) (j2 : List Value) (os2 : List (Int × Sl)), c2 = stC T1.cs[i] v → c2.state = 0 → c2.p = T1.cs[i].p → c2.key = T1.cs[i].key → c2.h.opts.length ≤ 4398046511000 → (∀ o ∈ c2.h.opts, o.data.length ≤ 140737488351232) → (∀ o ∈ c2.h.opts, Byt o.data) → c2.S = T1.cs[i].S → c2.tk = T1.cs[i].tk →
      Upd [T1.cs[i].p] [] w w2 → Blk w2 c2.p (ctxL c2 hp so2 sd2 j2) → j2.length = 44 → Opts w2 so2 c2.h.opts os2 → (∀ x ∈ optB so2 os2, (x ∈ optB so os ∨ w.heap.size ≤ x) ∧ x < w2.heap.size) → hdi2 = c2.p :: (hb' ++ optB so2 os2) → J4 w2 := by
    intro c2 w2 hdi2 so2 sd2 j2 os2 ec es ep ek f1 f2 f3 eS etk u2 hB2 hj2 hO2 hb2 ehd
    refine hJ4 _ ?_
    clear hJ4
    have z2 := u2.size
    have hHol2 : HolP N w2 c2 hp hb' := by
      have h := hHol.upd u2 (fun x hx hm => by simp at hm; exact d1 (hm ▸ hx))
      unfold HolP at h ⊢
      rw [if_pos hst] at h
      rw [if_pos es, eS, etk]
      exact h
    have dn : ∀ x ∈ optB so2 os2, x ≠ c2.p ∧ x ∉ hb' := fun x hx => by
      have pe : c2.p = T1.cs[i].p := ep
      rcases (hb2 x hx).1 with q | q
      · exact ⟨fun e => d2 (by rw [pe] at e; exact e ▸ q), fun hm => d3 x hm q⟩
      · refine ⟨fun e => by omega, fun hm => by have := hCl x (by simp [hm]); omega⟩
    have hC2 : CxM N w2 c2 hdi2 := ⟨⟨hp, so2, sd2, j2, os2, hb', hB2, hj2, hHol2, hO2, fun x hx => by
        refine ⟨?_, (hb2 x hx).2⟩
        rcases (hb2 x hx).1 with q | q
        · exact (hOb x q).1
        · omega, ehd, by rw [ep]; exact d1, fun hm => (dn _ hm).1 rfl, fun x hx hm => (dn x hm).2 hx⟩, by rw [ep]; exact hC.le, by rw [ek]; exact hC.key, f1, f2, f3⟩
    obtain ⟨hd2, hT2, hn2⟩ := hset (c' := c2) u2 (fun x hx => by simp at hx; simp [hx]) hC2 (fun x hx => by
      rw [ehd, ep] at hx
      rcases List.mem_cons.1 hx with e | hx
      · exact .inl (by simp [e])
      · rcases List.mem_append.1 hx with q | q
        · exact .inl (by simp [q])
        · rcases (hb2 x q).1 with q | q
          · exact .inl (by simp [q])
          · exact .inr q) ek ep
    have U2 : Upd hd0 [] w0 w2 := U.step u2 (fun x hx => by
      simp at hx
      subst hx
      exact (hsub _ pin).symm)
    have sub2 : ∀ x ∈ hd2, x ∈ hd0 ∨ w0.heap.size ≤ x := fun x hx => by
      rcases hn2 x hx with q | q
      · exact hsub x q
      · exact .inr (by omega)
    have bx2 : ∀ x ∈ [b, b1, b4, b9], x ∉ hd2 := fun x hx hm => by
      rcases hn2 x hm with q | q
      · exact (hbx x hx).1 q
      · have := (hbx x hx).2.2; omega
    have fin : ∀ {w5 : World}, Upd [b1] [] w2 w5 → Upd hd0 [] w0 w5 ∧ TbAt N w5 t { T1 with cs := T1.cs.set i c2 } hd2 := fun u5 => ⟨U2.step u5 (fun x hx => by simp at hx; subst hx; exact .inl b1p.2.1), hT2.upd u5 (fun x hx hm => by simp at hm; subst hm; exact bx2 x (by simp) hx)⟩
    have hHol3 := hHol2
    unfold HolP at hHol3
    rw [if_pos es] at hHol3
    obtain ⟨h, B, G, m, rfl, H, g, F, mx, ehb⟩ := hHol3
    dsimp only [deref]
    rw [← ep]
    refine ⟨_, hB2.at_ 40 (v := .pointer (some ⟨h, 0, none⟩)) rfl, ?_⟩
    refine c28 H (fun hw => (First.bytes g F hw).2.1) (by have := g.bl; omega) fun s9 w3 u3 hs9 ho9 => ⟨_, _, rfl, kp u3, brn (fun hw w5 u5 => ?_) (fun hw => ?_)⟩
    · obtain ⟨a1, a2⟩ := fin (((Upd.refl w2).then u3 |>.wide (m' := [b1]) (by simp)).step u5 (by simp))
      have := k _ ipZ 2 0 ⟨none, 0, 0⟩ ⟨none, 0, 0⟩ [] w5 hd2 (ec ▸ .held hw) a1 a2 sub2 (Opts.nil _ _ _) (Sees.nil _ _ _ _) (by simp [Sl.blk])
      exact this
    · have hB3 := hB2.old u3
      have hc := h4_cells hB3
      have z3 := u3.size
      refine ⟨_, hB3.at_ 43 (v := .int .i64 c2.h.tos) rfl, _, hc 1 (by decide), _, hc 2 (by decide), _, hc 3 (by decide), _, hc 4 (by decide), _, hc 5 (by decide), _, hc 6 (by decide), _, hc 7 (by decide), c2.h.sa, fun q hq => ?_, _, hc 24 (by decide), c2.h.da, fun q hq => ?_, _, hc 41 (by decide), _, hc 42 (by decide), ?_⟩
      · rw [hc (8 + q) (by omega)]
        rcases q with _ | _ | _ | _ | _ | _ | _ | _ | _ | _ | _ | _ | _ | _ | _ | _ | q <;> first | rfl | omega
      · rw [hc (25 + q) (by omega)]
        rcases q with _ | _ | _ | _ | _ | _ | _ | _ | _ | _ | _ | _ | _ | _ | _ | _ | q <;> first | rfl | omega
      intro b10 w4 u4
      have n10 := u4.new (b := b10) (by simp)
      have v4 := u3.then u4
      rw [hw] at hs9
      have hs9 : SeesB w3 s9 (c2.S.buf.take c2.S.fin.toNat) := hs9
      have hs4 := hs9.old u4
      have hsl := hs4.len
      have bl := g.bl
      have tl : (c2.S.buf.take c2.S.fin.toNat).length ≤ 65535 := by rw [List.length_take]; omega
      refine c23 (v := outH c2) (s := so2) (os := os2) (hO2.old v4) (by show c2.h.opts.length < _; omega) (fun o ho => by have := f2 o ho; omega) hsl (by show (c2.S.buf.take _).length ≤ _; omega) fun w5 u5 => ⟨_, rfl, kp u5, ?_⟩
      have v5 := v4.then u5
      have z5 := v5.size
      have hB5 := hB2.old v5
      have pc : c2.p ∉ [b1] := by simp; rw [ep]; exact fun e => pbx b1 (by simp) e.symm
      have kpb : ∀ {w6 w7 : World}, w2.heap.size ≤ w6.heap.size → b10 < w6.heap.size → Upd [c2.p] [] w6 w7 → Keeps [b, b1, b4, b9, b10] w6 w7 := fun hz hz2 u => kpm u (fun x hx => by
          by_cases e : x = b10
          · omega
          · have hx' : x ∈ [b, b1, b4, b9] := by simp at hx ⊢; omega
            have := (hbx x hx').2.2; omega) (fun x hx hm => by
          simp at hm
          by_cases e : x = b10
          · rw [ep] at hm; omega
          · have hx' : x ∈ [b, b1, b4, b9] := by simp at hx ⊢; omega
            exact pbx x hx' (by rw [← ep]; exact hm))
      -- what is let go
      have ended : ∀ (c3 : Cv) (w6 w7 w8 : World) (j3 : List Value), c3.p = c2.p → c3.key = c2.key → c3.state ≠ 0 → c3.h = ipZ → Upd [] [] w5 w6 → Upd [c2.p] [] w6 w7 → Blk w7 c3.p (ctxL c3 none ⟨none, 0, 0⟩ ⟨none, 0, 0⟩ j3) → j3.length = 44 → Upd [b1] [] w7 w8 →
          ∃ hd', TbAt N w8 t { T1 with cs := T1.cs.set i c3 } hd' ∧ (∀ x ∈ hd', x ∈ hd0 ∨ w0.heap.size ≤ x) ∧ Upd hd0 [] w0 w8 := by
        intro c3 w6 w7 w8 j3 e1 e2 e3 e4 u6 u7 hB7 hj7 u8
        have v7 : Upd [c2.p] [] w w7 := ((((u2.wide (m' := [c2.p]) (by rw [ep]; simp)).step v5 (by simp)).step u6 (by simp)).step u7 (by simp))
        have z7 := v7.size
        have hC7 : CxM N w7 c3 [c3.p] := ⟨⟨none, ⟨none, 0, 0⟩, ⟨none, 0, 0⟩, j3, [], [], hB7, hj7, by unfold HolP; rw [if_neg e3], by rw [e4]; exact Opts.nil _ _ _, by simp [optB, Sl.blk], by simp [optB, Sl.blk], by simp, by simp [optB, Sl.blk], by simp⟩, by rw [e1, ep]; exact hC.le, by rw [e2, ek]; exact hC.key, by rw [e4]; simp [ipZ], by rw [e4]; simp [ipZ], by rw [e4]; simp [ipZ]⟩
        obtain ⟨hd', hT7, hn7⟩ := hset (c' := c3) v7 (fun x hx => by simp at hx; rw [hx, ep]; simp) hC7 (fun x hx => by simp at hx; rw [hx, e1, ep]; exact .inl (by simp)) (e2.trans ek) (e1.trans ep)
        have sub7 : ∀ x ∈ hd', x ∈ hd0 ∨ w0.heap.size ≤ x := fun x hx => by
          rcases hn7 x hx with q | q
          · exact hsub x q
          · exact .inr (by omega)
        refine ⟨hd', hT7.upd u8 (fun x hx hm => ?_), sub7, (U.step v7 (fun x hx => by simp at hx; rw [hx, ep]; exact (hsub _ pin).symm)).step u8 (fun x hx => by simp at hx; subst hx; exact .inl b1p.2.1)⟩
        simp at hm
        subst hm
        rcases hn7 x hx with q | q
        · exact b1p.1 q
        · omega
      refine bre' (fun hne => ?_) (fun he => ?_)
      · skip
        refine ⟨_, hB5.at_ 41 (v := .int .i64 c2.frags) rfl, fun w6 u6 => ?_⟩
        have z6 := u6.size
        refine c29 (hB5.old u6) hj2 fun w7 j3 u7 hB7 hj7 => ⟨rfl, kpb (by omega) (by have := u5.size; omega) u7, fun w8 u8 => ?_⟩
        obtain ⟨hd', a1, a2, a3⟩ := ended { endC c2 2 with why := 123, frags := wr .i64 (c2.frags - 1) } w6 w7 w8 j3 rfl rfl (by simp [endC]) rfl u6 u7 hB7 hj7 u8
        exact k _ ipZ 0 123 ⟨none, 0, 0⟩ ⟨none, 0, 0⟩ [] w8 hd' (ec ▸ .bad hw hne) a3 a1 a2 (Opts.nil _ _ _) (Sees.nil _ _ _ _) (by simp [Sl.blk])
      · refine c30 hB5 hj2 fun w7 j3 u7 hB7 hj7 => ⟨rfl, kpb (by omega) (by have := u5.size; omega) u7, fun w8 u8 => ?_⟩
        obtain ⟨hd', a1, a2, a3⟩ := ended { endC c2 1 with frags := 0 } w5 w7 w8 j3 rfl rfl (by simp [endC]) rfl (Upd.refl _) u7 hB7 hj7 u8
        have hO8 := Opts.updB (Opts.updB (hO2.old v5) u7 (fun x hx hm => by simp at hm; exact (dn x hx).1 hm)) u8 (fun x hx hm => by
          simp at hm
          subst hm
          rcases (hb2 x hx).1 with q | q
          · exact b1p.1 (hsub1 x (by simp [q]))
          · omega)
        have bs9 := ho9.blk
        have hs8 := ((hs4.old u5).upd u7 (fun x hx hm => by simp at hm; have := bs9 x hx; rw [ep] at hm; omega)).upd u8 (fun x hx hm => by simp at hm; subst hm; have := bs9 x hx; omega)
        exact k _ (outH c2) 1 0 so2 s9 os2 w8 hd' (ec ▸ .whole hw he) a3 a1 a2 hO8 hs8 (fun x hx => by have := bs9 x hx; omega)
  refine bre (fun e0 => ?_) (fun ne => ?_)
  · dsimp only [deref]
    refine ⟨_, hBk.at_ 42 (v := .bool T1.cs[i].first) rfl, brn (fun hf => ?_) (fun hf => ?_)⟩
    · refine ⟨[], by simp, fun w3 u3 => ?_⟩
      refine c27 (v := v) (hO.old u3) (by omega) (fun o ho => by have := hod o ho; omega) (hD.old u3) (by omega) fun s4 os4 d4 w4 u4 hO4 hb4 => ⟨_, _, _, _, _, _, _, _, _, _, _, _, _, rfl, kp u4, by intro x hx; simp at hx, ?_⟩
      have v4 := u3.then u4
      have z4 := v4.size; have z3 := u3.size
      refine Blk.store (o := 42) (vs := [.bool true]) (hBk.old v4) (by rw [ctxL_len hj]; simp) (by simp only [List.mem_cons, List.not_mem_nil, or_false, not_or]; exact ⟨fun e => pbx b (by simp) e.symm, fun e => pbx b1 (by simp) e.symm, fun e => pbx b4 (by simp) e.symm, fun e => pbx b9 (by simp) e.symm⟩) fun w5 h5 u5 => ⟨by intro x hx; simp at hx, ?_⟩
      have h5 : Blk w5 T1.cs[i].p (ctxL { T1.cs[i] with first := true } hp so sd j) := h5
      refine Blk.store (o := 43) (vs := SV.cells (ipSV v s4 d4)) h5 (by rw [ctxL_len (c := { T1.cs[i] with first := true }) hj]; simp [SV.cells, SV.cellsL]) (by simp only [List.mem_cons, List.not_mem_nil, or_false, not_or]; exact ⟨fun e => pbx b (by simp) e.symm, fun e => pbx b1 (by simp) e.symm, fun e => pbx b4 (by simp) e.symm, fun e => pbx b9 (by simp) e.symm⟩) fun w6 h6 u6 => ?_
      have h6 : Blk w6 T1.cs[i].p (ctxL { T1.cs[i] with first := true, h := v } hp s4 d4 j) := h6
      have off4 : ∀ x ∈ optB s4 os4, x ∉ [T1.cs[i].p] := fun x hx hm => by have := (hb4 x hx).1; simp at hm; omega
      have hO6 := Opts.updB (Opts.updB hO4 u5 off4) u6 off4
      have v6 : Upd [T1.cs[i].p] [] w w6 := ((v4.wide (m' := [T1.cs[i].p]) (by simp)).step u5 (by simp)).step u6 (by simp)
      (repeat refine And.intro rfl ?_)
      have z6 := u5.size; have z7 := u6.size
      exact main { T1.cs[i] with first := true, h := v } w6 _ s4 d4 j os4 (by unfold stC; rw [if_pos ⟨e0, hf⟩]) hst rfl rfl hl hod hbo rfl rfl v6 h6 hj hO6 (fun x hx => ⟨.inr (by have := (hb4 x hx).1; omega), by have := (hb4 x hx).2; omega⟩) rfl
    · (repeat refine And.intro rfl ?_)
      exact main T1.cs[i] w _ so sd j os (by unfold stC; rw [if_neg (by simp [hf])]) hst rfl rfl hC.few hC.small hC.byt rfl rfl ((Upd.refl w).wide (by simp)) hBk hj hOp (fun x hx => ⟨.inl hx, (hOb x hx).2⟩) rfl
  · (repeat refine And.intro rfl ?_)
    exact main T1.cs[i] w _ so sd j os (by unfold stC; rw [if_neg (by simp [ne])]) hst rfl rfl hC.few hC.small hC.byt rfl rfl ((Upd.refl w).wide (by simp)) hBk hj hOp (fun x hx => ⟨.inl hx, (hOb x hx).2⟩) rfl
end
end Go.Vc.Stop
end

section
open Go Go.Vc Go.Proofs
set_option linter.unusedVariables false
set_option linter.unusedSimpArgs false
set_option autoImplicit false
namespace Go.Vc.Stop
def keyH (v : IpV) : KeyV := ⟨v.sv, v.sa, v.dv, v.da, v.proto, v.id⟩
/-- what Offer4 answers, and what the table is behind it -/
inductive OffR (T : Tv) (v : IpV) : Tv → IpV → Int → Int → Prop
  | bad : ipChk v ≠ 0 → OffR T v T ipZ 0 (ipChk v)
  | plain : ipChk v = 0 → v.mf = false → v.off = 0 → OffR T v T v 1 0
  | busy (i : Nat) (hi : i < T.cs.length) : ipChk v = 0 → ¬ (v.mf = false ∧ v.off = 0) → (kSV T.cs[i].key).enc = (kSV (keyH v)).enc → readyV T.cs[i] 125 123 ≠ 0 → OffR T v T ipZ 0 (readyV T.cs[i] 125 123)
  | far (i : Nat) (hi : i < T.cs.length) : ipChk v = 0 → ¬ (v.mf = false ∧ v.off = 0) → (kSV T.cs[i].key).enc = (kSV (keyH v)).enc → readyV T.cs[i] 125 123 = 0 → errS T.cs[i].S v.off v.data.length v.mf ≠ 0 → OffR T v T ipZ 0 (lerr (errS T.cs[i].S v.off v.data.length v.mf))
  | dup (i : Nat) (hi : i < T.cs.length) : ipChk v = 0 → ¬ (v.mf = false ∧ v.off = 0) → (kSV T.cs[i].key).enc = (kSV (keyH v)).enc → readyV T.cs[i] 125 123 = 0 → errS T.cs[i].S v.off v.data.length v.mf = 0 →
      newN v.off (v.off + v.data.length) T.cs[i].S.gaps = 0 ∧ endF T.cs[i].S (putS T.cs[i].S v.off v.data v.mf) = false → OffR T v { T with cs := T.cs.set i (putC T.cs[i] v.off v.data v.mf) } ipZ 0 121
  | more (i : Nat) (hi : i < T.cs.length) (T' : Tv) (out : IpV) (o e : Int) : ipChk v = 0 → ¬ (v.mf = false ∧ v.off = 0) → (kSV T.cs[i].key).enc = (kSV (keyH v)).enc → readyV T.cs[i] 125 123 = 0 → errS T.cs[i].S v.off v.data.length v.mf = 0 →
      ¬ (newN v.off (v.off + v.data.length) T.cs[i].S.gaps = 0 ∧ endF T.cs[i].S (putS T.cs[i].S v.off v.data v.mf) = false) →
      Acc { T with cs := T.cs.set i (incC (putC T.cs[i] v.off v.data v.mf)) } i (stC (incC (putC T.cs[i] v.off v.data v.mf)) v) T' out o e → OffR T v T' out o e
  | far0 : ipChk v = 0 → ¬ (v.mf = false ∧ v.off = 0) → (∀ c ∈ T.cs, (kSV c.key).enc ≠ (kSV (keyH v)).enc) → errS newS v.off v.data.length v.mf ≠ 0 → OffR T v T ipZ 0 (lerr (errS newS v.off v.data.length v.mf))
  | dup0 : ipChk v = 0 → ¬ (v.mf = false ∧ v.off = 0) → (∀ c ∈ T.cs, (kSV c.key).enc ≠ (kSV (keyH v)).enc) → errS newS v.off v.data.length v.mf = 0 →
      newN v.off (v.off + v.data.length) newS.gaps = 0 ∧ endF newS (putS newS v.off v.data v.mf) = false → OffR T v T ipZ 0 121
  | more0 (p : Nat) (T' : Tv) (out : IpV) (o e : Int) : ipChk v = 0 → ¬ (v.mf = false ∧ v.off = 0) → (∀ c ∈ T.cs, (kSV c.key).enc ≠ (kSV (keyH v)).enc) → errS newS v.off v.data.length v.mf = 0 →
      ¬ (newN v.off (v.off + v.data.length) newS.gaps = 0 ∧ endF newS (putS newS v.off v.data v.mf) = false) →
      Acc { T with begun := wr .i64 (T.begun + 1), cs := T.cs ++ [incC { putC (newC (keyH v) T.ticks p) v.off v.data v.mf with began := T.begun }] } T.cs.length (stC (incC { putC (newC (keyH v) T.ticks p) v.off v.data v.mf with began := T.begun }) v) T' out o e → OffR T v T' out o e
section
variable {w : World} {R : SV → World → Prop} {b1 b b4 : Nat} {ptr t : Option Addr} {p5 p6 p7 : Int} {p8 p9 : Bool} {p10 p11 p12 : Int} {p13 : Nat → Int} {p14 : Int} {p15 : Nat → Int} {p16 p17 : Sl} {p18 p19 : Int} {p20 p21 : Bool} {p22 p23 p24 p25 : Int} {p26 : Nat → Int} {p27 : Int} {p28 : Nat → Int} {p29 p30 : Sl} {fresh : Bool} {x1 x2 : Int} {y1 y2 : Bool}
theorem rest7_err {e : Int} (he : e ≠ 0) (k : ∀ w1, Upd [b1] [] w w1 → R (.tuple [ipSV ipZ ⟨none, 0, 0⟩ ⟨none, 0, 0⟩, .int .i64 0, .int .i64 e]) w1) :
    tail7r b1 R ptr b b4 p5 p6 p7 p8 p9 p10 p11 p12 p13 p14 p15 p16 p17 p18 p19 p20 p21 p22 p23 p24 p25 p26 p27 p28 p29 p30 fresh x1 x2 y1 y2 t e w := by
  unfold tail7r
  intro b9 J1 hJ1
  refine brf (by simpa using he) (fun w2 u2 => ?_)
  (repeat refine And.intro rfl ?_)
  refine hJ1 _ _ (fun J2 hJ2 => ?_)
  refine brf (by simpa using he) ?_
  (repeat refine And.intro rfl ?_)
  have h := hJ2 e w2
  unfold tail7b at h
  exact h (brt (by simpa using he) fun w3 u3 => k w3 ((u2.wide (m' := [b1]) (by simp)).step u3 (by simp)))
theorem rest7_dup (hx : x1 = 0 ∧ y2 = false) (k : ∀ w1, Upd [b1] [] w w1 → R (.tuple [ipSV ipZ ⟨none, 0, 0⟩ ⟨none, 0, 0⟩, .int .i64 0, .int .i64 121]) w1) :
    tail7r b1 R ptr b b4 p5 p6 p7 p8 p9 p10 p11 p12 p13 p14 p15 p16 p17 p18 p19 p20 p21 p22 p23 p24 p25 p26 p27 p28 p29 p30 fresh x1 x2 y1 y2 t 0 w := by
  unfold tail7r
  intro b9 J1 hJ1
  refine brt rfl (brt (by simpa using hx.1) (brt (by rw [hx.2]; rfl) (fun w2 u2 => ?_)))
  (repeat refine And.intro rfl ?_)
  refine hJ1 _ _ (fun J2 hJ2 => ?_)
  refine brf (by decide) ?_
  (repeat refine And.intro rfl ?_)
  have h := hJ2 121 w2
  unfold tail7b at h
  exact h (brt (by decide) fun w3 u3 => k w3 ((u2.wide (m' := [b1]) (by simp)).step u3 (by simp)))
theorem rest7_ok (hx : ¬ (x1 = 0 ∧ y2 = false))
    (k : ∀ b9 w2, Upd [] [b9] w w2 → ∀ J2 : Int → World → Prop, (∀ z w6, tail7b z b1 w6 R ptr b b4 b9 p5 p6 p7 p8 p9 p10 p11 p12 p13 p14 p15 p16 p17 p18 p19 p20 p21 p22 p23 p24 p25 p26 p27 p28 p29 p30 fresh x1 x2 y1 y2 J2) → ∀ R2 : SV → World → Prop, (∀ w8, Keeps [b, b1, b4, b9] w2 w8 → J2 0 w8 → R2 (.int .i64 0) w8) → Ret Try.prog 26 [.ptr t, .struct [.ptr ptr, .bool fresh, .struct [.int .i64 x1, .int .i64 x2, .bool y1], .bool y2]] w2 R2) :
    tail7r b1 R ptr b b4 p5 p6 p7 p8 p9 p10 p11 p12 p13 p14 p15 p16 p17 p18 p19 p20 p21 p22 p23 p24 p25 p26 p27 p28 p29 p30 fresh x1 x2 y1 y2 t 0 w := by
  unfold tail7r
  intro b9 J1 hJ1
  have go : ∀ w2, Upd [] [b9] w w2 → J1 0 w2 := fun w2 u2 => by
    refine hJ1 _ _ (fun J2 hJ2 => ?_)
    refine brt rfl ?_
    refine k b9 w2 u2 J2 hJ2 _ fun w8 kk hj => ⟨_, rfl, kk, ?_⟩
    (repeat refine And.intro rfl ?_)
    exact hj
  refine brt rfl (bre (fun e1 => brn (fun e2 => absurd ⟨e1, e2⟩ hx) (fun _ w2 u2 => ?_)) (fun _ w2 u2 => ?_))
  · (repeat refine And.intro rfl ?_)
    exact go w2 u2
  · (repeat refine And.intro rfl ?_)
    exact go w2 u2
end
end Go.Vc.Stop
end
