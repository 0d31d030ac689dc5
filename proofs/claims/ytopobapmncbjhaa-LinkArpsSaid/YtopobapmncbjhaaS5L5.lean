import Derived.Test.YtopobapmncbjhaaS5L4
import Derived.Test.YtopobapmncbjhaaRowC
open Go Go.Vc Go.Proofs Go.ChangeShapes Go.WideShapes Go.ChangeAt Go.RowKit
set_option linter.unusedVariables false
set_option linter.unusedSimpArgs false
set_option autoImplicit false
namespace Go.Vc.S5

theorem deep_arp {H : Type} {w : World} {m : Nat} {x : SV} {d : DataW H} (h : Deep X w m (X.T 35) x d) :
    ∃ (op : Int) (sm : Nat → Int) (v1 : Int) (a1 tm : Nat → Int) (v2 : Int) (a2 : Nat → Int), x = arpSV op sm v1 a1 tm v2 a2 ∧ (∀ i, i < 6 → 0 ≤ sm i ∧ sm i < 256) ∧ (∀ i, i < 6 → 0 ≤ tm i ∧ tm i < 256) ∧ (∀ i, i < 16 → 0 ≤ a1 i ∧ a1 i < 256) ∧ (∀ i, i < 16 → 0 ≤ a2 i ∧ a2 i < 256) := by
  obtain ⟨fs, l, m', rfl, rfl, hh⟩ := dp_struct (b := false) (ts := [.int .i64, .arr .u8 6, .struct false [.int .i64, .arr .u8 16], .arr .u8 6, .struct false [.int .i64, .arr .u8 16]]) (show Deep X w m (.struct false [.int .i64, .arr .u8 6, .struct false [.int .i64, .arr .u8 16], .arr .u8 6, .struct false [.int .i64, .arr .u8 16]]) x d from h)
  obtain ⟨x1, _, _, _, rfl, rfl, h1, hh⟩ := all3_cons hh
  obtain ⟨x2, _, _, _, rfl, rfl, h2, hh⟩ := all3_cons hh
  obtain ⟨x3, _, _, _, rfl, rfl, h3, hh⟩ := all3_cons hh
  obtain ⟨x4, _, _, _, rfl, rfl, h4, hh⟩ := all3_cons hh
  obtain ⟨x5, _, _, _, rfl, rfl, h5, hh⟩ := all3_cons hh
  obtain ⟨rfl, rfl⟩ := all3_nil hh
  obtain ⟨op, rfl, _, _⟩ := dp_int h1
  obtain ⟨sm, _, rfl, _, _, hs⟩ := dp_arr8 h2
  obtain ⟨v1, a1, rfl, _, g1⟩ := dp_ip h3
  obtain ⟨tm, _, rfl, _, _, ht⟩ := dp_arr8 h4
  obtain ⟨v2, a2, rfl, _, g2⟩ := dp_ip h5
  exact ⟨op, sm, v1, a1, tm, v2, a2, rfl, hs, ht, g1, g2⟩

theorem walk4 {H : Type} {W : World} (svs : List SV) (ds : List (DataW H)) (h : ArgsD X W [22, 35] svs ds) :
    Ret Try.prog 4 svs W fun r w1 => r = .bool true ∧ Upd [] [] W w1 := by
  obtain ⟨x, _, d1, _, m1, rfl, rfl, h1, h⟩ := argsD_cons h
  obtain ⟨y, _, d2, _, m2, rfl, rfl, h2, h⟩ := argsD_cons h
  obtain ⟨rfl, rfl⟩ := argsD_nil h
  obtain ⟨s, l, rfl, hs, hb, hc, _⟩ := deep_bytes (t := 22) (e := 5) rfl rfl h1
  obtain ⟨op, sm, v1, a1, tm, v2, a2, rfl, hm, _⟩ := deep_arp h2
  exact c4 hs hb hc (hm 0 (by omega))

set_option maxRecDepth 10000 in
theorem c5 {b : Sl} {l : List Int} {op v1 v2 : Int} {sm a1 tm a2 : Nat → Int} {w : World} (h : SeesB w b l) (hb : Byt l) (hc : b.len ≤ b.cap) (hm : ∀ i, i < 6 → 0 ≤ sm i ∧ sm i < 256) (ht : ∀ i, i < 6 → 0 ≤ tm i ∧ tm i < 256) (ha1 : ∀ i, i < 16 → 0 ≤ a1 i ∧ a1 i < 256) (ha2 : ∀ i, i < 16 → 0 ≤ a2 i ∧ a2 i < 256) :
    Ret Try.prog 5 [.slice b, arpSV op sm v1 a1 tm v2 a2] w fun r w1 => r = .bool true ∧ Upd [] [] w w1 := by
  refine f5_of _ _ _ _ _ _ _ _ _ _ ?_
  unfold vc5
  intro b1 w1 u1
  refine c21 fun f w2 hf u2 => ⟨_, _, _, _, _, _, _, rfl, kp u2, ?_⟩
  have hA := ask_ok hf
  have hf0 : 0 ≤ f 0 ∧ f 0 < 256 := by rw [hf 0 (by omega)]; decide
  refine c20 hf0 fun s w3 u3 hs ho => ⟨_, _, rfl, kp u3, ?_⟩
  rw [hA, if_pos rfl] at hs
  rw [hA]
  have hsl := hs.len
  rw [arpB_len] at hsl
  intro J hJ
  refine brf rfl (brf (by simp [hsl]) ?_)
  repeat refine And.intro rfl ?_
  refine hJ _ ?_
  clear hJ
  have v3 := (u1.then u2).then u3
  refine c16 (h.old v3) hc fun al w4 u4 ha hao => ⟨_, _, rfl, kp u4, ?_⟩
  have hcb := cut_byt hb
  have hcl := cut_len l
  have hal := ha.len
  have hac := hao.le
  simp at hal
  generalize hC : cutOf l = C at *
  have hin : ∀ w', SeesB w' al (C ++ [201, 202, 203, 204, 205]) → SeesB w' (al.sub 1 0 C.length al.cap) C := by
    intro w' h'
    have := h'.subB (lo := 0) (hi := C.length) (mx := al.cap) (by omega) (by simp) (by omega)
    simpa using this
  refine c22 (hin _ ha) hcb (by simp [Sl.sub]; omega) (by omega) fun r1 r2 r3 r4 r5 r6 r7 w5 e1 e2 e3 e4 e5 e6 e7 u5 => ⟨_, _, _, _, _, _, _, _, rfl, kp u5, ?_⟩
  have v5 := (v3.then u4).then u5
  have I5 := hin _ (ha.old u5)
  intro b2 J hJ
  -- what is written is read as it was
  have last : ∀ w6, Upd [] [] w5 w6 → J w6 := by
    intro w6 u6
    refine hJ _ ?_
    clear hJ
    intro J2 hJ2
    have put : ∀ w7, Upd [] [] w6 w7 → J2 w7 := by
      intro w7 u7
      refine hJ2 _ ?_
      refine c20 (hm 0 (by omega)) fun t w8 u8 ht8 hto8 => ⟨_, _, rfl, kp u8, ?_⟩
      have v8 := ((v5.then u6).then u7).then u8
      refine bre' (fun hne => ?_) (fun he => ?_)
      · rw [if_neg hne] at ht8
        have := ht8.len
        refine ⟨by simp [this], v8⟩
      · rw [if_pos he] at ht8
        have htl := ht8.len
        rw [arpB_len] at htl
        have B4 : ∀ a : Nat → Int, (∀ i, i < 16 → 0 ≤ a i ∧ a i < 256) → Byt (arrL 4 a) := fun a ha => arrL_byt fun i hi => ha i (by omega)
        have hB : Byt (arpB op sm a1 tm a2) := ((((Byt.app (by simp [Byt]) (two_byt _)).app (arrL_byt hm)).app (B4 _ ha1)).app (arrL_byt ht)).app (B4 _ ha2)
        obtain ⟨p0, p1, p2, p3, p4, p5, p6, p7⟩ := q_put (tm := tm) he
        refine c22 ht8 hB hto8.le (by rw [arpB_len]; omega) fun q1 q2 q3 q4 q5 q6 q7 w9 g1 g2 g3 g4 g5 g6 g7 u9 => ⟨_, _, _, _, _, _, _, _, rfl, kp u9, ?_⟩
        intro b9
        refine brt (by rw [p0]; rfl) (brt (by
          rw [g1, p1, g3, p3, g6, ← p3, p6, eq6 (f := q2) (g := sm) (fun i hi => by rw [g2 i hi, p2 i hi]), eq16 (f := q4) (fun i hi => by rw [g4 i hi, p4 i hi]), eq6 (f := q5) (fun i hi => by rw [g5 i hi, p5 i hi]), eq16 (f := q7) (fun i hi => by rw [g7 i hi, p7 i hi])]
          simp) fun w10 u10 => ⟨by simp [htl], ?_⟩)
        exact (v8.then u9).then u10
    refine bre (fun hq => ?_) (fun hq => by (repeat refine And.intro rfl ?_); exact put _ (Upd.refl _))
    obtain ⟨k1, k2, k3⟩ := put_q (tm := r5) hcb hq e1 e2 e3 e4 e5 e6 e7
    have h20 : 0 ≤ r2 0 ∧ r2 0 < 256 := by
      rw [e2 0 (by omega)]
      unfold qsm ok0
      rw [if_pos hq]
      exact hcb.bt _
    refine c20 h20 fun t w7 u7 ht7 hto7 => ⟨_, _, rfl, kp u7, brf (by rw [k1]; rfl) ?_⟩
    rw [if_pos k1, k2] at ht7
    have hlen28 : (al.sub 1 0 C.length al.cap).cap = al.cap := rfl
    refine needD (by rw [hlen28]; omega) ?_
    have I7 := (I5.old u6).old u7
    have s28 := I7.subB (lo := 0) (hi := 28) (mx := (al.sub 1 0 C.length al.cap).cap) (by omega) k3 (by rw [hlen28]; omega)
    rw [List.drop_zero] at s28
    refine cSameT ht7 s28 (by simp; omega) fun w8 u8 => ⟨_, rfl, kp u8, brf rfl ?_⟩
    repeat refine And.intro rfl ?_
    exact put _ (u7.then u8)
  refine bre' (fun hne => brf (by
    have ez : ∀ v, ok0 C v = 0 := fun v => by unfold ok0; rw [if_neg hne]
    rw [e1, e3, e6, eq6 (f := r2) (g := fun _ => 0) (fun i hi => by rw [e2 i hi]; exact ez _), eq16 (f := r4) (g := fun _ => 0) (fun i hi => by rw [e4 i hi]; exact ez _), eq6 (f := r5) (g := fun _ => 0) (fun i hi => by rw [e5 i hi]; exact ez _), eq16 (f := r7) (g := fun _ => 0) (fun i hi => by rw [e7 i hi]; exact ez _)]
    simp [qop, qv, ez]) fun w6 u6 => ?_) (fun he w6 u6 => ?_)
  · repeat refine And.intro rfl ?_
    exact last _ u6.forget
  · repeat refine And.intro rfl ?_
    exact last _ u6.forget

theorem walk5 {H : Type} {W : World} (svs : List SV) (ds : List (DataW H)) (h : ArgsD X W [22, 35] svs ds) :
    Ret Try.prog 5 svs W fun r w1 => r = .bool true ∧ Upd [] [] W w1 := by
  obtain ⟨x, _, d1, _, m1, rfl, rfl, h1, h⟩ := argsD_cons h
  obtain ⟨y, _, d2, _, m2, rfl, rfl, h2, h⟩ := argsD_cons h
  obtain ⟨rfl, rfl⟩ := argsD_nil h
  obtain ⟨s, l, rfl, hs, hb, hc, _⟩ := deep_bytes (t := 22) (e := 5) rfl rfl h1
  obtain ⟨op, sm, v1, a1, tm, v2, a2, rfl, hm, ht, g1, g2⟩ := deep_arp h2
  exact c5 hs hb hc hm ht g1 g2
end Go.Vc.S5
