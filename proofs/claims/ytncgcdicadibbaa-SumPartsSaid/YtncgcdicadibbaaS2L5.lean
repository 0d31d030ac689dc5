import Derived.Test.YtncgcdicadibbaaS2T5
import Derived.Test.YtncgcdicadibbaaS2P
import Derived.Test.YtncgcdicadibbaaRowA
open Go Go.Vc Go.Proofs
set_option linter.unusedVariables false
set_option linter.unusedSimpArgs false
set_option autoImplicit false
namespace Go.Vc.S2

/-- the halves of all words exchanged -/
def sw : List Int → List Int
  | a :: b :: r => b :: a :: sw r
  | r => r
theorem sw_len : ∀ l : List Int, (sw l).length = l.length
  | [] => rfl
  | [_] => rfl
  | a :: b :: r => by simp [sw, sw_len r]
theorem sw_snoc : ∀ (l : List Int) (x y : Int), l.length % 2 = 0 → sw (l ++ [x, y]) = sw l ++ [y, x]
  | [], x, y, _ => rfl
  | [_], x, y, h => by simp at h
  | a :: b :: r, x, y, h => by
    simp only [List.cons_append, sw]
    rw [sw_snoc r x y (by simp at h; omega)]
theorem sw_byt : ∀ {l : List Int}, Byt l → Byt (sw l)
  | [], h => h
  | [_], h => h
  | a :: b :: r, h => by
    have ih := sw_byt (l := r) (fun x hx => h x (by simp [hx]))
    intro x hx
    simp only [sw, List.mem_cons] at hx
    rcases hx with rfl | rfl | hx
    · exact h _ (by simp)
    · exact h _ (by simp)
    · exact ih x hx
theorem sw_ws : ∀ {l : List Int}, Byt l → l.length % 2 = 0 → ws true (sw l) % 65535 = 256 * ws true l % 65535 ∧ (ws true (sw l) = 0 ↔ ws true l = 0)
  | [], _, _ => by simp [sw, ws]
  | [_], _, h => by simp at h
  | a :: b :: r, h, hl => by
    have hr : Byt r := fun x hx => h x (by simp [hx])
    have ih := sw_ws (l := r) hr (by simp at hl; omega)
    have h1 := h a (by simp)
    have h2 := h b (by simp)
    have w1 := ws_nonneg true hr
    have w2 := ws_nonneg true (sw_byt hr)
    simp only [sw, ws, Bool.not_true, Bool.not_false]
    simp only [if_true, Bool.false_eq_true, if_false]
    omega
theorem sw_sum {l : List Int} (hb : Byt l) (hl : l.length % 2 = 0) : sumOf (sw l) = sumOf l / 256 + sumOf l % 256 * 256 := by
  have h1 := sw_ws hb hl
  have w1 := ws_nonneg true hb
  have w2 := ws_nonneg true (sw_byt hb)
  unfold sumOf fd
  split <;> split <;> omega
theorem rot_sum {l : List Int} {i : Nat} (hl : l.length % 2 = 0) (hi : i % 2 = 0) (hil : i ≤ l.length) : sumOf (l.drop i ++ l.take i) = sumOf l := by
  have e1 : ws true l = ws true (l.take i) + ws true (l.drop i) := by
    have := ws_app (l.take i) (l.drop i) true
    rw [List.take_append_drop] at this
    rw [this]
    have : par true (l.take i).length = true := by unfold par; rw [if_pos (by rw [List.length_take]; omega)]
    rw [this]
  have e2 : ws true (l.drop i ++ l.take i) = ws true (l.drop i) + ws true (l.take i) := by
    rw [ws_app]
    have : par true (l.drop i).length = true := by unfold par; rw [if_pos (by rw [List.length_drop]; omega)]
    rw [this]
  unfold sumOf
  rw [e1, e2, Int.add_comm]
theorem ior_low {a b : Int} (m : Nat) (ha : 0 ≤ a) (ha1 : a < 2 ^ m) (hm : m < 63) (hb : 0 ≤ b) (hb1 : b < 9223372036854775808) (hd : b % 2 ^ m = 0) : ior .i64 a b = a + b := by
  have h := ior_add (a := b) (b := a) m hb hb1 hd ha ha1 hm
  have hp : (2 : Int) ^ m < 2 ^ 63 := by exact_mod_cast Nat.pow_lt_pow_right (by omega) hm
  rw [ior_nat hb hb1 ha (by omega)] at h
  rw [ior_nat ha (by omega) hb hb1, Nat.or_comm, h, Int.add_comm]
theorem swap_step {l : List Int} {j : Nat} (hj : j % 2 = 0) (h : j + 1 < l.length) :
    ((sw (l.take j) ++ l.drop j).set j l[j + 1]).set (j + 1) l[j] = sw (l.take (j + 2)) ++ l.drop (j + 2) := by
  have e1 : l.drop j = l[j] :: l[j + 1] :: l.drop (j + 2) := by rw [List.drop_eq_getElem_cons (by omega), List.drop_eq_getElem_cons (by omega)]
  have e2 : l.take (j + 2) = l.take j ++ [l[j], l[j + 1]] := by rw [show j + 2 = (j + 1) + 1 by omega, take_snoc (by omega), take_snoc (by omega), List.append_assoc]; rfl
  have hlen : (sw (l.take j)).length = j := by rw [sw_len, List.length_take]; omega
  rw [e1, e2, sw_snoc _ _ _ (by rw [List.length_take]; omega)]
  rw [List.set_append_right _ _ (by omega), List.set_append_right _ _ (by omega), hlen, Nat.sub_self, show j + 1 - j = 1 by omega, List.append_assoc]
  rfl
theorem swap_at {l : List Int} {j : Nat} (h : j + 1 < l.length) : bt (sw (l.take j) ++ l.drop j) (j : Int) = l[j] ∧ bt (sw (l.take j) ++ l.drop j) ((j : Int) + 1) = l[j + 1] := by
  have hlen : (sw (l.take j)).length = j := by rw [sw_len, List.length_take]; omega
  constructor
  · rw [bt_nat (by simp [hlen]; omega), List.getElem_append_right (by omega)]; simp [hlen]
  · rw [show (j : Int) + 1 = ((j + 1 : Nat) : Int) by omega, bt_nat (by simp [hlen]; omega), List.getElem_append_right (by omega)]; simp [hlen]

theorem c5 {b : Sl} {l : List Int} {cut cut2 : Int} {w : World} (h : SeesB w b l) (hb : Byt l) (hc : b.len ≤ b.cap) (ha : -9223372036854775808 ≤ cut ∧ cut ≤ 9223372036854775807) (ha2 : -9223372036854775808 ≤ cut2 ∧ cut2 ≤ 9223372036854775807) :
    Ret Try.prog 5 [.slice b, .int .i64 cut, .int .i64 cut2] w fun r w1 => r = .bool true ∧ Upd [] [] w w1 := by
  refine f5_of _ _ _ _ _ ?_
  unfold vc5
  refine c23 h hc fun s w1 u1 hs ho => ⟨_, rfl, ?_⟩
  intro J hJ
  have hev := evenOf_len l
  have hbe := evenOf_byt hb
  have hsl := hs.len
  generalize evenOf l = q at hs hev hbe hsl
  refine bre (fun h0 => ?_) (fun h0 => ?_)
  · exact c13 fun w2 u2 => ⟨_, rfl, rfl, u1.then u2⟩
  refine c13 fun w2 u2 => ⟨_, rfl, brf (by decide) (hJ _ ?_)⟩
  clear hJ
  have v2 := u1.then u2
  have hs2 := hs.old u2
  have ho2 := ho.old u2
  clear hs ho u1 u2
  intro b3 w3 u3 h3
  have hs3 := hs2.old u3
  have ho3 := ho2.old u3
  have v3 := v2.then u3
  have p3 := rowP (n := 1) (cap := 1) h3 (ss := [s]) rfl rfl (ls := [_]) ⟨hs3, trivial⟩
  refine c16 p3 (by simpa using hbe) (by simp) (by simp; omega) ⟨_, rfl, ?_⟩
  simp only [List.flatten_cons, List.flatten_nil, List.append_nil]
  have hpl := placeOf_range (n := s.len) cut (by omega) (by omega)
  refine c24 (by omega) (by omega) (by omega) ha ⟨_, rfl, ?_⟩
  generalize placeOf s.len cut = p at hpl ⊢
  rw [hsl] at hpl
  obtain ⟨i, rfl⟩ := Int.eq_ofNat_of_zero_le hpl.1
  intro J hJ
  have key : ∀ n : Int, 0 ≤ n → J n w3 := by
    intro n hn
    refine hJ n w3 ?_
    clear hJ
    rw [hsl, wr_i64 (x := (q.length : Int) + 1) (by omega) (by omega)]
    refine needNe (by omega) ?_
    rw [tmod_pos hn]
    have hk0 := Int.emod_nonneg n (show ((q.length : Int) + 1) ≠ 0 by omega)
    have hk1 := Int.emod_lt_of_pos n (show 0 < ((q.length : Int) + 1) by omega)
    generalize n % ((q.length : Int) + 1) = k at hk0 hk1 ⊢
    obtain ⟨k, rfl⟩ := Int.eq_ofNat_of_zero_le hk0
    have hcap := ho3.le
    rw [hsl] at hcap
    simp only [Int.toNat_natCast]
    intro J2 hJ2
    refine needIxLe (by omega) (by omega) ?_
    refine needIxLe (by omega) (by omega) ?_
    intro b4 w4 u4 h4
    have hs4 := hs3.old u4
    have v4 := v3.then u4
    have hcap2 : q.length ≤ s.cap := hcap
    have p4 := rowP (n := 2) (cap := 2) h4 (ss := [s.sub 1 0 k s.cap, s.sub 1 k q.length s.cap]) rfl rfl (ls := [_, _]) ⟨hs4.subB (by omega) (by omega) (by omega), hs4.subB (by omega) (by omega) (by omega), trivial⟩
    have f1 : (q.take k).drop 0 ++ (q.take q.length).drop k = q := by simp
    refine c16 p4 (by simp; exact ⟨hbe.take _, hbe.drop _⟩) (by simp) (by simp; omega) ⟨_, rfl, ?_⟩
    simp only [List.flatten_cons, List.flatten_nil, List.append_nil]
    rw [f1]
    refine brf (by simp) ?_
    refine needIxLe (by omega) (by omega) ?_
    refine needIxLe (by omega) (by omega) ?_
    intro b5 w5 u5 h5
    have hs5 := hs4.old u5
    have v5 := v4.then u5
    have p5 := rowP (n := 4) (cap := 4) h5 (ss := [⟨none, 0, 0⟩, s.sub 1 0 k s.cap, ⟨none, 0, 0⟩, s.sub 1 k q.length s.cap]) rfl rfl (ls := [[], _, [], _]) ⟨Sees.nil _ _ _ _, hs5.subB (by omega) (by omega) (by omega), Sees.nil _ _ _ _, hs5.subB (by omega) (by omega) (by omega), trivial⟩
    refine c16 p5 (by simp; exact ⟨Byt.nil, hbe.take _, Byt.nil, hbe.drop _⟩) (by simp) (by simp; omega) ⟨_, rfl, ?_⟩
    simp only [List.flatten_cons, List.flatten_nil, List.append_nil, List.nil_append]
    rw [f1]
    refine brf (by simp) ?_
    refine needIxLe (by omega) (by omega) ?_
    refine needIxLe (by omega) (by omega) ?_
    intro b6 w6 u6 h6
    have hs6 := hs5.old u6
    have ho6 := ((ho3.old u4).old u5).old u6
    have v6 := v5.then u6
    have p6 := rowP (n := 2) (cap := 2) h6 (ss := [s.sub 1 i q.length s.cap, s.sub 1 0 i s.cap]) rfl rfl (ls := [_, _]) ⟨hs6.subB (by omega) (by omega) (by omega), hs6.subB (by omega) (by omega) (by omega), trivial⟩
    refine c16 p6 (by simp; exact ⟨hbe.drop _, hbe.take _⟩) (by simp) (by simp; omega) ⟨_, rfl, ?_⟩
    have f2 : sumOf ((q.take q.length).drop i ++ (q.take i).drop 0) = sumOf q := by
      rw [List.take_length, List.drop_zero]; exact rot_sum hev.1 (by omega) (by omega)
    simp only [List.flatten_cons, List.flatten_nil, List.append_nil]
    rw [f2]
    refine brf (by simp) ?_
    refine hJ2 _ ?_
    clear hJ2
    refine ⟨fun j w7 => Upd [] [] w w7 ∧ Own w.heap.size 1 w7 s ∧ ∃ t : Nat, j = t ∧ t % 2 = 0 ∧ t ≤ q.length ∧ SeesB w7 s (sw (q.take t) ++ q.drop t), fun j _ => (q.length - j).toNat, ⟨v6, ho6, 0, rfl, rfl, by omega, by simpa [sw] using hs6⟩, ?_⟩
    rintro j w7 ⟨v7, ho7, t, rfl, ht2, ht, hs7⟩
    have hml : (sw (q.take t) ++ q.drop t).length = q.length := by simp [sw_len]; omega
    refine brd (fun hlt => ?_) (fun hge => ?_)
    · have hat := swap_at (l := q) (j := t) (by omega)
      have hst := swap_step (l := q) (j := t) ht2 (by omega)
      have hbm : Byt (sw (q.take t) ++ q.drop t) := (sw_byt (hbe.take _)).app (hbe.drop _)
      generalize hm : sw (q.take t) ++ q.drop t = m at *
      have e1 : wr .i64 ((t : Int) + 1) = (t : Int) + 1 := wr_i64 (by omega) (by omega)
      have e2 : wr .i64 ((t : Int) + 2) = ((t + 2 : Nat) : Int) := by rw [wr_i64 (by omega) (by omega)]; omega
      rw [e1, e2]
      rw [← hsl]
      refine needB hs7 (by omega) (by omega) ⟨_, hs7.byte (by omega) (by omega), ?_⟩
      refine needB hs7 (by omega) (by omega) ⟨_, hs7.byte (by omega) (by omega), ?_⟩
      refine needB hs7 (by omega) (by omega) ?_
      rw [hat.1, hat.2]
      refine own_set (c := cU8) (x := q[t + 1]) hs7 ho7 (by decide) (by omega) rfl (by simp) fun w8 hs8 ho8 u8 => ?_
      refine needB hs8 (by omega) (by simp; omega) ?_
      refine own_set (c := cU8) (x := q[t]) hs8 ho8 (by decide) (by simp; omega) rfl (by simp) fun w9 hs9 ho9 u9 => ?_
      refine ⟨⟨?_, ho9, t + 2, rfl, by omega, by omega, ?_⟩, by (try dsimp only); omega⟩
      · exact (v7.step0 u8 (fun b hb => (ho7.blk b hb).1)).step0 u9 (fun b hb => (ho8.blk b hb).1)
      · rw [← hst]
        have e3 : ((t : Int) + 1).toNat = t + 1 := by omega
        rw [e3, Int.toNat_natCast] at hs9
        exact hs9
    · have : t = q.length := by omega
      subst this
      intro b8 w8 u8 h8
      have p8 := rowP (n := 1) (cap := 1) h8 (ss := [s]) rfl rfl (ls := [_]) ⟨hs7.old u8, trivial⟩
      refine c16 p8 (by simp; exact sw_byt hbe) (by simp) (by simp [sw_len]; omega) ⟨_, rfl, ?_⟩
      simp only [List.flatten_cons, List.flatten_nil, List.append_nil, List.take_length, List.drop_length]
      rw [sw_sum hbe hev.1]
      have hr := fd_range (ws_nonneg true hbe).1
      have e : ior .i64 (gshr .i64 (sumOf q) 8) (gshl .i64 (iand .i64 (sumOf q) 255) 8) = sumOf q / 256 + sumOf q % 256 * 256 := by
        unfold sumOf at *
        rw [gshr8, and_255, gshl8, wr_i64 (by omega) (by omega)]
        exact ior_low 8 (by omega) (by omega) (by omega) (by omega) (by omega) (by omega)
      rw [e]
      exact ⟨by simp, v7.then u8⟩
  refine brd (fun hlt => ?_) (fun hge => key _ (by omega))
  rw [wr_i64 (x := cut2 + 1) (by omega) (by omega), wr_i64 (by omega) (by omega)]
  exact key _ (by omega)

theorem walk5 {H : Type} {W : World} (svs : List SV) (ds : List (DataW H)) (h : ArgsD X W [24, 3, 3] svs ds) (_ : (DataW.weightsEach Try.prog [24, 3, 3] ds).all (· ≤ reachBytes) = true) :
    Ret Try.prog 5 svs W fun r w1 => r = .bool true ∧ Upd [] [] W w1 := by
  obtain ⟨x, _, d1, _, m1, rfl, rfl, h1, h⟩ := argsD_cons h
  obtain ⟨y, _, d2, _, m2, rfl, rfl, h2, h⟩ := argsD_cons h
  obtain ⟨z, _, d3, _, m3, rfl, rfl, h3, h⟩ := argsD_cons h
  obtain ⟨rfl, rfl⟩ := argsD_nil h
  obtain ⟨s, l, rfl, hs, hb, hc, _⟩ := deep_bytes (t := 24) (e := 5) rfl rfl h1
  obtain ⟨a, rfl, ha⟩ := deep_int (t := 3) (k := .i64) rfl h2
  obtain ⟨b, rfl, hb'⟩ := deep_int (t := 3) (k := .i64) rfl h3
  exact c5 hs hb hc (wf_i64 ha) (wf_i64 hb')
end Go.Vc.S2
