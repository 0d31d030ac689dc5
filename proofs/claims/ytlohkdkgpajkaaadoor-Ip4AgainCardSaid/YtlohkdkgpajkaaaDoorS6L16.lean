import Derived.Test.YtlohkdkgpajkaaaDoorS6TxtL16
import Derived.Test.YtlohkdkgpajkaaaDoorS6Deep
open Go Go.Vc Go.Proofs Go.ChangeShapes Go.WideShapes Go.ChangeAt Go.RowKit
set_option linter.unusedVariables false
set_option linter.unusedSimpArgs false
set_option autoImplicit false
namespace Go.Vc.S6
section
variable {v : IpV} {so sd : Sl} {os : List (Int × Sl)} {w : World}
/-- with one hop less -/
def less (v : IpV) (n : Nat) : IpV := { v with ttl := v.ttl - n }
theorem less_fit {v : IpV} (f : Fit v) (n : Nat) : Fit (less v n) := ⟨f.sa, f.da, f.opts, f.data⟩
theorem less_chk {v : IpV} (h : ipChk v = 0) {n : Nat} (hn : (n : Int) ≤ v.ttl) : ipChk (less v n) = 0 := by
  obtain ⟨h1, h2, h3, h4, h5, h6, h7, h8, h9, h10⟩ := ipChk_ok h
  refine ipChk_mk ?_ h8 h9 h10
  unfold badF outN less
  simp only
  rintro (x | x | x | x | x | x | x | x)
  · omega
  · omega
  · omega
  · omega
  · omega
  · omega
  · exact x h6
  · exact x h7
theorem ser_ttl {v : IpV} (h : ipChk v = 0) (f : Fit v) : bt (ipSer v) 8 = v.ttl := by
  obtain ⟨_, _, _, _, _, _, _, _, b8, _⟩ := hd_bts v (ipCk v) v.data (ipSer v) rfl
  exact b8
/-- a hop of what was written is what is written with one hop less -/
theorem hop_ser {v : IpV} (h : ipChk v = 0) (f : Fit v) (ht : 2 ≤ v.ttl) : ipHop (ipSer v) = ipSer (less v 1) := by
  have hb := ser_byt h f
  have he := ser_err h f
  have ht8 := ser_ttl h f
  obtain ⟨k1, k2⟩ := hop_ok hb he (by omega)
  have hcl := less_chk h (n := 1) (by omega)
  have hE := ser_eq h f
  -- the header with one hop less
  obtain ⟨h1, h2', h3, h4, h5, h6, h7, h8, h9, h10⟩ := ipChk_ok h
  have hr8 := hdL_r h8
  have ew : ws true (ipHd (less v 1) 0) = ws true (ipHd v 0) - 256 := by
    have eset : ipHd (less v 1) 0 = (ipHd v 0).set 8 (v.ttl - 1) := rfl
    have hl8 : 8 < (ipHd v 0).length := by rw [ipHd_len]; omega
    rw [eset, ws_set _ _ _ _ hl8, wt_even (by omega), wt_even (by omega)]
    have e8 : (ipHd v 0)[8] = v.ttl := rfl
    rw [e8]
    omega
  have hw := ws_nonneg true (ipHd_byt h f 0)
  have hpos : 17664 ≤ ws true (ipHd v 0) := by
    have hq : ws true (ipHd v 0) = (64 + (hdL v : Int) / 4) * 256 + ws false ((ipHd v 0).drop 1) := rfl
    have h3' := ws_nonneg false ((ipHd_byt h f 0).drop 1)
    omega
  have eck : hopCk (ipSer v) = ipCk (less v 1) := by
    have ec : W16 (ipSer v) 10 = ipCk v := by
      obtain ⟨_, _, _, _, _, _, _, _, _, _, b10, b11, _⟩ := hd_bts v (ipCk v) v.data (ipSer v) rfl
      have hr := ipCk_r h f
      unfold W16
      rw [show ((10 : Nat) : Int) = 10 from rfl, show ((10 + 1 : Nat) : Int) = 11 from rfl, b10, b11]
      omega
    unfold hopCk
    rw [ec]
    unfold ipCk sumOf
    rw [ew]
    have hr := fd_range hw.1
    congr 1
    refine fd_eq (by omega) (by omega) ?_ (by omega)
    unfold fd
    split <;> omega
  have hr := ipCk_r h f
  have hck := hopCk_r hb
  unfold ipHop
  rw [eck, ht8] at *
  unfold ipSer
  have e1 : ((((ipHd v (ipCk v) ++ v.data).set 8 (v.ttl - 1)).set 10 (ipCk (less v 1) / 256)).set 11 (ipCk (less v 1) % 256)) = (((ipHd v (ipCk v)).set 8 (v.ttl - 1)).set 10 (ipCk (less v 1) / 256)).set 11 (ipCk (less v 1) % 256) ++ v.data := by
    have hl := ipHd_len v (ipCk v)
    rw [List.set_append_left _ _ (by omega), List.set_append_left _ _ (by simp; omega), List.set_append_left _ _ (by simp; omega)]
  rw [e1]
  congr 1
  have h256 : ipCk (less v 1) / 256 % 256 = ipCk (less v 1) / 256 := by omega
  show _ = ipHd (less v 1) (ipCk (less v 1))
  unfold ipHd
  rw [h256]
  rfl
theorem hops_ser {v : IpV} (h : ipChk v = 0) (f : Fit v) {n : Nat} (ht : (n : Int) + 2 ≤ v.ttl) : ipHop (ipSer (less v n)) = ipSer (less v (n + 1)) := by
  have := hop_ser (less_chk h (n := n) (by omega)) (less_fit f n) (by unfold less; simp only; omega)
  rw [this]
  unfold less
  simp only
  congr 2
  omega

/-- a slice that is hopped in place -/
theorem c46W {a : Sl} {l : List Int} {w : World} {R : SV → World → Prop} {N : Nat} (hg : Sees cI64 w wid4 widths4) (h : SeesB w a l) (o : Own N 1 w a) (hb : Byt l) (hl : l.length ≤ 140737488355328)
    (k : ∀ w1, Upd a.blk [] w w1 → SeesB w1 a (hopL l) → Own N 1 w1 a → R (.int .i64 (hopE l)) w1) : Ret Tryd.prog 46 [.slice a] w R := by
  have h0 : SeesB w a (l ++ []) := by simpa using h
  have := c46 (z := []) (R := R) hg h0 o hb hl fun w1 u h1 o1 _ => k w1 u (by simpa using h1) o1
  rw [← h.len, sub_self] at this
  exact this

set_option maxRecDepth 10000 in
theorem c16 (hg : Sees cI64 w wid4 widths4) (h : Hand w v so sd os) (htr : -9223372036854775808 ≤ v.ttl ∧ v.ttl ≤ 9223372036854775807) : Ret Tryd.prog 16 [ipSV v so sd] w fun r w1 => r = .bool true ∧ Upd [] [] w w1 := by
  refine f16_of _ _ _ _ _ _ _ _ _ _ _ _ _ _ _ ?_
  unfold vc16
  intro b w1 u1
  have nb := u1.new (b := b) (by simp)
  refine c18 (hg.old u1) fun w2 u2 => ⟨_, rfl, kp u2, ?_⟩
  have v2 := u1.then u2
  refine c25H (hg.old v2) (h.old v2) fun s w3 u3 hs ho => ⟨_, _, rfl, kp u3, ?_⟩
  have v3 := v2.then u3
  intro J hJ
  refine brf rfl (c21 ⟨_, rfl, kp (Upd.refl _), bre' (fun hne => ⟨rfl, v3⟩) (fun hc => ?_)⟩)
  (repeat refine And.intro rfl ?_)
  refine hJ _ ?_
  clear hJ
  unfold serL at hs
  rw [if_pos hc] at hs
  have hsr := ser_len v
  obtain ⟨_, _, _, h4, _, _, _, h8, h9, _⟩ := ipChk_ok hc
  have hr8 := hdL_r h8
  have y2 := u2.size
  have y3 := v2.size
  have y33 := v3.size
  have nbs : ∀ {w' : World} {s' : Sl}, Own w2.heap.size 1 w' s' → ∀ x ∈ s'.blk, x ∉ [b] := fun o x hx hm => by have := (o.blk x hx).1; simp at hm; omega
  intro J1 hJ1
  have g : ∀ {w' : World}, Upd [] [] w w' → Sees cI64 w' wid4 widths4 := fun u => hg.old u
  refine ⟨fun i w' => Upd [] [] w w' ∧ Own w2.heap.size 1 w' s ∧ w2.heap.size ≤ w'.heap.size ∧ ∃ n : Nat, i = n ∧ ((n : Int) ≤ v.ttl) ∧ (n = 0 ∨ (n : Int) + 1 ≤ v.ttl) ∧ SeesB w' s (ipSer (less v n)), fun i _ => (256 - i).toNat, ⟨v3, ho, u3.size, 0, rfl, by omega, .inl rfl, by simpa [less] using hs⟩, ?_⟩
  rintro i w4 ⟨v4, o4, z4, n, rfl, hn, hn2, s4⟩
  intro J2 hJ2
  have hcn := less_chk hc (n := n) hn
  have hfn := less_fit h.fit n
  have hbn := ser_byt hcn hfn
  have hen := ser_err hcn hfn
  have htn := ser_ttl hcn hfn
  have htn2 : (less v n).ttl = v.ttl - n := rfl
  have hln : (ipSer (less v n)).length = (ipSer v).length := by rw [ser_len, ser_len]; rfl
  have sblk : ∀ {w' : World}, Own w2.heap.size 1 w' s → ∀ x ∈ s.blk, w.heap.size ≤ x := fun o x hx => by have := (o.blk x hx).1; omega
  refine brd (fun hlt => ?_) (fun hge => absurd hge (by omega))
  refine c46W (g v4) s4 o4 hbn (by omega) fun w5 u5 s5 o5 => ⟨_, rfl, kpm u5 (by simp; omega) (fun x hx hm => nbs o4 x hm hx), c21 ⟨_, rfl, kp (Upd.refl _), ?_⟩⟩
  have v5 := v4.step0 u5 (sblk o4)
  have z5 := u5.size
  by_cases h2 : 2 ≤ v.ttl - n
  · have hE : hopE (ipSer (less v n)) = 0 := by unfold hopE; rw [if_neg (by simpa using hen), if_neg (by rw [htn, htn2]; omega)]
    rw [hE]
    unfold hopL at s5
    rw [if_pos hE, hops_ser hc h.fit (by omega)] at s5
    refine brt rfl ?_
    (repeat refine And.intro rfl ?_)
    refine hJ2 _ ⟨rfl, ⟨v5, o5, by omega, n + 1, wr_succ (by omega), by omega, .inr (by omega), s5⟩, by rw [wr_succ (q := n) (by omega)]; (try dsimp only); omega⟩
  · have hE : hopE (ipSer (less v n)) = 67 := by unfold hopE; rw [if_neg (by simpa using hen), if_pos (by rw [htn, htn2]; omega)]
    rw [hE]
    unfold hopL at s5
    rw [hE, if_neg (by decide)] at s5
    refine brf rfl ?_
    (repeat refine And.intro rfl ?_)
    refine hJ1 _ _ ?_
    intro J3 hJ3
    have fin : ∀ m w6, m = (n : Int) → w6 = w5 → J3 m w6 := fun m w6 hm hw => by
      subst hw
      refine hJ3 _ _ ?_
      subst hm
      refine brt (by simp) ?_
      refine c46W (g v5) s5 o5 hbn (by omega) fun w7 u7 s7 o7 => ⟨_, rfl, kpm u7 (by simp; omega) (fun x hx hm => nbs o5 x hm hx), c21 ⟨_, rfl, kp (Upd.refl _), ?_⟩⟩
      rw [hE]
      unfold hopL at s7
      rw [hE, if_neg (by decide)] at s7
      have v7 := v5.step0 u7 (sblk o5)
      refine brt rfl (c43 (g v7) s7 hbn o7.le (by omega) fun w8 u8 => ⟨_, rfl, kp u8, ?_, v7.then u8⟩)
      rw [canB_iff.2 (can_ser hcn hfn)]
    rw [wr_i64 (x := v.ttl - 1) (by omega) (by omega)]
    refine brd (fun hneg => ?_) (fun hpos => ?_)
    · (repeat refine And.intro rfl ?_)
      exact fin _ _ (by omega) rfl
    · (repeat refine And.intro rfl ?_)
      exact fin _ _ (by omega) rfl
theorem walk16 {H : Type} {W : World} (hg : Sees cI64 W wid4 widths4) (svs : List SV) (ds : List (DataW H)) (h : ArgsD X W [30] svs ds) (hw : (DataW.weightsEach Tryd.prog [30] ds).all (· ≤ reachBytes) = true) :
    Ret Tryd.prog 16 svs W fun r w1 => r = .bool true ∧ Upd [] [] W w1 := by
  obtain ⟨x, _, d1, _, m1, rfl, rfl, h1, h⟩ := argsD_cons h
  obtain ⟨rfl, rfl⟩ := argsD_nil h
  obtain ⟨v, so, sd, os, _, _, _, _, _, _, _, _, _, do_, dd, rfl, ho, hd, hf, hc, hc2, hc3, rfl, hdo, hsl, q1, q2, q3, q4, q5⟩ := deep_ip4 h1
  exact c16 hg (hand_of ho hd hf hc hc2 hc3 hdo hsl (light_head (light_arg hw)).1) q4
end
end Go.Vc.S6
