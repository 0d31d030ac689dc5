import Derived.Test.YtmchllbemgnieaaDoorS9TxtL11
import Derived.Test.YtmchllbemgnieaaDoorS9Deep
open Go Go.Vc Go.Proofs Go.ChangeShapes Go.WideShapes Go.ChangeAt Go.RowKit
set_option linter.unusedVariables false
set_option linter.unusedSimpArgs false
set_option autoImplicit false
namespace Go.Vc.S9
theorem fset_at (f : Nat → Int) (q : Nat) (x : Int) (i : Nat) : fset f q x i = if i = q then x else f i := by
  unfold fset
  by_cases h : i = q
  · subst h; simp
  · have : Nat.beq i q = false := by rw [nbeq_false]; exact h
    rw [this, if_neg h]
theorem arrL_set (n : Nat) (f : Nat → Int) (q : Nat) (x : Int) : arrL n (fset f q x) = (arrL n f).set q x := by
  refine List.ext_getElem (by simp [arrL_len]) fun i h1 h2 => ?_
  rw [List.getElem_set]
  simp only [arrL, List.getElem_map, List.getElem_range]
  rw [fset_at]
  by_cases h : i = q
  · subst h; simp
  · rw [if_neg h, if_neg (fun e => h e.symm)]
/-- one bit of the addresses' bytes is turned over -/
structure Flip (e e' : Ends) : Prop where
  fit : e.fit → e'.fit
  sv : e'.sv = e.sv
  ok : e'.Ok
  ps : ∀ p n, ∃ (i k : Nat) (h : i < (psB e p n).length), k < 8 ∧ psB e' p n = (psB e p n).set i ((((psB e p n)[i]).toNat ^^^ 2 ^ k : Nat) : Int)
theorem Flip.sum {e e' : Ends} (f : Flip e e') (o : e.Ok) {p : Int} {l : List Int} (hb : Byt l) (h : psum e p l = 65535) : psum e' p l ≠ 65535 := by
  obtain ⟨i, k, hi, hk, he⟩ := f.ps p (l.length : Int)
  have := psum_flip_end o hb hi hk h
  unfold psum
  rw [he]
  exact this
theorem Flip.ud {e e' : Ends} (f : Flip e e') (o : e.Ok) {u : UdV} (hf : UFit u) (h : udPE e u = 0) (hn : u.ns = false) : udErr e' (udSer e u) = 93 := by
  obtain ⟨hfit, hc⟩ := udPE_ok h
  obtain ⟨h1, h2, h3, h4, h5⟩ := udChk_ok hc
  have hl := udSer_len e u
  have hu := udSer_udLen h
  have hk := udCk_r o hf
  obtain ⟨_, _, _, b6⟩ := ud_bts u (udCk e u) u.data _ (rfl : udSer e u = _)
  have hz : udCk e u ≠ 0 := fun x => by have := hk.2.2.1 x; rw [hn] at this; cases this
  have h6 : W16 (udSer e u) 6 ≠ 0 := by rw [b6]; omega
  have ht : (udSer e u).take (udLen (udSer e u)) = udSer e u := List.take_of_length_le (by omega)
  unfold udErr
  rw [if_neg (by omega), if_neg (Classical.not_not.2 (f.fit hfit)), if_neg (by omega), if_neg (by omega), if_neg h6, ht, if_pos (f.sum o (udSer_byt hf) (psum_ud o hf hn))]
theorem Flip.tc {e e' : Ends} (f : Flip e e') (o : e.Ok) {t : TcV} (hf : TFit t) (h : tcPE e t = 0) : tcErr e' (tcSer e t) = 96 := by
  obtain ⟨hfit, hc⟩ := tcPE_ok h
  obtain ⟨_, _, _, _, _, _, _, h8, h9⟩ := tcChk_ok hc
  have hr := thL_r h8
  have hl := tcSer_len e t
  have hh := tcSer_hd (e := e) hc
  unfold tcErr
  rw [if_neg (by omega), if_neg (Classical.not_not.2 (f.fit hfit)), if_neg (by omega), if_neg (by omega), if_pos (f.sum o (tcSer_byt hc hf) (tcCk_r o hc hf).2.2)]
theorem verOf_flip {v : Int} {a : Nat → Int} {q : Nat} {x : Int} (h : v = 6 ∨ q < 4) : verOf v (fset a q x) = verOf v a := by
  unfold verOf
  by_cases h6 : v = 6
  · rw [if_pos h6, if_pos h6]
  · rw [if_neg h6, if_neg h6]
    have hq : q < 4 := by omega
    have : (v = 4 ∧ ∀ i, i < 16 → 4 ≤ i → fset a q x i = 0) ↔ (v = 4 ∧ ∀ i, i < 16 → 4 ≤ i → a i = 0) := by
      refine and_congr Iff.rfl ⟨fun g i h1 h2 => ?_, fun g i h1 h2 => ?_⟩
      · have := g i h1 h2
        rwa [fset_at, if_neg (by omega)] at this
      · rw [fset_at, if_neg (by omega)]; exact g i h1 h2
    by_cases h4 : v = 4 ∧ ∀ i, i < 16 → 4 ≤ i → a i = 0
    · rw [if_pos h4, if_pos (this.2 h4)]
    · rw [if_neg h4, if_neg (fun y => h4 (this.1 y))]
theorem flip_ok {a : Nat → Int} {q k : Nat} (h : ∀ i, i < 16 → 0 ≤ a i ∧ a i < 256) (hq : q < 16) (hk : k < 8) : ∀ i, i < 16 → 0 ≤ fset a q (((a q).toNat ^^^ 2 ^ k : Nat) : Int) i ∧ fset a q (((a q).toNat ^^^ 2 ^ k : Nat) : Int) i < 256 := by
  intro i hi
  rw [fset_at]
  split
  · have := h q hq
    have := (xor_ne (a q).toNat k (by omega) hk).2
    omega
  · exact h i hi
theorem flipS {e : Ends} (o : e.Ok) {q k : Nat} (hq : (e.sv = 6 ∧ q < 16) ∨ (e.sv ≠ 6 ∧ q < 4)) (hk : k < 8) : Flip e ⟨e.sv, fset e.sa q (((e.sa q).toNat ^^^ 2 ^ k : Nat) : Int), e.dv, e.da⟩ where
  fit h := by
    have h1 := verOf_flip (v := e.sv) (a := e.sa) (q := q) (x := (((e.sa q).toNat ^^^ 2 ^ k : Nat) : Int)) (by omega)
    exact ⟨by show verOf e.sv _ ≠ 0; rw [h1]; exact h.1, by show verOf e.dv e.da = verOf e.sv _; rw [h1]; exact h.2⟩
  sv := rfl
  ok := ⟨flip_ok o.sa (by omega) hk, o.da⟩
  ps p n := by
    refine ⟨q, k, by have := psB_len e p n; unfold psB; split <;> simp [arrL_len] <;> omega, hk, ?_⟩
    rcases hq with ⟨h6, hq⟩ | ⟨h6, hq⟩
    · have e1 : psB e p n = arrL 16 e.sa ++ (arrL 16 e.da ++ [0, 0, n / 256 % 256, n % 256, 0, 0, 0, p % 256]) := by unfold psB; rw [if_pos h6, List.append_assoc]
      have e2 : (psB e p n)[q]'(by rw [e1]; simp [arrL_len]; omega) = e.sa q := by
        have : q < (arrL 16 e.sa).length := by rw [arrL_len]; exact hq
        simp only [e1]
        rw [List.getElem_append_left this]
        simp [arrL]
      rw [e2, e1]
      unfold psB
      rw [if_pos h6, List.append_assoc, arrL_set, List.set_append_left _ _ (by rw [arrL_len]; exact hq)]
    · have e1 : psB e p n = arrL 4 e.sa ++ (arrL 4 e.da ++ [0, p % 256, n / 256 % 256, n % 256]) := by unfold psB; rw [if_neg h6, List.append_assoc]
      have e2 : (psB e p n)[q]'(by rw [e1]; simp [arrL_len]; omega) = e.sa q := by
        have : q < (arrL 4 e.sa).length := by rw [arrL_len]; exact hq
        simp only [e1]
        rw [List.getElem_append_left this]
        simp [arrL]
      rw [e2, e1]
      unfold psB
      rw [if_neg h6, List.append_assoc, arrL_set, List.set_append_left _ _ (by rw [arrL_len]; exact hq)]
theorem flipD {e : Ends} (o : e.Ok) {q k : Nat} (hv : e.fit → e.dv = e.sv) (hq : (e.sv = 6 ∧ q < 16) ∨ (e.sv ≠ 6 ∧ q < 4)) (hk : k < 8) : Flip e ⟨e.sv, e.sa, e.dv, fset e.da q (((e.da q).toNat ^^^ 2 ^ k : Nat) : Int)⟩ where
  fit h := by
    have := hv h
    have h1 := verOf_flip (v := e.dv) (a := e.da) (q := q) (x := (((e.da q).toNat ^^^ 2 ^ k : Nat) : Int)) (by omega)
    exact ⟨h.1, by show verOf e.dv _ = verOf e.sv e.sa; rw [h1]; exact h.2⟩
  sv := rfl
  ok := ⟨o.sa, flip_ok o.da (by omega) hk⟩
  ps p n := by
    rcases hq with ⟨h6, hq⟩ | ⟨h6, hq⟩
    · have e1 : psB e p n = arrL 16 e.sa ++ (arrL 16 e.da ++ [0, 0, n / 256 % 256, n % 256, 0, 0, 0, p % 256]) := by unfold psB; rw [if_pos h6, List.append_assoc]
      have hl : 16 + q < (psB e p n).length := by rw [e1]; simp [arrL_len]; omega
      refine ⟨16 + q, k, hl, hk, ?_⟩
      have e2 : (psB e p n)[16 + q]'hl = e.da q := by
        simp only [e1]
        rw [List.getElem_append_right (by rw [arrL_len]; omega), List.getElem_append_left (by rw [arrL_len, arrL_len]; omega)]
        simp [arrL]
      rw [e2, e1]
      unfold psB
      rw [if_pos h6, List.append_assoc, arrL_set, List.set_append_right _ _ (by rw [arrL_len]; omega), arrL_len, Nat.add_sub_cancel_left, List.set_append_left _ _ (by rw [arrL_len]; exact hq)]
    · have e1 : psB e p n = arrL 4 e.sa ++ (arrL 4 e.da ++ [0, p % 256, n / 256 % 256, n % 256]) := by unfold psB; rw [if_neg h6, List.append_assoc]
      have hl : 4 + q < (psB e p n).length := by rw [e1]; simp [arrL_len]; omega
      refine ⟨4 + q, k, hl, hk, ?_⟩
      have e2 : (psB e p n)[4 + q]'hl = e.da q := by
        simp only [e1]
        rw [List.getElem_append_right (by rw [arrL_len]; omega), List.getElem_append_left (by rw [arrL_len, arrL_len]; omega)]
        simp [arrL]
      rw [e2, e1]
      unfold psB
      rw [if_neg h6, List.append_assoc, arrL_set, List.set_append_right _ _ (by rw [arrL_len]; omega), arrL_len, Nat.add_sub_cancel_left, List.set_append_left _ _ (by rw [arrL_len]; exact hq)]
theorem fit_dv {e : Ends} (h : e.fit) : e.dv = e.sv := by
  obtain ⟨h1, h2⟩ := h
  rcases verOf_cases e.sv e.sa with q | q | q <;> rcases verOf_cases e.dv e.da with r | r | r <;> omega
section
variable {e : Ends} {w : World} {u : UdV} {t : TcV} {so sd d : Sl} {os : List (Int × Sl)}
set_option maxRecDepth 10000 in
theorem bit_ix {a : Int} (ha : 0 ≤ a ∧ a < 256) {bit : Int} (h0 : 0 ≤ bit) : ixor .u8 a (gshr .u8 128 (Int.tmod bit 8)) = ((a.toNat ^^^ 2 ^ (7 - (bit % 8).toNat) : Nat) : Int) := by
  have e2 : Int.tmod bit 8 = ((bit % 8).toNat : Int) := by rw [tmod_pos h0]; omega
  have hk : (bit % 8).toNat < 8 := by omega
  rw [e2]
  generalize (bit % 8).toNat = k at *
  have em : gshr .u8 128 (k : Int) = ((2 ^ (7 - k) : Nat) : Int) := by
    have : ∀ r : Fin 8, gshr .u8 128 (r.val : Int) = ((2 ^ (7 - r.val) : Nat) : Int) := by decide +kernel
    exact this ⟨k, hk⟩
  rw [em, ixor_u8 (b := ((2 ^ (7 - k) : Nat) : Int)) ha.1 ha.2 (Int.natCast_nonneg _) (by exact_mod_cast (Nat.pow_lt_pow_right (a := 2) (by omega) (show 7 - k < 8 by omega))), Int.toNat_natCast]
set_option maxRecDepth 10000 in
theorem c11 {bit : Int} (hg : Tabs w) (o : e.Ok) (hU : HandU w u d) (hT : HandT w t so sd os) (hb1 : -9223372036854775808 ≤ bit) (hb2 : bit ≤ 9223372036854775807) : Ret Tryd.prog 11 [adr e.sv e.sa, adr e.dv e.da, udSV u d, tcSV t so sd, .int .i64 bit] w fun r w1 => r = .bool true ∧ Upd [] [] w w1 := by
  refine f11_of _ _ _ _ _ _ _ _ _ _ _ _ _ _ _ _ _ _ _ _ ?_
  unfold vc11
  intro b b1 b2 b3 w1 u1
  refine c18 (hg.old u1) fun w2 u2 => ⟨_, rfl, kp u2, ?_⟩
  have v2 := u1.then u2
  intro J hJ
  have main : ∀ n, (n = 128 ∧ e.sv = 6) ∨ (n = 32 ∧ e.sv ≠ 6) → J n w2 := by
    intro n hn
    refine hJ _ _ ?_
    intro J1 hJ1
    rw [wr_i64 (x := 2 * n) (by omega) (by omega)]
    refine brf rfl (brd (fun _ => ⟨rfl, v2⟩) (fun h0 => brd (fun _ => ⟨rfl, v2⟩) (fun h2n => ?_)))
    (repeat refine And.intro rfl ?_)
    refine hJ1 _ ?_
    clear hJ1
    intro b5 b6 J2 hJ2
    have fin : ∀ (e' : Ends) (w3 : World), Upd [] [] w2 w3 → Flip e e' → J2 e'.sv e'.sa e'.dv e'.da w3 := by
      intro e' w3 u3 hfl
      refine hJ2 _ _ _ _ _ ?_
      have v3 := v2.then u3
      refine c19 (hg.old v3) o hU.fit (hU.old v3).data fun s w4 u4 hs ho => ⟨_, _, rfl, kp u4, ?_⟩
      have v4 := v3.then u4
      refine c26H (hg.old v4) o (hT.old v4) fun s5 w5 u5 hs5 ho5 => ⟨_, _, rfl, kp u5, ?_⟩
      have v5 := v4.then u5
      have l1 := udSerL_len e u
      have l2 := tcSerL_len e t
      refine c21 (e := e') (hg.old v5) hfl.ok (hs.old u5) (udSerL_byt hU.fit) ho.le (by omega) fun w6 u6 => ⟨_, _, _, _, _, rfl, kp u6, ?_⟩
      have v6 := v5.then u6
      intro b8 w7 u7
      have v7 := v6.then u7
      refine c27' (e := e') (hg.old v7) hfl.ok ((hs5.old u6).old u7) (tcSerL_byt hT.fit) ho5.le (by omega) fun so8 w8 u8 _ _ _ => ⟨_, _, _, _, _, _, _, _, _, _, rfl, kp u8, ?_⟩
      have v8 := v7.then u8
      intro b9 w9 u9
      have v9 := v8.then u9
      have tcT : tcPE e t = 0 → (tcErr e' (tcSerL e t) == 96) = true := fun hc => by
        unfold tcSerL
        rw [if_pos hc, hfl.tc o hT.fit hc]; rfl
      have tcp : ∀ w10, Upd [] [] w w10 → ∀ (L : List Nat), Ret Tryd.prog 20 [.int .i64 (tcPE e t)] w10 fun r w1 => ∃ (n : Int), r = .int .i64 n ∧ Keeps L w10 w1 ∧ Br (n != 0) (SV.bool true = .bool true ∧ Upd [] [] w w1)
          (Ret Tryd.prog 20 [.int .i64 (tcErr e' (tcSerL e t))] w1 fun r w1_6 => ∃ (n : Int), r = .int .i64 n ∧ Keeps L w1 w1_6 ∧ (SV.bool (n == 96) = .bool true ∧ Upd [] [] w w1_6)) := fun w10 v10 L => by
        refine c20 ⟨_, rfl, kp (Upd.refl _), bre' (fun _ => ⟨rfl, v10⟩) (fun hc => c20 ⟨_, rfl, kp (Upd.refl _), by rw [tcT hc], v10⟩)⟩
      refine c20 ⟨_, rfl, kp (Upd.refl _), bre' (fun _ => tcp _ v9 _) (fun hc => ?_)⟩
      refine brb (fun _ => tcp _ v9 _) (fun hns => ?_)
      have : udErr e' (udSerL e u) = 93 := by unfold udSerL; rw [if_pos hc]; exact hfl.ud o hU.fit hc hns
      rw [this]
      exact c20 ⟨_, rfl, kp (Upd.refl _), brt rfl (tcp _ v9 _)⟩
    have hk : 7 - (bit % 8).toNat < 8 := by omega
    have e1 : wr .i64 (Int.tdiv bit 8) = bit / 8 := by rw [tdiv_pos (by omega), wr_i64 (by omega) (by omega)]
    have en : Int.tdiv n 8 = n / 8 := tdiv_pos (by omega)
    rw [e1]
    refine brd (fun hlt => ?_) (fun hge => ?_)
    · refine needIx2 (by omega) (by omega) (needD (by rw [tmod_pos (by omega)]; omega) (needIx2 (by omega) (by omega) fun w3 u3 => ?_))
      rw [bit_ix (o.sa _ (by omega)) (by omega)]
      (repeat refine And.intro rfl ?_)
      exact fin ⟨e.sv, _, e.dv, e.da⟩ w3 u3.forget (flipS o (by omega) hk)
    · rw [en, wr_i64 (x := n / 8) (by omega) (by omega), wr_i64 (x := bit / 8 - n / 8) (by omega) (by omega)]
      refine needIx2 (by omega) (by omega) (needD (by rw [tmod_pos (by omega)]; omega) (needIx2 (by omega) (by omega) fun w3 u3 => ?_))
      rw [bit_ix (o.da _ (by omega)) (by omega)]
      (repeat refine And.intro rfl ?_)
      exact fin ⟨e.sv, e.sa, e.dv, _⟩ w3 u3.forget (flipD o fit_dv (by omega) hk)
  refine bre (fun h6 => ?_) (fun h6 => ?_)
  · (repeat refine And.intro rfl ?_)
    exact main _ (.inl ⟨rfl, h6⟩)
  · (repeat refine And.intro rfl ?_)
    exact main _ (.inr ⟨rfl, h6⟩)
end
section
variable {H : Type} {W : World}
theorem walk11 (hg : Tabs W) (svs : List SV) (ds : List (DataW H)) (h : ArgsD X W [27, 27, 30, 45, 3] svs ds) (hw : (DataW.weightsEach Tryd.prog [27, 27, 30, 45, 3] ds).all (· ≤ reachBytes) = true) :
    Ret Tryd.prog 11 svs W fun r w1 => r = .bool true ∧ Upd [] [] W w1 := by
  obtain ⟨x, _, d1, _, m1, rfl, rfl, h1, h⟩ := argsD_cons h
  obtain ⟨y, _, d2, _, m2, rfl, rfl, h2, h⟩ := argsD_cons h
  obtain ⟨z, _, d3, _, m3, rfl, rfl, h3, h⟩ := argsD_cons h
  obtain ⟨z', _, d4, _, m4, rfl, rfl, h4, h⟩ := argsD_cons h
  obtain ⟨z'', _, d5, _, m5, rfl, rfl, h5, h⟩ := argsD_cons h
  obtain ⟨rfl, rfl⟩ := argsD_nil h
  obtain ⟨sv, sa, rfl, hsa⟩ := deep_adr h1
  obtain ⟨dv, da, rfl, hda⟩ := deep_adr h2
  obtain ⟨u, du, _, _, _, ddu, rfl, hdu, hfu, hcu, rfl, hslu⟩ := deep_udp h3
  obtain ⟨t, so, sd, os, _, _, _, _, _, _, _, do_, dd, rfl, ho, hd, hf, hc, hc2, hc3, rfl, hdo, hsl⟩ := deep_tcp h4
  obtain ⟨n, rfl, hn⟩ := deep_int (t := 3) rfl h5
  have g := (light_head (light_head (light_arg hw)).2).2
  have hHu := handU_of hdu hfu hcu hslu (light_head g).1
  have hH := handT_of ho hd hf hc hc2 hc3 hdo hsl (light_head (light_head g).2).1
  have := wf_i64 hn
  exact c11 (e := ⟨sv, sa, dv, da⟩) hg ⟨hsa, hda⟩ hHu hH this.1 this.2
end
end Go.Vc.S9
