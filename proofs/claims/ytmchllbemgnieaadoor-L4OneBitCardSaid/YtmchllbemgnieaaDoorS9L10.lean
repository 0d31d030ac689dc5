import Derived.Test.YtmchllbemgnieaaDoorS9TxtL10
import Derived.Test.YtmchllbemgnieaaDoorS9L11
open Go Go.Vc Go.Proofs Go.ChangeShapes Go.WideShapes Go.ChangeAt Go.RowKit
set_option linter.unusedVariables false
set_option linter.unusedSimpArgs false
set_option autoImplicit false
namespace Go.Vc.S9
section
variable {e : Ends} {w : World} {u : UdV} {t : TcV} {so sd d : Sl} {os : List (Int × Sl)}
def trn (l : List Int) (bit : Int) : List Int := l.set (bit / 8).toNat (((bt l ((bit / 8).toNat : Int)).toNat ^^^ 2 ^ (7 - (bit % 8).toNat) : Nat) : Int)
theorem c31 {b : Sl} {l : List Int} {bit : Int} {R : SV → World → Prop} (h : SeesB w b l) (hb : Byt l) (hl : l.length ≤ 140737488355328) (h0 : 0 ≤ bit) (h1 : bit < 8 * l.length)
    (k : ∀ s w1, Upd [] [] w w1 → SeesB w1 s (trn l bit) → Own w.heap.size 1 w1 s → R (.slice s) w1) : Ret Tryd.prog 31 [.slice b, .int .i64 bit] w R := by
  refine f31_of _ _ _ _ ?_
  unfold vc31
  refine c40 h hl fun s w1 u1 hs ho => ⟨_, rfl, ?_⟩
  have e1 : wr .i64 (Int.tdiv bit 8) = ((bit / 8).toNat : Int) := by rw [tdiv_pos (by omega), wr_i64 (by omega) (by omega)]; omega
  rw [e1]
  have hq : (bit / 8).toNat < l.length := by omega
  have hx := hb.bt ((bit / 8).toNat : Int)
  refine needB hs (by omega) (by omega) ⟨_, (by rw [Int.toNat_natCast]; exact byteC hs _ hq), needD (by rw [tmod_pos h0]; omega) (needB hs (by omega) (by omega) fun w2 u2 => ?_)⟩
  rw [bit_ix hx h0, Int.toNat_natCast]
  refine own_set (c := cU8) (hs.old u2) (ho.old u2) (by decide) hq rfl (by simp) fun w3 h3 o3 u3 => ?_
  exact k s w3 ((u1.then u2).step0 u3 (fun x hx => (ho.blk x hx).1)) h3 o3
theorem trn_byt {l : List Int} {bit : Int} (hb : Byt l) : Byt (trn l bit) := by
  have hx := hb.bt ((bit / 8).toNat : Int)
  have := (xor_ne (bt l ((bit / 8).toNat : Int)).toNat (7 - (bit % 8).toNat) (by omega) (by omega)).2
  exact hb.set _ ⟨by omega, by omega⟩
theorem trn_len (l : List Int) (bit : Int) : (trn l bit).length = l.length := by simp [trn]
theorem trn_eq {l : List Int} {bit : Int} (h1 : (bit / 8).toNat < l.length) : trn l bit = l.set (bit / 8).toNat (((l[(bit / 8).toNat]).toNat ^^^ 2 ^ (7 - (bit % 8).toNat) : Nat) : Int) := by
  unfold trn; rw [bt_nat h1]
set_option maxRecDepth 10000 in
theorem c10 {bit : Int} (hg : Tabs w) (o : e.Ok) (hU : HandU w u d) (hT : HandT w t so sd os) (hb1 : -9223372036854775808 ≤ bit) (hb2 : bit ≤ 9223372036854775807) : Ret Tryd.prog 10 [adr e.sv e.sa, adr e.dv e.da, udSV u d, tcSV t so sd, .int .i64 bit] w fun r w1 => r = .bool true ∧ Upd [] [] w w1 := by
  refine f10_of _ _ _ _ _ _ _ _ _ _ _ _ _ _ _ _ _ _ _ _ ?_
  unfold vc10
  intro b b1 b2 b3 w1 u1
  refine c18 (hg.old u1) fun w2 u2 => ⟨_, rfl, kp u2, ?_⟩
  have v2 := u1.then u2
  intro J0 hJ0
  refine brf rfl (brd (fun _ => ⟨rfl, v2⟩) (fun h0 => ?_))
  (repeat refine And.intro rfl ?_)
  refine hJ0 _ ?_
  clear hJ0
  have l1 := udSerL_len e u
  have l2 := tcSerL_len e t
  refine c19 (e := e) (hg.old v2) o hU.fit (hU.old v2).data fun s w3 u3 hs ho => ⟨_, _, rfl, kp u3, ?_⟩
  have v3 := v2.then u3
  have hsl := hs.len
  intro J1 hJ1
  -- behind the datagram
  have go : J1 w3 := by
    refine hJ1 _ ?_
    intro J2 hJ2
    have tcp : ∀ w4, Upd [] [] w w4 → J2 w4 := by
      intro w4 v4
      refine hJ2 _ ?_
      refine c26H (hg.old v4) o (hT.old v4) fun s5 w5 u5 hs5 ho5 => ⟨_, _, rfl, kp u5, ?_⟩
      have v5 := v4.then u5
      have hsl5 := hs5.len
      intro J3 hJ3
      refine c20 ⟨_, rfl, kp (Upd.refl _), bre' (fun _ => ⟨rfl, v5⟩) (fun hc => ?_)⟩
      rw [wr_i64 (x := 8 * (s5.len : Int)) (by omega) (by omega)]
      refine brd (fun _ => ⟨rfl, v5⟩) (fun hlt => ?_)
      (repeat refine And.intro rfl ?_)
      refine hJ3 _ ?_
      have hsb := tcSerL_byt (e := e) hT.fit
      have hq : (bit / 8).toNat < (tcSerL e t).length := by omega
      have herr : tcErr e (trn (tcSerL e t) bit) ≠ 0 := by
        rw [trn_eq hq]
        unfold tcSerL at hq ⊢
        rw [if_pos hc] at hq
        simp only [if_pos hc]
        exact tc_flip o hT.fit hc hq (by omega)
      have n31 : ∀ {w' : World} {R' : SV → World → Prop}, SeesB w' s5 (tcSerL e t) → (∀ s w1, Upd [] [] w' w1 → SeesB w1 s (trn (tcSerL e t) bit) → Own w'.heap.size 1 w1 s → R' (.slice s) w1) → Ret Tryd.prog 31 [.slice s5, .int .i64 bit] w' R' := fun h' k' => c31 h' hsb (by omega) (by omega) (by omega) k'
      have n27 : ∀ {w' : World} {s6 : Sl} {N : Nat} {R' : SV → World → Prop}, Upd [] [] w w' → SeesB w' s6 (trn (tcSerL e t) bit) → Own N 1 w' s6 → (∀ s w1, Upd [] [] w' w1 → R' (.tuple [tcSV (tcOf e (trn (tcSerL e t) bit)) s (dT e s6 (trn (tcSerL e t) bit)), .int .i64 (tcErr e (trn (tcSerL e t) bit))]) w1) → Ret Tryd.prog 27 [adr e.sv e.sa, adr e.dv e.da, .slice s6] w' R' := fun v' h' o' k' => c27' (hg.old v') o h' (trn_byt hsb) o'.le (by rw [trn_len]; omega) fun s w1 u1 _ _ _ => k' s w1 u1
      have eb : (tcErr e (trn (tcSerL e t) bit) != 0) = true := by simpa using herr
      refine ⟨fun w6 u6 => n31 (hs5.old u6) fun s7 w7 u7 hs7 ho7 => ⟨_, rfl, kp u7, u6.then u7, n27 ((v5.then u6).then u7) hs7 ho7 fun so8 w8 u8 => ⟨_, _, _, _, _, _, _, _, _, _, rfl, kp u8, fun b5 => ⟨(u6.then u7).then u8, ?_⟩⟩, fun b5 => ⟨u6.then u7, fun w8 u8 => n27 (((v5.then u6).then u7).then u8) (hs7.old u8) (ho7.old u8) fun so9 w9 u9 => ⟨_, _, _, _, _, _, _, _, _, _, rfl, kp u9, ?_⟩⟩⟩, fun b5 => ⟨Upd.refl _, fun w6 u6 => n31 (hs5.old u6) fun s7 w7 u7 hs7 ho7 => ⟨_, rfl, kp u7, u6.forget.then u7, n27 ((v5.then u6).then u7) hs7 ho7 fun so8 w8 u8 => ⟨_, _, _, _, _, _, _, _, _, _, rfl, kp u8, ?_⟩⟩⟩⟩
      · have v8 := ((v5.then u6).then u7).then u8
        exact brd (fun _ w9 u9 => c20 ⟨_, rfl, kp (Upd.refl _), brt eb ⟨rfl, v8.then u9⟩⟩) (fun _ w9 u9 => c20 ⟨_, rfl, kp (Upd.refl _), brt eb ⟨rfl, v8.then u9⟩⟩)
      · have v9 := (((v5.then u6).then u7).then u8).then u9
        have n5 := u8.new (b := b5) (by simp)
        have := ((v5.then u6).then u7).size
        exact brd (fun _ w10 u10 => c20 ⟨_, rfl, kp (Upd.refl _), brt eb ⟨rfl, v9.step0 u10 (by simp; omega)⟩⟩) (fun _ w10 u10 => c20 ⟨_, rfl, kp (Upd.refl _), brt eb ⟨rfl, v9.step0 u10 (by simp; omega)⟩⟩)
      · have v8 := ((v5.then u6).then u7).then u8
        have n5 := u6.new (b := b5) (by simp)
        have := v5.size
        exact brd (fun _ w10 u10 => c20 ⟨_, rfl, kp (Upd.refl _), brt eb ⟨rfl, v8.step0 u10 (by simp; omega)⟩⟩) (fun _ w10 u10 => c20 ⟨_, rfl, kp (Upd.refl _), brt eb ⟨rfl, v8.step0 u10 (by simp; omega)⟩⟩)
    intro J4 hJ4
    have no : ∀ w4, Upd [] [] w w4 → J4 false w4 := fun w4 v4 => by
      refine hJ4 _ _ (brf rfl ?_)
      (repeat refine And.intro rfl ?_)
      exact tcp w4 v4
    refine c20 ⟨_, rfl, kp (Upd.refl _), bre (fun hc => ?_) (fun _ => ?_)⟩
    rotate_left
    · (repeat refine And.intro rfl ?_)
      exact no _ v3
    refine brn (fun hns => ?_) (fun _ => ?_)
    rotate_left
    · (repeat refine And.intro rfl ?_)
      exact no _ v3
    (repeat refine And.intro rfl ?_)
    rw [wr_i64 (x := 8 * (s.len : Int)) (by omega) (by omega)]
    by_cases hlt : bit < 8 * (s.len : Int)
    rotate_left
    · rw [decide_eq_false hlt]; exact no _ v3
    rw [decide_eq_true hlt]
    refine hJ4 _ _ (brt rfl ?_)
    have hsb := udSer_byt (e := e) hU.fit
    unfold udSerL at hs hsl l1
    rw [if_pos hc] at hs hsl l1
    have hlen := udSer_len e u
    have hq : (bit / 8).toNat < (udSer e u).length := by omega
    refine c31 hs hsb (by omega) (by omega) (by omega) fun s5 w5 u5 hs5 ho5 => ⟨_, rfl, kp u5, ?_⟩
    have v5 := v3.then u5
    have hcb := trn_byt (bit := bit) hsb
    have hcl := trn_len (udSer e u) bit
    have hfl := fun (he : udErr e (trn (udSer e u) bit) = 0) => ud_flip o hU.fit hc hns hq (k := 7 - (bit % 8).toNat) (by omega) (trn (udSer e u) bit) (trn_eq hq) he
    generalize trn (udSer e u) bit = c at *
    refine c21 (e := e) (hg.old v5) o hs5 hcb ho5.le (by omega) fun w6 u6 => ⟨_, _, _, _, _, rfl, kp u6, ?_⟩
    have v6 := v5.then u6
    have hs6 := hs5.old u6
    have hD6 := dU_sees (e := e) hs6
    have hfu := udOf_fit (e := e) hcb
    intro b7
    have c6 := hcb.bt ((6 : Nat) : Int)
    have c7 := hcb.bt ((7 : Nat) : Int)
    have eW : W16 c 6 = bt c ((6 : Nat) : Int) * 256 + bt c ((7 : Nat) : Int) := rfl
    -- what is asked of the two datagrams
    have pat : ∀ (L : List Nat) (Y Jx : World → Prop) (w7 : World), Upd [] [] w6 w7 → (udErr e c = 0 → ∀ w8, Upd [] [] w w8 → Y w8) → (∀ w8, Upd [] [] w w8 → Jx w8) →
        Ret Tryd.prog 20 [.int .i64 (udErr e c)] w7 fun r w1 => ∃ (n : Int), r = .int .i64 n ∧ Keeps L w7 w1 ∧ Br (n == 0)
          (Ret Tryd.prog 23 [udSV u d, udSV (udOf e c) (dU e s5 c)] w1 fun r w1_5 => ∃ (b_8 : Bool), r = .bool b_8 ∧ Keeps L w1 w1_5 ∧ Br b_8 (SV.bool false = .bool true ∧ Upd [] [] w w1_5)
            (Ret Tryd.prog 20 [.int .i64 (udErr e c)] w1_5 fun r w1 => ∃ (n : Int), r = .int .i64 n ∧ Keeps L w1_5 w1 ∧ Br (n == 0) (Y w1) (Jx w1)))
          (Ret Tryd.prog 20 [.int .i64 (udErr e c)] w1 fun r w1_5 => ∃ (n : Int), r = .int .i64 n ∧ Keeps L w1 w1_5 ∧ Br (n == 0) (Y w1_5) (Jx w1_5)) := by
      intro L Y Jx w7 u7 hY hJx
      have v7 := v6.then u7
      refine c20 ⟨_, rfl, kp (Upd.refl _), bre (fun he => ?_) (fun he => c20 ⟨_, rfl, kp (Upd.refl _), bre (fun he2 => absurd he2 he) (fun _ => hJx _ v7)⟩)⟩
      refine c23 (u := u) (v := udOf e c) (hU.old v7).data (hD6.old u7) hU.fit.data hfu.data fun w8 x u8 hx => ⟨_, rfl, kp u8, ?_⟩
      have hxf : x = false := by
        rw [Bool.eq_false_iff]
        intro hx1
        exact (hfl he).2 (hx.1 hx1).symm
      exact brf hxf (c20 ⟨_, rfl, kp (Upd.refl _), bre (fun _ => hY he _ (v7.then u8)) (fun hx => absurd he hx)⟩)
    have q32 : 32 ≤ bit → ¬ bit < 48 → ¬ ((bit / 8).toNat = 4 ∨ (bit / 8).toNat = 5) := fun g1 g2 => by omega
    refine brd (fun g1 => needCB hs6 6 (by omega) ⟨_, byteC hs6 6 (by omega), bre (fun g2 => needCB hs6 7 (by omega) ⟨_, byteC hs6 7 (by omega), fun w7 u7 => ?_⟩) (fun g2 w7 u7 => ?_)⟩) (fun g1 => needCB hs6 6 (by omega) ⟨_, byteC hs6 6 (by omega), bre (fun g2 => needCB hs6 7 (by omega) ⟨_, byteC hs6 7 (by omega), fun w7 u7 => ?_⟩) (fun g2 w7 u7 => ?_)⟩)
    · refine pat _ _ _ w7 u7.forget (fun he w8 v8 => ?_) (fun w8 v8 => ?_)
      · refine brn (fun g3 => brn (fun g4 => ?_) (fun g4 => ?_)) (fun g3 => ?_)
        · have := (hfl he).1 (q32 (by omega) (by simpa using g3))
          have g4' : bt c ((7 : Nat) : Int) ≠ 0 := by simpa using g4
          omega
        · (repeat refine And.intro rfl ?_)
          exact tcp _ v8
        · (repeat refine And.intro rfl ?_)
          exact tcp _ v8
      · (repeat refine And.intro rfl ?_)
        exact tcp _ v8
    · refine pat _ _ _ w7 u7.forget (fun he w8 v8 => ?_) (fun w8 v8 => ?_)
      · refine brn (fun g3 => ?_) (fun g3 => ?_)
        · have := (hfl he).1 (q32 (by omega) (by simpa using g3))
          omega
        · (repeat refine And.intro rfl ?_)
          exact tcp _ v8
      · (repeat refine And.intro rfl ?_)
        exact tcp _ v8
    · refine pat _ _ _ w7 u7.forget (fun he w8 v8 => ?_) (fun w8 v8 => ?_)
      · refine brn (fun g4 => ?_) (fun g4 => ?_)
        · have := (hfl he).1 (by omega)
          have g4' : bt c ((7 : Nat) : Int) ≠ 0 := by simpa using g4
          omega
        · (repeat refine And.intro rfl ?_)
          exact tcp _ v8
      · (repeat refine And.intro rfl ?_)
        exact tcp _ v8
    · refine pat _ _ _ w7 u7.forget (fun he w8 v8 => ?_) (fun w8 v8 => ?_)
      · have := (hfl he).1 (by omega)
        omega
      · (repeat refine And.intro rfl ?_)
        exact tcp _ v8
  refine c20 ⟨_, rfl, kp (Upd.refl _), bre (fun hc => ?_) (fun hc => ?_)⟩
  · have hl8 := udSer_len e u
    unfold udSerL at hsl
    rw [if_pos hc] at hsl
    refine brd (fun hx => absurd hx (by omega)) (fun _ => ?_)
    (repeat refine And.intro rfl ?_)
    exact go
  · (repeat refine And.intro rfl ?_)
    exact go
end
section
variable {H : Type} {W : World}
theorem walk10 (hg : Tabs W) (svs : List SV) (ds : List (DataW H)) (h : ArgsD X W [27, 27, 30, 45, 3] svs ds) (hw : (DataW.weightsEach Tryd.prog [27, 27, 30, 45, 3] ds).all (· ≤ reachBytes) = true) :
    Ret Tryd.prog 10 svs W fun r w1 => r = .bool true ∧ Upd [] [] W w1 := by
  obtain ⟨x, _, d1, _, m1, rfl, rfl, h1, h⟩ := argsD_cons h
  obtain ⟨y, _, d2, _, m2, rfl, rfl, h2, h⟩ := argsD_cons h
  obtain ⟨z, _, d3, _, m3, rfl, rfl, h3, h⟩ := argsD_cons h
  obtain ⟨z', _, d4, _, m4, rfl, rfl, h4, h⟩ := argsD_cons h
  obtain ⟨z'', _, d5, _, m5, rfl, rfl, h5, h⟩ := argsD_cons h
  obtain ⟨rfl, rfl⟩ := argsD_nil h
  obtain ⟨sv, sa, rfl, hsa⟩ := deep_adr h1
  obtain ⟨dv, da, rfl, hda⟩ := deep_adr h2
  obtain ⟨u, du, _, _, _, ddu, rfl, hdu, hfu, hcu, rfl, hslu⟩ := deep_udp h3
  obtain ⟨t, so, sd, os, _, _, _, _, _, _, _, do_, dd, rfl, ho, hd, hf, hc, hc2, hc3, rfl, hdo, hsl⟩ := deep_tcp h4
  obtain ⟨n, rfl, hn⟩ := deep_int (t := 3) rfl h5
  have g := (light_head (light_head (light_arg hw)).2).2
  have hHu := handU_of hdu hfu hcu hslu (light_head g).1
  have hH := handT_of ho hd hf hc hc2 hc3 hdo hsl (light_head (light_head g).2).1
  have := wf_i64 hn
  exact c10 (e := ⟨sv, sa, dv, da⟩) hg ⟨hsa, hda⟩ hHu hH this.1 this.2
end
end Go.Vc.S9
