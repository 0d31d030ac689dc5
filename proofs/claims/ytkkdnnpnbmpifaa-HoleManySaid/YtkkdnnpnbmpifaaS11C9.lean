import Derived.Test.YtkkdnnpnbmpifaaS11TxtP9
import Derived.Test.YtkkdnnpnbmpifaaS11Eq
import Derived.Test.YtkkdnnpnbmpifaaS11Many
open Go Go.Vc Go.Proofs
set_option linter.unusedVariables false
set_option linter.unusedSimpArgs false
set_option autoImplicit false
namespace Go.Vc.S11
/-- what stands at the head of each turn of HoleMany -/
structure St9 (N : Nat) (w0 w : World) (h m : Nat) (D : List Int) (ls : List (Int × List Int × Bool)) (come : List Bool) (S : Hs) (lf : List (Int × List Int)) (B G sd : Sl) : Prop where
  c : Came D ls come S lf
  e : Heard D ls come S
  H : Hol N w h S B G m
  u : Upd [] [] w0 w
  hd : SeesB w sd D
  n0 : w0.heap.size ≤ N
  bd : ∀ x ∈ sd.blk, x < N
section
variable {R : SV → World → Prop} {N h m : Nat} {w0 w w1 : World} {D : List Int} {ls : List (Int × List Int × Bool)} {come : List Bool} {S : Hs} {lf : List (Int × List Int)} {B G B' G' sd : Sl}
theorem St9.old {ns : List Nat} (t : St9 N w0 w h m D ls come S lf B G sd) (u : Upd [] ns w w1) : St9 N w0 w1 h m D ls come S lf B G sd :=
  ⟨t.c, t.e, t.H.old u, t.u.then u, t.hd.old u, t.n0, t.bd⟩
theorem St9.put {k : Nat} {p : Int × List Int × Bool} (t : St9 N w0 w h m D ls come S lf B G sd) (hc : Cutting D ls) (hD : Byt D) (hD2 : D.length ≤ 65535) (hp : ls[k]? = some p) (hk : come[k]? = some false) (V : Upd (hblk h B G m) [] w w1) (H' : Hol N w1 h (putS S p.1 p.2.1 p.2.2) B' G' m) :
    St9 N w0 w1 h m D ls (come.set k true) (putS S p.1 p.2.1 p.2.2) (lf ++ [(p.1, p.2.1)]) B' G' sd := by
  have n0 := t.n0
  have lt := t.H.lt
  exact ⟨t.c.put hc hD hD2 hp, Heard.put t.c t.e hc hD2 hp hk, H', t.u.step0 V (fun x hx => by have := lt x hx; omega), t.hd.upd V (fun x hx hm => by have := t.bd x hx; have := lt x hm; omega), n0, t.bd⟩
theorem unc_app : ∀ {a : List Bool} {l : List (Int × List Int × Bool)} {c : Bool} {p : Int × List Int × Bool}, a.length = l.length → unc (a ++ [c]) (l ++ [p]) = unc a l + (if c then 0 else (p.2.1.length : Int))
  | [], [], c, p, _ => by simp [unc]
  | x :: a, y :: l, c, p, h => by
    have := unc_app (a := a) (l := l) (c := c) (p := p) (by simpa using h)
    simp only [List.cons_append, unc, this]
    omega
theorem unc_evenly {D : List Int} {z : Nat} (hz : 0 < z) : ∀ k : Nat, (k - 1) * z < D.length → unc (List.replicate k false) (evenly D z k) = ((min D.length (k * z) : Nat) : Int)
  | 0, _ => by simp [unc, evenly]
  | k + 1, h => by
    have hk : (k - 1) * z ≤ k * z := Nat.mul_le_mul_right _ (by omega)
    have h' : k * z < D.length := by simpa using h
    have ih := unc_evenly (D := D) hz k (by omega)
    obtain ⟨e1, e2, e3⟩ := evenly_len (D := D) (z := z) (k := k + 1) hz h (j := k) (by omega)
    have er : evenly D z (k + 1) = evenly D z k ++ [(((k * z : Nat) : Int), (D.drop (k * z)).take (min D.length ((k + 1) * z) - k * z), decide (((min D.length ((k + 1) * z) : Nat) : Int) < D.length))] := by
      unfold evenly
      rw [List.range_succ, List.map_append]
      rfl
    rw [er, List.replicate_succ', unc_app (show (List.replicate k false).length = (evenly D z k).length by simp [evenly]), ih]
    dsimp only
    rw [e3]
    simp only [Bool.false_eq_true, if_false]
    omega
theorem dec_beq (a b : Int) : (!(decide (a = b) == (a == b))) = false := by by_cases q : a = b <;> simp [q]
theorem imin_nat (a b : Nat) : imin (a : Int) (b : Int) = ((min a b : Nat) : Int) := by unfold imin; split <;> omega
set_option maxRecDepth 20000 in
theorem c9 {n size : Int} {w : World} : Ret Try.prog 9 [.int .i64 n, .int .i64 size] w fun r w1 => r = .bool true ∧ Upd [] [] w w1 := by
  refine f9_of _ _ _ _ ?_
  unfold vc9
  have a1 := imin_le (imax n 1) 65535
  have a2 := imax_ge n 1
  generalize imin (imax n 1) 65535 = nI at *
  have b1 := imin_le (imax size 1) 8192
  have b2 := imax_ge size 1
  generalize imin (imax size 1) 8192 = sI at *
  obtain ⟨n0, rfl⟩ := Int.eq_ofNat_of_zero_le (show 0 ≤ nI by omega)
  obtain ⟨s0, rfl⟩ := Int.eq_ofNat_of_zero_le (show 0 ≤ sI by omega)
  have ez : wr .i64 (8 * (s0 : Int)) = ((8 * s0 : Nat) : Int) := by rw [wr_i64 (by omega) (by omega)]; omega
  rw [ez]
  have z8 : (8 * s0) % 8 = 0 := by omega
  have zr : 8 ≤ 8 * s0 ∧ 8 * s0 ≤ 65536 := by omega
  have nr : 1 ≤ n0 ∧ n0 ≤ 65535 := by omega
  generalize 8 * s0 = z at *
  clear ez a1 a2 b1 b2
  have ek : wr .i64 (Int.tdiv (wr .i64 (wr .i64 ((n0 : Int) + (z : Int)) - 1)) (z : Int)) = (((n0 + z - 1) / z : Nat) : Int) := by
    rw [wr_i64 (x := (n0 : Int) + (z : Int)) (by omega) (by omega), wr_i64 (x := (n0 : Int) + (z : Int) - 1) (by omega) (by omega)]
    rw [show (n0 : Int) + (z : Int) - 1 = ((n0 + z - 1 : Nat) : Int) by omega, ← Int.ofNat_tdiv]
    have : (n0 + z - 1) / z ≤ n0 + z - 1 := Nat.div_le_self _ _
    generalize (n0 + z - 1) / z = y at *
    rw [wr_i64 (by omega) (by omega)]
  rw [ek]
  have kk : 0 < (n0 + z - 1) / z ∧ ((n0 + z - 1) / z - 1) * z < n0 ∧ n0 ≤ (n0 + z - 1) / z * z ∧ (n0 + z - 1) / z ≤ n0 := by
    have h1 := Nat.div_mul_le_self (n0 + z - 1) z
    have h2 := Nat.lt_div_mul_add (a := n0 + z - 1) (b := z) (by omega)
    have h3 : 0 < (n0 + z - 1) / z := Nat.div_pos (by omega) (by omega)
    have h4 : ((n0 + z - 1) / z - 1) * z = (n0 + z - 1) / z * z - z := by rw [Nat.sub_mul, Nat.one_mul]
    have h5 : z ≤ (n0 + z - 1) / z * z := Nat.le_mul_of_pos_left _ h3
    have h6 : ((n0 + z - 1) / z - 1) * 8 ≤ ((n0 + z - 1) / z - 1) * z := Nat.mul_le_mul_left _ zr.1
    generalize (n0 + z - 1) / z = y at *
    refine ⟨h3, by omega, by omega, by omega⟩
  generalize (n0 + z - 1) / z = k at *
  clear ek
  obtain ⟨k0, k1, k2, k3⟩ := kk
  have hz : 0 < z := by omega
  simp only [Int.toNat_natCast]
  refine need (by simp; omega) fun b w1 u1 hr1 => ?_
  have nb := u1.new (b := b) (by simp)
  rw [zeros_cells] at hr1
  have h1 : SeesB w1 ⟨some ⟨b, 0, none⟩, n0, n0⟩ (List.replicate n0 0) := sees_row hr1 _ rfl (by simp)
  have o1 : Own w.heap.size 1 w1 ⟨some ⟨b, 0, none⟩, n0, n0⟩ := own_row hr1 (by omega) (by rw [Cod.cells_length]; simp [cU8]) (Nat.le_refl _)
  refine ⟨fun i w' => Upd [] [] w w' ∧ ∃ (t : Nat) (D : List Int), i = t ∧ t ≤ n0 ∧ SeesB w' ⟨some ⟨b, 0, none⟩, n0, n0⟩ D ∧ Own w.heap.size 1 w' ⟨some ⟨b, 0, none⟩, n0, n0⟩ ∧ Byt D ∧ D.length = n0, fun i _ => (n0 - i).toNat, ⟨u1.forget, 0, _, rfl, by omega, h1, o1, fun x hx => by rw [List.eq_of_mem_replicate hx]; omega, by simp⟩, ?_⟩
  rintro i w2 ⟨u2, t, D, rfl, ht, h2, o2, hD, hDl⟩
  refine brd (fun hlt => ?_) (fun hge => ?_)
  · refine needIxT (by omega) hlt ?_
    rw [Int.toNat_natCast]
    refine own_set (c := cU8) (x := wr .u8 (wr .i64 (wr .i64 ((t : Int) * 7) + gshr .i64 (t : Int) 8))) h2 o2 (by decide) (by omega) rfl (by simp) fun w3 h3 o3 u3 => ?_
    refine ⟨⟨u2.step0 u3 (fun x hx => (o2.blk x hx).1), t + 1, _, wr_succ (by omega), by omega, h3, o3, hD.set _ (wr_u8_range _), by simp [hDl]⟩, by rw [wr_succ (by omega)]; (try dsimp only); omega⟩
  clear h1 o1 hr1 hge ht
  generalize hsd : (⟨some ⟨b, 0, none⟩, n0, n0⟩ : Sl) = sd at *
  have hsl : sd.len = n0 ∧ sd.cap = n0 := by subst hsd; exact ⟨rfl, rfl⟩
  have hsb : ∀ x ∈ sd.blk, x < w2.heap.size := fun x hx => (o2.blk x hx).2
  have hcut : Cutting D (evenly D z k) := evenly_cut z8 hz (by omega) (by omega)
  refine c10 (fun q => by omega) fun _ _ h m G w4 u4 H4 => ⟨_, _, rfl, ?_⟩
  intro J2 hJ2
  refine brf rfl (brf (by simp) ?_)
  refine hJ2 _ ?_
  clear hJ2
  refine needNe (by omega) ?_
  have hlen : (evenly D z k).length = k := by simp [evenly]
  have st0 : St9 w2.heap.size w w4 h m D (evenly D z k) (comeAt k 0) ⟨65535, [], [(0, 65535)], -1, 0, []⟩ [] ⟨none, 0, 0⟩ G sd := by
    refine ⟨Came.new (by rw [comeAt_zero, hlen]) hcut (by omega) (by omega), ?_, H4, u2.then u4, h2.old u4, u2.size, hsb⟩
    unfold Heard
    rw [comeAt_zero, unc_evenly hz k (by omega)]
    simp only
    omega
  refine ⟨fun q i w' => ∃ (S : Hs) (lf : List (Int × List Int)) (B G : Sl) (t : Nat), St9 w2.heap.size w w' h m D (evenly D z k) (comeAt k t) S lf B G sd ∧ q = S.held ∧ i = t ∧ t ≤ 2 * k, fun _ i _ => (2 * k - i).toNat, ⟨_, _, _, _, 0, st0, rfl, rfl, by omega⟩, ?_⟩
  rintro q i w5 ⟨S, lf, B, G', t, st, rfl, rfl, ht⟩
  clear st0
  have e2k : wr .i64 (2 * (k : Int)) = 2 * k := wr_i64 (by omega) (by omega)
  rw [e2k]
  have gl := st.c.g.ok.gl
  have gb := st.c.g.bl
  refine brd (fun hlt => ?_) (fun hge => ?_)
  · intro J3 hJ3 J4 hJ4
    have next : ∀ (S : Hs) (lf : List (Int × List Int)) (B G : Sl) (w' : World), St9 w2.heap.size w w' h m D (evenly D z k) (comeAt k (t + 1)) S lf B G sd → J3 S.held w' := fun S lf B G w' st' => hJ3 _ _ ⟨⟨S, lf, B, G, t + 1, st', rfl, wr_succ (by omega), by omega⟩, by rw [wr_succ (q := t) (by omega)]; (try dsimp only); omega⟩
    clear hJ3
    have body : ∀ w6, Upd [] [] w5 w6 → J4 w6 := by
      intro w6 u6
      have st6 := st.old u6
      refine hJ4 _ ?_
      clear hJ4
      intro J5 hJ5
      have main : J5 ((turnOf k t : Nat) : Int) w6 := by
        refine hJ5 _ _ ?_
        clear hJ5
        refine brd (fun hskip => ?_) (fun hno => ?_)
        · refine next S lf B G' w6 ?_
          rw [comeAt_skip (by omega) (by omega)]
          exact st6
        · have hj : turnOf k t < k := by omega
          obtain ⟨c1, c2⟩ := comeAt_step (k := k) (i := t) (by omega) hj
          generalize turnOf k t = j at *
          obtain ⟨p1, p2, p3⟩ := evenly_len (D := D) (z := z) (k := k) hz (by omega) hj
          have hp := evenly_at (D := D) (z := z) (k := k) hj
          have hjz : (j + 1) * z = j * z + z := by rw [Nat.add_mul, Nat.one_mul]
          have ea : wr .i64 ((j : Int) + 1) = ((j + 1 : Nat) : Int) := by rw [wr_i64 (by omega) (by omega)]; omega
          have eb : wr .i64 ((j : Int) * (z : Int)) = ((j * z : Nat) : Int) := by
            rw [← Int.natCast_mul, wr_i64 (by omega) (by omega)]
          have ec : wr .i64 (((j + 1 : Nat) : Int) * (z : Int)) = (((j + 1) * z : Nat) : Int) := by
            rw [← Int.natCast_mul, wr_i64 (by omega) (by omega)]
          rw [ea, eb, ec, imin_nat]
          simp only [Int.toNat_natCast]
          rw [hDl] at hp p1 p2 p3
          generalize hto : min n0 ((j + 1) * z) = to at *
          have etz : to ≤ j * z + z := by omega
          generalize j * z = o at *
          have hwin : SeesB w6 (sd.sub 1 o to sd.cap) ((D.drop o).take (to - o)) := by
            have := st6.hd.subB (lo := o) (hi := to) (mx := sd.cap) (by omega) (by omega) (by omega)
            rwa [List.drop_take] at this
          rw [hsl.2] at hwin
          have er : (o : Int) + (((D.drop o).take (to - o)).length : Int) = (to : Int) := by rw [p3]; omega
          refine needSl (by omega) (by omega) (by omega) (by omega) ?_
          have hpb : Byt ((D.drop o).take (to - o)) := (hD.drop _).take _
          have he := st6.c.err hcut (by omega) hp
          have lt6 := st6.H.lt
          have z6 := st6.u.size
          have hl3 : ((D.drop o).take (to - o)).length = to - o := p3
          have nw := st6.c.newAll hcut (by omega) hp (by rw [c2]; simp)
          have sm : sameS S ((o : Nat) : Int) ((D.drop o).take (to - o)) (decide ((to : Int) < n0)) = false := by
            rw [Bool.eq_false_iff]
            intro x
            have := (st6.c.same hcut hD (by omega) hp).1 x
            rw [c2] at this
            cases this
          dsimp only at he nw
          refine c12 st6.H st6.c.g.ok hwin (by simp [Sl.sub]; omega) hpb (fun x hx => ?_) (fun w8 u8 hne => absurd he hne) (fun B8 G8 w8 he V8 H8 hn8 => ⟨_, _, _, _, rfl, fun b1 => ?_⟩)
          · have := st6.bd x (sub_blk x hx)
            exact ⟨by have := (lt6 h (by simp [hblk])); omega, fun hm => by have := lt6 x hm; omega⟩
          · have st8 := st6.put hcut hD (by omega) hp c2 V8 H8
            rw [← c1] at st8
            have eH : (putS S (o : Int) ((D.drop o).take (to - o)) (decide ((to : Int) < n0))).held = S.held + ((to : Int) - (o : Int)) := by
              show S.held + newN _ _ S.gaps = _
              rw [nw, p3]; omega
            have hb8 := st8.e
            unfold Heard at hb8
            have un := unc_nonneg (comeAt k (t + 1)) (evenly D z k)
            have hb6 := st6.e
            unfold Heard at hb6
            have un6 := unc_nonneg (comeAt k t) (evenly D z k)
            have s0 := st6.c.g.he
            have e10 : wr .i64 ((to : Int) - (o : Int)) = to - o := wr_i64 (by omega) (by omega)
            rw [nw, e10, p3]
            refine brf rfl (brf (by simp; omega) (brf (by simp) (brf sm fun w9 u9 => ?_)))
            have st9 := st8.old u9
            have e11 : wr .i64 (wr .i64 (S.held + (to : Int)) - (o : Int)) = (putS S (o : Int) ((D.drop o).take (to - o)) (decide ((to : Int) < n0))).held := by
              rw [wr_i64 (x := S.held + (to : Int)) (by omega) (by omega), wr_i64 (by omega) (by omega), eH]; omega
            rw [e11]
            refine c15 st9.H ⟨_, rfl, kp (Upd.refl _), brf (by simp) ?_⟩
            refine c16 st9.H ⟨_, rfl, kp (Upd.refl _), brf ?_ ?_⟩
            · rw [Heard.whole st9.c st9.e hcut (by omega) (by omega), hDl]
              exact dec_beq _ _
            · (repeat refine And.intro rfl ?_)
              exact next _ _ _ _ w9 st9
      clear hJ5
      refine brd (fun a => ?_) (fun a => ?_)
      · have e1 : wr .i64 (2 * (k : Int) - 1) = 2 * k - 1 := wr_i64 (by omega) (by omega)
        have e3 : wr .i64 (2 * (k : Int) - 1 - (t : Int)) = 2 * k - 1 - t := wr_i64 (by omega) (by omega)
        have e4 : wr .i64 (2 * (2 * (k : Int) - 1 - (t : Int))) = ((turnOf k t : Nat) : Int) := by
          rw [wr_i64 (by omega) (by omega)]; unfold turnOf; rw [if_neg (by omega)]; omega
        rw [e1, e3, e4]
        exact main
      · have e1 : wr .i64 (2 * (t : Int)) = 2 * t := wr_i64 (by omega) (by omega)
        have e3 : wr .i64 (2 * (t : Int) + 1) = ((turnOf k t : Nat) : Int) := by
          rw [wr_i64 (by omega) (by omega)]; unfold turnOf; rw [if_pos (by omega)]; omega
        rw [e1, e3]
        exact main
    refine bre (fun hk => ?_) (fun hk => body w5 (Upd.refl _))
    have : t = k := by omega
    subst this
    have hw := halfway z8 hz k0 (by omega) (by omega) (by omega) st.c
    refine c11 st.H (by omega) fun s6 w6 u6 hs6 ho6 => ⟨_, rfl, brf ?_ (body w6 u6)⟩
    have := hs6.len
    rw [wr_i64 (x := (t : Int) + 1) (by omega) (by omega)]
    rw [show (t : Int) + 1 = ((t + 1 : Nat) : Int) by omega, show (2 : Int) = ((2 : Nat) : Int) from rfl, ← Int.ofNat_tdiv, wr_i64 (by omega) (by omega)]
    simp
    omega
  · have : t = 2 * k := by omega
    subst this
    have all : ∀ c ∈ comeAt k (2 * k), c = true := comeAt_end k
    have hw : wholeS S = true := by
      rw [st.c.whole hcut (by omega) (by omega), decide_eq_true_iff, ← st.c.len, List.count_eq_length]
      exact fun b hb => (all b hb).symm
    have hf : S.fin = n0 := by
      obtain ⟨h0, _⟩ := st.c.f.bytes st.c.g hw
      rcases st.c.fin with ⟨q, _⟩ | ⟨q, _⟩ <;> omega
    refine c18 st.H (fun hw => (st.c.bytes hcut (by omega) hw).1) (by omega) fun s6 w6 u6 hs6 ho6 => ⟨_, _, rfl, ?_⟩
    rw [if_pos hw, (st.c.bytes hcut (by omega) hw).2] at hs6
    have st6 := st.old u6
    refine c14 st6.H fun w7 u7 => ⟨_, _, rfl, ?_⟩
    have st7 := st6.old u7
    rw [imin_nat]
    refine needIxLe (by omega) (by omega) ?_
    simp only [Int.toNat_natCast]
    have hp := evenly_at (D := D) (z := z) (k := k) (j := 0) k0
    rw [Nat.zero_mul, Nat.zero_add, Nat.one_mul, List.drop_zero, Nat.sub_zero, hDl] at hp
    have c0 : (comeAt k (2 * k))[0]? = some true := by
      have := comeAt_get (k := k) (i := 2 * k) (j := 0) k0
      rw [this]; unfold inTurn; simp; omega
    have ed : decide (((min n0 z : Nat) : Int) < (n0 : Int)) = decide ((n0 : Int) > (z : Int)) := decide_eq_decide.2 (by omega)
    rw [ed] at hp
    have hwin : SeesB w7 (sd.sub 1 0 (min n0 z) n0) (D.take (min n0 z)) := by
      have := st7.hd.subB (lo := 0) (hi := min n0 z) (mx := sd.cap) (by omega) (by omega) (by omega)
      rwa [List.drop_zero, hsl.2] at this
    have he := st7.c.err hcut (by omega) hp
    have nz := (st7.c.newZ hcut (by omega) hp).2 c0
    have sm := (st7.c.same hcut hD (by omega) hp).2 c0
    dsimp only at he nz sm
    have lt7 := st7.H.lt
    have z7 := st7.u.size
    refine c12 st7.H st7.c.g.ok hwin (by simp [Sl.sub]; omega) (hD.take _) (fun x hx => ?_) (fun w8 u8 hne => absurd he hne) (fun B8 G8 w8 he V8 H8 hn8 => ⟨_, _, _, _, rfl, fun b1 => ?_⟩)
    · have := st7.bd x (sub_blk x hx)
      exact ⟨by have := (lt7 h (by simp [hblk])); omega, fun hm => by have := lt7 x hm; omega⟩
    · rw [hw]
      refine brt rfl fun w9 u9 => ?_
      have n9 := u9.new (b := b1) (by simp)
      have cp := st7.c.put hcut hD (by omega) hp
      have c0' : (comeAt k (2 * k)).set 0 true = comeAt k (2 * k) := by
        refine List.ext_getElem? fun j => ?_
        by_cases q : j = 0
        · subst q
          rw [c0, List.getElem?_set_self (by simp [comeAt]; omega)]
        · rw [List.getElem?_set_ne (Ne.symm q)]
      rw [c0'] at cp
      have hw2 := (cp.whole hcut (by omega) (by omega)).trans (decide_eq_true (by rw [← st.c.len, List.count_eq_length]; exact fun b hb => (all b hb).symm))
      have z8 := V8.size
      have dh : ∀ x ∈ s6.blk, x ∉ hblk h B G' m := fun x hx hm => by
        have a1 := (ho6.blk x hx).1
        have a2 := (st.H.lt x hm).2
        omega
      have dd : ∀ x ∈ sd.blk, x ∉ hblk h B G' m := fun x hx hm => by have := st7.bd x hx; have := lt7 x hm; omega
      have hs9 := ((hs6.old u7).upd V8 dh).old u9
      have hd9 := (st7.hd.upd V8 dd).old u9
      have v9 : Upd [] [] w w9 := (st7.u.step0 V8 (fun x hx => by have := lt7 x hx; have := st7.n0; omega)).then u9
      refine cSameT hs9 hd9 (by omega) fun w10 u10 => ⟨_, rfl, kp u10, brt rfl ?_⟩
      have H10 := (H8.old u9).old u10
      rw [hf]
      refine brt (by simp) (brt (by unfold imax; split <;> simp <;> omega) ?_)
      refine c11 H10 (by have := cp.g.ok.gl; dsimp only at this; exact Nat.le_trans this (by omega)) fun s11 w11 u11 hs11 ho11 => ⟨_, rfl, kp u11, ?_⟩
      have hg : (putS S 0 (D.take (min n0 z)) (decide ((n0 : Int) > (z : Int)))).gaps = [] := by
        have hw3 : wholeS (putS S 0 (D.take (min n0 z)) (decide ((n0 : Int) > (z : Int)))) = true := hw2
        unfold wholeS at hw3
        simp only [Bool.and_eq_true, List.isEmpty_iff] at hw3
        exact hw3.2
      have hl11 := hs11.len
      rw [hg] at hl11
      have nz' : newN 0 (0 + ((D.take (min n0 z)).length : Int)) S.gaps = 0 := nz
      have sm' : sameS S 0 (D.take (min n0 z)) (decide ((n0 : Int) > (z : Int))) = true := sm
      rw [nz', sm']
      refine brt (by simp [hl11]) (brt rfl (brt rfl ⟨rfl, (v9.then u10).then u11⟩))
end
end Go.Vc.S11
