import Derived.Test.YtkkdnnpnbmpifaaIp4A
namespace Go.Vc
set_option linter.unusedVariables false
set_option linter.unusedSimpArgs false
set_option autoImplicit false

section
variable {v : IpV}
theorem ser_len (v : IpV) : (ipSer v).length = hdL v + v.data.length := by unfold ipSer; rw [List.length_append, ipHd_len]
theorem ser_hdN (h : ipChk v = 0) : hdN (ipSer v) = hdL v ∧ totN (ipSer v) = hdL v + v.data.length := by
  obtain ⟨_, _, _, _, _, _, _, h8, h9, _⟩ := ipChk_ok h
  have hr := hdL_r h8
  obtain ⟨b0, b1, b2, b3, _⟩ := hd_bts v (ipCk v) v.data (ipSer v) rfl
  unfold hdN totN W16
  rw [b0]
  rw [show ((2 : Nat) : Int) = 2 from rfl, show ((2 + 1 : Nat) : Int) = 3 from rfl, b2, b3]
  omega
theorem ser_take (h : ipChk v = 0) : (ipSer v).take (hdL v) = ipHd v (ipCk v) ∧ (ipSer v).drop (hdL v) = v.data ∧ obL (ipSer v) = putO v.opts := by
  have e1 : (ipSer v).take (hdL v) = ipHd v (ipCk v) := by unfold ipSer; rw [← ipHd_len v (ipCk v), List.take_left]
  refine ⟨e1, by unfold ipSer; rw [← ipHd_len v (ipCk v), List.drop_left], ?_⟩
  unfold obL
  rw [(ser_hdN h).1, e1]
  rfl
theorem ser_parts (h : ipChk v = 0) : dfOf (ipSer v) = v.df ∧ mfOf (ipSer v) = v.mf ∧ offOf (ipSer v) = v.off := by
  obtain ⟨_, _, h3, _⟩ := ipChk_ok h
  obtain ⟨_, _, _, _, _, _, b6, b7, _⟩ := hd_bts v (ipCk v) v.data (ipSer v) rfl
  unfold dfOf mfOf offOf
  rw [b6, b7]
  unfold ipWord
  cases v.df <;> cases v.mf <;> simp <;> omega
theorem ser_err (h : ipChk v = 0) (f : Fit v) : ipErr (ipSer v) = 0 := by
  obtain ⟨_, _, _, _, _, _, _, h8, h9, h10⟩ := ipChk_ok h
  have hr := hdL_r h8
  obtain ⟨e1, e2⟩ := ser_hdN h
  obtain ⟨t1, t2, t3⟩ := ser_take h
  obtain ⟨p1, p2, p3⟩ := ser_parts h
  obtain ⟨b0, _⟩ := hd_bts v (ipCk v) v.data (ipSer v) rfl
  have hl := ser_len v
  refine ipErr_mk (by omega) (by omega) (by rw [b0]; omega) (by omega) (by omega) (by omega) (by omega) ?_ ?_ ?_
  · rw [e1, t1]; exact (ipCk_r h f).2.2
  · rw [t3]
    obtain ⟨ps, q1, _⟩ := optsP_put (ok := ok4) h8 (fun o _ => decide_eq_true (by omega))
    rw [q1]; simp
  · rw [p2, p3, e1, e2]
    rw [show ((hdL v + v.data.length : Nat) : Int) - (hdL v : Int) = (v.data.length : Int) by omega]
    exact h10
/-- what is written is read as it was -/
theorem ser_eq (h : ipChk v = 0) (f : Fit v) : IpEq (ipOf (ipSer v)) v := by
  obtain ⟨h1, h2, h3, h4, h5, h6, h7, h8, h9, h10⟩ := ipChk_ok h
  obtain ⟨e1, e2⟩ := ser_hdN h
  obtain ⟨t1, t2, t3⟩ := ser_take h
  obtain ⟨p1, p2, p3⟩ := ser_parts h
  obtain ⟨b0, b1, b2, b3, b4, b5, b6, b7, b8, b9, b10, b11, b12, b13, b14, b15, b16, b17, b18, b19⟩ := hd_bts v (ipCk v) v.data (ipSer v) rfl
  obtain ⟨ps, q1, q2⟩ := optsP_put (ok := ok4) h8 (fun o _ => decide_eq_true (by omega))
  unfold ipOf
  rw [if_pos (ser_err h f)]
  unfold ipRaw
  refine ⟨b1, ?_, p1, p2, p3, b8, b9, h6.1.symm, ?_, h7.1.symm, ?_, ?_, ?_⟩
  · show W16 (ipSer v) 4 = v.id
    unfold W16
    rw [show ((4 : Nat) : Int) = 4 from rfl, show ((4 + 1 : Nat) : Int) = 5 from rfl, b4, b5]
    omega
  · intro i hi
    show adrAt (ipSer v) 12 i = v.sa i
    unfold adrAt
    split
    · rcases (by omega : i = 0 ∨ i = 1 ∨ i = 2 ∨ i = 3) with rfl | rfl | rfl | rfl
      · exact b12
      · exact b13
      · exact b14
      · exact b15
    · exact (h6.2 i (by omega) hi).symm
  · intro i hi
    show adrAt (ipSer v) 16 i = v.da i
    unfold adrAt
    split
    · rcases (by omega : i = 0 ∨ i = 1 ∨ i = 2 ∨ i = 3) with rfl | rfl | rfl | rfl
      · exact b16
      · exact b17
      · exact b18
      · exact b19
    · exact (h7.2 i (by omega) hi).symm
  · show (psOf (ipSer v)).map (optAt (obL (ipSer v))) = v.opts
    unfold psOf
    rw [t3, q1]
    exact q2
  · show ((ipSer v).take (totN (ipSer v))).drop (hdN (ipSer v)) = v.data
    rw [e1, e2, ← ser_len v, List.take_length, t2]
end

section
variable {l : List Int}
theorem ipOf_fit (hb : Byt l) : Fit (ipOf l) := by
  unfold ipOf
  split
  · refine ⟨fun i hi => ?_, fun i hi => ?_, fun o ho => ?_, (hb.take _).drop _⟩
    · show 0 ≤ adrAt l 12 i ∧ adrAt l 12 i < 256
      unfold adrAt
      split
      · exact hb.bt _
      · omega
    · show 0 ≤ adrAt l 16 i ∧ adrAt l 16 i < 256
      unfold adrAt
      split
      · exact hb.bt _
      · omega
    · obtain ⟨p, _, rfl⟩ := List.mem_map.1 ho
      exact ((obL_byt hb).take _).drop _
  · exact ⟨by simp [ipZ], by simp [ipZ], by simp [ipZ], by simp [ipZ, Byt]⟩
theorem ipOf_ok (h : ipErr l = 0) : ipOf l = ipRaw l := by unfold ipOf; rw [if_pos h]
/-- what is read may be written -/
theorem parse_chk (hb : Byt l) (h : ipErr l = 0) : ipChk (ipOf l) = 0 ∧ hdL (ipOf l) ≤ hdN l ∧ (ipOf l).data.length = totN l - hdN l := by
  obtain ⟨h1, h2, h3, h4, h5, h6, h7, h8, h9, h10⟩ := ipErr_ok h
  obtain ⟨o1, o2⟩ := optsP_ok ok4_two (obL_byt hb) h9
  have hol := obL_len h5
  have h4' := hdN_4 l
  have o3 := putO_le ok4_two (obL_byt hb) (by omega) h9
  have hd : ((l.take (totN l)).drop (hdN l)).length = totN l - hdN l := by simp; omega
  have b1 := hb.bt 1; have b6 := hb.bt 6; have b7 := hb.bt 7; have b8 := hb.bt 8; have b9 := hb.bt 9
  have w4 := W16_r hb 4
  have hhd : hdL (ipRaw l) ≤ hdN l := by
    show 20 + (putO ((psOf l).map (optAt (obL l)))).length ≤ hdN l
    omega
  rw [ipOf_ok h]
  refine ⟨ipChk_mk ?_ o1 ?_ ?_, hhd, hd⟩
  · unfold badF outN four ipRaw offOf
    simp only
    have fa : ∀ o i : Nat, 4 ≤ i → i < 16 → adrAt l o i = 0 := fun o i h _ => by unfold adrAt; rw [if_neg (by omega)]
    rintro (x | x | x | x | x | x | x | x)
    · omega
    · omega
    · omega
    · omega
    · omega
    · omega
    · exact x ⟨trivial, fa 12⟩
    · exact x ⟨trivial, fa 16⟩
  · show hdL (ipRaw l) + ((l.take (totN l)).drop (hdN l)).length ≤ 65535
    omega
  · show ¬ frag (mfOf l) (offOf l) (((l.take (totN l)).drop (hdN l)).length : Nat)
    rw [hd]
    rw [show ((totN l - hdN l : Nat) : Int) = (totN l : Int) - hdN l by omega]
    exact h10
/-- written again it is no longer -/
theorem parse_len (hb : Byt l) (h : ipErr l = 0) : (ipSer (ipOf l)).length ≤ l.length := by
  obtain ⟨_, h2, h3⟩ := parse_chk hb h
  obtain ⟨_, _, _, _, _, h6, h7, _⟩ := ipErr_ok h
  rw [ser_len, h3]; omega
/-- is it what is written? -/
def ipCan (l : List Int) : Prop := ipErr l = 0 ∧ l = ipSer (ipOf l)
theorem can_ser {v : IpV} (h : ipChk v = 0) (f : Fit v) : ipCan (ipSer v) := ⟨ser_err h f, (ser_eq h f).ser.symm⟩

/-! ### one hop -/
def hopCk (l : List Int) : Int := 65535 - fd (130814 - W16 l 10)
def ipHop (l : List Int) : List Int := ((l.set 8 (bt l 8 - 1)).set 10 (hopCk l / 256)).set 11 (hopCk l % 256)
theorem hopCk_r (hb : Byt l) : 0 ≤ hopCk l ∧ hopCk l ≤ 65535 := by
  have := W16_r hb 10
  have := fd_range (n := 130814 - W16 l 10) (by omega)
  unfold hopCk; omega
theorem hop_len (l : List Int) : (ipHop l).length = l.length := by simp [ipHop]
theorem hop_byt (hb : Byt l) (ht : 2 ≤ bt l 8) : Byt (ipHop l) := by
  have := hopCk_r hb
  have := hb.bt 8
  exact ((hb.set _ (by omega)).set _ (by omega)).set _ (by omega)
theorem hop_bt (h : 20 ≤ l.length) (i : Nat) : bt (ipHop l) (i : Int) = if i = 11 then hopCk l % 256 else if i = 10 then hopCk l / 256 else if i = 8 then bt l 8 - 1 else bt l (i : Int) := by
  unfold ipHop
  rw [bt_set (by simp; omega), bt_set (by simp; omega), bt_set (by omega)]
theorem hop_bt' (h : 20 ≤ l.length) (i : Nat) (h1 : i ≠ 11) (h2 : i ≠ 10) (h3 : i ≠ 8) : bt (ipHop l) (i : Int) = bt l (i : Int) := by
  rw [hop_bt h, if_neg h1, if_neg h2, if_neg h3]
theorem set_take_drop {l : List Int} {n a b : Nat} {v : Int} (h : n < b) : ((l.set n v).take a).drop b = (l.take a).drop b := by
  rw [List.take_set, List.drop_set_of_lt h]
theorem hop_cut {a b : Nat} (h : 11 < b) : ((ipHop l).take a).drop b = (l.take a).drop b := by
  unfold ipHop
  rw [set_take_drop (by omega), set_take_drop (by omega), set_take_drop (by omega)]
theorem hop_take {a : Nat} : (ipHop l).take a = (((l.take a).set 8 (bt l 8 - 1)).set 10 (hopCk l / 256)).set 11 (hopCk l % 256) := by
  unfold ipHop
  rw [List.take_set, List.take_set, List.take_set]
theorem hop_ws (hb : Byt l) {n : Nat} (hn : 12 ≤ n) (h : n ≤ l.length) : ws true ((ipHop l).take n) = ws true (l.take n) - 256 - W16 l 10 + hopCk l := by
  have e8 : (l.take n)[8]'(by simp; omega) = bt l ((8 : Nat) : Int) := by rw [bt_nat (by omega)]; simp
  have e10 : (l.take n)[10]'(by simp; omega) = bt l ((10 : Nat) : Int) := by rw [bt_nat (by omega)]; simp
  have e11 : (l.take n)[11]'(by simp; omega) = bt l ((11 : Nat) : Int) := by rw [bt_nat (by omega)]; simp
  rw [hop_take, ws_set _ _ _ _ (by simp; omega), ws_set _ _ _ _ (by simp; omega), ws_set _ _ _ _ (by simp; omega)]
  rw [List.getElem_set_ne (by omega), List.getElem_set_ne (by omega), List.getElem_set_ne (by omega)]
  rw [e8, e10, e11]
  rw [wt_even (by omega), wt_even (by omega), wt_even (by omega), wt_even (by omega), wt_odd (by omega), wt_odd (by omega)]
  have := hopCk_r hb
  unfold W16
  rw [show ((8 : Nat) : Int) = 8 from rfl, show ((10 + 1 : Nat) : Int) = ((11 : Nat) : Int) from rfl]
  omega
/-- the document's sum, reckoned anew, is the same -/
theorem hop_anew (hb : Byt l) (h : ipErr l = 0) (ht : 2 ≤ bt l 8) : 65535 - sumOf ((l.set 8 (bt l 8 - 1)).take 10 ++ ((l.set 8 (bt l 8 - 1)).take (hdN l)).drop 12) = hopCk l ∧ sumOf ((ipHop l).take (hdN l)) = 65535 := by
  obtain ⟨_, _, h3, h4, h5, _, _, h8, _⟩ := ipErr_ok h
  have b8 := hb.bt 8
  have w10 := W16_r hb 10
  have b0 := hb.bt 0
  -- the bytes without the sum
  generalize hc : l.set 8 (bt l 8 - 1) = c
  have hcb : Byt c := by rw [← hc]; exact hb.set _ (by omega)
  have hcl : c.length = l.length := by rw [← hc]; simp
  have hcw : ws true (c.take (hdN l)) = ws true (l.take (hdN l)) - 256 := by
    rw [← hc, List.take_set, ws_set _ _ _ _ (by simp; omega)]
    have e8 : (l.take (hdN l))[8]'(by simp; omega) = bt l ((8 : Nat) : Int) := by rw [bt_nat (by omega)]; simp
    rw [e8, wt_even (by omega), wt_even (by omega), show ((8 : Nat) : Int) = 8 from rfl]
    omega
  have split3 : ws true (c.take (hdN l)) = ws true (c.take 10) + W16 c 10 + ws true ((c.take (hdN l)).drop 12) := by
    have e : c.take (hdN l) = c.take 10 ++ (((c.take (hdN l)).drop 10).take 2 ++ (c.take (hdN l)).drop 12) := by
      have e1 : (c.take (hdN l)).drop 12 = ((c.take (hdN l)).drop 10).drop 2 := by rw [List.drop_drop]
      rw [e1, List.take_append_drop]
      have e2 : c.take 10 = (c.take (hdN l)).take 10 := by rw [List.take_take]; congr 1; omega
      rw [e2, List.take_append_drop]
    have e2 : ((c.take (hdN l)).drop 10).take 2 = [bt c ((10 : Nat) : Int), bt c ((11 : Nat) : Int)] := by
      refine List.ext_getElem (by simp; omega) fun i h1 h2 => ?_
      simp at h2
      rcases (by omega : i = 0 ∨ i = 1) with rfl | rfl
      · simp only [List.getElem_take, List.getElem_drop, List.getElem_cons_zero]
        rw [bt_nat (by omega)]
      · simp only [List.getElem_take, List.getElem_drop, List.getElem_cons_succ, List.getElem_cons_zero]
        rw [bt_nat (by omega)]
    rw [e, ws_app, ws_app, e2]
    have p1 : par true (c.take 10).length = true := by unfold par; rw [if_pos (by simp; omega)]
    rw [p1]
    have e5 : (c.take 10 ++ ([bt c ((10 : Nat) : Int), bt c ((11 : Nat) : Int)] ++ (c.take (hdN l)).drop 12)).drop 12 = (c.take (hdN l)).drop 12 := by
      have hl10 : (c.take 10).length = 10 := by simp; omega
      rw [List.drop_append, List.drop_of_length_le (by omega), hl10]
      simp
    rw [e5]
    simp [ws, par, W16]
    omega
  have hcW : W16 c 10 = W16 l 10 := by
    unfold W16
    rw [← hc, bt_set (by omega), bt_set (by omega), if_neg (by omega), if_neg (by omega)]
  have hA : Byt (c.take 10 ++ (c.take (hdN l)).drop 12) := (hcb.take _).app ((hcb.take _).drop _)
  have hwA : ws true (c.take 10 ++ (c.take (hdN l)).drop 12) = ws true (c.take 10) + ws true ((c.take (hdN l)).drop 12) := by
    rw [ws_app]
    have p1 : par true (c.take 10).length = true := by unfold par; rw [if_pos (by simp; omega)]
    rw [p1]
  have hwl := ws_nonneg true (hb.take (hdN l))
  have hwA0 := ws_nonneg true hA
  -- not all are 0
  have hpos : ws true (c.take 10 ++ (c.take (hdN l)).drop 12) ≠ 0 := fun e => by
    have := (ws_zero true hA).1 e (bt l 0) (by
      refine List.mem_append.2 (.inl ?_)
      have : (c.take 10)[0]'(by simp; omega) = bt l ((0 : Nat) : Int) := by
        rw [List.getElem_take, ← bt_nat (by omega), ← hc, bt_set (by omega), if_neg (by omega)]
      have h2 := List.getElem_mem (l := c.take 10) (n := 0) (by simp; omega)
      rw [this] at h2
      exact h2)
    omega
  unfold sumOf at h8
  rw [fd_most hwl.1] at h8
  have hck : fd (130814 - W16 l 10) = fd (ws true (c.take 10 ++ (c.take (hdN l)).drop 12)) := by
    refine fd_eq (by omega) hwA0.1 ?_ (by omega)
    omega
  have hr := fd_range hwA0.1
  have e1 : 65535 - sumOf (c.take 10 ++ (c.take (hdN l)).drop 12) = hopCk l := by
    unfold sumOf hopCk
    rw [hck]
  refine ⟨e1, ?_⟩
  have hw2 := hop_ws hb (n := hdN l) (by omega) h5
  have hkr := hopCk_r hb
  unfold sumOf
  rw [hw2, fd_most (by omega)]
  unfold hopCk at *
  rw [hck]
  unfold fd
  split <;> omega
/-- one hop, and it reads as it was, but for the hops -/
theorem hop_ok (hb : Byt l) (h : ipErr l = 0) (ht : 2 ≤ bt l 8) : ipErr (ipHop l) = 0 ∧ ipOf (ipHop l) = { ipOf l with ttl := (ipOf l).ttl - 1 } := by
  obtain ⟨h1, h2, h3, h4, h5, h6, h7, h8, h9, h10⟩ := ipErr_ok h
  have hl := hop_len l
  have g : ∀ i : Nat, i ≠ 11 → i ≠ 10 → i ≠ 8 → bt (ipHop l) (i : Int) = bt l (i : Int) := fun i => hop_bt' h2 i
  have g0 : bt (ipHop l) 0 = bt l 0 := g 0 (by omega) (by omega) (by omega)
  have e1 : hdN (ipHop l) = hdN l := by unfold hdN; rw [g0]
  have e2 : totN (ipHop l) = totN l := by unfold totN W16; rw [g 2 (by omega) (by omega) (by omega), g 3 (by omega) (by omega) (by omega)]
  have g6 : bt (ipHop l) 6 = bt l 6 := g 6 (by omega) (by omega) (by omega)
  have g7 : bt (ipHop l) 7 = bt l 7 := g 7 (by omega) (by omega) (by omega)
  have e3 : mfOf (ipHop l) = mfOf l := by unfold mfOf; rw [g6]
  have e4 : offOf (ipHop l) = offOf l := by unfold offOf; rw [g6, g7]
  have e5 : dfOf (ipHop l) = dfOf l := by unfold dfOf; rw [g6]
  have e6 : obL (ipHop l) = obL l := by unfold obL; rw [e1]; exact hop_cut (by omega)
  have e7 : psOf (ipHop l) = psOf l := by unfold psOf; rw [e6]
  have k : ipErr (ipHop l) = 0 := ipErr_mk (by omega) (by omega) (by rw [g0]; omega) (by omega) (by omega) (by omega) (by omega) (by rw [e1]; exact (hop_anew hb h ht).2) (by rw [e6, h9]; simp) (by rw [e3, e4, e1, e2]; exact h10)
  refine ⟨k, ?_⟩
  rw [ipOf_ok h, ipOf_ok k]
  unfold ipRaw
  rw [e3, e4, e5, e6, e7, e1, e2, hop_cut (by omega)]
  have ga : ∀ o, 12 ≤ o → adrAt (ipHop l) o = adrAt l o := fun o ho => by
    funext i
    unfold adrAt
    split
    · exact g _ (by omega) (by omega) (by omega)
    · rfl
  have g8 := hop_bt h2 8
  have g9 : bt (ipHop l) 9 = bt l 9 := g 9 (by omega) (by omega) (by omega)
  have g1 : bt (ipHop l) 1 = bt l 1 := g 1 (by omega) (by omega) (by omega)
  have gw : W16 (ipHop l) 4 = W16 l 4 := by unfold W16; rw [g 4 (by omega) (by omega) (by omega), g 5 (by omega) (by omega) (by omega)]
  rw [if_neg (by omega), if_neg (by omega), if_pos rfl] at g8
  have g8' : bt (ipHop l) 8 = bt l 8 - 1 := g8
  rw [ga 12 (by omega), ga 16 (by omega), g9, g1, gw, g8']
end
end Go.Vc
