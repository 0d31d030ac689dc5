import Derived.Test.YtmchllbemgnieaaDoorG7
import Derived.Test.YtmchllbemgnieaaDoorG6
import Derived.Test.YtmchllbemgnieaaDoorG5
import Derived.Recover
section
namespace Go.Vc
set_option linter.unusedVariables false
set_option linter.unusedSimpArgs false
set_option autoImplicit false
/-- bytes as a string -/
def baOf (l : List Int) : ByteArray := ⟨(l.map fun x => UInt8.ofNat x.toNat).toArray⟩
theorem baOf_list (l : List Int) : (baOf l).data.toList = l.map fun x => UInt8.ofNat x.toNat := rfl
theorem strOf {w : World} {s : Sl} {l : List Int} {F : ByteArray → Prop} (h : SeesB w s l) (hb : Byt l) (k : F (baOf l)) : BytesStr w s F := by
  refine ⟨(l.map fun (x : Int) => UInt8.ofNat x.toNat), by rw [List.length_map, h.len], fun hn => ?_, fun i hi => ?_, k⟩
  · by_cases hl : 0 < l.length
    · have := h.isSome (by decide) hl
      rw [hn] at this; cases this
    · rw [List.length_eq_zero_iff.1 (show l.length = 0 by omega)]; rfl
  · rw [List.length_map] at hi
    rw [byteC h i hi, bt_nat hi, List.getElem_map]
    have := hb l[i] (List.getElem_mem hi)
    congr 2
    rw [UInt8.toNat_ofNat', Nat.mod_eq_of_lt (by omega)]
    omega
theorem baOf_back {l : List Int} (hb : Byt l) : (baOf l).data.toList.map (fun u => ((u.toNat : Nat) : Int)) = l := by
  simp only [baOf, List.map_map]
  refine (List.map_congr_left fun x hx => ?_).trans (List.map_id l)
  have := hb x hx
  simp only [Function.comp, UInt8.toNat_ofNat', id]
  rw [Nat.mod_eq_of_lt (by omega)]
  omega
theorem baOf_eq {l m : List Int} (hl : Byt l) (hm : Byt m) : (baOf l == baOf m) = decide (l = m) := by
  by_cases h : l = m
  · subst h
    rw [decide_eq_true rfl]
    show (baOf l).data == (baOf l).data
    simp
  · have eb : ∀ a b : ByteArray, (a == b) = (a.data == b.data) := fun a b => by cases a; cases b; rfl
    rw [decide_eq_false h, eb, beq_eq_false_iff_ne]
    intro e
    apply h
    rw [← baOf_back hl, ← baOf_back hm, e]
theorem alike {w : World} {a b : Sl} {la lb : List Int} {R : Bool → Prop} (ha : SeesB w a la) (hb : SeesB w b lb) (ba : Byt la) (bb : Byt lb) (k : R (decide (la = lb))) :
    BytesStr w a fun x => BytesStr w b fun y => R (x == y) := by
  refine strOf ha ba (strOf hb bb ?_)
  rw [baOf_eq ba bb]
  exact k
end Go.Vc
end

section
namespace Go.Vc
set_option linter.unusedVariables false
set_option linter.unusedSimpArgs false
set_option autoImplicit false
section
variable {e : Ends} {t : TcV} {l : List Int}
theorem tcChk_ok (h : tcChk t = 0) : (0 ≤ t.sp ∧ t.sp ≤ 65535) ∧ (0 ≤ t.dp ∧ t.dp ≤ 65535) ∧ (0 ≤ t.win ∧ t.win ≤ 65535) ∧ (0 ≤ t.urg ∧ t.urg ≤ 65535) ∧ (0 ≤ t.seq ∧ t.seq ≤ 4294967295) ∧ (0 ≤ t.ack ∧ t.ack ≤ 4294967295) ∧ (0 ≤ t.fl ∧ t.fl ≤ 255) ∧ putOk9 t.opts ∧ thL t + t.data.length ≤ 65535 := by
  unfold tcChk at h
  split at h; · cases h
  split at h; · cases h
  split at h; · cases h
  rename_i h1 h2 h3
  unfold badT outN9 at h1
  exact ⟨by omega, by omega, by omega, by omega, by omega, by omega, by omega, Classical.not_not.1 h2, by unfold thL; omega⟩
theorem tcPE_ok (h : tcPE e t = 0) : e.fit ∧ tcChk t = 0 := by
  unfold tcPE at h
  split at h; · cases h
  rename_i h1
  exact ⟨Classical.not_not.1 h1, h⟩
theorem tcHead_len (t : TcV) (c : Int) : (tcHead t c).length = thL t := by simp [tcHead, thL]; omega
theorem tcSer_len (e : Ends) (t : TcV) : (tcSer e t).length = thL t + t.data.length := by unfold tcSer; rw [List.length_append, tcHead_len]
theorem thL_r (h : putOk9 t.opts) : 20 ≤ thL t ∧ thL t ≤ 60 ∧ thL t % 4 = 0 := by
  have := putO_len h.1
  unfold thL; omega
theorem tcHead_byt (h : tcChk t = 0) (f : TFit t) (c : Int) : Byt (tcHead t c) := by
  obtain ⟨h1, h2, h3, h4, h5, h6, h7, h8, h9⟩ := tcChk_ok h
  have := thL_r h8
  have hp := putO_byt f.opts
  intro x hx
  simp only [tcHead, List.mem_cons] at hx
  rcases hx with rfl | rfl | rfl | rfl | rfl | rfl | rfl | rfl | rfl | rfl | rfl | rfl | rfl | rfl | rfl | rfl | rfl | rfl | rfl | rfl | hx
  all_goals first | omega | exact hp x hx
theorem ws_tcHead (t : TcV) {c : Int} (h0 : 0 ≤ c) (h1 : c ≤ 65535) : ws true (tcHead t c) = ws true (tcHead t 0) + c := by
  simp only [tcHead, ws]
  simp
  omega
theorem tcSer_byt (h : tcChk t = 0) (f : TFit t) : Byt (tcSer e t) := (tcHead_byt h f _).app f.data
theorem tcCk_r (o : e.Ok) (h : tcChk t = 0) (f : TFit t) : 0 ≤ tcCk e t ∧ tcCk e t ≤ 65534 ∧ psum e 6 (tcSer e t) = 65535 := by
  have h8 := (tcChk_ok h).2.2.2.2.2.2.2.1
  have hr := thL_r h8
  have hb : Byt (tcHead t 0 ++ t.data) := (tcHead_byt h f 0).app f.data
  have hpos := psB_pos o (p := 6) (n := ((tcHead t 0 ++ t.data).length : Int)) (by omega) hb
  have h1 := psum_r o (p := 6) hb
  have hz : psum e 6 (tcHead t 0 ++ t.data) ≠ 0 := fun e0 => by
    unfold psum sumOf at e0
    have := (fd_zero (by omega)).1 e0
    omega
  have e1 : tcCk e t = 65535 - psum e 6 (tcHead t 0 ++ t.data) := rfl
  refine ⟨by omega, by omega, ?_⟩
  have hl : (tcSer e t).length = (tcHead t 0 ++ t.data).length := by simp [tcSer, tcHead_len]
  have e2 : ws true (psB e 6 ((tcSer e t).length : Int) ++ tcSer e t) = ws true (psB e 6 ((tcHead t 0 ++ t.data).length : Int) ++ (tcHead t 0 ++ t.data)) + tcCk e t := by
    rw [hl, ws_ps, ws_ps]
    unfold tcSer
    rw [ws_app8 (by rw [tcHead_len]; omega), ws_app8 (by rw [tcHead_len]; omega), ws_tcHead t (by omega) (by omega)]
    omega
  unfold psum sumOf at e1 h1 ⊢
  rw [e2]
  generalize ws true (psB e 6 ((tcHead t 0 ++ t.data).length : Int) ++ (tcHead t 0 ++ t.data)) = W at *
  rw [fd_most (by omega)]
  unfold fd at e1
  split at e1 <;> omega
theorem tc_bts (t : TcV) (c : Int) (d : List Int) (l : List Int) (hl : l = tcHead t c ++ d) :
    W16 l 0 = t.sp / 256 % 256 * 256 + t.sp % 256 ∧ W16 l 2 = t.dp / 256 % 256 * 256 + t.dp % 256 ∧ W16 l 4 = t.seq / 16777216 % 256 * 256 + t.seq / 65536 % 256 ∧ W16 l 6 = t.seq / 256 % 256 * 256 + t.seq % 256 ∧
    W16 l 8 = t.ack / 16777216 % 256 * 256 + t.ack / 65536 % 256 ∧ W16 l 10 = t.ack / 256 % 256 * 256 + t.ack % 256 ∧ bt l 12 = (thL t : Int) / 4 * 16 ∧ bt l 13 = t.fl ∧ W16 l 14 = t.win / 256 % 256 * 256 + t.win % 256 ∧
    W16 l 16 = c / 256 % 256 * 256 + c % 256 ∧ W16 l 18 = t.urg / 256 % 256 * 256 + t.urg % 256 := by
  subst hl
  exact ⟨rfl, rfl, rfl, rfl, rfl, rfl, rfl, rfl, rfl, rfl, rfl⟩
theorem tcSer_hd (h : tcChk t = 0) : tcHd (tcSer e t) = thL t := by
  have hr := thL_r (tcChk_ok h).2.2.2.2.2.2.2.1
  obtain ⟨_, _, _, _, _, _, b12, _⟩ := tc_bts t (tcCk e t) t.data _ (rfl : tcSer e t = _)
  unfold tcHd
  rw [b12]; omega
theorem tcSer_take (h : tcChk t = 0) : (tcSer e t).take (thL t) = tcHead t (tcCk e t) ∧ (tcSer e t).drop (thL t) = t.data ∧ tob (tcSer e t) = putO t.opts := by
  have e1 : (tcSer e t).take (thL t) = tcHead t (tcCk e t) := by unfold tcSer; rw [← tcHead_len t (tcCk e t), List.take_left]
  refine ⟨e1, by unfold tcSer; rw [← tcHead_len t (tcCk e t), List.drop_left], ?_⟩
  unfold tob
  rw [tcSer_hd h, e1]
  rfl
theorem tc_back (o : e.Ok) (f : TFit t) (h : tcPE e t = 0) : tcErr e (tcSer e t) = 0 ∧ tcOf e (tcSer e t) = t := by
  obtain ⟨hf, hc⟩ := tcPE_ok h
  obtain ⟨h1, h2, h3, h4, h5, h6, h7, h8, h9⟩ := tcChk_ok hc
  have hr := thL_r h8
  have hl := tcSer_len e t
  have hh := tcSer_hd (e := e) hc
  obtain ⟨t1, t2, t3⟩ := tcSer_take (e := e) hc
  obtain ⟨ps, q1, q2⟩ := optsP_put (ok := ok9) h8.1 h8.2
  obtain ⟨b0, b2, b4, b6, b8, b10, b12, b13, b14, b16, b18⟩ := tc_bts t (tcCk e t) t.data _ (rfl : tcSer e t = _)
  have he : tcErr e (tcSer e t) = 0 := by
    unfold tcErr
    rw [if_neg (by omega), if_neg (Classical.not_not.2 hf), if_neg (by omega), if_neg (by omega), if_neg (by rw [(tcCk_r o hc f).2.2]; decide), if_neg (by rw [t3, q1]; simp)]
  refine ⟨he, ?_⟩
  unfold tcOf
  rw [if_pos he]
  have e1 : W16 (tcSer e t) 0 = t.sp := by rw [b0]; omega
  have e2 : W16 (tcSer e t) 2 = t.dp := by rw [b2]; omega
  have e3 : W32 (tcSer e t) 4 = t.seq := by unfold W32; rw [b4, b6]; omega
  have e4 : W32 (tcSer e t) 8 = t.ack := by unfold W32; rw [b8, b10]; omega
  have e5 : W16 (tcSer e t) 14 = t.win := by rw [b14]; omega
  have e6 : W16 (tcSer e t) 18 = t.urg := by rw [b18]; omega
  have e7 : (tps (tcSer e t)).map (optAt (tob (tcSer e t))) = t.opts := by unfold tps; rw [t3, q1]; exact q2
  have e8 : (tcSer e t).drop (tcHd (tcSer e t)) = t.data := by rw [hh]; exact t2
  unfold tcRaw
  rw [e1, e2, e3, e4, e5, e6, e7, e8, b13]
theorem tcErr_ok (h : tcErr e l = 0) : l.length ≤ 65535 ∧ e.fit ∧ 20 ≤ tcHd l ∧ tcHd l ≤ l.length ∧ psum e 6 l = 65535 ∧ optsP ok9 (tob l) = some (tps l) := by
  unfold tcErr at h
  split at h; · cases h
  split at h; · cases h
  split at h; · cases h
  split at h; · cases h
  split at h; · cases h
  split at h; · cases h
  rename_i h1 h2 h3 h4 h5 h6
  refine ⟨by omega, Classical.not_not.1 h2, by omega, by omega, Classical.not_not.1 h5, ?_⟩
  unfold tps
  cases ee : optsP ok9 (tob l) with
  | none => exact absurd ee h6
  | some x => rfl
theorem tob_byt (h : Byt l) : Byt (tob l) := (h.take _).drop _
theorem tob_len (h : tcHd l ≤ l.length) : (tob l).length = tcHd l - 20 := by simp [tob]; omega
theorem tcHd_4 (l : List Int) : tcHd l % 4 = 0 := by unfold tcHd; omega
theorem tcHd_le (hb : Byt l) : tcHd l ≤ 60 := by have := hb.bt 12; unfold tcHd; omega
theorem W32_r (hb : Byt l) (i : Nat) : 0 ≤ W32 l i ∧ W32 l i ≤ 4294967295 := by
  have := W16_r hb i
  have := W16_r hb (i + 2)
  unfold W32; omega
theorem tcOf_fit (hb : Byt l) : TFit (tcOf e l) := by
  unfold tcOf
  split
  · refine ⟨fun o ho => ?_, hb.drop _⟩
    obtain ⟨p, _, rfl⟩ := List.mem_map.1 ho
    exact ((tob_byt hb).take _).drop _
  · exact ⟨by simp [tcZ], by simp [tcZ, Byt]⟩
theorem tps_ok9 (hb : Byt l) (h : optsP ok9 (tob l) = some (tps l)) : ∀ o ∈ (tps l).map (optAt (tob l)), ok9 o.kind ((2 + o.data.length : Nat) : Int) = true := by
  intro o ho
  obtain ⟨p, hp, rfl⟩ := List.mem_map.1 ho
  have hpl := (optsP_places ok9_two (tob_byt hb) h).1 p hp
  unfold optsP at h
  split at h
  · cases h
  have := opos_ok ok9_two _ _ _ _ (by simp) h p hp
  have e1 : (optAt (tob l) p).data.length = p.2 - (p.1 + 2) := by simp [optAt]; omega
  rw [e1, show 2 + (p.2 - (p.1 + 2)) = p.2 - p.1 by omega]
  exact this
theorem tc_form (hb : Byt l) (h : tcErr e l = 0) : tcPE e (tcOf e l) = 0 ∧ (tcSer e (tcOf e l)).length ≤ l.length := by
  obtain ⟨h1, h2, h3, h4, h5, h6⟩ := tcErr_ok h
  have ho1 := (optsP_ok ok9_two (tob_byt hb) h6).1
  have h44 := tcHd_4 l
  have hol := tob_len h4
  have ho3 := putO_le ok9_two (tob_byt hb) (by omega) h6
  have r0 := W16_r hb 0
  have r2 := W16_r hb 2
  have r4 := W32_r hb 4
  have r8 := W32_r hb 8
  have r13 := hb.bt 13
  have r14 := W16_r hb 14
  have r18 := W16_r hb 18
  have hd : (l.drop (tcHd l)).length = l.length - tcHd l := by simp
  unfold tcOf
  rw [if_pos h]
  have hthl : thL (tcRaw l) ≤ tcHd l := by
    show 20 + (putO ((tps l).map (optAt (tob l)))).length ≤ tcHd l
    omega
  constructor
  · unfold tcPE
    rw [if_neg (Classical.not_not.2 h2)]
    unfold tcChk
    rw [if_neg, if_neg, if_neg]
    · show ¬ 65535 < 20 + (putO ((tps l).map (optAt (tob l)))).length + (l.drop (tcHd l)).length
      omega
    · exact fun x => x ⟨ho1, tps_ok9 hb h6⟩
    · unfold badT outN9 tcRaw
      simp only
      omega
  · rw [tcSer_len]
    show thL (tcRaw l) + (l.drop (tcHd l)).length ≤ l.length
    omega
end
end Go.Vc
end

section
open Go Go.Vc Go.Proofs
set_option linter.unusedVariables false
set_option linter.unusedSimpArgs false
set_option autoImplicit false
namespace Go.Vc.S9
def lens9 : List Int := [0, 0, 16, 8, 4, 17247241216, 0, 0, 1024]
/-- the table of lengths stands -/
def Lens (w : World) : Prop := ∀ i (h : i < lens9.length), w.cell? ⟨2, i, none⟩ = some (.int .u64 lens9[i])
theorem Lens.old {w w1 : World} {n : List Nat} (h : Lens w) (u : Upd [] n w w1) : Lens w1 := fun i hi => u.cell (h i hi) (by simp)
theorem lens_ok : ∀ k : Fin 9, ∀ n : Fin 64, 2 ≤ n.val → lens9.getD k.val 0 ≠ 0 → (iand .u64 (gshr .u64 (lens9.getD k.val 0) (n.val : Int)) 1 == 1) = ok9 (k.val : Int) (n.val : Int) := by decide +kernel
theorem lens_no : ∀ k : Fin 9, ∀ n : Fin 64, 2 ≤ n.val → lens9.getD k.val 0 = 0 → ok9 (k.val : Int) (n.val : Int) = true := by decide +kernel
theorem c78 {kd n : Int} {w : World} {R : SV → World → Prop} (hg : Lens w) (h0 : 0 ≤ kd) (h1 : 2 ≤ n) (h2 : n < 64) (k : R (.bool (ok9 kd n)) w) : Ret Tryd.prog 78 [.int .i64 kd, .int .i64 n] w R := by
  refine f78_of _ _ _ _ ?_
  unfold vc78
  refine brd (fun h => ?_) (fun h => ?_)
  · have : ok9 kd n = true := by
      unfold ok9
      rw [decide_eq_true h1, if_neg (by omega), if_neg (by omega), if_neg (by omega), if_neg (by omega), if_neg (by omega)]; rfl
    rw [this] at k; exact k
  have hi : kd.toNat < lens9.length := by show kd.toNat < 9; omega
  have hc := hg kd.toNat hi
  rw [show (⟨2, kd.toNat, none⟩ : Addr) = Addr.add ⟨2, 0, none⟩ (Int.toNat kd * 1) by rw [add_none]; simp] at hc
  have ek : kd = ((⟨kd.toNat, by omega⟩ : Fin 9).val : Int) := by simp; omega
  have en : n = ((⟨n.toNat, by omega⟩ : Fin 64).val : Int) := by simp; omega
  have eg : lens9[kd.toNat] = lens9.getD (⟨kd.toNat, by omega⟩ : Fin 9).val 0 := by simp [List.getD_eq_getElem?_getD, List.getElem?_eq_getElem hi]
  have k1 := lens_ok ⟨kd.toNat, by omega⟩ ⟨n.toNat, by omega⟩ (by simp; omega)
  have k2 := lens_no ⟨kd.toNat, by omega⟩ ⟨n.toNat, by omega⟩ (by simp; omega)
  rw [← ek, ← en, ← eg] at k1 k2
  have ew : wr .u64 n = n := wr_u64 (by omega) (by omega)
  refine needIx2 h0 (by omega) ⟨_, hc, bre (fun h3 => ?_) (fun h3 => needIx2 h0 (by omega) ⟨_, hc, need (by rw [ew]; simp; omega) ?_⟩)⟩
  · rw [k2 h3] at k; exact k
  · rw [ew, k1 h3]; exact k
theorem c86 {kd n : Int} {w : World} {R : SV → World → Prop} (k : R (.bool (ok9 kd n)) w) : Ret Tryd.prog 86 [.int .i64 kd, .int .i64 n] w R := by
  refine f86_of _ _ _ _ ?_
  unfold vc86
  have fin : ∀ x, ok9 kd n = x → R (.bool x) w := fun x hx => hx ▸ k
  unfold ok9 at fin
  refine bre (fun h => fin _ ?_) (fun h => ?_)
  · rw [if_pos h, Bool.eq_iff_iff]; simp; omega
  rw [if_neg h] at fin
  refine bre (fun h => fin _ ?_) (fun h => ?_)
  · rw [if_pos h, Bool.eq_iff_iff]; simp; omega
  rw [if_neg h] at fin
  refine bre (fun h => fin _ ?_) (fun h => ?_)
  · rw [if_pos h, Bool.eq_iff_iff]; simp; omega
  rw [if_neg h] at fin
  refine bre (fun h => ?_) (fun h => ?_)
  · rw [if_pos h] at fin
    refine bre (fun g => fin _ (by rw [Bool.eq_iff_iff]; simp; omega)) (fun g1 => bre (fun g => fin _ (by rw [Bool.eq_iff_iff]; simp; omega)) (fun g2 => bre (fun g => fin _ (by rw [Bool.eq_iff_iff]; simp; omega)) (fun g3 => fin _ (by rw [Bool.eq_iff_iff]; simp; omega))))
  rw [if_neg h] at fin
  refine bre (fun h => fin _ ?_) (fun h => fin _ ?_)
  · rw [if_pos h, Bool.eq_iff_iff]; simp; omega
  · rw [if_neg h, Bool.eq_iff_iff]; simp
end Go.Vc.S9
end

section
open Go Go.Vc Go.Proofs
set_option linter.unusedVariables false
set_option linter.unusedSimpArgs false
set_option autoImplicit false
namespace Go.Vc.S9

theorem c30 {a b : Sl} {la lb : List Int} {w : World} {R : SV → World → Prop} (ha : SeesB w a la) (hb : SeesB w b lb) (ba : Byt la) (bb : Byt lb) (k : R (.bool (decide (la = lb))) w) : Ret Tryd.prog 30 [.slice a, .slice b] w R := by
  refine f30_of _ _ _ _ ?_
  unfold vc30
  exact alike (R := fun x => R (.bool x) w) ha hb ba bb k

theorem c40 {b : Sl} {l : List Int} {w : World} {R : SV → World → Prop} (h : SeesB w b l) (hl : l.length ≤ 140737488355328) (k : ∀ s w1, Upd [] [] w w1 → SeesB w1 s l → Own w.heap.size 1 w1 s → R (.slice s) w1) : Ret Tryd.prog 40 [.slice b] w R := by
  refine f40_of _ _ _ ?_
  unfold vc40
  refine append_own (c := cU8) (l := []) (Sees.nil _ _ _ _) (Own.none w.heap.size _ _) h (Nat.le_refl _) (by simp) (by decide) (by simpa using hl) fun r w1 hr ho u _ => ?_
  exact k r w1 (by simpa [Sl.blk] using u) (by simpa using hr) ho

/-- are they the same options? -/
theorem c47 {a b : Sl} {la lb : List Opt} {oa ob : List (Int × Sl)} {w : World} {R : SV → World → Prop} (ha : Opts w a la oa) (hb : Opts w b lb ob) (ba : ∀ o ∈ la, Byt o.data) (bb : ∀ o ∈ lb, Byt o.data) (hl : la.length < 9223372036854775807)
    (k : ∀ w1, Upd [] [] w w1 → R (.bool (decide (la = lb))) w1) : Ret Tryd.prog 47 [.slice a, .slice b] w R := by
  refine f47_of _ _ _ _ ?_
  unfold vc47
  have hal := ha.slen
  have hbl := hb.slen
  refine bre' (fun hne => ?_) (fun heq => ?_)
  · have : la ≠ lb := fun e => hne (by rw [hal, hbl, e])
    rw [decide_eq_false this] at k
    exact k _ (Upd.refl w)
  · have hll : la.length = lb.length := by omega
    refine ⟨fun i w1 => Upd [] [] w w1 ∧ ∃ q : Nat, i = q ∧ q ≤ la.length ∧ ∀ j (h : j < q) (h1 : j < la.length) (h2 : j < lb.length), la[j] = lb[j], fun i _ => (la.length - i).toNat, ⟨Upd.refl w, 0, rfl, by omega, fun j h => by omega⟩, ?_⟩
    rintro i w1 ⟨u, q, rfl, hq, he⟩
    have ha1 := ha.old u
    have hb1 := hb.old u
    refine brd (fun hlt => ?_) (fun hge => ?_)
    · intro J hJ
      have g1 : q < la.length := by omega
      have g2 : q < lb.length := by omega
      obtain ⟨a1, a2, a3, a4⟩ := ha1.get q g1
      obtain ⟨b1, b2, b3, b4⟩ := hb1.get q g2
      refine needO ha1 (by omega) (by omega) ⟨_, (by rw [Int.toNat_natCast]; exact a2), needO hb1 (by omega) (by omega) ⟨_, (by rw [Int.toNat_natCast]; exact b2), fun w2 u2 => ?_⟩⟩
      refine c30 (a3.old u2) (b3.old u2) (ba _ (List.getElem_mem g1)) (bb _ (List.getElem_mem g2)) ⟨_, rfl, ?_⟩
      have a1' := ((ha1.old u2).get q g1).1
      have b1' := ((hb1.old u2).get q g2).1
      have v2 := u.then u2
      refine needO (ha1.old u2) (by omega) (by omega) ⟨_, (by rw [Int.toNat_natCast]; exact a1'), needO (hb1.old u2) (by omega) (by omega) ⟨_, (by rw [Int.toNat_natCast]; exact b1'), ?_⟩⟩
      have bad : la[q] ≠ lb[q] → ∀ w3, Upd [] [] w2 w3 → R (.bool false) w3 := fun hne w3 u3 => by
        have : la ≠ lb := fun e => hne (by subst e; rfl)
        rw [decide_eq_false this] at k
        exact k _ (v2.then u3)
      refine bre' (fun hk => bad (fun e => hk (by rw [e]))) (fun hk => brn (fun hd => bad (fun e => by rw [e] at hd; simp at hd)) (fun hd => fun w3 u3 => hJ _ ⟨⟨v2.then u3, q + 1, wr_succ (by omega), by omega, fun j h h1 h2 => ?_⟩, by rw [wr_succ (q := q) (by omega)]; (try dsimp only); omega⟩))
      by_cases e : j = q
      · subst e
        have hd' : la[j].data = lb[j].data := of_decide_eq_true hd
        have e1 : la[j] = ⟨la[j].kind, la[j].data⟩ := rfl
        rw [e1, hk, hd']
      · exact he j (by omega) h1 h2
    · have : la = lb := List.ext_getElem hll fun j h1 h2 => he j (by omega) h1 h2
      rw [decide_eq_true this] at k
      exact k _ u

theorem optRow {w : World} {b e n cap : Nat} {f : Nat × Nat} {cs : List Value} {x : Int} {s : Sl} (h : w.heap[b]? = some (.cells cs.toArray e f)) (hc : cs = [.int .i64 x, s.val]) (hn : n = 1) : Sees cOpt w ⟨some ⟨b, 0, none⟩, n, cap⟩ [(x, s)] :=
  sees_row h [(x, s)] hc hn

/-- options in new memory -/
theorem c80 {a : Sl} {l : List Opt} {os : List (Int × Sl)} {w : World} {R : SV → World → Prop} (h : Opts w a l os) (hl : l.length ≤ 4398046511104) (hd : ∀ o ∈ l, o.data.length ≤ 140737488355328)
    (k : ∀ s os w1, Upd [] [] w w1 → Opts w1 s l os → Own w.heap.size 2 w1 s → (∀ x ∈ os, Own w.heap.size 1 w1 x.2) → os.Pairwise (fun x y => Apt x.2 y.2) → (∀ x ∈ os, ∀ b ∈ x.2.blk, b ∉ s.blk) → R (.slice s) w1) : Ret Tryd.prog 80 [.slice a] w R := by
  refine f80_of _ _ _ ?_
  unfold vc80
  have hal := h.slen
  refine ⟨fun s i w1 => Upd [] [] w w1 ∧ Own w.heap.size 2 w1 s ∧ ∃ (q : Nat) (os : List (Int × Sl)), i = q ∧ q ≤ l.length ∧ Opts w1 s (l.take q) os ∧ (∀ x ∈ os, Own w.heap.size 1 w1 x.2) ∧ (∀ x ∈ os, ∀ b ∈ x.2.blk, b ∉ s.blk) ∧ os.Pairwise (fun x y => Apt x.2 y.2), fun _ i _ => (l.length - i).toNat,
    ⟨Upd.refl w, Own.none _ _ _, 0, [], rfl, by omega, Opts.nil _ _ _, by simp, by simp, by simp⟩, ?_⟩
  rintro s i w1 ⟨u, o, q, os', rfl, hq, ho, hos, hap, hpw⟩
  have h1 := h.old u
  refine brd (fun hlt => ?_) (fun hge => ?_)
  · have hq2 : q < l.length := by omega
    obtain ⟨g1, g2, g3, g4⟩ := h1.get q hq2
    refine needO h1 (by omega) (by omega) ⟨_, (by rw [Int.toNat_natCast]; exact g1), needO h1 (by omega) (by omega) ⟨_, (by rw [Int.toNat_natCast]; exact g2), fun w2 u2 => ?_⟩⟩
    refine c40 (g3.old u2) (hd _ (List.getElem_mem hq2)) fun d w3 u3 hs3 ho3 => ⟨_, rfl, u2.then u3, ?_⟩
    have v3 := (u.then u2).then u3
    intro b w4 u4 hr4
    have v4 := v3.then u4
    have y2 := u2.size; have y3 := u3.size; have y4 := u4.size
    have o4 := ((o.old u2).old u3).old u4
    have hO4 := ((ho.old u2).old u3).old u4
    refine append_own (c := cOpt) (new := [(l[q].kind, d)]) hO4.row o4 (optRow hr4 rfl rfl) v4.size (by simp) (by decide) (by simp [hO4.len]; omega) fun r w5 hr ho5 u5 hn => ?_
    have dis : ∀ x ∈ d.blk, x ∉ s.blk := fun x hx hm => by have := (ho3.blk x hx).1; have := (o.blk x hm).2; omega
    have hd5 := (hs3.old u4).upd u5 dis
    have hOs := Opts.snoc (o := l[q]) hO4 hr hd5 (fun j h2 => (hO4.each j h2).upd u5 (hap _ (List.getElem_mem _)))
    refine ⟨⟨v4.step0 u5 (fun x hx => (o.blk x hx).1), ho5, q + 1, os' ++ [(l[q].kind, d)], wr_succ (by omega), by omega, by rw [take_snoc hq2]; exact hOs, ?_, ?_, ?_⟩, by rw [wr_succ (q := q) (by omega)]; (try dsimp only); omega⟩
    · intro x hx
      rcases List.mem_append.1 hx with hx | hx
      · exact ((((hos x hx).old u2).old u3).old u4).upd u5 (hap x hx)
      · rw [List.mem_singleton] at hx
        subst hx
        exact ((ho3.old u4).upd u5 dis).mono (by have := u.size; omega)
    · intro x hx b' hb' hm
      rcases List.mem_append.1 hx with hx | hx
      · rcases hn b' hm with h' | h'
        · exact hap x hx b' hb' h'
        · have := ((hos x hx).blk b' hb').2; omega
      · rw [List.mem_singleton] at hx
        subst hx
        rcases hn b' hm with h' | h'
        · exact dis b' hb' h'
        · have := (ho3.blk b' hb').2; omega
    · rw [List.pairwise_append]
      refine ⟨hpw, by simp, fun x hx y hy b hb hm => ?_⟩
      rw [List.mem_singleton] at hy
      subst hy
      have := ((hos x hx).blk b hb).2
      have := (ho3.blk b hm).1
      omega
  · have : q = l.length := by omega
    subst this
    rw [List.take_length] at ho
    exact k s os' w1 u ho o hos hpw hap

/-- what PutOptions answers -/
def putL (l : List Opt) : List Int := if putOk l then putO l else []
def putE (l : List Opt) : Int := if putOk l then 0 else 65
theorem putL_len (l : List Opt) : (putL l).length ≤ 40 := by
  unfold putL
  split
  · rename_i h; exact (putO_len h).1
  · simp
theorem flatMap_snoc {l : List Opt} {q : Nat} (h : q < l.length) : (l.take (q + 1)).flatMap optB = (l.take q).flatMap optB ++ optB l[q] := by rw [take_snoc h, List.flatMap_append]; simp [List.flatMap_cons]
theorem flatMap_le (l : List Opt) (q : Nat) : ((l.take q).flatMap optB).length ≤ (l.flatMap optB).length := by
  have := congrArg List.length (congrArg (fun x => x.flatMap optB) (List.take_append_drop q l))
  simp only [List.flatMap_append, List.length_append] at this
  omega

/-- the zeros behind -/
theorem pad_loop {w w0 : World} {s : Sl} {l : List Int} {e e' : Nat} {K : Sl → World → Prop} {D : Sl → Bool} {C : (Sl → World → Prop) → (Sl → World → Nat) → Sl → World → Sl → World → Prop}
    (u : Upd [] [] w0 w) (h : SeesB w s l) (o : Own w0.heap.size 1 w s) (hl : l.length ≤ 70368744177664)
    (hD : ∀ s, D s = decide (s.len % 4 ≠ 0))
    (hC : ∀ (I : Sl → World → Prop) (M : Sl → World → Nat) s w r w', I r w' → M r w' < M s w → C I M s w r w')
    (k : ∀ s w1, Upd [] [] w0 w1 → SeesB w1 s (pad4 l) → Own w0.heap.size 1 w1 s → K s w1) :
    ∃ (I : Sl → World → Prop), ∃ (M : Sl → World → Nat), I s w ∧ ∀ (s : Sl) (w1 : World), I s w1 →
      Br (D s) (∀ (b : Nat) (w2 : World), Upd [] [b] w1 w2 → w2.heap[b]? = some (.cells (SV.struct [.int .u8 0]).cells.toArray e (0, 0)) → Append e' 1 1 s ⟨some ⟨b, 0, none⟩, 1, 1⟩ [] w2 fun r w3 => C I M s w1 r w3) (K s w1) := by
  refine ⟨fun s w1 => Upd [] [] w0 w1 ∧ Own w0.heap.size 1 w1 s ∧ ∃ n : Nat, n ≤ (4 - l.length % 4) % 4 ∧ SeesB w1 s (l ++ List.replicate n 0), fun s _ => (4 - s.len % 4) % 4, ⟨u, o, 0, by omega, by simpa using h⟩, ?_⟩
  rintro s w1 ⟨u, o, n, hn, hs⟩
  have hlen := hs.len
  rw [List.length_append, List.length_replicate] at hlen
  rw [hD]
  refine brd (fun hne => ?_) (fun he => ?_)
  · intro b w2 u2 hr2
    have o2 := o.old u2
    have v2 := u.then u2
    refine append_own (c := cU8) (new := [0]) (hs.old u2) o2 (rowB hr2 _ rfl rfl) v2.size (by simp) (by decide) (by simp; omega) fun r w3 hr3 ho3 u3 _ => ?_
    have hrl := hr3.len
    simp at hrl
    refine hC _ _ _ _ _ _ ⟨v2.step0 u3 (fun x hx => (o2.blk x hx).1), ho3, n + 1, by omega, ?_⟩ (by (try dsimp only); omega)
    rw [List.replicate_succ', ← List.append_assoc]
    exact hr3
  · have : n = (4 - l.length % 4) % 4 := by
      have : s.len % 4 = 0 := by omega
      omega
    subst this
    exact k s w1 u hs o

/-- what PutTcpOptions answers -/
def putL9 (l : List Opt) : List Int := if putOk9 l then putO l else []
def putE9 (l : List Opt) : Int := if putOk9 l then 0 else 97
theorem putL9_len (l : List Opt) : (putL9 l).length ≤ 40 := by
  unfold putL9
  split
  · rename_i h; exact (putO_len h.1).1
  · simp
theorem c39 {a : Sl} {l : List Opt} {os : List (Int × Sl)} {w : World} {R : SV → World → Prop} (hg : Lens w) (h : Opts w a l os) (hl : l.length < 9223372036854775807) (hd : ∀ o ∈ l, o.data.length ≤ 140737488355328)
    (k : ∀ s w1, Upd [] [] w w1 → SeesB w1 s (putL9 l) → Own w.heap.size 1 w1 s → R (.tuple [.slice s, .int .i64 (putE9 l)]) w1) : Ret Tryd.prog 39 [.slice a] w R := by
  refine f39_of _ _ _ ?_
  unfold vc39
  have hal := h.slen
  have bad : ¬ putOk9 l → ∀ w1, Upd [] [] w w1 → R (.tuple [.slice ⟨none, 0, 0⟩, .int .i64 97]) w1 := fun hn w1 u => by
    have := k ⟨none, 0, 0⟩ w1 u (by unfold putL9; rw [if_neg hn]; exact Sees.nil _ _ _ _) (Own.none _ _ _)
    unfold putE9 at this
    rwa [if_neg hn] at this
  refine ⟨fun s i w1 => Upd [] [] w w1 ∧ Own w.heap.size 1 w1 s ∧ ∃ q : Nat, i = q ∧ q ≤ l.length ∧ SeesB w1 s ((l.take q).flatMap optB) ∧ ((l.take q).flatMap optB).length ≤ 40 ∧ ∀ j (h : j < l.length), j < q → okO l[j] ∧ ok9 l[j].kind ((2 + l[j].data.length : Nat) : Int) = true, fun _ i _ => (l.length - i).toNat,
    ⟨Upd.refl w, Own.none _ _ _, 0, rfl, by omega, Sees.nil _ _ _ _, by simp, fun j _ h => by omega⟩, ?_⟩
  rintro s i w1 ⟨u, o, q, rfl, hq, hs, h40, hj⟩
  have h1 := h.old u
  have hsl := hs.len
  refine brd (fun hlt => ?_) (fun hge => ?_)
  · have hq2 : q < l.length := by omega
    obtain ⟨g1, g2, g3, g4⟩ := h1.get q hq2
    have gl := g3.len
    have gd := hd _ (List.getElem_mem hq2)
    refine needO h1 (by omega) (by omega) ⟨_, (by rw [Int.toNat_natCast]; exact g1), _, (by rw [Int.toNat_natCast]; exact g2), ?_⟩
    intro b J hJ
    have fs := flatMap_snoc hq2
    have fl := flatMap_le l (q + 1)
    rw [fs, List.length_append, optB_len] at fl
    have nk : ¬ okO l[q] → ¬ putOk9 l := fun hn hp => hn (hp.1.1 _ (List.getElem_mem hq2))
    have n9 : ok9 l[q].kind ((2 + l[q].data.length : Nat) : Int) = false → ¬ putOk9 l := fun hn hp => by
      have := hp.2 _ (List.getElem_mem hq2)
      rw [hn] at this; cases this
    rw [wr_i64 (x := 2 + ((os[q]'(by rw [h.len]; exact hq2)).2.len : Int)) (by omega) (by omega)]
    have e2 : 2 + ((os[q]'(by rw [h.len]; exact hq2)).2.len : Int) = ((2 + l[q].data.length : Nat) : Int) := by omega
    rw [e2]
    refine brd (fun g => fun w2 u2 => bad (nk (by unfold okO; omega)) _ (u.then u2)) (fun n1 => brd (fun g => fun w2 u2 => bad (nk (by unfold okO; omega)) _ (u.then u2)) (fun n2 => brd (fun g => fun w2 u2 => bad (nk (by unfold okO; omega)) _ (u.then u2)) (fun n3 => ?_)))
    intro w2 u2
    refine c78 (hg.old (u.then u2)) (by omega) (by omega) (by omega) ⟨_, rfl, kp (Upd.refl _), ?_⟩
    refine brn (fun g => bad (n9 g) _ (u.then u2)) (fun n5 => ?_)
    rw [wr_i64 (by omega) (by omega)]
    refine brd (fun g => bad (fun hp => by have := hp.1.2; omega) _ (u.then u2)) (fun n4 => ⟨rfl, hJ _ ?_⟩)
    clear hJ
    intro b1 w3 u3 hr3
    have hbn := u2.new (b := b) (by simp)
    have o3 := (o.old u2).old u3
    have v3 := (u.then u2).then u3
    have hs3 := (hs.old u2).old u3
    rw [wr_i64 (x := 2 + ((os[q]'(by rw [h.len]; exact hq2)).2.len : Int)) (by omega) (by omega), wr_u8, wr_u8, e2] at hr3
    refine append_own (c := cU8) (new := [l[q].kind % 256, ((2 + l[q].data.length : Nat) : Int) % 256]) hs3 o3 (rowB hr3 _ rfl rfl) v3.size (fun x hx hm => by have := (o.blk x hx).2; simp at hm; omega) (by decide) (by simp only [List.length_cons, List.length_nil]; omega) fun r w4 hr ho4 u4 hn4 => ?_
    have hw0 : ∀ x ∈ s.blk, w.heap.size ≤ x := fun x hx => (o.blk x hx).1
    have v4 := v3.step0 u4 hw0
    refine append_own (c := cU8) hr ho4 (h.each q hq2 |>.old v4) v4.size (fun x hx hm => by
      rcases hn4 x hx with h' | h'
      · have := (o.blk x h').2; simp at hm; omega
      · have := u3.size; simp at hm; omega) (by decide) (by simp only [List.length_append, List.length_cons, List.length_nil]; omega) fun r5 w5 hr5 ho5 u5 _ => ?_
    refine ⟨⟨v4.step0 u5 (fun x hx => (ho4.blk x hx).1), ho5, q + 1, wr_succ (by omega), by omega, ?_, ?_, fun j hj1 hj2 => ?_⟩, by rw [wr_succ (q := q) (by omega)]; (try dsimp only); omega⟩
    · rw [fs]
      unfold optB
      rw [← List.append_assoc]
      exact hr5
    · rw [fs, List.length_append, optB_len]; omega
    · by_cases e : j = q
      · subst e; exact ⟨by unfold okO; omega, n5⟩
      · exact hj j hj1 (by omega)
  · have hqe : q = l.length := by omega
    subst hqe
    rw [List.take_length] at hs h40
    have hok : putOk9 l := ⟨⟨fun x hx => by
      obtain ⟨j, hj1, rfl⟩ := List.getElem_of_mem hx
      exact (hj j hj1 (by omega)).1, h40⟩, fun x hx => by
      obtain ⟨j, hj1, rfl⟩ := List.getElem_of_mem hx
      exact (hj j hj1 (by omega)).2⟩
    refine pad_loop u hs o (by omega) (fun s => ?_) (fun I M s w r w' h1 h2 => ⟨h1, h2⟩) (fun s w2 u2 hs2 ho2 => ?_)
    · rw [tmod_pos (by omega)]
      rw [decide_eq_decide]
      omega
    · have := k s w2 u2 (by unfold putL9; rw [if_pos hok]; exact hs2) ho2
      unfold putE9 at this
      rwa [if_pos hok] at this

theorem c91 {a : Sl} {l : List Opt} {os : List (Int × Sl)} {w : World} {R : SV → World → Prop} (h : Opts w a l os) (hl : l.length ≤ 1099511627776) (hd : ∀ o ∈ l, o.data.length ≤ 140737488355328)
    (k : ∀ s w1, Upd [] [] w w1 → SeesB w1 s (putL l) → Own w.heap.size 1 w1 s → R (.tuple [.slice s, .int .i64 (putE l)]) w1) : Ret Tryd.prog 91 [.slice a] w R := by
  refine f91_of _ _ _ ?_
  unfold vc91
  have hal := h.slen
  have bad : ¬ putOk l → ∀ w1, Upd [] [] w w1 → R (.tuple [.slice ⟨none, 0, 0⟩, .int .i64 65]) w1 := fun hn w1 u => by
    have := k ⟨none, 0, 0⟩ w1 u (by unfold putL; rw [if_neg hn]; exact Sees.nil _ _ _ _) (Own.none _ _ _)
    unfold putE at this
    rwa [if_neg hn] at this
  refine ⟨fun s i w1 => Upd [] [] w w1 ∧ Own w.heap.size 1 w1 s ∧ ∃ q : Nat, i = q ∧ q ≤ l.length ∧ SeesB w1 s ((l.take q).flatMap optB) ∧ ((l.take q).flatMap optB).length ≤ 40 * q ∧ ∀ j (h : j < l.length), j < q → okO l[j], fun _ i _ => (l.length - i).toNat,
    ⟨Upd.refl w, Own.none _ _ _, 0, rfl, by omega, Sees.nil _ _ _ _, by simp, fun j _ h => by omega⟩, ?_⟩
  rintro s i w1 ⟨u, o, q, rfl, hq, hs, h40, hj⟩
  have h1 := h.old u
  have hsl := hs.len
  refine brd (fun hlt => ?_) (fun hge => ?_)
  · have hq2 : q < l.length := by omega
    obtain ⟨g1, g2, g3, g4⟩ := h1.get q hq2
    have gl := g3.len
    have gd := hd _ (List.getElem_mem hq2)
    intro J hJ
    refine needO h1 (by omega) (by omega) ⟨_, (by rw [Int.toNat_natCast]; exact g2), ?_⟩
    have fs := flatMap_snoc hq2
    have nk : ¬ okO l[q] → ¬ putOk l := fun hn hp => hn (hp.1 _ (List.getElem_mem hq2))
    intro J1 hJ1
    have good : okO l[q] → J1 w1 := fun hk => by
      refine hJ1 _ ?_
      refine needO h1 (by omega) (by omega) ⟨_, (by rw [Int.toNat_natCast]; exact g1), ?_⟩
      intro b1 w3 u3 hr3
      obtain ⟨k1, k2, k3⟩ := hk
      have o3 := o.old u3
      have v3 := u.then u3
      have hs3 := hs.old u3
      rw [wr_i64 (x := ((os[q]'(by rw [h.len]; exact hq2)).2.len : Int) + 2) (by omega) (by omega), wr_u8, wr_u8] at hr3
      refine append_own (c := cU8) (new := [l[q].kind % 256, ((2 + l[q].data.length : Nat) : Int) % 256]) hs3 o3 (rowB hr3 _ (by rw [gl, Nat.add_comm 2]; rfl) rfl) v3.size (by simp) (by decide) (by simp only [List.length_cons, List.length_nil]; omega) fun r w4 hr ho4 u4 hn4 => ?_
      have hw0 : ∀ x ∈ s.blk, w.heap.size ≤ x := fun x hx => (o.blk x hx).1
      have v4 := v3.step0 u4 hw0
      obtain ⟨_, g2', g3', _⟩ := (h.old v4).get q hq2
      refine needO (h.old v4) (by omega) (by omega) ⟨_, (by rw [Int.toNat_natCast]; exact g2'), ?_⟩
      refine append_own (c := cU8) hr ho4 g3' v4.size (by simp) (by decide) (by simp only [List.length_append, List.length_cons, List.length_nil]; omega) fun r5 w5 hr5 ho5 u5 _ => ?_
      refine hJ _ _ ⟨⟨v4.step0 u5 (fun x hx => (ho4.blk x hx).1), ho5, q + 1, wr_succ (by omega), by omega, ?_, ?_, fun j hj1 hj2 => ?_⟩, by rw [wr_succ (q := q) (by omega)]; (try dsimp only); omega⟩
      · rw [fs]
        unfold optB
        rw [← List.append_assoc]
        exact hr5
      · rw [fs, List.length_append, optB_len]; omega
      · by_cases e : j = q
        · subst e; exact ⟨k1, k2, k3⟩
        · exact hj j hj1 (by omega)
    refine needO h1 (by omega) (by omega) ⟨_, (by rw [Int.toNat_natCast]; exact g1), ?_⟩
    refine brd (fun g => bad (nk (by unfold okO; omega)) _ u) (fun n1 => needO h1 (by omega) (by omega) ⟨_, (by rw [Int.toNat_natCast]; exact g1), brd (fun g => bad (nk (by unfold okO; omega)) _ u) (fun n2 => brd (fun g => bad (nk (by unfold okO; omega)) _ u) (fun n3 => good (by unfold okO; omega)))⟩)
  · have hqe : q = l.length := by omega
    subst hqe
    rw [List.take_length] at hs h40
    have hall : ∀ x ∈ l, okO x := fun x hx => by
      obtain ⟨j, hj1, rfl⟩ := List.getElem_of_mem hx
      exact hj j hj1 (by omega)
    refine pad_loop u hs o (by omega) (fun s => ?_) (fun I M s w r w' h1 h2 => ⟨h1, h2⟩) (fun s w2 u2 hs2 ho2 => ?_)
    · rw [tmod_pos (by omega)]
      rw [Bool.eq_iff_iff, bne_iff_ne, decide_eq_true_iff]
      omega
    · have hpl := pad4_len (l.flatMap optB)
      have hsl2 := hs2.len
      refine brd (fun g => bad (fun hp => ?_) _ u2) (fun g => ?_)
      · have := hp.2; omega
      · have hok : putOk l := ⟨hall, by omega⟩
        have := k s w2 u2 (by unfold putL; rw [if_pos hok]; exact hs2) ho2
        unfold putE at this
        rwa [if_pos hok] at this

theorem c56 {a : Sl} {l : List Opt} {os : List (Int × Sl)} {w : World} {R : SV → World → Prop} (h : Opts w a l os) (hl : l.length ≤ 1099511627776) (hd : ∀ o ∈ l, o.data.length ≤ 140737488355328)
    (k : ∀ s w1, Upd [] [] w w1 → SeesB w1 s (putL9 l) → Own w.heap.size 1 w1 s → R (.tuple [.slice s, .int .i64 (putE9 l)]) w1) : Ret Tryd.prog 56 [.slice a] w R := by
  refine f56_of _ _ _ ?_
  unfold vc56
  have hal := h.slen
  have bad : ¬ putOk9 l → ∀ w1, Upd [] [] w w1 → R (.tuple [.slice ⟨none, 0, 0⟩, .int .i64 97]) w1 := fun hn w1 u => by
    have := k ⟨none, 0, 0⟩ w1 u (by unfold putL9; rw [if_neg hn]; exact Sees.nil _ _ _ _) (Own.none _ _ _)
    unfold putE9 at this
    rwa [if_neg hn] at this
  refine ⟨fun i w1 => Upd [] [] w w1 ∧ ∃ q : Nat, i = q ∧ q ≤ l.length ∧ ∀ j (h : j < l.length), j < q → ok9 l[j].kind ((2 + l[j].data.length : Nat) : Int) = true, fun i _ => (l.length - i).toNat,
    ⟨Upd.refl w, 0, rfl, by omega, fun j _ h => by omega⟩, ?_⟩
  rintro i w1 ⟨u, q, rfl, hq, hj⟩
  have h1 := h.old u
  refine brd (fun hlt => ?_) (fun hge => ?_)
  · have hq2 : q < l.length := by omega
    obtain ⟨g1, g2, g3, g4⟩ := h1.get q hq2
    have gl := g3.len
    have gd := hd _ (List.getElem_mem hq2)
    refine needO h1 (by omega) (by omega) ⟨_, (by rw [Int.toNat_natCast]; exact g1), needO h1 (by omega) (by omega) ⟨_, (by rw [Int.toNat_natCast]; exact g2), fun w2 u2 => ?_⟩⟩
    rw [wr_i64 (by omega) (by omega)]
    refine c86 ⟨_, rfl, ?_⟩
    have e2 : ((os[q]'(by rw [h.len]; exact hq2)).2.len : Int) + 2 = ((2 + l[q].data.length : Nat) : Int) := by omega
    rw [e2]
    refine brn (fun g => bad (fun hp => by have := hp.2 _ (List.getElem_mem hq2); rw [g] at this; cases this) _ (u.then u2)) (fun n5 => ⟨⟨u.then u2, q + 1, wr_succ (by omega), by omega, fun j hj1 hj2 => ?_⟩, by rw [wr_succ (q := q) (by omega)]; (try dsimp only); omega⟩)
    by_cases e : j = q
    · subst e; exact n5
    · exact hj j hj1 (by omega)
  · have hqe : q = l.length := by omega
    subst hqe
    have hall : ∀ x ∈ l, ok9 x.kind ((2 + x.data.length : Nat) : Int) = true := fun x hx => by
      obtain ⟨j, hj1, rfl⟩ := List.getElem_of_mem hx
      exact hj j hj1 (by omega)
    refine c91 h1 hl hd fun s w2 u2 hs ho => ⟨_, _, rfl, ?_⟩
    have v2 := u.then u2
    unfold putE
    by_cases hp : putOk l
    · rw [if_pos hp]
      have hok : putOk9 l := ⟨hp, hall⟩
      have := k s w2 v2 (by unfold putL9; rw [if_pos hok]; unfold putL at hs; rw [if_pos hp] at hs; exact hs) (ho.mono u.size)
      unfold putE9 at this
      rw [if_pos hok] at this
      exact brf (by simp) this
    · rw [if_neg hp]
      exact brt (by simp) (bad (fun h => hp h.1) _ v2)
end Go.Vc.S9
end

section
open Go Go.Vc Go.Proofs
set_option linter.unusedVariables false
set_option linter.unusedSimpArgs false
set_option autoImplicit false
namespace Go.Vc.S9
abbrev adr (v : Int) (a : Nat → Int) : SV := .struct [.int .i64 v, .arr .u8 16 a]
section
variable {e : Ends} {w : World} {R : SV → World → Prop}
theorem c70 (k : ∀ w1, Upd [] [] w w1 → R (.int .i64 (if e.fit then 0 else 20)) w1) : Ret Tryd.prog 70 [adr e.sv e.sa, adr e.dv e.da] w R := by
  refine f70_of _ _ _ _ _ _ ?_
  unfold vc70
  intro b b1 w1 u1
  refine c22 fun s w2 u2 _ _ => ⟨_, _, rfl, kp u2, ?_⟩
  have := k w2 (u1.then u2)
  by_cases h : e.fit
  · rw [(psE_fit h (p := 0) (n := 0) (by omega) (by omega)).1]; rwa [if_pos h] at this
  · rw [(psE_no h (p := 0) (n := 0)).1]; rwa [if_neg h] at this
theorem c83 (k : ∀ w1, Upd [] [] w w1 → R (.bool (decide e.fit)) w1) : Ret Tryd.prog 83 [adr e.sv e.sa, adr e.dv e.da] w R := by
  refine f83_of _ _ _ _ _ _ ?_
  unfold vc83
  intro b b1 w1 u1
  refine c102 fun s w2 u2 _ _ => ⟨_, _, rfl, kp u2, ?_⟩
  have := k w2 (u1.then u2)
  by_cases h : e.fit
  · rw [(psE_fit h (p := 0) (n := 0) (by omega) (by omega)).1]; rw [decide_eq_true h] at this; exact this
  · rw [(psE_no h (p := 0) (n := 0)).1]; rw [decide_eq_false h] at this; exact this
section
variable {p : Int} {b : Sl} {l : List Int}
theorem c74 (hf : e.fit) (o : e.Ok) (hp : 0 ≤ p ∧ p ≤ 255) (h : SeesB w b l) (hb : Byt l) (hl : l.length ≤ 65535) (k : ∀ w1, Upd [] [] w w1 → R (.bool (psum e p l == 65535)) w1) : Ret Tryd.prog 74 [adr e.sv e.sa, adr e.dv e.da, .int .i64 p, .slice b] w R := by
  refine f74_of _ _ _ _ _ _ _ _ ?_
  unfold vc74
  intro b1 b2 w1 u1
  have hbl := h.len
  obtain ⟨e1, e2⟩ := psE_fit hf hp (n := (b.len : Int)) (by omega)
  refine c22 fun s w2 u2 hs _ => ⟨_, _, rfl, kp u2, ?_⟩
  rw [e1]
  rw [e2] at hs
  have v2 := u1.then u2
  refine brt rfl ?_
  intro b3 w3 u3 hr3
  have hP := rowP (n := 2) (cap := 2) hr3 (ss := [s, b]) rfl rfl (ls := [psB e p (b.len : Int), l]) ⟨hs.old u3, h.old (v2.then u3), trivial⟩
  have hpl := psB_len e p (b.len : Int)
  refine c24 hP (by simp; exact ⟨psB_byt o, hb⟩) (by simp) (by simp; omega) ⟨_, rfl, kp (Upd.refl _), ?_⟩
  have := k w3 (v2.then u3)
  unfold psum at this
  rw [← hbl] at this
  simpa using this
theorem c85 (hf : e.fit) (o : e.Ok) (hp : 0 ≤ p ∧ p ≤ 255) (h : SeesB w b l) (hb : Byt l) (hl : l.length ≤ 65535) (k : ∀ w1, Upd [] [] w w1 → R (.bool (psum e p l == 65535)) w1) : Ret Tryd.prog 85 [adr e.sv e.sa, adr e.dv e.da, .int .i64 p, .slice b] w R := by
  refine f85_of _ _ _ _ _ _ _ _ ?_
  unfold vc85
  intro b1 b2 w1 u1
  have hbl := h.len
  obtain ⟨e1, e2⟩ := psE_fit hf hp (n := (b.len : Int)) (by omega)
  refine c102 fun s w2 u2 hs _ => ⟨_, _, rfl, kp u2, ?_⟩
  rw [e2] at hs
  have v2 := u1.then u2
  intro b3 w3 u3 hr3
  have hP := rowP (n := 2) (cap := 2) hr3 (ss := [s, b]) rfl rfl (ls := [psB e p (b.len : Int), l]) ⟨hs.old u3, h.old (v2.then u3), trivial⟩
  have hpl := psB_len e p (b.len : Int)
  refine c103 hP (by simp; exact ⟨psB_byt o, hb⟩) (by simp) (by simp; omega) ⟨_, rfl, kp (Upd.refl _), ?_⟩
  have := k w3 (v2.then u3)
  unfold psum at this
  rw [← hbl] at this
  simpa using this
theorem c90 (hf : e.fit) (o : e.Ok) (hp : 0 ≤ p ∧ p ≤ 255) (h : SeesB w b l) (hb : Byt l) (hl : l.length ≤ 65535) (k : ∀ w1, Upd [] [] w w1 → R (.int .i64 (65535 - psum e p l)) w1) : Ret Tryd.prog 90 [adr e.sv e.sa, adr e.dv e.da, .int .i64 p, .slice b] w R := by
  refine f90_of _ _ _ _ _ _ _ _ ?_
  unfold vc90
  intro b1 b2 w1 u1
  have hbl := h.len
  obtain ⟨e1, e2⟩ := psE_fit hf hp (n := (b.len : Int)) (by omega)
  refine c102 fun s w2 u2 hs _ => ⟨_, _, rfl, kp u2, ?_⟩
  rw [e2] at hs
  have v2 := u1.then u2
  intro b3 w3 u3 hr3
  have hP := rowP (n := 2) (cap := 2) hr3 (ss := [s, b]) rfl rfl (ls := [psB e p (b.len : Int), l]) ⟨hs.old u3, h.old (v2.then u3), trivial⟩
  have hpl := psB_len e p (b.len : Int)
  refine c104 hP (by simp; exact ⟨psB_byt o, hb⟩) (by simp) (by simp; omega) ⟨_, rfl, kp (Upd.refl _), ?_⟩
  have := k w3 (v2.then u3)
  unfold psum at this
  rw [← hbl] at this
  simpa using this
theorem c84 {i n : Nat} (h : SeesB w b l) (hb : Byt l) (hl : i + n ≤ l.length) (hll : l.length < 9223372036854775000) (hn : n ≤ 4) (k : R (.int .i64 (bitsN l (8 * i) (8 * n))) w) : Ret Tryd.prog 84 [.slice b, .int .i64 (i : Int), .int .i64 (n : Int)] w R := by
  refine f84_of _ _ _ _ _ ?_
  unfold vc84
  refine ⟨fun v j w1 => w1 = w ∧ ∃ q : Nat, j = q ∧ q ≤ n ∧ v = bitsN l (8 * i) (8 * q), fun _ j _ => (n - j).toNat, ⟨rfl, 0, rfl, by omega, rfl⟩, ?_⟩
  rintro v j w1 ⟨rfl, q, rfl, hq, rfl⟩
  refine brd (fun hlt => ?_) (fun hge => ?_)
  · have hq2 : q < n := by omega
    rw [wr_i64 (x := (i : Int) + q) (by omega) (by omega)]
    refine needB h (by omega) (by omega) ⟨_, h.byte (by omega) (by omega), ?_⟩
    have hbt := hb.bt ((i : Int) + q)
    have hr := bitsN_r l (8 * i) (8 * q)
    have hp : (2 : Int) ^ (8 * q) ≤ 2 ^ 24 := by exact_mod_cast Nat.pow_le_pow_right (by omega) (by omega)
    rw [wr_i64 (x := bt l ((i : Int) + q)) (by omega) (by omega), wr_i64 (x := 256 * bitsN l (8 * i) (8 * q)) (by omega) (by omega), wr_i64 (by omega) (by omega)]
    refine ⟨⟨rfl, q + 1, wr_succ (by omega), by omega, ?_⟩, by rw [wr_succ (q := q) (by omega)]; (try dsimp only); omega⟩
    have e1 := bitsN_add l (8 * i) (8 * q) 8
    have e2 := bitsN_byte hb (i + q)
    rw [show 8 * i + 8 * q = 8 * (i + q) by omega, e2] at e1
    rw [show 8 * (q + 1) = 8 * q + 8 by omega, e1, show ((i + q : Nat) : Int) = (i : Int) + q by omega]
    omega
  · have : q = n := by omega
    subst this
    exact k
end
theorem c77 {n hi : Int} (k : R (.bool (decide (outN9 n hi))) w) : Ret Tryd.prog 77 [.int .i64 n, .int .i64 hi] w R := by
  refine f77_of _ _ _ _ ?_
  unfold vc77
  refine brd (fun h => ?_) (fun h => ?_)
  · rw [decide_eq_true (show outN9 n hi by unfold outN9; omega)] at k; exact k
  · rw [show decide (outN9 n hi) = decide (n > hi) by rw [decide_eq_decide]; unfold outN9; omega] at k; exact k
theorem c93 {n hi : Int} (k : R (.bool (decide (outN9 n hi))) w) : Ret Tryd.prog 93 [.int .i64 n, .int .i64 hi] w R := by
  refine f93_of _ _ _ _ ?_
  unfold vc93
  refine brd (fun h => ?_) (fun h => ?_)
  · rw [decide_eq_true (show outN9 n hi by unfold outN9; omega)] at k; exact k
  · rw [show decide (outN9 n hi) = decide (n > hi) by rw [decide_eq_decide]; unfold outN9; omega] at k; exact k
theorem c20 {n : Int} (k : R (.int .i64 n) w) : Ret Tryd.prog 20 [.int .i64 n] w R := f20_of _ _ _ k
end
end Go.Vc.S9
end

section
open Go Go.Vc Go.Proofs
set_option linter.unusedVariables false
set_option linter.unusedSimpArgs false
set_option autoImplicit false
namespace Go.Vc.S9

theorem sees_new {w w1 : World} {s : Sl} {l : List (Int × Sl)} {b e : Nat} {cs : List Value} (x : Int × Sl) (h : w1.heap[b]? = some (.cells cs.toArray e (0, 0))) (hc : cs = [.int .i64 x.1, x.2.val]) : Sees cOpt w1 ⟨some ⟨b, 0, none⟩, 1, 1⟩ [x] :=
  sees_row h [x] hc rfl

/-- options read: windows -/
theorem ok9_f {k n : Int} (h : n < 2) : ok9 k n = false := by unfold ok9; rw [decide_eq_false (by omega)]; rfl
theorem c33 {b : Sl} {l : List Int} {w : World} {R : SV → World → Prop} (hg' : Lens w) (h : SeesB w b l) (hb : Byt l) (hc : b.len ≤ b.cap) (hl : l.length < 9223372036854775807)
    (ke : ∀ w1, Upd [] [] w w1 → optsP ok9 l = none → R (.tuple [.slice ⟨none, 0, 0⟩, .int .i64 97]) w1)
    (ko : ∀ ps s w1, optsP ok9 l = some ps → Upd [] [] w w1 → Sees cOpt w1 s (ps.map (osAt b l)) → Own w.heap.size 2 w1 s → R (.tuple [.slice s, .int .i64 0]) w1) : Ret Tryd.prog 33 [.slice b] w R := by
  refine f33_of _ _ _ ?_
  unfold vc33
  have hlen := h.len
  unfold optsP at ke ko
  refine brd (fun hg => ke _ (Upd.refl w) (by rw [if_pos (by omega)])) (fun hg => ?_)
  rw [if_neg (by omega)] at ke ko
  generalize hG : opos ok9 l (l.length + 1) 0 [] = G at ke ko
  intro J0 hJ0
  refine ⟨fun s n w1 => Upd [] [] w w1 ∧ Own w.heap.size 2 w1 s ∧ ∃ (t f : Nat) (acc : List (Nat × Nat)), n = t ∧ t ≤ l.length ∧ l.length + 1 ≤ f + t ∧ acc.length ≤ t ∧ Sees cOpt w1 s (acc.map (osAt b l)) ∧ opos ok9 l f t acc = G,
    fun _ n _ => (l.length - n).toNat, ⟨Upd.refl w, Own.none _ _ _, 0, l.length + 1, [], rfl, by omega, by omega, by simp, Sees.nil _ _ _ _, hG⟩, ?_⟩
  rintro s n w1 ⟨u, o, t, f, acc, rfl, ht, hf, ha, hs, hp⟩
  have h1 := h.old u
  obtain ⟨f, rfl⟩ : ∃ g, f = g + 1 := ⟨f - 1, by omega⟩
  unfold opos at hp
  refine brd (fun hlt => ?_) (fun hge => ?_)
  · have b0 := hb.bt (t : Int)
    rw [if_neg (by omega)] at hp
    refine needB h1 (by omega) (by omega) ⟨_, h1.byte (by omega) (by omega), ?_⟩
    rw [wr_i64 (x := bt l (t : Int)) (by omega) (by omega)]
    refine bre (fun e => ?_) (fun ne0 => ?_)
    · rw [if_pos e] at hp
      exact hJ0 _ _ (ko acc s w1 hp.symm u hs o)
    rw [if_neg ne0] at hp
    refine bre (fun e => ?_) (fun ne1 => ?_)
    · rw [if_pos e] at hp
      exact ⟨⟨u, o, t + 1, f, acc, wr_succ (by omega), by omega, by omega, by omega, hs, hp⟩, by rw [wr_succ (q := t) (by omega)]; (try dsimp only); omega⟩
    rw [if_neg ne1] at hp
    rw [wr_succ (q := t) (by omega)]
    refine bre (fun e => ke _ u (by rw [← hp, if_pos (by omega)])) (fun ne2 => ?_)
    rw [if_neg (by omega)] at hp
    have b1 := hb.bt ((t + 1 : Nat) : Int)
    refine needB h1 (by omega) (by omega) ⟨_, h1.byte (by omega) (by omega), fun J hJ => ?_⟩
    rw [wr_i64 (x := bt l ((t + 1 : Nat) : Int)) (by omega) (by omega), wr_i64 (x := (t : Int) + bt l ((t + 1 : Nat) : Int)) (by omega) (by omega)]
    refine brd (fun hg => ke _ u (by rw [← hp, if_pos (ok9_f hg)])) (fun n2 => ?_)
    refine brd (fun hg => ke _ u (by rw [← hp]; split; rfl; rw [if_pos (by omega)])) (fun n3 => ?_)
    refine c78 (hg'.old u) (by omega) (by omega) (by omega) ⟨_, rfl, brn (fun g => ke _ u (by rw [← hp, if_pos g])) (fun g => hJ _ ?_)⟩
    rw [if_neg (by rw [g]; decide), if_neg (by omega)] at hp
    clear hJ
    generalize hm : bt l ((t + 1 : Nat) : Int) = m at *
    have em : m = (m.toNat : Int) := by omega
    rw [wr_i64 (x := m) (by omega) (by omega), wr_i64 (x := (t : Int) + m) (by omega) (by omega), wr_i64 (x := (t : Int) + 2) (by omega) (by omega)]
    refine need (by simp; omega) ?_
    intro b2 w2 u2 hr2
    rw [show ((t : Int) + m).toNat = t + m.toNat by omega, show ((t : Int) + 2).toNat = t + 2 by omega] at hr2
    rw [show (t : Int) + m = ((t + m.toNat : Nat) : Int) by omega]
    have o2 := o.old u2
    have v2 := u.then u2
    refine append_own (c := cOpt) (new := [osAt b l (t, t + m.toNat)]) (hs.old u2) o2 (sees_row hr2 _ rfl rfl) v2.size (by simp) (by decide) (by simp; omega) fun r w3 hr ho3 u3 _ => ?_
    refine ⟨⟨v2.step0 u3 (fun x hx => (o2.blk x hx).1), ho3, t + m.toNat, f, acc ++ [(t, t + m.toNat)], rfl, by omega, by omega, by simp; omega, by simpa using hr, hp⟩, by (try dsimp only); omega⟩
  · rw [if_pos (by omega)] at hp
    exact hJ0 _ _ (ko acc s w1 hp.symm u hs o)

/-- options read: in new memory -/
theorem c46 {b : Sl} {l : List Int} {w : World} {R : SV → World → Prop} (h : SeesB w b l) (hb : Byt l) (hc : b.len ≤ b.cap) (hl : l.length < 9223372036854775807)
    (ke : ∀ w1, Upd [] [] w w1 → optsP ok9 l = none → R (.tuple [.slice ⟨none, 0, 0⟩, .int .i64 97]) w1)
    (ko : ∀ ps s os w1, optsP ok9 l = some ps → Upd [] [] w w1 → Opts w1 s (ps.map (optAt l)) os → Own w.heap.size 2 w1 s → (∀ x ∈ os, Own w.heap.size 1 w1 x.2) → R (.tuple [.slice s, .int .i64 0]) w1) : Ret Tryd.prog 46 [.slice b] w R := by
  refine f46_of _ _ _ ?_
  unfold vc46
  have hlen := h.len
  unfold optsP at ke ko
  refine brd (fun hg => ke _ (Upd.refl w) (by rw [if_pos (by omega)])) (fun hg => ?_)
  rw [if_neg (by omega)] at ke ko
  generalize hG : opos ok9 l (l.length + 1) 0 [] = G at ke ko
  intro J0 hJ0
  refine ⟨fun s n w1 => Upd [] [] w w1 ∧ Own w.heap.size 2 w1 s ∧ ∃ (t f : Nat) (acc : List (Nat × Nat)) (os : List (Int × Sl)), n = t ∧ t ≤ l.length ∧ l.length + 1 ≤ f + t ∧ acc.length ≤ t ∧ Opts w1 s (acc.map (optAt l)) os ∧ (∀ x ∈ os, Own w.heap.size 1 w1 x.2) ∧ (∀ x ∈ os, ∀ b ∈ x.2.blk, b ∉ s.blk) ∧ opos ok9 l f t acc = G,
    fun _ n _ => (l.length - n).toNat, ⟨Upd.refl w, Own.none _ _ _, 0, l.length + 1, [], [], rfl, by omega, by omega, by simp, Opts.nil _ _ _, by simp, by simp, hG⟩, ?_⟩
  rintro s n w1 ⟨u, o, t, f, acc, os, rfl, ht, hf, ha, hs, hos, hap, hp⟩
  have h1 := h.old u
  obtain ⟨f, rfl⟩ : ∃ g, f = g + 1 := ⟨f - 1, by omega⟩
  unfold opos at hp
  intro J1 hJ1
  refine brd (fun hlt => ?_) (fun hge => ?_)
  · have b0 := hb.bt (t : Int)
    rw [if_neg (by omega)] at hp
    refine needB h1 (by omega) (by omega) ⟨_, h1.byte (by omega) (by omega), ?_⟩
    refine bre' (fun ne0 => ?_) (fun e => ?_)
    rotate_left
    · rw [if_pos e] at hp
      exact hJ0 _ _ (ko acc s os w1 hp.symm u hs o hos)
    rw [if_neg ne0] at hp
    refine hJ1 _ ?_
    clear hJ1
    refine needB h1 (by omega) (by omega) ⟨_, h1.byte (by omega) (by omega), ?_⟩
    refine bre (fun e => ?_) (fun ne1 => ?_)
    · rw [if_pos e] at hp
      exact ⟨⟨u, o, t + 1, f, acc, os, wr_succ (by omega), by omega, by omega, by omega, hs, hos, hap, hp⟩, by rw [wr_succ (q := t) (by omega)]; (try dsimp only); omega⟩
    rw [if_neg ne1] at hp
    rw [wr_succ (q := t) (by omega)]
    refine brd (fun e => ke _ u (by rw [← hp, if_pos (by omega)])) (fun ne2 => ?_)
    rw [if_neg (by omega)] at hp
    have b1 := hb.bt ((t + 1 : Nat) : Int)
    refine needB h1 (by omega) (by omega) ⟨_, h1.byte (by omega) (by omega), ?_⟩
    refine needB h1 (by omega) (by omega) ⟨_, h1.byte (by omega) (by omega), ?_⟩
    rw [wr_i64 (x := bt l (t : Int)) (by omega) (by omega), wr_i64 (x := bt l ((t + 1 : Nat) : Int)) (by omega) (by omega)]
    refine c86 ⟨_, rfl, ?_⟩
    intro J2 hJ2
    refine brn (fun g => ke _ u (by rw [← hp, if_pos g])) (fun g => ?_)
    rw [if_neg (by rw [g]; decide)] at hp
    have n2 := ok9_two _ _ g
    rw [wr_i64 (x := (t : Int) + bt l ((t + 1 : Nat) : Int)) (by omega) (by omega)]
    refine brd (fun hg => ke _ u (by rw [← hp, if_pos (by omega)])) (fun n3 => hJ2 _ ?_)
    rw [if_neg (by omega)] at hp
    clear hJ2
    refine needB h1 (by omega) (by omega) ⟨_, h1.byte (by omega) (by omega), ?_⟩
    generalize hm : bt l ((t + 1 : Nat) : Int) = m at *
    have em : m = (m.toNat : Int) := by omega
    rw [wr_i64 (x := (t : Int) + m) (by omega) (by omega), wr_i64 (x := (t : Int) + 2) (by omega) (by omega), wr_i64 (x := bt l (t : Int)) (by omega) (by omega)]
    refine need (by simp; omega) fun w2 u2 => ?_
    rw [show ((t : Int) + m).toNat = t + m.toNat by omega, show ((t : Int) + 2).toNat = t + 2 by omega]
    have hsub := (h1.old u2).subB (lo := t + 2) (hi := t + m.toNat) (mx := b.cap) (by omega) (by omega) (by omega)
    refine c40 hsub (by simp; omega) fun d w3 u3 hs3 ho3 => ⟨_, rfl, u2.then u3, ?_⟩
    have v3 := (u.then u2).then u3
    intro b4 w4 u4 hr4
    rw [show (t : Int) + m = ((t + m.toNat : Nat) : Int) by omega]
    have v4 := v3.then u4
    have y2 := u2.size; have y3 := u3.size; have y4 := u4.size
    have o4 := ((o.old u2).old u3).old u4
    have hO4 := ((hs.old u2).old u3).old u4
    have hol := hs.len
    rw [List.length_map] at hol
    refine append_own (c := cOpt) (new := [((optAt l (t, t + m.toNat)).kind, d)]) hO4.row o4 (optRow hr4 rfl rfl) v4.size (by simp) (by decide) (by simp; omega) fun r w5 hr ho5 u5 hn => ?_
    have dis : ∀ x ∈ d.blk, x ∉ s.blk := fun x hx hm => by have := (ho3.blk x hx).1; have := (o.blk x hm).2; omega
    have hd5 := (hs3.old u4).upd u5 dis
    have hOs := Opts.snoc (o := optAt l (t, t + m.toNat)) hO4 hr hd5 (fun j h2 => (hO4.each j h2).upd u5 (hap _ (List.getElem_mem _)))
    refine ⟨⟨v4.step0 u5 (fun x hx => (o.blk x hx).1), ho5, t + m.toNat, f, acc ++ [(t, t + m.toNat)], os ++ [((optAt l (t, t + m.toNat)).kind, d)], rfl, by omega, by omega, by simp; omega, by simpa using hOs, ?_, ?_, hp⟩, by (try dsimp only); omega⟩
    · intro x hx
      rcases List.mem_append.1 hx with hx | hx
      · exact ((((hos x hx).old u2).old u3).old u4).upd u5 (hap x hx)
      · rw [List.mem_singleton] at hx
        subst hx
        exact ((ho3.old u4).upd u5 dis).mono (by have := u.size; omega)
    · intro x hx b' hb' hm
      rcases List.mem_append.1 hx with hx | hx
      · rcases hn b' hm with h' | h'
        · exact hap x hx b' hb' h'
        · have := ((hos x hx).blk b' hb').2; omega
      · rw [List.mem_singleton] at hx
        subst hx
        rcases hn b' hm with h' | h'
        · exact dis b' hb' h'
        · have := (ho3.blk b' hb').2; omega
  · rw [if_pos (by omega)] at hp
    exact hJ0 _ _ (ko acc s os w1 hp.symm u hs o hos)
end Go.Vc.S9
end

section
open Go Go.Vc Go.Proofs
set_option linter.unusedVariables false
set_option linter.unusedSimpArgs false
set_option autoImplicit false
namespace Go.Vc.S9

/-- may these be widths? -/
structure Wid (ws : List Int) : Prop where
  len : ws.length ≤ 64
  each : ∀ x ∈ ws, 1 ≤ x ∧ x ≤ 32
  whole : wsum ws % 8 = 0
theorem Wid.le {ws : List Int} (h : Wid ws) : wsum ws ≤ 2048 := by
  have h1 := wsum_le (l := ws) (m := 32) fun x hx => (h.each x hx).2
  have := h.len
  omega

theorem c97 {widths : Sl} {ws : List Int} {w : World} {R : SV → World → Prop} (h : Sees cI64 w widths ws) (v : Wid ws) (k : R (.tuple [.int .i64 ((wsum ws / 8 : Nat) : Int), .int .i64 0]) w) : Ret Tryd.prog 97 [.slice widths] w R := by
  refine f97_of _ _ _ ?_
  unfold vc97
  have hlen := h.len
  have hv := v.len
  have hle := v.le
  refine brd (fun hg => absurd hg (by omega)) (fun _ => ?_)
  refine ⟨fun n i w1 => w1 = w ∧ ∃ q : Nat, i = q ∧ q ≤ ws.length ∧ n = (wsum (ws.take q) : Nat), fun _ i _ => (ws.length - i).toNat, ⟨rfl, 0, rfl, by omega, by simp [wsum]⟩, ?_⟩
  rintro n i w1 ⟨rfl, q, rfl, hq, rfl⟩
  have hb := wsum_take_le ws q
  refine brd (fun hlt => ?_) (fun hge => ?_)
  · have hq2 : q < ws.length := by omega
    refine needI h (by omega) (by omega) ⟨_, (by rw [Int.toNat_natCast]; exact intAt h q hq2), fun J hJ => ?_⟩
    have := v.each _ (List.getElem_mem hq2)
    refine brd (fun hg => absurd hg (by omega)) (fun _ => brd (fun hg => absurd hg (by omega)) (fun _ => hJ _ ⟨⟨rfl, q + 1, wr_succ (by omega), by omega, ?_⟩, by rw [wr_succ (by omega)]; (try dsimp only); omega⟩))
    rw [wr_i64 (by omega) (by omega), wsum_take_succ hq2]
    omega
  · have : q = ws.length := by omega
    subst this
    rw [List.take_length] at hb ⊢
    have hw := v.whole
    rw [tmod_pos (by omega)]
    refine bre' (fun hn => absurd hn (by omega)) (fun _ => ?_)
    rw [tdiv_pos (by omega), wr_i64 (by omega) (by omega)]
    exact k

theorem c100 {b : Sl} {l : List Int} {i : Int} {w : World} {R : SV → World → Prop} (h : SeesB w b l) (h0 : 0 ≤ i) (h1 : i < l.length) (k : R (.int .u8 (bt l i)) w) : Ret Tryd.prog 100 [.slice b, .int .i64 i] w R := by
  refine f100_of _ _ _ _ ?_
  unfold vc100
  have hlen := h.len
  refine fun J hJ => brd (fun hg => absurd hg (by omega)) (fun _ => brd (fun hg => absurd hg (by omega)) (fun _ => hJ _ ?_))
  exact needB h h0 h1 ⟨_, h.byte h0 h1, k⟩

theorem bt_take8 {l : List Int} {n i : Nat} (h : i < n) : bt (l.take n) (i : Int) = bt l (i : Int) := by
  simp only [bt, Int.toNat_natCast, List.getD_eq_getElem?_getD]
  rw [List.getElem?_take_of_lt h]

theorem c99 {b : Sl} {p n : Nat} {w : World} {R : SV → World → Prop} (h1 : p + n ≤ b.len) (hc : b.len ≤ b.cap) (hl : b.len < 9223372036854775807) (k : R (.slice (b.sub 1 p (p + n) (p + n))) w) : Ret Tryd.prog 99 [.slice b, .int .i64 (p : Int), .int .i64 (n : Int)] w R := by
  refine f99_of _ _ _ _ _ ?_
  unfold vc99
  intro J hJ
  rw [wr_i64 (x := (b.len : Int) - p) (by omega) (by omega)]
  refine brd (fun hg => absurd hg (by omega)) (fun _ => brd (fun hg => absurd hg (by omega)) (fun _ => brd (fun hg => absurd hg (by omega)) (fun _ => hJ _ ?_)))
  rw [wr_i64 (x := (p : Int) + n) (by omega) (by omega)]
  rw [show ((p : Int) + (n : Int)).toNat = p + n by omega, Int.toNat_natCast]
  exact need (by simp; omega) k

theorem c98 {p q r : Option Addr} {w : World} {Q : World → Prop} (hq : Q w) : RetD Tryd.prog 98 [.ptr p, .ptr q, .ptr r] w Q := by
  unfold RetD
  refine callsD_of_wpS Tryd.func98 (c := _) rfl fun c₀ cs hu => ?_
  refine wpS_seq (wpS_region ?_)
  have et : ({ tmps := (SV.encL [SV.ptr p, SV.ptr q, SV.ptr r]).toArray ++ Array.replicate (Tryd.f98.ntmps - (SV.encL [SV.ptr p, SV.ptr q, SV.ptr r]).toArray.size) undef, defers := [] } : Act) = { tmps := #[.pointer p, .pointer q, .pointer r, undef, undef], defers := [] } := rfl
  rw [et]
  simp only [List.size_toArray, List.length_cons, List.length_nil, List.range, List.range.loop, wpOpsS]
  simp only [List.getElem?_toArray, List.getElem?_cons_zero, List.getElem?_cons_succ, Region.wanted]
  have h1 : ∀ (a : Act) (w : World) (ty : Nat) (pos : String), (execOp a.eval { dst := some 3, op := Op.call { callee := Callee.builtin Builtin.recover, args := #[], argTypes := #[] }, type := ty, pos := pos, after := #[], guard := none }).run Tryd.prog w = .ok .recover w := fun a w ty pos => rfl
  simp only [h1, recoverD, hu, if_true, ite_true]
  have e2 : ({ tmps := #[.pointer p, .pointer q, .pointer r, undef, undef], defers := [] } : Act).put (some 3) Value.nilIface = { tmps := #[.pointer p, .pointer q, .pointer r, .nilIface, undef], defers := [] } := rfl
  rw [e2]
  have h2 : (execOp ({ tmps := #[.pointer p, .pointer q, .pointer r, .nilIface, undef], defers := [] } : Act).eval { dst := some 4, op := Op.binOp BinOp.neq 20 (Operand.tmp 3) (Operand.const Value.nilIface) 20, type := 4, pos := "view.go:80", after := #[{ on := 0, ground := Ground.data }], guard := none }).run Tryd.prog w = .ok (.value (.bool false)) w := by
    kernel_rfl
  rw [h2]
  simp only [Oper.upon]
  refine wpS_cond (t := false) rfl ?_
  refine wpS_of_wp (wp_skip ?_)
  have h3 : ∀ t : Array Value, ∃ v, (results Tryd.f98 t).run Tryd.prog w = .ok v w := fun t => ⟨.tuple #[], by
    have : results Tryd.f98 t = pure (.tuple #[]) := by
      unfold results
      rw [show Tryd.f98.results = #[] from rfl]
      simp
    rw [this]; rfl⟩
  obtain ⟨v, hv⟩ := h3 _
  exact ⟨rfl, .returning, by rw [← hu], v, hv, ⟨_, rfl⟩, rfl, hq⟩

/-- the fields of bytes from place 0 on -/
theorem c73 {b widths : Sl} {l ws : List Int} {w : World} {R : SV → World → Prop} (h : SeesB w b l) (hb : Byt l) (hc : b.len ≤ b.cap) (hl : l.length < 9223372036854775807) (hw : Sees cI64 w widths ws) (v : Wid ws) (hn : wsum ws / 8 ≤ l.length)
    (k : ∀ r n w1, Upd [] [] w w1 → Sees cI64 w1 r (fieldsOf l 0 ws) → R (.tuple [.slice r, .int .i64 n, .int .i64 0]) w1) : Ret Tryd.prog 73 [.slice b, .int .i64 0, .slice widths] w R := by
  refine f73_of _ _ _ _ _ ?_
  unfold vc73
  intro b1 b2 b3 w1 u1
  have hlen := h.len
  have hwl := hw.len
  have hv := v.len
  have hle := v.le
  have hwhole := v.whole
  refine c97 (hw.old u1) v ⟨_, _, rfl, kp (Upd.refl _), brf (by simp) fun w2 u2 => ?_⟩
  have n1 := u1.new (b := b1) (by simp)
  have n2 := u1.new (b := b2) (by simp)
  have n3 := u1.new (b := b3) (by simp)
  intro r1 o1 r2 o2 r3
  have v2 : Upd [] [] w w2 := u1.step0 u2 (by simp; omega)
  have d12 : b1 ≠ b2 := fun e => o1 (by simp [e])
  have d13 : b1 ≠ b3 := fun e => o1 (by simp [e])
  have d23 : b2 ≠ b3 := fun e => o2 (by simp [e])
  have B1 : Box cSl w2 b1 ⟨none, 0, 0⟩ := .mk' r1 rfl
  have B2 : Box cI64 w2 b2 0 := .mk' r2 rfl
  have B3 : Box cI64 w2 b3 0 := .mk' r3 rfl
  refine c99 (b := b) (p := 0) (n := wsum ws / 8) (by omega) hc (by omega) ⟨_, rfl, ?_⟩
  have hz := v2.size
  generalize hm : wsum ws / 8 = m at *
  refine ⟨fun t i w' => Upd [] [] w w' ∧ ∃ (q : Nat) (s : Sl), i = q ∧ q ≤ ws.length ∧ t = (wsum (ws.take q) : Nat) ∧ Box cSl w' b1 s ∧ Box cI64 w' b2 0 ∧ Box cI64 w' b3 0 ∧ Sees cI64 w' s (fieldsOf l 0 (ws.take q)) ∧ Own w2.heap.size 1 w' s ∧ w2.heap.size ≤ w'.heap.size,
    fun _ i _ => (ws.length - i).toNat, ⟨v2, 0, _, rfl, by omega, by simp [wsum], B1, B2, B3, Sees.nil _ _ _ _, Own.none _ _ _, Nat.le_refl _⟩, ?_⟩
  rintro t i w3 ⟨v3, q, s, rfl, hq, rfl, C1, C2, C3, hs, ho, z3⟩
  have hw3 := hw.old v3
  have h3 := h.old v3
  have hsub : SeesB w3 (b.sub 1 0 (0 + m) (0 + m)) (l.take m) := by
    have := h3.subB (lo := 0) (hi := m) (mx := m) (by omega) (by omega) (by omega)
    simpa using this
  have hlt1 := C1.lt
  refine brd (fun hlt => ?_) (fun hge => ?_)
  · have hq2 : q < ws.length := by omega
    have hwq := v.each _ (List.getElem_mem hq2)
    have hts := wsum_take_succ hq2
    have htl := wsum_take_le ws (q + 1)
    refine needI hw3 (by omega) (by omega) ⟨_, (by rw [Int.toNat_natCast]; exact intAt hw3 q hq2), ?_⟩
    refine ⟨fun t' a i' w' => w' = w3 ∧ ∃ n : Nat, i' = n ∧ n ≤ (ws[q]).toNat ∧ t' = (wsum (ws.take q) + n : Nat) ∧ a = bitsN l (wsum (ws.take q)) n, fun _ _ i' _ => (ws[q] - i').toNat, ⟨rfl, 0, rfl, by omega, by simp, rfl⟩, ?_⟩
    rintro t' a i' w' ⟨rfl, n, rfl, hn1, rfl, rfl⟩
    refine brd (fun hlt2 => ?_) (fun hge2 => ?_)
    · have hbr := bitsN_r l (wsum (ws.take q)) n
      have hp : (2 : Int) ^ n ≤ 2 ^ 31 := by exact_mod_cast Nat.pow_le_pow_right (by omega) (by omega)
      have et : wr .i64 (Int.tdiv ((wsum (ws.take q) + n : Nat) : Int) 8) = (((wsum (ws.take q) + n) / 8 : Nat) : Int) := by rw [tdiv_pos (by omega), wr_i64 (by omega) (by omega)]; omega
      rw [et]
      refine c100 hsub (by omega) (by simp; omega) ⟨_, rfl, ?_⟩
      rw [bt_take8 (by omega)]
      have hbt := hb.bt (((wsum (ws.take q) + n) / 8 : Nat) : Int)
      refine need (by rw [tmod_pos (by omega), u64_id (n := ((wsum (ws.take q) + n : Nat) : Int) % 8) (by omega) (by omega), u64_id (by omega) (by omega)]; simp; omega) ?_
      rw [bit_step hbt (by omega)]
      refine ⟨⟨rfl, n + 1, wr_succ (by omega), by omega, by rw [wr_i64 (by omega) (by omega)]; omega, rfl⟩, by rw [wr_succ (q := n) (by omega)]; (try dsimp only); omega⟩
    · have hnq : n = (ws[q]).toNat := by omega
      subst hnq
      refine ⟨_, C1.sl, ?_⟩
      intro b4 w4 u4 hr4
      have ho4 := ho.old u4
      refine append_own (c := cI64) (new := [bitsN l (wsum (ws.take q)) (ws[q]).toNat]) (hs.old u4) ho4 (sees_row hr4 _ rfl rfl) (by have := u4.size; omega) (by simp) (by decide) (by simp [fieldsOf_len]; omega) fun r w5 hr ho5 u5 hnw => ?_
      have hsb : ∀ x ∈ s.blk, w2.heap.size ≤ x := fun x hx => (ho.blk x hx).1
      have hb12 : b1 < w2.heap.size := B1.lt
      have hb22 : b2 < w2.heap.size := B2.lt
      have hb32 : b3 < w2.heap.size := B3.lt
      have D1 := (C1.old u4).upd u5 (fun hx => by have := hsb _ hx; omega)
      have D2 := (C2.old u4).upd u5 (fun hx => by have := hsb _ hx; omega)
      have D3 := (C3.old u4).upd u5 (fun hx => by have := hsb _ hx; omega)
      refine D1.set (y := r) (by decide) rfl (by simp) fun w6 E1 u6 => ?_
      have hrb : b1 ∉ r.blk := fun hx => by
        have := (ho5.blk _ hx).1; omega
      refine ⟨⟨((v3.then u4).step0 u5 (fun x hx => by have := hsb x hx; omega)).step0 u6 (by simp; omega), q + 1, r, wr_succ (by omega), by omega, by rw [hts], E1, D2.upd u6 (by simpa using d12.symm), D3.upd u6 (by simpa using d13.symm), ?_, ho5.upd u6 (fun x hx hm => by simp at hm; subst hm; exact hrb hx), by have := u4.size; have := u5.size; have := u6.size; omega⟩, by rw [wr_succ (by omega)]; (try dsimp only); omega⟩
      rw [fieldsOf_snoc l hq2]
      exact hr.upd u6 (fun x hx hm => by simp at hm; subst hm; exact hrb hx)
  · have hqe : q = ws.length := by omega
    subst hqe
    rw [List.take_length] at hs
    have hb12 : b1 < w2.heap.size := B1.lt
    refine ⟨_, C1.sl, ?_⟩
    refine C1.set (y := s) (by decide) rfl (by simp) fun w6 E1 u6 => ?_
    have hsb : b1 ∉ s.blk := fun hx => by have := (ho.blk _ hx).1; omega
    have hsb2 : b2 ∉ s.blk := fun hx => by have := (ho.blk _ hx).1; have := B2.lt; omega
    have hsb3 : b3 ∉ s.blk := fun hx => by have := (ho.blk _ hx).1; have := B3.lt; omega
    refine (C2.upd u6 (by simpa using d12.symm)).set (y := wr .i64 (0 + (m : Int))) (by decide) rfl (by simp) fun w7 E2 u7 => ?_
    refine ((C3.upd u6 (by simpa using d13.symm)).upd u7 (by simpa using d23.symm)).set (y := 0) (by decide) rfl (by simp) fun w8 E3 u8 => ?_
    refine c98 ⟨_, ((E1.upd u7 (by simpa using d12)).upd u8 (by simpa using d13)).sl, _, (E2.upd u8 (by simpa using d23)).i64, _, E3.i64, ?_⟩
    refine k s _ w8 (((v3.step0 u6 (by simp; omega)).step0 u7 (by simp; omega)).step0 u8 (by simp; omega)) ?_
    exact ((hs.upd u6 (fun x hx hm => by simp at hm; subst hm; exact hsb hx)).upd u7 (fun x hx hm => by simp at hm; subst hm; exact hsb2 hx)).upd u8 (fun x hx hm => by simp at hm; subst hm; exact hsb3 hx)
end Go.Vc.S9
end

section
open Go Go.Vc Go.Proofs
set_option linter.unusedVariables false
set_option linter.unusedSimpArgs false
set_option autoImplicit false
namespace Go.Vc.S9

theorem bytesT_bt {S : Nat → Int} {n t i : Nat} (h : i < n) : bt (bytesT S n t) (i : Int) = byteT S t i := by
  rw [bt_nat (by rw [bytesT_len]; exact h)]
  simp [bytesT]
/-- values put together -/
theorem c71 {widths values : Sl} {ws vs : List Int} {w : World} {R : SV → World → Prop} (hw : Sees cI64 w widths ws) (hv : Sees cI64 w values vs) (v : Wid ws) (hl : vs.length = ws.length)
    (hr : ∀ i (h : i < ws.length), 0 ≤ vs[i] ∧ vs[i] < 2 ^ (ws[i]).toNat)
    (k : ∀ r w1, Upd [] [] w w1 → SeesB w1 r (packB ws vs (wsum ws / 8)) → Own w.heap.size 1 w1 r → R (.tuple [.slice r, .int .i64 0]) w1) : Ret Tryd.prog 71 [.slice widths, .slice values] w R := by
  refine f71_of _ _ _ _ ?_
  unfold vc71
  have hwl := hw.len
  have hvl := hv.len
  have hlen := v.len
  have hle := v.le
  have hwhole := v.whole
  refine c97 hw v ⟨_, _, rfl, brf (by simp) ?_⟩
  refine bre' (fun hn => absurd hn (by omega)) (fun _ => ?_)
  have hm8 : 8 * (wsum ws / 8) = wsum ws := by omega
  unfold packB at k
  rw [hm8] at k
  generalize hm : wsum ws / 8 = m at *
  refine need (by simp; omega) ?_
  intro b w1 u1 hrow
  rw [Int.toNat_natCast, zeros_cells] at hrow
  rw [Int.toNat_natCast]
  have hs1 : SeesB w1 ⟨some ⟨b, 0, none⟩, m, m⟩ (bytesT (strm ws vs) m 0) := by rw [bytesT_zero]; exact sees_row hrow _ rfl (by simp)
  have ho1 : Own w.heap.size 1 w1 ⟨some ⟨b, 0, none⟩, m, m⟩ := own_row hrow (u1.new (by simp)).1 (by rw [Cod.cells_length]; simp [cU8]) (Nat.le_refl _)
  have hS := strm_r ws vs
  refine ⟨fun t i w' => Upd [] [] w w' ∧ Own w.heap.size 1 w' ⟨some ⟨b, 0, none⟩, m, m⟩ ∧ ∃ q : Nat, i = q ∧ q ≤ ws.length ∧ t = (wsum (ws.take q) : Nat) ∧ SeesB w' ⟨some ⟨b, 0, none⟩, m, m⟩ (bytesT (strm ws vs) m (wsum (ws.take q))),
    fun _ i _ => (ws.length - i).toNat, ⟨u1.forget, ho1, 0, rfl, by omega, by simp [wsum], by simpa [wsum] using hs1⟩, ?_⟩
  rintro t i w2 ⟨u2, o2, q, rfl, hq, rfl, s2⟩
  have hw2 := hw.old u2
  have hv2 := hv.old u2
  refine brd (fun hlt => ?_) (fun hge => ?_)
  · have hq2 : q < ws.length := by omega
    have hq3 : q < vs.length := by omega
    have hwq := v.each _ (List.getElem_mem hq2)
    have hrq := hr q hq2
    have hts := wsum_take_succ hq2
    have htl := wsum_take_le ws (q + 1)
    refine needI hw2 (by omega) (by omega) ⟨_, (by rw [Int.toNat_natCast]; exact intAt hw2 q hq2), needI hv2 (by omega) (by omega) ⟨_, (by rw [Int.toNat_natCast]; exact intAt hv2 q hq3), fun J hJ => ?_⟩⟩
    refine brd (fun hg => absurd hg (by omega)) (fun _ => need (by rw [u64_id (by omega) (by omega)]; simp; omega) ?_)
    have e1 : gshr .i64 vs[q] (wr .u64 ws[q]) = 0 := by
      rw [u64_id (by omega) (by omega), gshr_i64 _ _ (by omega), Int.fdiv_eq_ediv_of_nonneg _ (Int.le_of_lt (Int.pow_pos (by decide)))]
      exact Int.ediv_eq_zero_of_lt hrq.1 hrq.2
    rw [e1]
    refine brf (by simp) (hJ _ ?_)
    clear hJ
    rw [wr_i64 (x := ws[q] - 1) (by omega) (by omega)]
    refine ⟨fun t' i' w' => Upd [] [] w w' ∧ Own w.heap.size 1 w' ⟨some ⟨b, 0, none⟩, m, m⟩ ∧ ∃ n : Nat, i' = ws[q] - 1 - n ∧ n ≤ (ws[q]).toNat ∧ t' = (wsum (ws.take q) + n : Nat) ∧ SeesB w' ⟨some ⟨b, 0, none⟩, m, m⟩ (bytesT (strm ws vs) m (wsum (ws.take q) + n)),
      fun _ i' _ => (i' + 1).toNat, ⟨u2, o2, 0, by omega, by omega, by simp, by simpa using s2⟩, ?_⟩
    rintro t' i' w3 ⟨u3, o3, n, rfl, hn, rfl, s3⟩
    refine brd (fun hlt2 => ?_) (fun hge2 => ?_)
    · have et : wr .i64 (Int.tdiv ((wsum (ws.take q) + n : Nat) : Int) 8) = (((wsum (ws.take q) + n) / 8 : Nat) : Int) := by rw [tdiv_pos (by omega), wr_i64 (by omega) (by omega)]; omega
      have hi8 : (wsum (ws.take q) + n) / 8 < m := by omega
      rw [et]
      refine needIxT (by omega) (by omega) ⟨_, (by rw [Int.toNat_natCast]; exact byteC s3 _ (by rw [bytesT_len]; exact hi8)), ?_⟩
      rw [bytesT_bt hi8]
      refine need (by rw [u64_id (by omega) (by omega)]; simp; omega) (need (by rw [tmod_pos (by omega), u64_id (n := ((wsum (ws.take q) + n : Nat) : Int) % 8) (by omega) (by omega), u64_id (by omega) (by omega)]; simp; omega) (needIxT (by omega) (by omega) ?_))
      have ei : ws[q] - 1 - (n : Int) = (((ws[q]).toNat - 1 - n : Nat) : Int) := by omega
      rw [ei, bit_put (byteT_r hS _ _) (byteT_step hS _).2 (by omega), Int.toNat_natCast]
      refine own_set (c := cU8) (x := byteT (strm ws vs) (wsum (ws.take q) + n) ((wsum (ws.take q) + n) / 8) + vs[q] / 2 ^ ((ws[q]).toNat - 1 - n) % 2 * 2 ^ (7 - (wsum (ws.take q) + n) % 8)) s3 o3 (by decide) (by rw [bytesT_len]; exact hi8) rfl (by simp) fun w4 s4 o4 u4 => ?_
      rw [← strm_at ws vs q n hq2 hq3 (by omega), bytesT_set hS] at s4
      have hb : ∀ x ∈ (⟨some ⟨b, 0, none⟩, m, m⟩ : Sl).blk, w.heap.size ≤ x := fun x hx => (o3.blk x hx).1
      rw [← ei]
      refine ⟨⟨u3.step0 u4 hb, o4, n + 1, ?_, by omega, ?_, s4⟩, ?_⟩
      · rw [wr_i64 (by omega) (by omega)]; omega
      · rw [wr_i64 (by omega) (by omega)]; omega
      · rw [wr_i64 (x := ws[q] - 1 - (n : Int) - 1) (by omega) (by omega)]; (try dsimp only); omega
    · have hnq : n = (ws[q]).toNat := by omega
      subst hnq
      refine ⟨⟨u3, o3, q + 1, wr_succ (by omega), by omega, by rw [hts], by rw [hts]; exact s3⟩, by rw [wr_succ (q := q) (by omega)]; (try dsimp only); omega⟩
  · have hqe : q = ws.length := by omega
    subst hqe
    rw [List.take_length] at s2
    exact k _ w2 u2 s2 o2
end Go.Vc.S9
end
