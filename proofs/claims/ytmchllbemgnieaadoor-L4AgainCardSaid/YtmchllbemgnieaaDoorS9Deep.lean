import Derived.Test.YtmchllbemgnieaaDoorG10
import Derived.Test.YtmchllbemgnieaaDoorG6
import Derived.Test.YtmchllbemgnieaaDoorS9TxtL7
open Go Go.Vc Go.Proofs Go.ChangeShapes Go.WideShapes Go.ChangeAt Go.RowKit
set_option linter.unusedVariables false
set_option linter.unusedSimpArgs false
set_option autoImplicit false
namespace Go.Vc.S9
/-- a datagram that was handed in -/
structure HandU (w : World) (u : UdV) (d : Sl) : Prop where
  data : SeesB w d u.data
  dlen : u.data.length ≤ 140737488351232
  fit : UFit u
  dcap : d.len ≤ d.cap
theorem HandU.old {w w1 : World} {u : UdV} {d : Sl} {n : List Nat} (h : HandU w u d) (up : Upd [] n w w1) : HandU w1 u d := ⟨h.data.old up, h.dlen, h.fit, h.dcap⟩
/-- a segment that was handed in -/
structure HandT (w : World) (t : TcV) (so sd : Sl) (os : List (Int × Sl)) : Prop where
  opts : Opts w so t.opts os
  few : t.opts.length ≤ 4398046511000
  small : ∀ o ∈ t.opts, o.data.length ≤ 140737488351232
  data : SeesB w sd t.data
  dlen : t.data.length ≤ 140737488351232
  fit : TFit t
  dcap : sd.len ≤ sd.cap
  ocap : so.len ≤ so.cap
  ocaps : ∀ y ∈ os, y.2.len ≤ y.2.cap
theorem HandT.old {w w1 : World} {t : TcV} {so sd : Sl} {os : List (Int × Sl)} {n : List Nat} (h : HandT w t so sd os) (u : Upd [] n w w1) : HandT w1 t so sd os := ⟨h.opts.old u, h.few, h.small, h.data.old u, h.dlen, h.fit, h.dcap, h.ocap, h.ocaps⟩
section
variable {H : Type} {w : World}
noncomputable def und30f : Array Field := match Tryd.prog.underlying 30 with | some (.struct fs) => fs | _ => #[]
theorem und30 : Tryd.prog.underlying 30 = some (.struct und30f) := by kernel_rfl
theorem und30t : und30f.toList.map (·.type) = [3, 3, 4, 28] := by kernel_rfl
noncomputable def und45f : Array Field := match Tryd.prog.underlying 45 with | some (.struct fs) => fs | _ => #[]
theorem und45 : Tryd.prog.underlying 45 = some (.struct und45f) := by kernel_rfl
theorem und45t : und45f.toList.map (·.type) = [3, 3, 3, 3, 3, 3, 3, 43, 28] := by kernel_rfl
noncomputable def und60f : Array Field := match Tryd.prog.underlying 60 with | some (.struct fs) => fs | _ => #[]
theorem und60 : Tryd.prog.underlying 60 = some (.struct und60f) := by kernel_rfl
theorem und60t : und60f.toList.map (·.type) = [3, 28] := by kernel_rfl
theorem und43 : Tryd.prog.underlying 43 = some (.slice 60) := by kernel_rfl
theorem und28 : Tryd.prog.underlying 28 = some (.slice 5) := by kernel_rfl
theorem bytes60 : Tryd.prog.bytesOf 60 = 32 := by kernel_rfl
theorem bytes5 : Tryd.prog.bytesOf 5 = 1 := by kernel_rfl
/-- a datum of options, and its list -/
def OptDat (d : DataW H) (l : List Opt) : Prop := d = .nil ∧ l = [] ∨ ∃ els sp, d = .slice els sp ∧ els.length = l.length ∧ ∀ i (hi : i < l.length), ∃ dk dd, els[i]? = some (.agg [dk, dd]) ∧ SlLen dd l[i].data.length
theorem deep_optsL {m : Nat} {x : SV} {d : DataW H} (h : Deep X w m (X.T 43) x d) : ∃ (s : Sl) (l : List Opt) (os : List (Int × Sl)), x = .slice s ∧ Opts w s l os ∧ (∀ o ∈ l, Byt o.data) ∧ (∀ y ∈ os, y.2.len ≤ y.2.cap) ∧ s.len ≤ s.cap ∧ OptDat d l :=
  dp_opts (t := 43) (e := 60) (t2 := 28) (e2 := 5) rfl rfl rfl rfl h
/-- an address that comes in -/
theorem deep_adr {m : Nat} {x : SV} {d : DataW H} (h : Deep X w m (X.T 27) x d) : ∃ (v : Int) (a : Nat → Int), x = adr v a ∧ (∀ i, i < 16 → 0 ≤ a i ∧ a i < 256) := by
  obtain ⟨v, a, rfl, _, r⟩ := dp_ip (show Deep X w m (.struct false [.int .i64, .arr .u8 16]) x d from h)
  exact ⟨v, a, rfl, r⟩
theorem deep_udp {m : Nat} {x : SV} {d : DataW H} (h : Deep X w m (X.T 30) x d) :
    ∃ (u : UdV) (sd : Sl) (a1 a2 a3 dd : DataW H), x = udSV u sd ∧ SeesB w sd u.data ∧ UFit u ∧ sd.len ≤ sd.cap ∧ d = .agg [a1, a2, a3, dd] ∧ SlLen dd u.data.length := by
  obtain ⟨fs, l, m', rfl, rfl, hh⟩ := dp_struct (b := false) (ts := [.int .i64, .int .i64, .bool, .slice 5]) (show Deep X w m (.struct false [.int .i64, .int .i64, .bool, .slice 5]) x d from h)
  obtain ⟨x1, _, d1, _, rfl, rfl, h1, hh⟩ := all3_cons hh
  obtain ⟨x2, _, d2, _, rfl, rfl, h2, hh⟩ := all3_cons hh
  obtain ⟨x3, _, d3, _, rfl, rfl, h3, hh⟩ := all3_cons hh
  obtain ⟨x4, _, d4, _, rfl, rfl, h4, hh⟩ := all3_cons hh
  obtain ⟨rfl, rfl⟩ := all3_nil hh
  obtain ⟨n1, rfl, _, i1⟩ := dp_int h1
  obtain ⟨n2, rfl, _, i2⟩ := dp_int h2
  obtain ⟨n3, rfl, _⟩ := dp_bool h3
  obtain ⟨sd, data, rfl, hd, hdb, hdc, hsl⟩ := deep_bytes' (X := X) (t := 28) (e := 5) rfl rfl (show Deep X w m' (X.T 28) x4 d4 from h4)
  exact ⟨⟨n1, n2, n3, data⟩, sd, d1, d2, d3, d4, rfl, hd, ⟨hdb⟩, hdc, rfl, hsl⟩
theorem deep_tcp {m : Nat} {x : SV} {d : DataW H} (h : Deep X w m (X.T 45) x d) :
    ∃ (t : TcV) (so sd : Sl) (os : List (Int × Sl)) (a1 a2 a3 a4 a5 a6 a7 do_ dd : DataW H), x = tcSV t so sd ∧ Opts w so t.opts os ∧ SeesB w sd t.data ∧ TFit t ∧ sd.len ≤ sd.cap ∧ so.len ≤ so.cap ∧ (∀ y ∈ os, y.2.len ≤ y.2.cap) ∧ d = .agg [a1, a2, a3, a4, a5, a6, a7, do_, dd] ∧ OptDat do_ t.opts ∧ SlLen dd t.data.length := by
  obtain ⟨fs, l, m', rfl, rfl, hh⟩ := dp_struct (b := false) (ts := [.int .i64, .int .i64, .int .i64, .int .i64, .int .i64, .int .i64, .int .i64, .slice 60, .slice 5]) (show Deep X w m (.struct false [.int .i64, .int .i64, .int .i64, .int .i64, .int .i64, .int .i64, .int .i64, .slice 60, .slice 5]) x d from h)
  obtain ⟨x1, _, d1, _, rfl, rfl, h1, hh⟩ := all3_cons hh
  obtain ⟨x2, _, d2, _, rfl, rfl, h2, hh⟩ := all3_cons hh
  obtain ⟨x3, _, d3, _, rfl, rfl, h3, hh⟩ := all3_cons hh
  obtain ⟨x4, _, d4, _, rfl, rfl, h4, hh⟩ := all3_cons hh
  obtain ⟨x5, _, d5, _, rfl, rfl, h5, hh⟩ := all3_cons hh
  obtain ⟨x6, _, d6, _, rfl, rfl, h6, hh⟩ := all3_cons hh
  obtain ⟨x7, _, d7, _, rfl, rfl, h7, hh⟩ := all3_cons hh
  obtain ⟨x8, _, d8, _, rfl, rfl, h8, hh⟩ := all3_cons hh
  obtain ⟨x9, _, d9, _, rfl, rfl, h9, hh⟩ := all3_cons hh
  obtain ⟨rfl, rfl⟩ := all3_nil hh
  obtain ⟨n1, rfl, _, i1⟩ := dp_int h1
  obtain ⟨n2, rfl, _, i2⟩ := dp_int h2
  obtain ⟨n3, rfl, _, i3⟩ := dp_int h3
  obtain ⟨n4, rfl, _, i4⟩ := dp_int h4
  obtain ⟨n5, rfl, _, i5⟩ := dp_int h5
  obtain ⟨n6, rfl, _, i6⟩ := dp_int h6
  obtain ⟨n7, rfl, _, i7⟩ := dp_int h7
  obtain ⟨so, lo, os, rfl, ho, hob, hoc, hsc, hdo⟩ := deep_optsL (show Deep X w m' (X.T 43) x8 d8 from h8)
  obtain ⟨sd, data, rfl, hd, hdb, hdc, hsl⟩ := deep_bytes' (X := X) (t := 28) (e := 5) rfl rfl (show Deep X w m' (X.T 28) x9 d9 from h9)
  exact ⟨⟨n1, n2, n3, n4, n5, n6, n7, lo, data⟩, so, sd, os, d1, d2, d3, d4, d5, d6, d7, d8, d9, rfl, ho, hd, ⟨hob, hdb⟩, hdc, hsc, hoc, rfl, hdo, hsl⟩
/-- of what weighs little -/
theorem handU_of {u : UdV} {sd : Sl} {a1 a2 a3 dd : DataW H} (hd : SeesB w sd u.data) (hf : UFit u) (hc : sd.len ≤ sd.cap) (hsl : SlLen dd u.data.length) (hL : Light Tryd.prog 30 (.agg [a1, a2, a3, dd])) : HandU w u sd := by
  have h := light_struct und30 und30t hL
  have g := (light_head (light_head (light_head h).2).2).2
  exact ⟨hd, light_len und28 bytes5 (light_head g).1 hsl, hf, hc⟩
theorem handT_of {t : TcV} {so sd : Sl} {os : List (Int × Sl)} {a1 a2 a3 a4 a5 a6 a7 do_ dd : DataW H} (ho : Opts w so t.opts os) (hd : SeesB w sd t.data) (hf : TFit t) (hc : sd.len ≤ sd.cap) (hc2 : so.len ≤ so.cap) (hc3 : ∀ y ∈ os, y.2.len ≤ y.2.cap) (hdo : OptDat do_ t.opts) (hsl : SlLen dd t.data.length)
    (hL : Light Tryd.prog 45 (.agg [a1, a2, a3, a4, a5, a6, a7, do_, dd])) : HandT w t so sd os := by
  have h := light_struct und45 und45t hL
  have g := (light_head (light_head (light_head (light_head (light_head (light_head (light_head h).2).2).2).2).2).2).2
  have g8 := light_head g
  have g9 := light_head g8.2
  have q := light_opts und43 bytes60 und60 und60t und28 bytes5 g8.1 hdo
  have q2 := light_len und28 bytes5 g9.1 hsl
  exact ⟨ho, q.1, q.2, hd, q2, hf, hc, hc2, hc3⟩
end
section
variable {e : Ends} {w : World} {R : SV → World → Prop} {u : UdV} {t : TcV} {so sd d : Sl} {os : List (Int × Sl)}
theorem c25H {v : Int} (h : HandU w u d) (k : ∀ w1, Upd [] [] w w1 → R (.int .i64 (udChk v u)) w1) : Ret Tryd.prog 25 [.int .i64 v, udSV u d] w R := c25 h.data.len k
theorem c26H (hg : Tabs w) (o : e.Ok) (h : HandT w t so sd os) (k : ∀ r w1, Upd [] [] w w1 → SeesB w1 r (tcSerL e t) → Own w.heap.size 1 w1 r → R (.tuple [.slice r, .int .i64 (tcPE e t)]) w1) : Ret Tryd.prog 26 [adr e.sv e.sa, adr e.dv e.da, tcSV t so sd] w R :=
  c26 hg o h.fit h.opts (by have := h.few; omega) (fun o ho => by have := h.small o ho; omega) h.data (by have := h.dlen; omega) k
theorem c29H (hg : Tabs w) (h : HandT w t so sd os) (k : ∀ w1, Upd [] [] w w1 → R (.int .i64 (tcChk t)) w1) : Ret Tryd.prog 29 [tcSV t so sd] w R :=
  c29 hg h.opts (by have := h.few; omega) (fun o ho => by have := h.small o ho; omega) h.data.len (by have := h.dlen; omega) k
theorem udSerL_byt (f : UFit u) : Byt (udSerL e u) := by
  unfold udSerL; split
  · exact udSer_byt f
  · intro x hx; simp at hx
theorem tcSerL_byt (f : TFit t) : Byt (tcSerL e t) := by
  unfold tcSerL; split
  · rename_i h; exact tcSer_byt (tcPE_ok h).2 f
  · intro x hx; simp at hx
theorem udSerL_len (e : Ends) (u : UdV) : (udSerL e u).length ≤ 65535 := by
  unfold udSerL; split
  · rename_i h
    have := (udChk_ok (udPE_ok h).2).2.2.2.2
    rw [udSer_len]; omega
  · simp
theorem tcSerL_len (e : Ends) (t : TcV) : (tcSerL e t).length ≤ 65535 := by
  unfold tcSerL; split
  · rename_i h
    have := (tcChk_ok (tcPE_ok h).2).2.2.2.2.2.2.2.2
    rw [tcSer_len]; omega
  · simp
/-- everything that ParseTcp answers, at hand -/
theorem c27' {b : Sl} {l : List Int} (hg : Tabs w) (o : e.Ok) (h : SeesB w b l) (hb : Byt l) (hc : b.len ≤ b.cap) (hl : l.length ≤ 140737488355328)
    (k : ∀ s w1, Upd [] [] w w1 → Opts w1 s (tcOf e l).opts (osT e b l) → SeesB w1 (dT e b l) (tcOf e l).data → Own w.heap.size 2 w1 s → R (.tuple [tcSV (tcOf e l) s (dT e b l), .int .i64 (tcErr e l)]) w1) : Ret Tryd.prog 27 [adr e.sv e.sa, adr e.dv e.da, .slice b] w R :=
  c27 hg o h hb hc hl fun s w1 u hs ho => k s w1 u (osT_opts hb (h.old u) hs) (dT_sees (h.old u)) ho
theorem tcOf_small {l : List Int} (hb : Byt l) : (tcOf e l).opts.length ≤ 40 ∧ (∀ o ∈ (tcOf e l).opts, o.data.length ≤ 40) ∧ (tcOf e l).data.length ≤ l.length := by
  unfold tcOf
  split
  · rename_i h
    obtain ⟨h1, h2, h3, h4, h5, h6⟩ := tcErr_ok h
    obtain ⟨hp, hl40⟩ := optsP_places ok9_two (tob_byt hb) h6
    have h7 := flat_ge ((tps l).map (optAt (tob l)))
    have h8 := (optsP_ok ok9_two (tob_byt hb) h6).2
    refine ⟨?_, fun o ho => ?_, ?_⟩
    · show ((tps l).map (optAt (tob l))).length ≤ 40
      omega
    · obtain ⟨p, hp', rfl⟩ := List.mem_map.1 ho
      have := hp p hp'
      simp [optAt]; omega
    · show (l.drop (tcHd l)).length ≤ l.length
      simp
  · simp [tcZ]
theorem udOf_small {l : List Int} : (udOf e l).data.length ≤ l.length := by
  unfold udOf
  split
  · show ((l.take (udLen l)).drop 8).length ≤ l.length
    simp; omega
  · simp [udZ]
set_option maxRecDepth 10000 in
theorem c8 (hg : Tabs w) (o : e.Ok) (h : HandT w t so sd os) : Ret Tryd.prog 8 [adr e.sv e.sa, adr e.dv e.da, tcSV t so sd] w fun r w1 => r = .bool true ∧ Upd [] [] w w1 := by
  refine f8_of _ _ _ _ _ _ _ _ _ _ _ _ _ _ _ ?_
  unfold vc8
  intro b b1 b2 w1 u1
  refine c18 (hg.old u1) fun w2 u2 => ⟨_, rfl, kp u2, ?_⟩
  have v2 := u1.then u2
  refine c26H (hg.old v2) o (h.old v2) fun s w3 u3 hs ho => ⟨_, _, rfl, kp u3, ?_⟩
  have v3 := v2.then u3
  intro J hJ
  have hsl := hs.len
  refine brf rfl (c20 ⟨_, rfl, kp (Upd.refl _), ?_⟩)
  refine bre' (fun hne => brt rfl ⟨?_, v3⟩) (fun hc => ?_)
  · unfold tcSerL at hsl
    rw [if_neg hne] at hsl
    rw [show s.len = 0 from hsl]; rfl
  (repeat refine And.intro rfl ?_)
  refine hJ _ ?_
  clear hJ
  have hlen := tcSerL_len e t
  unfold tcSerL at hs hsl hlen
  rw [if_pos hc] at hs hsl hlen
  have hsb := tcSer_byt (e := e) (tcPE_ok hc).2 h.fit
  obtain ⟨b1', b2'⟩ := tc_back o h.fit hc
  refine c27' (e := e) (hg.old v3) o hs hsb ho.le (by omega) fun so4 w4 u4 hO4 hD4 _ => ⟨_, _, _, _, _, _, _, _, _, _, rfl, kp u4, ?_⟩
  rw [b1'] 
  rw [b2'] at hO4 hD4 ⊢
  have v4 := v3.then u4
  intro b5 w5 u5
  have v5 := v4.then u5
  obtain ⟨hf, hck⟩ := tcPE_ok hc
  have hpf := psE_fit hf (p := 6) (n := (s.len : Int)) (by omega) (by omega)
  refine c22 (e := e) fun sp w6 u6 hsp _ => ⟨_, _, rfl, kp u6, ?_⟩
  rw [hpf.1]
  rw [hpf.2] at hsp
  have v6 := v5.then u6
  refine c20 ⟨_, rfl, kp (Upd.refl _), brt rfl (c20 ⟨_, rfl, kp (Upd.refl _), brt rfl ?_⟩)⟩
  have h6 := h.old v6
  refine c28T h6.opts ((hO4.old u5).old u6) h.fit.opts (by have := h.few; omega) h6.data ((hD4.old u5).old u6) h.fit.data fun w7 u7 => ⟨_, rfl, kp u7, brt rfl ?_⟩
  have v7 := v6.then u7
  intro b8 w8 u8 hr8
  have v8 := v7.then u8
  have t38 := (((u4.then u5).then u6).then u7).then u8
  have hs8 := hs.old t38
  have hP := rowP (n := 2) (cap := 2) hr8 (ss := [sp, s]) rfl rfl (ls := [psB e 6 (s.len : Int), tcSer e t]) ⟨(hsp.old u7).old u8, hs8, trivial⟩
  have hpl := psB_len e 6 (s.len : Int)
  have hck' := tcCk_r o hck h.fit
  have hsl3 := tcSer_len e t
  obtain ⟨_, _, _, _, _, _, _, h8, h9⟩ := tcChk_ok hck
  have hr8' := thL_r h8
  refine c24 hP (by simp; exact ⟨psB_byt o, hsb⟩) (by simp) (by simp; omega) ⟨_, rfl, kp (Upd.refl _), ?_⟩
  have e1 : ([psB e 6 (s.len : Int), tcSer e t] : List (List Int)).flatten = psB e 6 ((tcSer e t).length : Int) ++ tcSer e t := by rw [hsl]; simp
  have e2 : sumOf ([psB e 6 (s.len : Int), tcSer e t] : List (List Int)).flatten = 65535 := by rw [e1]; exact hck'.2.2
  rw [e2]
  have hdl := h.data.len
  refine brt rfl (brt (by rw [tmod_pos (by omega), tmod_pos (by omega)]; simp; omega) ?_)
  refine c29H (hg.old v8) (h.old v8) fun w9 u9 => ⟨_, rfl, kp u9, c20 ⟨_, rfl, kp (Upd.refl _), ?_, v8.then u9⟩⟩
  rw [hck]; rfl
set_option maxRecDepth 10000 in
theorem c7 (hg : Tabs w) (o : e.Ok) (h : HandU w u d) : Ret Tryd.prog 7 [adr e.sv e.sa, adr e.dv e.da, udSV u d] w fun r w1 => r = .bool true ∧ Upd [] [] w w1 := by
  refine f7_of _ _ _ _ _ _ _ _ _ _ ?_
  unfold vc7
  intro b b1 b2 w1 u1
  refine c18 (hg.old u1) fun w2 u2 => ⟨_, rfl, kp u2, ?_⟩
  have v2 := u1.then u2
  refine c19 (hg.old v2) o h.fit (h.old v2).data fun s w3 u3 hs ho => ⟨_, _, rfl, kp u3, ?_⟩
  have v3 := v2.then u3
  intro J hJ
  have hsl := hs.len
  refine brf rfl (c20 ⟨_, rfl, kp (Upd.refl _), ?_⟩)
  refine bre' (fun hne => brt rfl ⟨?_, v3⟩) (fun hc => ?_)
  · unfold udSerL at hsl
    rw [if_neg hne] at hsl
    rw [show s.len = 0 from hsl]; rfl
  (repeat refine And.intro rfl ?_)
  refine hJ _ ?_
  clear hJ
  unfold udSerL at hs hsl
  rw [if_pos hc] at hs hsl
  have hsb := udSer_byt (e := e) h.fit
  have hsl3 := udSer_len e u
  obtain ⟨hf, hck⟩ := udPE_ok hc
  obtain ⟨_, _, _, h4, h5⟩ := udChk_ok hck
  obtain ⟨b1', b2'⟩ := ud_back o h.fit hc
  refine brd (fun hx => absurd hx (by omega)) (fun _ => ?_)
  refine c21 (e := e) (hg.old v3) o hs hsb ho.le (by omega) fun w4 u4 => ⟨_, _, _, _, _, rfl, kp u4, ?_⟩
  rw [b1']
  have hD4 := dU_sees (e := e) (hs.old u4)
  rw [b2'] at hD4 ⊢
  have v4 := v3.then u4
  intro b5 w5 u5
  have v5 := v4.then u5
  have hpf := psE_fit hf (p := 17) (n := (s.len : Int)) (by omega) (by omega)
  refine c22 (e := e) fun sp w6 u6 hsp _ => ⟨_, _, rfl, kp u6, ?_⟩
  rw [hpf.1]
  rw [hpf.2] at hsp
  have v6 := v5.then u6
  have t36 := (u4.then u5).then u6
  have hs6 := hs.old t36
  have h6 := h.old v6
  have hk := udCk_r o h.fit
  obtain ⟨_, _, _, b6⟩ := ud_bts u (udCk e u) u.data _ (rfl : udSer e u = _)
  have hb6 : bt (udSer e u) ((6 : Nat) : Int) = udCk e u / 256 % 256 := rfl
  have hb7 : bt (udSer e u) ((7 : Nat) : Int) = udCk e u % 256 := rfl
  have hdl := h.data.len
  have hlen : ((s.len : Int) == wr .i64 (8 + (d.len : Int))) = true := by rw [wr_i64 (by omega) (by omega)]; simp; omega
  -- the sum is right
  have sumT : u.ns = false → ∀ w7, Upd [] [] w6 w7 → ∀ {R' : SV → World → Prop} (b7 : Nat) (w8 : World) (u8 : Upd [] [b7] w7 w8), w8.heap[b7]? = some (.cells (SV.struct [.slice sp, .slice s]).cells.toArray 28 (0, 0)) → R' (.bool true) w8 → Ret Tryd.prog 24 [.slice ⟨some ⟨b7, 0, none⟩, 2, 2⟩] w8 R' := by
    intro hns w7 u7 R' b7 w8 u8 hr8 kk
    have hP := rowP (n := 2) (cap := 2) hr8 (ss := [sp, s]) rfl rfl (ls := [psB e 17 (s.len : Int), udSer e u]) ⟨(hsp.old u7).old u8, (hs6.old u7).old u8, trivial⟩
    have hpl := psB_len e 17 (s.len : Int)
    refine c24 hP (by simp; exact ⟨psB_byt o, hsb⟩) (by simp) (by simp; omega) ?_
    have e1 : ([psB e 17 (s.len : Int), udSer e u] : List (List Int)).flatten = psB e 17 ((udSer e u).length : Int) ++ udSer e u := by rw [hsl]; simp
    have e2 : sumOf ([psB e 17 (s.len : Int), udSer e u] : List (List Int)).flatten = 65535 := by rw [e1]; exact psum_ud o h.fit hns
    rw [e2]; exact kk
  refine needCB hs6 6 (by omega) ⟨_, byteC hs6 6 (by omega), ?_⟩
  rw [hb6]
  refine bre (fun h60 => needCB hs6 7 (by omega) ⟨_, byteC hs6 7 (by omega), ?_⟩) (fun h60 => ?_)
  · rw [hb7]
    refine c20 ⟨_, rfl, kp (Upd.refl _), brt rfl (c20 ⟨_, rfl, kp (Upd.refl _), brt rfl ?_⟩)⟩
    refine c23T h6.data ((hD4.old u5).old u6) h.fit.data fun w7 u7 => ⟨_, rfl, kp u7, brt rfl ?_⟩
    have v7 := v6.then u7
    have hz : (udCk e u % 256 == 0) = u.ns := by
      rw [Bool.eq_iff_iff, beq_iff_eq, ← hk.2.2]; omega
    refine brt (by rw [hz]; simp) ?_
    refine brb (fun hx => brt hlen ?_) (fun hx w8b w8 u8 hr8 => ?_)
    · refine c25H (h.old v7) fun w9 u9 => ⟨_, rfl, kp u9, c20 ⟨_, rfl, kp (Upd.refl _), ?_, v7.then u9⟩⟩
      rw [hck]; rfl
    · have v8 := v7.then u8
      refine sumT (by rw [← hz]; exact hx) w7 u7 w8b w8 u8 hr8 ⟨_, rfl, kp (Upd.refl _), brt rfl (brt hlen ?_)⟩
      refine c25H (h.old v8) fun w9 u9 => ⟨_, rfl, kp u9, c20 ⟨_, rfl, kp (Upd.refl _), ?_, v8.then u9⟩⟩
      rw [hck]; rfl
  · refine c20 ⟨_, rfl, kp (Upd.refl _), brt rfl (c20 ⟨_, rfl, kp (Upd.refl _), brt rfl ?_⟩)⟩
    refine c23T h6.data ((hD4.old u5).old u6) h.fit.data fun w7 u7 => ⟨_, rfl, kp u7, brt rfl ?_⟩
    have v7 := v6.then u7
    have hns : u.ns = false := by
      rw [Bool.eq_false_iff]
      intro hx
      have := hk.2.2.2 hx
      omega
    refine brt (by rw [hns]; rfl) fun b8 w8 u8 hr8 => ?_
    have v8 := v7.then u8
    refine sumT hns w7 u7 b8 w8 u8 hr8 ⟨_, rfl, kp (Upd.refl _), brt rfl (brt hlen ?_)⟩
    refine c25H (h.old v8) fun w9 u9 => ⟨_, rfl, kp u9, c20 ⟨_, rfl, kp (Upd.refl _), ?_, v8.then u9⟩⟩
    rw [hck]; rfl
end
end Go.Vc.S9
