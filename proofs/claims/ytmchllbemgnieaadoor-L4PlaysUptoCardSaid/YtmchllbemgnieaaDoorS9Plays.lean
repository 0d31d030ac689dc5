import Derived.Test.YtmchllbemgnieaaDoorS9Play
import Derived.Test.YtmchllbemgnieaaDoorRowE
import Derived.Test.YtmchllbemgnieaaDoorRows
open Go Go.Vc Go.Proofs Go.ChangeShapes Go.WideShapes Go.ChangeAt Go.RowKit
set_option linter.unusedVariables false
set_option linter.unusedSimpArgs false
set_option autoImplicit false
namespace Go.Vc.S9
/-- a call of a script -/
structure OpC where
  kd : Int
  e : Ends
  b : Sl
  u : UdV
  ud : Sl
  t : TcV
  so : Sl
  sd : Sl
  sl : Sl
  n : Int
def cOp : Cod OpC := ⟨51, fun a => [.int .i64 a.kd, .int .i64 a.e.sv] ++ (((List.range 16).map fun i => .int .u8 (a.e.sa i)) ++ (.int .i64 a.e.dv :: (((List.range 16).map fun i => .int .u8 (a.e.da i)) ++ [a.b.val, .int .i64 a.u.sp, .int .i64 a.u.dp, .bool a.u.ns, a.ud.val, .int .i64 a.t.sp, .int .i64 a.t.dp, .int .i64 a.t.seq, .int .i64 a.t.ack, .int .i64 a.t.fl, .int .i64 a.t.win, .int .i64 a.t.urg, a.so.val, a.sd.val, a.sl.val, .int .i64 a.n]))), fun _ => rfl, by
  intro x v hv
  simp only [List.mem_append, List.mem_cons, List.mem_map, List.not_mem_nil, or_false] at hv
  rcases hv with (rfl | rfl) | ⟨i, _, rfl⟩ | rfl | ⟨i, _, rfl⟩ | rfl | rfl | rfl | rfl | rfl | rfl | rfl | rfl | rfl | rfl | rfl | rfl | rfl | rfl | rfl | rfl <;> rfl⟩
theorem op_sa (a : OpC) : ∀ i, i < 16 → (cOp.enc a)[2 + i]? = some (.int .u8 (a.e.sa i))
  | 0, _ => rfl
  | 1, _ => rfl
  | 2, _ => rfl
  | 3, _ => rfl
  | 4, _ => rfl
  | 5, _ => rfl
  | 6, _ => rfl
  | 7, _ => rfl
  | 8, _ => rfl
  | 9, _ => rfl
  | 10, _ => rfl
  | 11, _ => rfl
  | 12, _ => rfl
  | 13, _ => rfl
  | 14, _ => rfl
  | 15, _ => rfl
  | i + 16, h => absurd h (by omega)
theorem op_da (a : OpC) : ∀ i, i < 16 → (cOp.enc a)[19 + i]? = some (.int .u8 (a.e.da i))
  | 0, _ => rfl
  | 1, _ => rfl
  | 2, _ => rfl
  | 3, _ => rfl
  | 4, _ => rfl
  | 5, _ => rfl
  | 6, _ => rfl
  | 7, _ => rfl
  | 8, _ => rfl
  | 9, _ => rfl
  | 10, _ => rfl
  | 11, _ => rfl
  | 12, _ => rfl
  | 13, _ => rfl
  | 14, _ => rfl
  | 15, _ => rfl
  | i + 16, h => absurd h (by omega)
/-- it stands -/
structure OpOk (w : World) (a : OpC) : Prop where
  ends : a.e.Ok
  b : ∃ l : List Int, SeesB w a.b l ∧ Byt l ∧ a.b.len ≤ a.b.cap ∧ l.length ≤ 1048576
  u : HandU w a.u a.ud
  t : ∃ os, HandT w a.t a.so a.sd os
  few : a.t.opts.length ≤ 1048576
  l : ∃ ll ol, Opts w a.sl ll ol ∧ ll.length ≤ 1048576 ∧ (∀ o ∈ ll, o.data.length ≤ 1048576) ∧ ∀ o ∈ ll, Byt o.data
  n : -9223372036854775808 ≤ a.n ∧ a.n ≤ 9223372036854775807
theorem OpOk.old {w w1 : World} {a : OpC} {n : List Nat} (h : OpOk w a) (u : Upd [] n w w1) : OpOk w1 a := by
  obtain ⟨he, ⟨l, b1, b2⟩, hu, ⟨os, h1⟩, h2, ⟨ll, ol, h3, h4⟩, hn⟩ := h
  exact ⟨he, ⟨l, b1.old u, b2⟩, hu.old u, ⟨os, h1.old u⟩, h2, ⟨ll, ol, h3.old u, h4⟩, hn⟩
set_option maxRecDepth 10000 in
theorem c17 {s : Sl} {ops : List OpC} {lo hi : Int} {w : World} {R : SV → World → Prop} (hg : Tabs w) (h : Sees cOp w s ops) (hok : ∀ a ∈ ops, OpOk w a) (hl : ops.length ≤ 1048576) (k : ∀ w1, Upd [] [] w w1 → R (.bool true) w1) : Ret Tryd.prog 17 [.slice s, .int .i64 lo, .int .i64 hi] w R := by
  refine f17_of _ _ _ _ _ ?_
  unfold vc17
  have hsl := h.len
  refine c18 hg fun w1 u1 => ⟨_, rfl, ?_⟩
  refine ⟨fun b i w' => Upd [] [] w w' ∧ b = true ∧ ∃ t : Nat, i = t ∧ t ≤ ops.length, fun _ i _ => (ops.length - i).toNat, ⟨u1, rfl, 0, rfl, by omega⟩, ?_⟩
  rintro b i w2 ⟨u2, rfl, t, rfl, ht⟩
  intro J hJ
  refine brd (fun hlt => brt rfl ?_) (fun hge => k w2 u2)
  (repeat refine And.intro rfl ?_)
  refine hJ _ ?_
  clear hJ
  intro J2 hJ2
  have ht2 : t < ops.length := by omega
  have hs2 := h.old u2
  have he := hs2.elem ht2
  have ok := hok _ (List.getElem_mem ht2)
  have next : ∀ w3, Upd [] [] w2 w3 → J2 true w3 := fun w3 u3 => by
    refine hJ2 _ _ ?_
    (repeat refine And.intro rfl ?_)
    exact ⟨⟨u2.then u3, rfl, t + 1, wr_succ (by omega), by omega⟩, by rw [wr_succ (q := t) (by omega)]; (try dsimp only); omega⟩
  generalize ops[t] = a at he ok
  have c : ∀ j x, (cOp.enc a)[j]? = some x → w2.cell? ((s.at 51 t).add j) = some x := fun j x hx => by
    obtain ⟨hj, hv⟩ := List.getElem?_eq_some_iff.1 hx
    have := he j hj
    rw [hv] at this
    exact this
  have c0 := c 0 _ rfl
  rw [add_zero] at c0
  refine needIx (by omega) (by omega) (h2 := hs2.isSome (by decide) (by omega)) ?_
  rw [Int.toNat_natCast]
  refine ⟨a.kd, c0, a.e.sv, c 1 _ rfl, a.e.sa, fun i hi => c _ _ (op_sa a i hi), a.e.dv, c 18 _ rfl, a.e.da, fun i hi => c _ _ (op_da a i hi), a.b, c 35 _ rfl, a.u.sp, c 36 _ rfl, a.u.dp, c 37 _ rfl, a.u.ns, c 38 _ rfl, a.ud, c 39 _ rfl, a.t.sp, c 40 _ rfl, a.t.dp, c 41 _ rfl, a.t.seq, c 42 _ rfl, a.t.ack, c 43 _ rfl, a.t.fl, c 44 _ rfl, a.t.win, c 45 _ rfl, a.t.urg, c 46 _ rfl, a.so, c 47 _ rfl, a.sd, c 48 _ rfl, a.sl, c 49 _ rfl, a.n, c 50 _ rfl, ?_⟩
  intro b3
  refine brd (fun _ w3 u3 => ?_) (fun _ => brd (fun _ w3 u3 => ?_) (fun _ => ?_))
  · (repeat refine And.intro rfl ?_)
    exact next _ u3.forget
  · (repeat refine And.intro rfl ?_)
    exact next _ u3.forget
  intro J3 hJ3
  have main : ∀ x w3, Upd [] [] w2 w3 → J3 x w3 := fun x w3 u3 => by
    have v3 := u2.then u3
    obtain ⟨hends, ⟨l, b1, b2, b3', b4⟩, hu, ⟨os, h1⟩, h2, ⟨ll, ol, h3, h4, h5, h6⟩, hn⟩ := ok.old v3
    refine hJ3 _ _ ?_
    (repeat refine And.intro rfl ?_)
    have e66 : Ret Tryd.prog 66 [opSV a.kd a.e a.b a.u a.ud a.t a.so a.sd a.sl a.n] w3 fun r w1_2 => ∃ (b : Bool), r = SV.bool b ∧ Keeps [b3] w3 w1_2 ∧ J2 b w1_2 :=
      c66 (hg.old v3) hends b1 b2 b3' (by omega) fun w4 u4 => ⟨_, rfl, kp u4, next _ (u3.then u4)⟩
    have e67 : Ret Tryd.prog 67 [opSV a.kd a.e a.b a.u a.ud a.t a.so a.sd a.sl a.n] w3 fun r w1_2 => ∃ (b : Bool), r = SV.bool b ∧ Keeps [b3] w3 w1_2 ∧ J2 b w1_2 :=
      c67 (hg.old v3) hends hu fun w4 u4 => ⟨_, rfl, kp u4, next _ (u3.then u4)⟩
    have e68 : Ret Tryd.prog 68 [opSV a.kd a.e a.b a.u a.ud a.t a.so a.sd a.sl a.n] w3 fun r w1_2 => ∃ (b : Bool), r = SV.bool b ∧ Keeps [b3] w3 w1_2 ∧ J2 b w1_2 :=
      c68 (hg.old v3) hends h1 (by omega) h3 (by omega) (fun o ho => by have := h5 o ho; omega) h6 hn fun w4 u4 => ⟨_, rfl, kp u4, next _ (u3.then u4)⟩
    exact brb (fun _ => e66) (fun _ => bre (fun _ => e67) (fun _ => bre (fun _ => e67) (fun _ => e68)))
  refine bre (fun _ w3 u3 => ?_) (fun _ => bre (fun _ w3 u3 => ?_) (fun _ w3 u3 => ?_))
  · (repeat refine And.intro rfl ?_)
    exact main _ _ u3.forget
  · (repeat refine And.intro rfl ?_)
    exact main _ _ u3.forget
  · (repeat refine And.intro rfl ?_)
    exact main _ _ u3.forget
section
variable {H : Type} {w : World}
open Go.Proofs.YtmchllbemgnieaaDoor
theorem bulk_pos (d : DataW H) : 1 ≤ Rows.uptoBulk d := by
  cases d with
  | lit l => cases l <;> simp [Rows.uptoBulk]
  | _ => simp [Rows.uptoBulk]
theorem bulk_len : ∀ ds : List (DataW H), ds.length ≤ Rows.uptoBulkAll ds
  | [] => by simp [Rows.uptoBulkAll]
  | d :: r => by
    have := bulk_pos d
    have := bulk_len r
    simp only [Rows.uptoBulkAll, List.length_cons]
    omega
theorem bulk_at : ∀ {ds : List (DataW H)} {i : Nat} {d : DataW H}, ds[i]? = some d → Rows.uptoBulk d ≤ Rows.uptoBulkAll ds
  | [], _, _, h => by simp at h
  | x :: r, 0, d, h => by
    simp at h; subst h
    simp only [Rows.uptoBulkAll]; omega
  | x :: r, i + 1, d, h => by
    have := bulk_at (ds := r) (i := i) (d := d) (by simpa using h)
    simp only [Rows.uptoBulkAll]; omega
theorem bulk_sl {d : DataW H} {n : Nat} (h : SlLen d n) : n ≤ Rows.uptoBulk d := by
  rcases h with ⟨rfl, rfl⟩ | ⟨els, sp, rfl, rfl⟩
  · omega
  · have := bulk_len els
    simp only [Rows.uptoBulk]; omega
theorem bulk_opts {d : DataW H} {l : List Opt} (h : OptDat d l) : l.length ≤ Rows.uptoBulk d ∧ ∀ o ∈ l, o.data.length ≤ Rows.uptoBulk d := by
  rcases h with ⟨rfl, rfl⟩ | ⟨els, sp, rfl, he, hh⟩
  · simp
  · have := bulk_len els
    refine ⟨by simp only [Rows.uptoBulk]; omega, fun o ho => ?_⟩
    obtain ⟨i, hi, rfl⟩ := List.getElem_of_mem ho
    obtain ⟨dk, dd, h1, h2⟩ := hh i hi
    have a1 := bulk_at h1
    have a2 := bulk_sl h2
    simp only [Rows.uptoBulk, Rows.uptoBulkAll] at a1 ⊢
    omega
set_option maxRecDepth 10000 in
theorem deep_op (m : Nat) (x : SV) (d : DataW H) (h : Deep X w m (X.T 112) x d) : ∃ a : OpC, x.cells = cOp.enc a ∧ (Rows.uptoBulk d ≤ 1048576 → OpOk w a) := by
  obtain ⟨fs, l, m', rfl, rfl, hh⟩ := dp_struct (b := false) (ts := [.int .i64, .struct false [.int .i64, .arr .u8 16], .struct false [.int .i64, .arr .u8 16], .slice 5, .struct false [.int .i64, .int .i64, .bool, .slice 5], .struct false [.int .i64, .int .i64, .int .i64, .int .i64, .int .i64, .int .i64, .int .i64, .slice 60, .slice 5], .slice 60, .int .i64]) (show Deep X w m (.struct false [.int .i64, .struct false [.int .i64, .arr .u8 16], .struct false [.int .i64, .arr .u8 16], .slice 5, .struct false [.int .i64, .int .i64, .bool, .slice 5], .struct false [.int .i64, .int .i64, .int .i64, .int .i64, .int .i64, .int .i64, .int .i64, .slice 60, .slice 5], .slice 60, .int .i64]) x d from h)
  obtain ⟨x1, _, d1, _, rfl, rfl, h1, hh⟩ := all3_cons hh
  obtain ⟨x2, _, d2, _, rfl, rfl, h2, hh⟩ := all3_cons hh
  obtain ⟨x3, _, d3, _, rfl, rfl, h3, hh⟩ := all3_cons hh
  obtain ⟨x4, _, d4, _, rfl, rfl, h4, hh⟩ := all3_cons hh
  obtain ⟨x5, _, d5, _, rfl, rfl, h5, hh⟩ := all3_cons hh
  obtain ⟨x6, _, d6, _, rfl, rfl, h6, hh⟩ := all3_cons hh
  obtain ⟨x7, _, d7, _, rfl, rfl, h7, hh⟩ := all3_cons hh
  obtain ⟨x8, _, d8, _, rfl, rfl, h8, hh⟩ := all3_cons hh
  obtain ⟨rfl, rfl⟩ := all3_nil hh
  obtain ⟨kd, rfl, _, _⟩ := dp_int h1
  obtain ⟨sv, sa, rfl, hsa⟩ := deep_adr (show Deep X w m' (X.T 27) x2 d2 from h2)
  obtain ⟨dv, da, rfl, hda⟩ := deep_adr (show Deep X w m' (X.T 27) x3 d3 from h3)
  obtain ⟨b, lb, rfl, hb, hbb, hbc, hbl⟩ := deep_bytes' (X := X) (t := 28) (e := 5) rfl rfl (show Deep X w m' (X.T 28) x4 d4 from h4)
  obtain ⟨u, ud, _, _, _, ddu, rfl, hdu, hfu, hcu, rfl, hslu⟩ := deep_udp (show Deep X w m' (X.T 30) x5 d5 from h5)
  obtain ⟨t, so, sd, os, _, _, _, _, _, _, _, do_, dd, rfl, ho, hd, hf, hc, hc2, hc3, rfl, hdo, hsl⟩ := deep_tcp (show Deep X w m' (X.T 45) x6 d6 from h6)
  obtain ⟨sl, ll, ol, rfl, hol, hob, hoc, hsc, hdl⟩ := deep_optsL (show Deep X w m' (X.T 43) x7 d7 from h7)
  obtain ⟨n, rfl, _, in_⟩ := dp_int h8
  refine ⟨⟨kd, ⟨sv, sa, dv, da⟩, b, u, ud, t, so, sd, sl, n⟩, ?_, fun hk => ?_⟩
  · simp [SV.cells, SV.cellsL, cOp]
  · have k1 := bulk_sl hbl
    have k2 := bulk_opts hdo
    have k3 := bulk_sl hsl
    have k4 := bulk_opts hdl
    have k5 := bulk_sl hslu
    simp only [Rows.uptoBulk, Rows.uptoBulkAll] at hk
    exact ⟨⟨hsa, hda⟩, ⟨lb, hb, hbb, hbc, by omega⟩, ⟨hdu, by dsimp only; omega, hfu, hcu⟩, ⟨os, ho, by dsimp only; omega, fun o ho => by have := k2.2 o ho; omega, hd, by dsimp only; omega, hf, hc, hc2, hc3⟩, by dsimp only; omega, ⟨ll, ol, hol, by omega, fun o ho => by have := k4.2 o ho; omega, hob⟩, wf_i64 in_⟩
theorem deep_ops {m : Nat} {x : SV} {d : DataW H} (h : Deep X w m (X.T 22) x d) (hk : Rows.uptoBulk d ≤ 1048576) : ∃ (s : Sl) (ops : List OpC), x = .slice s ∧ Sees cOp w s ops ∧ (∀ a ∈ ops, OpOk w a) ∧ ops.length ≤ 1048576 := by
  obtain ⟨s, ops, rfl, hs, _, hd⟩ := dp_slice2 (X := X) (c := cOp) (e := 112) (P := fun a d => Rows.uptoBulk d ≤ 1048576 → OpOk w a) rfl deep_op (show Deep X w m (.slice 112) x d from h)
  refine ⟨s, ops, rfl, hs, ?_, ?_⟩
  · intro a ha
    rcases hd with ⟨_, rfl⟩ | ⟨els, sp, rfl, he, hh⟩
    · simp at ha
    · obtain ⟨i, hi, rfl⟩ := List.getElem_of_mem ha
      obtain ⟨di, h1, h2⟩ := hh i hi
      have := bulk_at h1
      simp only [Rows.uptoBulk] at hk
      exact h2 (by omega)
  · rcases hd with ⟨_, rfl⟩ | ⟨els, sp, rfl, he, hh⟩
    · simp
    · have := bulk_len els
      simp only [Rows.uptoBulk] at hk
      omega
theorem walk3 {W : World} (hg : Tabs W) (svs : List SV) (ds : List (DataW H)) (h : ArgsD X W [22] svs ds) (hk : Rows.uptoSmall H ds = true) :
    Ret Tryd.prog 3 svs W fun r w1 => r = .bool true ∧ Upd [] [] W w1 := by
  obtain ⟨x, _, d1, _, m1, rfl, rfl, h1, h⟩ := argsD_cons h
  obtain ⟨rfl, rfl⟩ := argsD_nil h
  have hb := of_decide_eq_true hk
  simp only [Rows.uptoBulkAll] at hb
  obtain ⟨s, ops, rfl, hs, hok, hl⟩ := deep_ops h1 (by omega)
  refine f3_of _ _ _ ?_
  unfold vc3
  exact c17 hg hs hok hl fun w1 u => ⟨_, rfl, rfl, u⟩
theorem walk4 {W : World} (hg : Tabs W) (svs : List SV) (ds : List (DataW H)) (h : ArgsD X W [22] svs ds) (hk : Rows.uptoSmall H ds = true) :
    Ret Tryd.prog 4 svs W fun r w1 => r = .bool true ∧ Upd [] [] W w1 := by
  obtain ⟨x, _, d1, _, m1, rfl, rfl, h1, h⟩ := argsD_cons h
  obtain ⟨rfl, rfl⟩ := argsD_nil h
  have hb := of_decide_eq_true hk
  simp only [Rows.uptoBulkAll] at hb
  obtain ⟨s, ops, rfl, hs, hok, hl⟩ := deep_ops h1 (by omega)
  refine f4_of _ _ _ ?_
  unfold vc4
  exact c17 hg hs hok hl fun w1 u => ⟨_, rfl, rfl, u⟩
theorem walk5 {W : World} (hg : Tabs W) (svs : List SV) (ds : List (DataW H)) (h : ArgsD X W [22] svs ds) (hk : Rows.uptoSmall H ds = true) :
    Ret Tryd.prog 5 svs W fun r w1 => r = .bool true ∧ Upd [] [] W w1 := by
  obtain ⟨x, _, d1, _, m1, rfl, rfl, h1, h⟩ := argsD_cons h
  obtain ⟨rfl, rfl⟩ := argsD_nil h
  have hb := of_decide_eq_true hk
  simp only [Rows.uptoBulkAll] at hb
  obtain ⟨s, ops, rfl, hs, hok, hl⟩ := deep_ops h1 (by omega)
  refine f5_of _ _ _ ?_
  unfold vc5
  exact c17 hg hs hok hl fun w1 u => ⟨_, rfl, rfl, u⟩
theorem walk6 {W : World} (hg : Tabs W) (svs : List SV) (ds : List (DataW H)) (h : ArgsD X W [22] svs ds) (hk : Rows.uptoSmall H ds = true) :
    Ret Tryd.prog 6 svs W fun r w1 => r = .bool true ∧ Upd [] [] W w1 := by
  obtain ⟨x, _, d1, _, m1, rfl, rfl, h1, h⟩ := argsD_cons h
  obtain ⟨rfl, rfl⟩ := argsD_nil h
  have hb := of_decide_eq_true hk
  simp only [Rows.uptoBulkAll] at hb
  obtain ⟨s, ops, rfl, hs, hok, hl⟩ := deep_ops h1 (by omega)
  refine f6_of _ _ _ ?_
  unfold vc6
  exact c17 hg hs hok hl fun w1 u => ⟨_, rfl, rfl, u⟩
end
end Go.Vc.S9
