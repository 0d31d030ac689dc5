import Derived.Test.YtlohkdkgpajkaaaDoorS6Play
import Derived.Test.YtlohkdkgpajkaaaDoorG9
open Go Go.Vc Go.Proofs Go.ChangeShapes Go.WideShapes Go.ChangeAt Go.RowKit
set_option linter.unusedVariables false
set_option linter.unusedSimpArgs false
set_option autoImplicit false
namespace Go.Vc
section
variable {H : Type} {X : Tab} {w : World}
/-- a slice of structs, with its data -/
theorem dp_slice2 {α : Type} {c : Cod α} {P : α → DataW H → Prop} {m e : Nat} {x : SV} {d : DataW H} (hsz : (X.T e).size = c.sz)
    (hE : ∀ (m : Nat) (x : SV) (d : DataW H), Deep X w m (X.T e) x d → ∃ a : α, x.cells = c.enc a ∧ P a d) (h : Deep X w m (.slice e) x d) :
    ∃ (s : Sl) (l : List α), x = .slice s ∧ Sees c w s l ∧ s.len ≤ s.cap ∧ (d = .nil ∧ l = [] ∨ ∃ els sp, d = .slice els sp ∧ els.length = l.length ∧ ∀ i (hi : i < l.length), ∃ di, els[i]? = some di ∧ P l[i] di) := by
  cases m with
  | zero => exact h.elim
  | succ m =>
    simp only [Deep] at h
    rcases h with ⟨rfl, rfl⟩ | ⟨a, len, cap, vs, ds, rfl, rfl, hl, hm, hv, hd, h⟩
    · exact ⟨⟨none, 0, 0⟩, [], rfl, Sees.nil _ _ _ _, Nat.le_refl _, .inl ⟨rfl, rfl⟩⟩
    · have each : ∀ i (hi : i < cap), ∃ t : α, Cells w (some (a.add (i * c.sz))) (c.enc t) ∧ P t (ds[i]'(by omega)) := by
        intro i hi
        obtain ⟨h1, h2, h3⟩ := h i _ _ (List.getElem?_eq_getElem (by omega)) (List.getElem?_eq_getElem (by omega))
        obtain ⟨t, g1, g2⟩ := hE _ _ _ h3
        rw [hsz, g1] at h2
        exact ⟨t, h2, g2⟩
      let F : Fin len → α := fun i => Classical.choose (each i (by omega))
      have hF : ∀ i : Fin len, Cells w (some (a.add (i * c.sz))) (c.enc (F i)) ∧ P (F i) (ds[i.val]'(by omega)) := fun i => Classical.choose_spec (each i (by omega))
      refine ⟨⟨some a, len, cap⟩, List.ofFn F, rfl, ⟨by simp, cells_each fun i hi => ?_⟩, hl, .inr ⟨_, _, rfl, by simp; omega, fun i hi => ?_⟩⟩
      · rw [List.getElem_ofFn]
        exact (hF ⟨i, by simpa using hi⟩).1
      · have hi' : i < len := by simpa using hi
        refine ⟨ds[i]'(by omega), ?_, ?_⟩
        · rw [List.getElem?_take_of_lt hi', List.getElem?_eq_getElem (by omega)]
        · rw [List.getElem_ofFn]
          exact (hF ⟨i, hi'⟩).2
end
end Go.Vc
namespace Go.Vc.S6
/-- a call of a script -/
structure OpC where
  kd : Int
  b : Sl
  v : IpV
  so : Sl
  sd : Sl
  sl : Sl
def cOp : Cod OpC := ⟨46, fun a => [.int .i64 a.kd, a.b.val, .int .i64 a.v.tos, .int .i64 a.v.id, .bool a.v.df, .bool a.v.mf, .int .i64 a.v.off, .int .i64 a.v.ttl, .int .i64 a.v.proto, .int .i64 a.v.sv] ++ (((List.range 16).map fun i => .int .u8 (a.v.sa i)) ++ (.int .i64 a.v.dv :: (((List.range 16).map fun i => .int .u8 (a.v.da i)) ++ [a.so.val, a.sd.val, a.sl.val]))), fun _ => rfl, by
  intro x v hv
  simp only [List.mem_append, List.mem_cons, List.mem_map, List.not_mem_nil, or_false] at hv
  rcases hv with (rfl | rfl | rfl | rfl | rfl | rfl | rfl | rfl | rfl | rfl) | ⟨i, _, rfl⟩ | rfl | ⟨i, _, rfl⟩ | rfl | rfl | rfl <;> rfl⟩
theorem op_sa (a : OpC) : ∀ i, i < 16 → (cOp.enc a)[10 + i]? = some (.int .u8 (a.v.sa i))
  | 0, _ => rfl
  | 1, _ => rfl
  | 2, _ => rfl
  | 3, _ => rfl
  | 4, _ => rfl
  | 5, _ => rfl
  | 6, _ => rfl
  | 7, _ => rfl
  | 8, _ => rfl
  | 9, _ => rfl
  | 10, _ => rfl
  | 11, _ => rfl
  | 12, _ => rfl
  | 13, _ => rfl
  | 14, _ => rfl
  | 15, _ => rfl
  | i + 16, h => absurd h (by omega)
theorem op_da (a : OpC) : ∀ i, i < 16 → (cOp.enc a)[27 + i]? = some (.int .u8 (a.v.da i))
  | 0, _ => rfl
  | 1, _ => rfl
  | 2, _ => rfl
  | 3, _ => rfl
  | 4, _ => rfl
  | 5, _ => rfl
  | 6, _ => rfl
  | 7, _ => rfl
  | 8, _ => rfl
  | 9, _ => rfl
  | 10, _ => rfl
  | 11, _ => rfl
  | 12, _ => rfl
  | 13, _ => rfl
  | 14, _ => rfl
  | 15, _ => rfl
  | i + 16, h => absurd h (by omega)
/-- it stands -/
structure OpOk (w : World) (a : OpC) : Prop where
  b : ∃ l : List Int, SeesB w a.b l ∧ Byt l ∧ a.b.len ≤ a.b.cap ∧ l.length ≤ 1048576
  h : ∃ os, Hand w a.v a.so a.sd os
  few : a.v.opts.length ≤ 1048576
  l : ∃ ll ol, Opts w a.sl ll ol ∧ ll.length ≤ 1048576 ∧ (∀ o ∈ ll, o.data.length ≤ 1048576) ∧ ∀ o ∈ ll, Byt o.data
theorem OpOk.old {w w1 : World} {a : OpC} {n : List Nat} (h : OpOk w a) (u : Upd [] n w w1) : OpOk w1 a := by
  obtain ⟨⟨l, b1, b2⟩, ⟨os, h1⟩, h2, ⟨ll, ol, h3, h4⟩⟩ := h
  exact ⟨⟨l, b1.old u, b2⟩, ⟨os, h1.old u⟩, h2, ⟨ll, ol, h3.old u, h4⟩⟩
set_option maxRecDepth 10000 in
theorem c45 {s : Sl} {ops : List OpC} {lo hi : Int} {w : World} {R : SV → World → Prop} (hg : Sees cI64 w wid4 widths4) (h : Sees cOp w s ops) (hok : ∀ a ∈ ops, OpOk w a) (hl : ops.length ≤ 1048576) (k : ∀ w1, Upd [] [] w w1 → R (.bool true) w1) : Ret Tryd.prog 45 [.slice s, .int .i64 lo, .int .i64 hi] w R := by
  refine f45_of _ _ _ _ _ ?_
  unfold vc45
  have hsl := h.len
  refine c18 hg fun w1 u1 => ⟨_, rfl, ?_⟩
  refine ⟨fun b i w' => Upd [] [] w w' ∧ b = true ∧ ∃ t : Nat, i = t ∧ t ≤ ops.length, fun _ i _ => (ops.length - i).toNat, ⟨u1, rfl, 0, rfl, by omega⟩, ?_⟩
  rintro b i w2 ⟨u2, rfl, t, rfl, ht⟩
  intro J hJ
  refine brd (fun hlt => brt rfl ?_) (fun hge => k w2 u2)
  (repeat refine And.intro rfl ?_)
  refine hJ _ ?_
  clear hJ
  intro J2 hJ2
  have ht2 : t < ops.length := by omega
  have hs2 := h.old u2
  have he := hs2.elem ht2
  have ok := hok _ (List.getElem_mem ht2)
  have next : ∀ w3, Upd [] [] w2 w3 → J2 true w3 := fun w3 u3 => by
    refine hJ2 _ _ ?_
    (repeat refine And.intro rfl ?_)
    exact ⟨⟨u2.then u3, rfl, t + 1, wr_succ (by omega), by omega⟩, by rw [wr_succ (q := t) (by omega)]; (try dsimp only); omega⟩
  generalize ops[t] = a at he ok
  have c : ∀ j x, (cOp.enc a)[j]? = some x → w2.cell? ((s.at 46 t).add j) = some x := fun j x hx => by
    obtain ⟨hj, hv⟩ := List.getElem?_eq_some_iff.1 hx
    have := he j hj
    rw [hv] at this
    exact this
  have c0 := c 0 _ rfl
  rw [add_zero] at c0
  refine needIx (by omega) (by omega) (h2 := hs2.isSome (by decide) (by omega)) ?_
  rw [Int.toNat_natCast]
  refine ⟨a.kd, c0, a.b, c 1 _ rfl, a.v.tos, c 2 _ rfl, a.v.id, c 3 _ rfl, a.v.df, c 4 _ rfl, a.v.mf, c 5 _ rfl, a.v.off, c 6 _ rfl, a.v.ttl, c 7 _ rfl, a.v.proto, c 8 _ rfl, a.v.sv, c 9 _ rfl, a.v.sa, fun i hi => c _ _ (op_sa a i hi), a.v.dv, c 26 _ rfl, a.v.da, fun i hi => c _ _ (op_da a i hi), a.so, c 43 _ rfl, a.sd, c 44 _ rfl, a.sl, c 45 _ rfl, ?_⟩
  intro b3 J3 hJ3
  have main : ∀ w3, Upd [] [] w2 w3 → J3 w3 := fun w3 u3 => by
    have v3 := u2.then u3
    obtain ⟨⟨l, b1, b2, b3', b4⟩, ⟨os, h1⟩, h2, ⟨ll, ol, h3, h4, h5, h6⟩⟩ := ok.old v3
    refine hJ3 _ ?_
    (repeat refine And.intro rfl ?_)
    have e79 : Ret Tryd.prog 79 [.struct [.int .i64 a.kd, .slice a.b, ipSV a.v a.so a.sd, .slice a.sl]] w3 fun r w1_2 => ∃ (b : Bool), r = SV.bool b ∧ Keeps [b3] w3 w1_2 ∧ J2 b w1_2 :=
      c79 (hg.old v3) h1 (by omega) h3 (by omega) (fun o ho => by have := h5 o ho; omega) h6 fun w4 u4 => ⟨_, rfl, kp u4, next _ (u3.then u4)⟩
    have e80 : Ret Tryd.prog 80 [.struct [.int .i64 a.kd, .slice a.b, ipSV a.v a.so a.sd, .slice a.sl]] w3 fun r w1_2 => ∃ (b : Bool), r = SV.bool b ∧ Keeps [b3] w3 w1_2 ∧ J2 b w1_2 :=
      c80 (hg.old v3) b1 b2 b3' (by omega) fun w4 u4 => ⟨_, rfl, kp u4, next _ (u3.then u4)⟩
    exact bre (fun _ => e79) (fun _ => bre (fun _ => e79) (fun _ => bre (fun _ => e79) (fun _ => e80)))
  refine brd (fun _ w3 u3 => ?_) (fun _ => brd (fun _ w3 u3 => ?_) (fun _ w3 u3 => ?_))
  · (repeat refine And.intro rfl ?_)
    exact next _ u3.forget
  · (repeat refine And.intro rfl ?_)
    exact next _ u3.forget
  · (repeat refine And.intro rfl ?_)
    exact main _ u3.forget
section
variable {H : Type} {w : World}
open Go.Proofs.YtlohkdkgpajkaaaDoor
theorem bulk_pos (d : DataW H) : 1 ≤ Rows.uptoBulk d := by
  cases d with
  | lit l => cases l <;> simp [Rows.uptoBulk]
  | _ => simp [Rows.uptoBulk]
theorem bulk_len : ∀ ds : List (DataW H), ds.length ≤ Rows.uptoBulkAll ds
  | [] => by simp [Rows.uptoBulkAll]
  | d :: r => by
    have := bulk_pos d
    have := bulk_len r
    simp only [Rows.uptoBulkAll, List.length_cons]
    omega
theorem bulk_at : ∀ {ds : List (DataW H)} {i : Nat} {d : DataW H}, ds[i]? = some d → Rows.uptoBulk d ≤ Rows.uptoBulkAll ds
  | [], _, _, h => by simp at h
  | x :: r, 0, d, h => by
    simp at h; subst h
    simp only [Rows.uptoBulkAll]; omega
  | x :: r, i + 1, d, h => by
    have := bulk_at (ds := r) (i := i) (d := d) (by simpa using h)
    simp only [Rows.uptoBulkAll]; omega
theorem bulk_sl {d : DataW H} {n : Nat} (h : SlLen d n) : n ≤ Rows.uptoBulk d := by
  rcases h with ⟨rfl, rfl⟩ | ⟨els, sp, rfl, rfl⟩
  · omega
  · have := bulk_len els
    simp only [Rows.uptoBulk]; omega
theorem bulk_opts {d : DataW H} {l : List Opt} (h : OptDat d l) : l.length ≤ Rows.uptoBulk d ∧ ∀ o ∈ l, o.data.length ≤ Rows.uptoBulk d := by
  rcases h with ⟨rfl, rfl⟩ | ⟨els, sp, rfl, he, hh⟩
  · simp
  · have := bulk_len els
    refine ⟨by simp only [Rows.uptoBulk]; omega, fun o ho => ?_⟩
    obtain ⟨i, hi, rfl⟩ := List.getElem_of_mem ho
    obtain ⟨dk, dd, h1, h2⟩ := hh i hi
    have a1 := bulk_at h1
    have a2 := bulk_sl h2
    simp only [Rows.uptoBulk, Rows.uptoBulkAll] at a1 ⊢
    omega
set_option maxRecDepth 10000 in
theorem deep_op (m : Nat) (x : SV) (d : DataW H) (h : Deep X w m (X.T 114) x d) : ∃ a : OpC, x.cells = cOp.enc a ∧ (Rows.uptoBulk d ≤ 1048576 → OpOk w a) := by
  obtain ⟨fs, l, m', rfl, rfl, hh⟩ := dp_struct (b := false) (ts := [.int .i64, .slice 5, .struct false [.int .i64, .int .i64, .bool, .bool, .int .i64, .int .i64, .int .i64, .struct false [.int .i64, .arr .u8 16], .struct false [.int .i64, .arr .u8 16], .slice 37, .slice 5], .slice 37]) (show Deep X w m (.struct false [.int .i64, .slice 5, .struct false [.int .i64, .int .i64, .bool, .bool, .int .i64, .int .i64, .int .i64, .struct false [.int .i64, .arr .u8 16], .struct false [.int .i64, .arr .u8 16], .slice 37, .slice 5], .slice 37]) x d from h)
  obtain ⟨x1, _, d1, _, rfl, rfl, h1, hh⟩ := all3_cons hh
  obtain ⟨x2, _, d2, _, rfl, rfl, h2, hh⟩ := all3_cons hh
  obtain ⟨x3, _, d3, _, rfl, rfl, h3, hh⟩ := all3_cons hh
  obtain ⟨x4, _, d4, _, rfl, rfl, h4, hh⟩ := all3_cons hh
  obtain ⟨rfl, rfl⟩ := all3_nil hh
  obtain ⟨kd, rfl, _, _⟩ := dp_int h1
  obtain ⟨b, lb, rfl, hb, hbb, hbc, hbl⟩ := deep_bytes' (X := X) (t := 22) (e := 5) rfl rfl (show Deep X w m' (X.T 22) x2 d2 from h2)
  obtain ⟨v, so, sd, os, _, _, _, _, _, _, _, _, _, do_, dd, rfl, ho, hd, hf, hc, hc2, hc3, rfl, hdo, hsl, _⟩ := deep_ip4 (show Deep X w m' (X.T 30) x3 d3 from h3)
  obtain ⟨sl, ll, ol, rfl, hol, hob, hoc, hsc, hdl⟩ := deep_optsL (show Deep X w m' (X.T 28) x4 d4 from h4)
  refine ⟨⟨kd, b, v, so, sd, sl⟩, ?_, fun hk => ?_⟩
  · simp [SV.cells, SV.cellsL, cOp]
  · have k1 := bulk_sl hbl
    have k2 := bulk_opts hdo
    have k3 := bulk_sl hsl
    have k4 := bulk_opts hdl
    simp only [Rows.uptoBulk, Rows.uptoBulkAll] at hk
    exact ⟨⟨lb, hb, hbb, hbc, by omega⟩, ⟨os, ho, by dsimp only; omega, fun o ho => by have := k2.2 o ho; omega, hd, by dsimp only; omega, hf, hc, hc2, hc3⟩, by dsimp only; omega, ⟨ll, ol, hol, by omega, fun o ho => by have := k4.2 o ho; omega, hob⟩⟩
theorem deep_ops {m : Nat} {x : SV} {d : DataW H} (h : Deep X w m (X.T 74) x d) (hk : Rows.uptoBulk d ≤ 1048576) : ∃ (s : Sl) (ops : List OpC), x = .slice s ∧ Sees cOp w s ops ∧ (∀ a ∈ ops, OpOk w a) ∧ ops.length ≤ 1048576 := by
  obtain ⟨s, ops, rfl, hs, _, hd⟩ := dp_slice2 (X := X) (c := cOp) (e := 114) (P := fun a d => Rows.uptoBulk d ≤ 1048576 → OpOk w a) rfl deep_op (show Deep X w m (.slice 114) x d from h)
  refine ⟨s, ops, rfl, hs, ?_, ?_⟩
  · intro a ha
    rcases hd with ⟨_, rfl⟩ | ⟨els, sp, rfl, he, hh⟩
    · simp at ha
    · obtain ⟨i, hi, rfl⟩ := List.getElem_of_mem ha
      obtain ⟨di, h1, h2⟩ := hh i hi
      have := bulk_at h1
      simp only [Rows.uptoBulk] at hk
      exact h2 (by omega)
  · rcases hd with ⟨_, rfl⟩ | ⟨els, sp, rfl, he, hh⟩
    · simp
    · have := bulk_len els
      simp only [Rows.uptoBulk] at hk
      omega
theorem walk9 {W : World} (hg : Sees cI64 W wid4 widths4) (svs : List SV) (ds : List (DataW H)) (h : ArgsD X W [74] svs ds) (hk : Rows.uptoSmall H ds = true) :
    Ret Tryd.prog 9 svs W fun r w1 => r = .bool true ∧ Upd [] [] W w1 := by
  obtain ⟨x, _, d1, _, m1, rfl, rfl, h1, h⟩ := argsD_cons h
  obtain ⟨rfl, rfl⟩ := argsD_nil h
  have hb := of_decide_eq_true hk
  simp only [Rows.uptoBulkAll] at hb
  obtain ⟨s, ops, rfl, hs, hok, hl⟩ := deep_ops h1 (by omega)
  refine f9_of _ _ _ ?_
  unfold vc9
  exact c45 hg hs hok hl fun w1 u => ⟨_, rfl, rfl, u⟩
theorem walk10 {W : World} (hg : Sees cI64 W wid4 widths4) (svs : List SV) (ds : List (DataW H)) (h : ArgsD X W [74] svs ds) (hk : Rows.uptoSmall H ds = true) :
    Ret Tryd.prog 10 svs W fun r w1 => r = .bool true ∧ Upd [] [] W w1 := by
  obtain ⟨x, _, d1, _, m1, rfl, rfl, h1, h⟩ := argsD_cons h
  obtain ⟨rfl, rfl⟩ := argsD_nil h
  have hb := of_decide_eq_true hk
  simp only [Rows.uptoBulkAll] at hb
  obtain ⟨s, ops, rfl, hs, hok, hl⟩ := deep_ops h1 (by omega)
  refine f10_of _ _ _ ?_
  unfold vc10
  exact c45 hg hs hok hl fun w1 u => ⟨_, rfl, rfl, u⟩
theorem walk11 {W : World} (hg : Sees cI64 W wid4 widths4) (svs : List SV) (ds : List (DataW H)) (h : ArgsD X W [74] svs ds) (hk : Rows.uptoSmall H ds = true) :
    Ret Tryd.prog 11 svs W fun r w1 => r = .bool true ∧ Upd [] [] W w1 := by
  obtain ⟨x, _, d1, _, m1, rfl, rfl, h1, h⟩ := argsD_cons h
  obtain ⟨rfl, rfl⟩ := argsD_nil h
  have hb := of_decide_eq_true hk
  simp only [Rows.uptoBulkAll] at hb
  obtain ⟨s, ops, rfl, hs, hok, hl⟩ := deep_ops h1 (by omega)
  refine f11_of _ _ _ ?_
  unfold vc11
  exact c45 hg hs hok hl fun w1 u => ⟨_, rfl, rfl, u⟩
theorem walk12 {W : World} (hg : Sees cI64 W wid4 widths4) (svs : List SV) (ds : List (DataW H)) (h : ArgsD X W [74] svs ds) (hk : Rows.uptoSmall H ds = true) :
    Ret Tryd.prog 12 svs W fun r w1 => r = .bool true ∧ Upd [] [] W w1 := by
  obtain ⟨x, _, d1, _, m1, rfl, rfl, h1, h⟩ := argsD_cons h
  obtain ⟨rfl, rfl⟩ := argsD_nil h
  have hb := of_decide_eq_true hk
  simp only [Rows.uptoBulkAll] at hb
  obtain ⟨s, ops, rfl, hs, hok, hl⟩ := deep_ops h1 (by omega)
  refine f12_of _ _ _ ?_
  unfold vc12
  exact c45 hg hs hok hl fun w1 u => ⟨_, rfl, rfl, u⟩
theorem walk13 {W : World} (hg : Sees cI64 W wid4 widths4) (svs : List SV) (ds : List (DataW H)) (h : ArgsD X W [74] svs ds) (hk : Rows.uptoSmall H ds = true) :
    Ret Tryd.prog 13 svs W fun r w1 => r = .bool true ∧ Upd [] [] W w1 := by
  obtain ⟨x, _, d1, _, m1, rfl, rfl, h1, h⟩ := argsD_cons h
  obtain ⟨rfl, rfl⟩ := argsD_nil h
  have hb := of_decide_eq_true hk
  simp only [Rows.uptoBulkAll] at hb
  obtain ⟨s, ops, rfl, hs, hok, hl⟩ := deep_ops h1 (by omega)
  refine f13_of _ _ _ ?_
  unfold vc13
  exact c45 hg hs hok hl fun w1 u => ⟨_, rfl, rfl, u⟩
theorem walk14 {W : World} (hg : Sees cI64 W wid4 widths4) (svs : List SV) (ds : List (DataW H)) (h : ArgsD X W [74] svs ds) (hk : Rows.uptoSmall H ds = true) :
    Ret Tryd.prog 14 svs W fun r w1 => r = .bool true ∧ Upd [] [] W w1 := by
  obtain ⟨x, _, d1, _, m1, rfl, rfl, h1, h⟩ := argsD_cons h
  obtain ⟨rfl, rfl⟩ := argsD_nil h
  have hb := of_decide_eq_true hk
  simp only [Rows.uptoBulkAll] at hb
  obtain ⟨s, ops, rfl, hs, hok, hl⟩ := deep_ops h1 (by omega)
  refine f14_of _ _ _ ?_
  unfold vc14
  exact c45 hg hs hok hl fun w1 u => ⟨_, rfl, rfl, u⟩
end
end Go.Vc.S6
