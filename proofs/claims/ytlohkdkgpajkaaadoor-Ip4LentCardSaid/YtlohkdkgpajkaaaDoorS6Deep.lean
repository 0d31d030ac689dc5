import Derived.Test.YtlohkdkgpajkaaaDoorS6L4
open Go Go.Vc Go.Proofs Go.ChangeShapes Go.WideShapes Go.ChangeAt Go.RowKit
set_option linter.unusedVariables false
set_option linter.unusedSimpArgs false
set_option autoImplicit false
namespace Go.Vc.S6
variable {H : Type} {w : World}
noncomputable def und30f : Array Field := match Tryd.prog.underlying 30 with | some (.struct fs) => fs | _ => #[]
theorem und30 : Tryd.prog.underlying 30 = some (.struct und30f) := by kernel_rfl
theorem und30t : und30f.toList.map (·.type) = [3, 3, 4, 4, 3, 3, 3, 27, 27, 28, 22] := by kernel_rfl
noncomputable def und37f : Array Field := match Tryd.prog.underlying 37 with | some (.struct fs) => fs | _ => #[]
theorem und37 : Tryd.prog.underlying 37 = some (.struct und37f) := by kernel_rfl
theorem und37t : und37f.toList.map (·.type) = [3, 22] := by kernel_rfl
theorem und28 : Tryd.prog.underlying 28 = some (.slice 37) := by kernel_rfl
theorem und22 : Tryd.prog.underlying 22 = some (.slice 5) := by kernel_rfl
theorem bytes37 : Tryd.prog.bytesOf 37 = 32 := by kernel_rfl
theorem bytes5 : Tryd.prog.bytesOf 5 = 1 := by kernel_rfl
/-- a datum of options, and its list -/
def OptDat (d : DataW H) (l : List Opt) : Prop := d = .nil ∧ l = [] ∨ ∃ els sp, d = .slice els sp ∧ els.length = l.length ∧ ∀ i (hi : i < l.length), ∃ dk dd, els[i]? = some (.agg [dk, dd]) ∧ SlLen dd l[i].data.length
theorem deep_optsL {m : Nat} {x : SV} {d : DataW H} (h : Deep X w m (X.T 28) x d) : ∃ (s : Sl) (l : List Opt) (os : List (Int × Sl)), x = .slice s ∧ Opts w s l os ∧ (∀ o ∈ l, Byt o.data) ∧ (∀ y ∈ os, y.2.len ≤ y.2.cap) ∧ s.len ≤ s.cap ∧ OptDat d l :=
  dp_opts (t := 28) (e := 37) (t2 := 22) (e2 := 5) rfl rfl rfl rfl h
set_option maxRecDepth 10000 in
/-- a datagram that comes in -/
theorem deep_ip4 {m : Nat} {x : SV} {d : DataW H} (h : Deep X w m (X.T 30) x d) :
    ∃ (v : IpV) (so sd : Sl) (os : List (Int × Sl)) (a1 a2 a3 a4 a5 a6 a7 a8 a9 do_ dd : DataW H), x = ipSV v so sd ∧ Opts w so v.opts os ∧ SeesB w sd v.data ∧ Fit v ∧ sd.len ≤ sd.cap ∧ so.len ≤ so.cap ∧ (∀ y ∈ os, y.2.len ≤ y.2.cap) ∧ d = .agg [a1, a2, a3, a4, a5, a6, a7, a8, a9, do_, dd] ∧ OptDat do_ v.opts ∧ SlLen dd v.data.length ∧
      (-9223372036854775808 ≤ v.tos ∧ v.tos ≤ 9223372036854775807) ∧ (-9223372036854775808 ≤ v.id ∧ v.id ≤ 9223372036854775807) ∧ (-9223372036854775808 ≤ v.off ∧ v.off ≤ 9223372036854775807) ∧ (-9223372036854775808 ≤ v.ttl ∧ v.ttl ≤ 9223372036854775807) ∧ (-9223372036854775808 ≤ v.proto ∧ v.proto ≤ 9223372036854775807) := by
  obtain ⟨fs, l, m', rfl, rfl, hh⟩ := dp_struct (b := false) (ts := [.int .i64, .int .i64, .bool, .bool, .int .i64, .int .i64, .int .i64, .struct false [.int .i64, .arr .u8 16], .struct false [.int .i64, .arr .u8 16], .slice 37, .slice 5]) (show Deep X w m (.struct false [.int .i64, .int .i64, .bool, .bool, .int .i64, .int .i64, .int .i64, .struct false [.int .i64, .arr .u8 16], .struct false [.int .i64, .arr .u8 16], .slice 37, .slice 5]) x d from h)
  obtain ⟨x1, _, d1, _, rfl, rfl, h1, hh⟩ := all3_cons hh
  obtain ⟨x2, _, d2, _, rfl, rfl, h2, hh⟩ := all3_cons hh
  obtain ⟨x3, _, d3, _, rfl, rfl, h3, hh⟩ := all3_cons hh
  obtain ⟨x4, _, d4, _, rfl, rfl, h4, hh⟩ := all3_cons hh
  obtain ⟨x5, _, d5, _, rfl, rfl, h5, hh⟩ := all3_cons hh
  obtain ⟨x6, _, d6, _, rfl, rfl, h6, hh⟩ := all3_cons hh
  obtain ⟨x7, _, d7, _, rfl, rfl, h7, hh⟩ := all3_cons hh
  obtain ⟨x8, _, d8, _, rfl, rfl, h8, hh⟩ := all3_cons hh
  obtain ⟨x9, _, d9, _, rfl, rfl, h9, hh⟩ := all3_cons hh
  obtain ⟨x10, _, d10, _, rfl, rfl, h10, hh⟩ := all3_cons hh
  obtain ⟨x11, _, d11, _, rfl, rfl, h11, hh⟩ := all3_cons hh
  obtain ⟨rfl, rfl⟩ := all3_nil hh
  obtain ⟨n1, rfl, _, i1⟩ := dp_int h1
  obtain ⟨n2, rfl, _, i2⟩ := dp_int h2
  obtain ⟨n3, rfl, _⟩ := dp_bool h3
  obtain ⟨n4, rfl, _⟩ := dp_bool h4
  obtain ⟨n5, rfl, _, i5⟩ := dp_int h5
  obtain ⟨n6, rfl, _, i6⟩ := dp_int h6
  obtain ⟨n7, rfl, _, i7⟩ := dp_int h7
  obtain ⟨v8, a8, rfl, _, r8⟩ := dp_ip h8
  obtain ⟨v9, a9, rfl, _, r9⟩ := dp_ip h9
  obtain ⟨so, lo, os, rfl, ho, hob, hoc, hsc, hdo⟩ := deep_optsL (show Deep X w m' (X.T 28) x10 d10 from h10)
  obtain ⟨sd, data, rfl, hd, hdb, hdc, hsl⟩ := deep_bytes' (X := X) (t := 22) (e := 5) rfl rfl (show Deep X w m' (X.T 22) x11 d11 from h11)
  have j1 := wf_i64 i1
  have j2 := wf_i64 i2
  have j5 := wf_i64 i5
  have j6 := wf_i64 i6
  have j7 := wf_i64 i7
  refine ⟨⟨n1, n2, n3, n4, n5, n6, n7, v8, a8, v9, a9, lo, data⟩, so, sd, os, d1, d2, d3, d4, d5, d6, d7, d8, d9, d10, d11, rfl, ho, hd, ⟨r8, r9, hob, hdb⟩, hdc, hsc, hoc, rfl, hdo, hsl, ?_, ?_, ?_, ?_, ?_⟩
  · show _ ≤ n1 ∧ n1 ≤ _
    exact j1
  · show _ ≤ n2 ∧ n2 ≤ _
    exact j2
  · show _ ≤ n5 ∧ n5 ≤ _
    exact j5
  · show _ ≤ n6 ∧ n6 ≤ _
    exact j6
  · show _ ≤ n7 ∧ n7 ≤ _
    exact j7
/-- of what weighs little -/
theorem hand_of {v : IpV} {so sd : Sl} {os : List (Int × Sl)} {a1 a2 a3 a4 a5 a6 a7 a8 a9 do_ dd : DataW H} (ho : Opts w so v.opts os) (hd : SeesB w sd v.data) (hf : Fit v) (hc : sd.len ≤ sd.cap) (hc2 : so.len ≤ so.cap) (hc3 : ∀ y ∈ os, y.2.len ≤ y.2.cap) (hdo : OptDat do_ v.opts) (hsl : SlLen dd v.data.length)
    (hL : Light Tryd.prog 30 (.agg [a1, a2, a3, a4, a5, a6, a7, a8, a9, do_, dd])) : Hand w v so sd os := by
  have h := light_struct und30 und30t hL
  have g := (light_head (light_head (light_head (light_head (light_head (light_head (light_head (light_head (light_head h).2).2).2).2).2).2).2).2).2
  have g9 := light_head g
  have g10 := light_head g9.2
  have q := light_opts und28 bytes37 und37 und37t und22 bytes5 g9.1 hdo
  have q2 := light_len und22 bytes5 g10.1 hsl
  exact ⟨ho, q.1, q.2, hd, q2, hf, hc, hc2, hc3⟩
theorem walk4 {W : World} (hg : Sees cI64 W wid4 widths4) (svs : List SV) (ds : List (DataW H)) (h : ArgsD X W [30, 3] svs ds) (hw : (DataW.weightsEach Tryd.prog [30, 3] ds).all (· ≤ reachBytes) = true) :
    Ret Tryd.prog 4 svs W fun r w1 => r = .bool true ∧ Upd [] [] W w1 := by
  obtain ⟨x, _, d1, _, m1, rfl, rfl, h1, h⟩ := argsD_cons h
  obtain ⟨y, _, d2, _, m2, rfl, rfl, h2, h⟩ := argsD_cons h
  obtain ⟨rfl, rfl⟩ := argsD_nil h
  obtain ⟨v, so, sd, os, _, _, _, _, _, _, _, _, _, do_, dd, rfl, ho, hd, hf, hc, hc2, hc3, rfl, hdo, hsl, _⟩ := deep_ip4 h1
  obtain ⟨n, rfl, hn⟩ := deep_int (t := 3) rfl h2
  have hH := hand_of ho hd hf hc hc2 hc3 hdo hsl (light_head (light_arg hw)).1
  have := wf_i64 hn
  exact c4 hg hH this.1 this.2
end Go.Vc.S6
