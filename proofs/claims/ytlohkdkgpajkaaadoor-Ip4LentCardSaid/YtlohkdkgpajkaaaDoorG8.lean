import Derived.Test.YtlohkdkgpajkaaaDoorG5
import Derived.Test.YtlohkdkgpajkaaaDoorG6
import Derived.Test.YtlohkdkgpajkaaaDoorG7
import Derived.Test.YtlohkdkgpajkaaaDoorG3
section
namespace Go.Vc
set_option linter.unusedVariables false
set_option linter.unusedSimpArgs false
set_option autoImplicit false
set_option maxRecDepth 10000
theorem pk4_0 (a0 a1 a2 a3 a4 a5 a6 a7 a8 a9 a10 a11 : Int) : byteT (strm [4, 4, 8, 16, 16, 1, 1, 1, 13, 8, 8, 16] [a0, a1, a2, a3, a4, a5, a6, a7, a8, a9, a10, a11]) 96 0 = (a0 % 16) * 16 + (a1 % 16) := by
  simp [byteT, strm]; omega
theorem pk4_1 (a0 a1 a2 a3 a4 a5 a6 a7 a8 a9 a10 a11 : Int) : byteT (strm [4, 4, 8, 16, 16, 1, 1, 1, 13, 8, 8, 16] [a0, a1, a2, a3, a4, a5, a6, a7, a8, a9, a10, a11]) 96 1 = (a2 % 256) := by
  simp [byteT, strm]; omega
theorem pk4_2 (a0 a1 a2 a3 a4 a5 a6 a7 a8 a9 a10 a11 : Int) : byteT (strm [4, 4, 8, 16, 16, 1, 1, 1, 13, 8, 8, 16] [a0, a1, a2, a3, a4, a5, a6, a7, a8, a9, a10, a11]) 96 2 = (a3 / 256 % 256) := by
  simp [byteT, strm]; omega
theorem pk4_3 (a0 a1 a2 a3 a4 a5 a6 a7 a8 a9 a10 a11 : Int) : byteT (strm [4, 4, 8, 16, 16, 1, 1, 1, 13, 8, 8, 16] [a0, a1, a2, a3, a4, a5, a6, a7, a8, a9, a10, a11]) 96 3 = (a3 % 256) := by
  simp [byteT, strm]; omega
theorem pk4_4 (a0 a1 a2 a3 a4 a5 a6 a7 a8 a9 a10 a11 : Int) : byteT (strm [4, 4, 8, 16, 16, 1, 1, 1, 13, 8, 8, 16] [a0, a1, a2, a3, a4, a5, a6, a7, a8, a9, a10, a11]) 96 4 = (a4 / 256 % 256) := by
  simp [byteT, strm]; omega
theorem pk4_5 (a0 a1 a2 a3 a4 a5 a6 a7 a8 a9 a10 a11 : Int) : byteT (strm [4, 4, 8, 16, 16, 1, 1, 1, 13, 8, 8, 16] [a0, a1, a2, a3, a4, a5, a6, a7, a8, a9, a10, a11]) 96 5 = (a4 % 256) := by
  simp [byteT, strm]; omega
theorem pk4_6 (a0 a1 a2 a3 a4 a5 a6 a7 a8 a9 a10 a11 : Int) : byteT (strm [4, 4, 8, 16, 16, 1, 1, 1, 13, 8, 8, 16] [a0, a1, a2, a3, a4, a5, a6, a7, a8, a9, a10, a11]) 96 6 = (a5 % 2) * 128 + (a6 % 2) * 64 + (a7 % 2) * 32 + (a8 / 256 % 32) := by
  simp [byteT, strm]; omega
theorem pk4_7 (a0 a1 a2 a3 a4 a5 a6 a7 a8 a9 a10 a11 : Int) : byteT (strm [4, 4, 8, 16, 16, 1, 1, 1, 13, 8, 8, 16] [a0, a1, a2, a3, a4, a5, a6, a7, a8, a9, a10, a11]) 96 7 = (a8 % 256) := by
  simp [byteT, strm]; omega
theorem pk4_8 (a0 a1 a2 a3 a4 a5 a6 a7 a8 a9 a10 a11 : Int) : byteT (strm [4, 4, 8, 16, 16, 1, 1, 1, 13, 8, 8, 16] [a0, a1, a2, a3, a4, a5, a6, a7, a8, a9, a10, a11]) 96 8 = (a9 % 256) := by
  simp [byteT, strm]; omega
theorem pk4_9 (a0 a1 a2 a3 a4 a5 a6 a7 a8 a9 a10 a11 : Int) : byteT (strm [4, 4, 8, 16, 16, 1, 1, 1, 13, 8, 8, 16] [a0, a1, a2, a3, a4, a5, a6, a7, a8, a9, a10, a11]) 96 9 = (a10 % 256) := by
  simp [byteT, strm]; omega
theorem pk4_10 (a0 a1 a2 a3 a4 a5 a6 a7 a8 a9 a10 a11 : Int) : byteT (strm [4, 4, 8, 16, 16, 1, 1, 1, 13, 8, 8, 16] [a0, a1, a2, a3, a4, a5, a6, a7, a8, a9, a10, a11]) 96 10 = (a11 / 256 % 256) := by
  simp [byteT, strm]; omega
theorem pk4_11 (a0 a1 a2 a3 a4 a5 a6 a7 a8 a9 a10 a11 : Int) : byteT (strm [4, 4, 8, 16, 16, 1, 1, 1, 13, 8, 8, 16] [a0, a1, a2, a3, a4, a5, a6, a7, a8, a9, a10, a11]) 96 11 = (a11 % 256) := by
  simp [byteT, strm]; omega
theorem pk4_all (a0 a1 a2 a3 a4 a5 a6 a7 a8 a9 a10 a11 : Int) : packB [4, 4, 8, 16, 16, 1, 1, 1, 13, 8, 8, 16] [a0, a1, a2, a3, a4, a5, a6, a7, a8, a9, a10, a11] 12 = [(a0 % 16) * 16 + (a1 % 16), (a2 % 256), (a3 / 256 % 256), (a3 % 256), (a4 / 256 % 256), (a4 % 256), (a5 % 2) * 128 + (a6 % 2) * 64 + (a7 % 2) * 32 + (a8 / 256 % 32), (a8 % 256), (a9 % 256), (a10 % 256), (a11 / 256 % 256), (a11 % 256)] := by
  have h : packB [4, 4, 8, 16, 16, 1, 1, 1, 13, 8, 8, 16] [a0, a1, a2, a3, a4, a5, a6, a7, a8, a9, a10, a11] 12 = [byteT (strm [4, 4, 8, 16, 16, 1, 1, 1, 13, 8, 8, 16] [a0, a1, a2, a3, a4, a5, a6, a7, a8, a9, a10, a11]) 96 0, byteT (strm [4, 4, 8, 16, 16, 1, 1, 1, 13, 8, 8, 16] [a0, a1, a2, a3, a4, a5, a6, a7, a8, a9, a10, a11]) 96 1, byteT (strm [4, 4, 8, 16, 16, 1, 1, 1, 13, 8, 8, 16] [a0, a1, a2, a3, a4, a5, a6, a7, a8, a9, a10, a11]) 96 2, byteT (strm [4, 4, 8, 16, 16, 1, 1, 1, 13, 8, 8, 16] [a0, a1, a2, a3, a4, a5, a6, a7, a8, a9, a10, a11]) 96 3, byteT (strm [4, 4, 8, 16, 16, 1, 1, 1, 13, 8, 8, 16] [a0, a1, a2, a3, a4, a5, a6, a7, a8, a9, a10, a11]) 96 4, byteT (strm [4, 4, 8, 16, 16, 1, 1, 1, 13, 8, 8, 16] [a0, a1, a2, a3, a4, a5, a6, a7, a8, a9, a10, a11]) 96 5, byteT (strm [4, 4, 8, 16, 16, 1, 1, 1, 13, 8, 8, 16] [a0, a1, a2, a3, a4, a5, a6, a7, a8, a9, a10, a11]) 96 6, byteT (strm [4, 4, 8, 16, 16, 1, 1, 1, 13, 8, 8, 16] [a0, a1, a2, a3, a4, a5, a6, a7, a8, a9, a10, a11]) 96 7, byteT (strm [4, 4, 8, 16, 16, 1, 1, 1, 13, 8, 8, 16] [a0, a1, a2, a3, a4, a5, a6, a7, a8, a9, a10, a11]) 96 8, byteT (strm [4, 4, 8, 16, 16, 1, 1, 1, 13, 8, 8, 16] [a0, a1, a2, a3, a4, a5, a6, a7, a8, a9, a10, a11]) 96 9, byteT (strm [4, 4, 8, 16, 16, 1, 1, 1, 13, 8, 8, 16] [a0, a1, a2, a3, a4, a5, a6, a7, a8, a9, a10, a11]) 96 10, byteT (strm [4, 4, 8, 16, 16, 1, 1, 1, 13, 8, 8, 16] [a0, a1, a2, a3, a4, a5, a6, a7, a8, a9, a10, a11]) 96 11] := rfl
  rw [h, pk4_0, pk4_1, pk4_2, pk4_3, pk4_4, pk4_5, pk4_6, pk4_7, pk4_8, pk4_9, pk4_10, pk4_11]
end Go.Vc
end

section
namespace Go.Vc
set_option linter.unusedVariables false
set_option linter.unusedSimpArgs false
set_option autoImplicit false
def bitI (b : Bool) : Int := if b then 1 else 0
def packV (v : IpV) : List Int := [4, (hdL v : Int) / 4, v.tos, (hdL v : Int) + v.data.length, v.id, 0, bitI v.df, bitI v.mf, v.off / 8, v.ttl, v.proto, 0]
theorem pack4 {v : IpV} (h : ipChk v = 0) : packB [4, 4, 8, 16, 16, 1, 1, 1, 13, 8, 8, 16] (packV v) 12 = (ipHd v 0).take 12 := by
  obtain ⟨h1, h2, h3, h4, h5, h6, h7, h8, h9, h10⟩ := ipChk_ok h
  have hr := hdL_r h8
  have hw := ipWord_r h
  have e : (ipHd v 0).take 12 = [64 + (hdL v : Int) / 4, v.tos, ((hdL v : Int) + v.data.length) / 256 % 256, ((hdL v : Int) + v.data.length) % 256, v.id / 256 % 256, v.id % 256, ipWord v / 256 % 256, ipWord v % 256, v.ttl, v.proto, 0, 0] := rfl
  have hb : ipWord v = bitI v.df * 16384 + bitI v.mf * 8192 + v.off / 8 := by
    unfold ipWord bitI
    cases v.df <;> cases v.mf <;> simp <;> omega
  have b1 : 0 ≤ bitI v.df ∧ bitI v.df ≤ 1 := by unfold bitI; split <;> omega
  have b2 : 0 ≤ bitI v.mf ∧ bitI v.mf ≤ 1 := by unfold bitI; split <;> omega
  rw [e, hb]
  unfold packV
  rw [pk4_all]
  simp only [List.cons.injEq, and_true]
  refine ⟨?_, ?_, ?_, ?_, ?_, ?_, ?_, ?_, ?_, ?_, ?_, ?_⟩ <;> first | omega | trivial
theorem packV_r {v : IpV} (h : ipChk v = 0) : ∀ (i : Nat) (hi : i < ([4, 4, 8, 16, 16, 1, 1, 1, 13, 8, 8, 16] : List Int).length) (h2 : i < (packV v).length), 0 ≤ (packV v)[i] ∧ (packV v)[i] < 2 ^ (([4, 4, 8, 16, 16, 1, 1, 1, 13, 8, 8, 16] : List Int)[i]).toNat := by
  obtain ⟨h1, h2, h3, h4, h5, h6, h7, h8, h9, h10⟩ := ipChk_ok h
  have hr := hdL_r h8
  have b1 : 0 ≤ bitI v.df ∧ bitI v.df ≤ 1 := by unfold bitI; split <;> omega
  have b2 : 0 ≤ bitI v.mf ∧ bitI v.mf ≤ 1 := by unfold bitI; split <;> omega
  intro i hi _
  match i, hi with
  | 0, _ => exact (show (0 : Int) ≤ 4 ∧ 4 < (2 : Int) ^ 4 from ⟨by omega, by omega⟩)
  | 1, _ => exact (show (0 : Int) ≤ (hdL v : Int) / 4 ∧ (hdL v : Int) / 4 < (2 : Int) ^ 4 from ⟨by omega, by omega⟩)
  | 2, _ => exact (show (0 : Int) ≤ v.tos ∧ v.tos < (2 : Int) ^ 8 from ⟨by omega, by omega⟩)
  | 3, _ => exact (show (0 : Int) ≤ (hdL v : Int) + v.data.length ∧ (hdL v : Int) + v.data.length < (2 : Int) ^ 16 from ⟨by omega, by omega⟩)
  | 4, _ => exact (show (0 : Int) ≤ v.id ∧ v.id < (2 : Int) ^ 16 from ⟨by omega, by omega⟩)
  | 5, _ => exact (show (0 : Int) ≤ 0 ∧ 0 < (2 : Int) ^ 1 from ⟨by omega, by omega⟩)
  | 6, _ => exact (show (0 : Int) ≤ bitI v.df ∧ bitI v.df < (2 : Int) ^ 1 from ⟨by omega, by omega⟩)
  | 7, _ => exact (show (0 : Int) ≤ bitI v.mf ∧ bitI v.mf < (2 : Int) ^ 1 from ⟨by omega, by omega⟩)
  | 8, _ => exact (show (0 : Int) ≤ v.off / 8 ∧ v.off / 8 < (2 : Int) ^ 13 from ⟨by omega, by omega⟩)
  | 9, _ => exact (show (0 : Int) ≤ v.ttl ∧ v.ttl < (2 : Int) ^ 8 from ⟨by omega, by omega⟩)
  | 10, _ => exact (show (0 : Int) ≤ v.proto ∧ v.proto < (2 : Int) ^ 8 from ⟨by omega, by omega⟩)
  | 11, _ => exact (show (0 : Int) ≤ 0 ∧ 0 < (2 : Int) ^ 16 from ⟨by omega, by omega⟩)
end Go.Vc
end

section
open Go Go.Vc Go.Proofs
set_option linter.unusedVariables false
set_option linter.unusedSimpArgs false
set_option autoImplicit false
namespace Go.Vc.S6

/-- what Serialise answers -/
noncomputable def serL (v : IpV) : List Int := if ipChk v = 0 then ipSer v else []

/-- behind the packing -/
def SerT (R : SV → World → Prop) (v : IpV) (so sd s : Sl) (b : Nat) (s1 : Sl) (w1 : World) : Prop :=
  (w1.heap[b]? = some (.cells (SV.struct [.int .i64 v.tos, .int .i64 v.id, .bool v.df, .bool v.mf, .int .i64 v.off, .int .i64 v.ttl, .int .i64 v.proto, .struct [.int .i64 v.sv, .arr .u8 16 v.sa], .struct [.int .i64 v.dv, .arr .u8 16 v.da], .slice so, .slice sd]).cells.toArray 30 (0, 0)) →
    Append 5 1 1 s1 (Sl.sub ⟨some ⟨b, 8, none⟩, 16, 16⟩ 1 0 4 16) [] w1 fun r w => Append 5 1 1 r (Sl.sub { ptr := some (Addr.add (Addr.add ⟨b, 0, none⟩ 24) 1), len := 16, cap := 16 } 1 0 4 16) [] w fun r w => Append 5 1 1 r s [] w fun r w =>
      ∀ (b3 : Nat) (w1 : World), Upd [] [b3] w w1 → w1.heap[b3]? = some (.cells (SV.struct [.slice r]).cells.toArray 22 (0, 0)) →
        Ret Tryd.prog 64 [.slice ⟨some ⟨b3, 0, none⟩, 1, 1⟩] w1 fun r1 w1 => ∃ n : Int, r1 = .int .i64 n ∧ Need (decide ((10 : Int) < (r.len : Int)) && r.ptr.isSome) (Store w1 (r.at 1 10) (SV.int .u8 (wr .u8 (gshr .i64 n 8))).cells [] fun w1 =>
          Need (decide ((11 : Int) < (r.len : Int)) && r.ptr.isSome) (Store w1 (r.at 1 11) (SV.int .u8 (wr .u8 n)).cells [] fun w1 => ∃ s : Sl, w1.cell? (Addr.add ⟨b, 0, none⟩ 42) = some s.val ∧ Append 5 1 1 r s [] w1 fun r w => R (.tuple [.slice r, .int .i64 0]) w)))

theorem hd_set {v : IpV} {c : Int} (h0 : 0 ≤ c) (h1 : c ≤ 65535) : ((ipHd v 0).set 10 (c / 256)).set 11 (c % 256) = ipHd v c := by
  unfold ipHd
  simp
  omega

theorem serT {R : SV → World → Prop} {v : IpV} {so sd s s1 : Sl} {b : Nat} {w w1 : World} (hc : ipChk v = 0) (f : Fit v) (u : Upd [] [] w w1) (hs1 : SeesB w1 s1 ((ipHd v 0).take 12)) (ho1 : Own w.heap.size 1 w1 s1) (hs : SeesB w1 s (putO v.opts)) (hos : Own w.heap.size 1 w1 s)
    (hd : SeesB w sd v.data) (hbs : ∀ x ∈ s1.blk, x ≠ b) (hsb : ∀ x ∈ s.blk, x ∉ s1.blk) (hbw : b < w1.heap.size)
    (k : ∀ r w2, Upd [] [] w w2 → SeesB w2 r (ipSer v) → Own w.heap.size 1 w2 r → R (.tuple [.slice r, .int .i64 0]) w2) : SerT R v so sd s b s1 w1 := by
  unfold SerT
  intro hrow
  obtain ⟨_, _, _, _, _, _, _, h8, h9, _⟩ := ipChk_ok hc
  have hr8 := hdL_r h8
  have hpl := putO_len h8
  have hN := u.size
  have hckr := ipCk_r hc f
  have hsl : ∀ x ∈ s.blk, x < w1.heap.size := fun x hx => (hos.blk x hx).2
  have x1 : ∀ {w' : World}, w'.heap[b]? = some (.cells (SV.struct [.int .i64 v.tos, .int .i64 v.id, .bool v.df, .bool v.mf, .int .i64 v.off, .int .i64 v.ttl, .int .i64 v.proto, .struct [.int .i64 v.sv, .arr .u8 16 v.sa], .struct [.int .i64 v.dv, .arr .u8 16 v.da], .slice so, .slice sd]).cells.toArray 30 (0, 0)) → SeesB w' (Sl.sub ⟨some ⟨b, 8, none⟩, 16, 16⟩ 1 0 4 16) [v.sa 0, v.sa 1, v.sa 2, v.sa 3] := fun hrow => by
    have h16 : SeesB _ ⟨some ⟨b, 8, none⟩, 16, 16⟩ (arrL 16 v.sa) := rowMid hrow [.int .i64 v.tos, .int .i64 v.id, .bool v.df, .bool v.mf, .int .i64 v.off, .int .i64 v.ttl, .int .i64 v.proto, .int .i64 v.sv] (.int .i64 v.dv :: ((List.range 16).map fun i => Value.int .u8 (v.da i)) ++ [so.val, sd.val]) (arrL 16 v.sa) rfl rfl (by rw [arrL_len])
    exact h16.subB (lo := 0) (hi := 4) (mx := 16) (by omega) (by rw [arrL_len]; omega) (by omega)
  have x2 : ∀ {w' : World}, w'.heap[b]? = some (.cells (SV.struct [.int .i64 v.tos, .int .i64 v.id, .bool v.df, .bool v.mf, .int .i64 v.off, .int .i64 v.ttl, .int .i64 v.proto, .struct [.int .i64 v.sv, .arr .u8 16 v.sa], .struct [.int .i64 v.dv, .arr .u8 16 v.da], .slice so, .slice sd]).cells.toArray 30 (0, 0)) → SeesB w' (Sl.sub { ptr := some (Addr.add (Addr.add ⟨b, 0, none⟩ 24) 1), len := 16, cap := 16 } 1 0 4 16) [v.da 0, v.da 1, v.da 2, v.da 3] := fun hrow => by
    rw [add_none, add_none]
    have h16 : SeesB _ ⟨some ⟨b, 25, none⟩, 16, 16⟩ (arrL 16 v.da) := rowMid hrow ([.int .i64 v.tos, .int .i64 v.id, .bool v.df, .bool v.mf, .int .i64 v.off, .int .i64 v.ttl, .int .i64 v.proto, .int .i64 v.sv] ++ ((List.range 16).map fun i => Value.int .u8 (v.sa i)) ++ [.int .i64 v.dv]) [so.val, sd.val] (arrL 16 v.da) rfl rfl (by rw [arrL_len])
    exact h16.subB (lo := 0) (hi := 4) (mx := 16) (by omega) (by rw [arrL_len]; omega) (by omega)
  have l12 : ((ipHd v 0).take 12).length = 12 := rfl
  refine append_own (c := cU8) hs1 ho1 (x1 hrow) hN (by simp) (by decide) (by rw [l12]; simp) fun r1 w2 hr1 ho2 u2 hn2 => ?_
  have v2 := u.step0 u2 (fun x hx => (ho1.blk x hx).1)
  have y2 := u2.size
  have row2 := u2.keep b hbw (fun hm => hbs b hm rfl)
  rw [hrow] at row2
  have d1 : ∀ x ∈ r1.blk, x ≠ b := fun x hx e => by rcases hn2 x hx with h | h; exact hbs x h e; omega
  have d1' : ∀ x ∈ s.blk, x ∉ r1.blk := fun x hx hm => by rcases hn2 x hm with h | h; exact hsb x hx h; have := hsl x hx; omega
  refine append_own (c := cU8) hr1 ho2 (x2 row2) v2.size (by simp) (by decide) (by rw [List.length_append, l12]; simp) fun r2 w3 hr2 ho3 u3 hn3 => ?_
  have v3 := v2.step0 u3 (fun x hx => (ho2.blk x hx).1)
  have y3 := u3.size
  have row3 := u3.keep b (by omega) (fun hm => d1 b hm rfl)
  rw [row2] at row3
  have d2 : ∀ x ∈ r2.blk, x ≠ b := fun x hx e => by rcases hn3 x hx with h | h; exact d1 x h e; omega
  have d2' : ∀ x ∈ s.blk, x ∉ r2.blk := fun x hx hm => by rcases hn3 x hm with h | h; exact d1' x hx h; have := hsl x hx; omega
  have hs3 := (hs.upd u2 hsb).upd u3 d1'
  refine append_own (c := cU8) hr2 ho3 hs3 v3.size (by simp) (by decide) (by rw [List.length_append, List.length_append, l12]; simp; omega) fun r3 w4 hr3 ho4 u4 hn4 => ?_
  have v4 := v3.step0 u4 (fun x hx => (ho3.blk x hx).1)
  have y4 := u4.size
  have row4 := u4.keep b (by omega) (fun hm => d2 b hm rfl)
  rw [row3] at row4
  have d3 : ∀ x ∈ r3.blk, x ≠ b := fun x hx e => by rcases hn4 x hx with h | h; exact d2 x h e; omega
  have eH : (ipHd v 0).take 12 ++ [v.sa 0, v.sa 1, v.sa 2, v.sa 3] ++ [v.da 0, v.da 1, v.da 2, v.da 3] ++ putO v.opts = ipHd v 0 := rfl
  rw [eH] at hr3
  intro b3 w5 u5 hr5
  have v5 := v4.then u5
  have hr3' := hr3.old u5
  have ho5 := ho4.old u5
  have hP := rowP (n := 1) (cap := 1) hr5 (ss := [r3]) rfl rfl (ls := [ipHd v 0]) ⟨hr3', trivial⟩
  have hHl := ipHd_len v 0
  refine c64 hP (by simpa using ipHd_byt hc f 0) (by simp) (by simp [hHl]; omega) ⟨_, rfl, ?_⟩
  rw [flat1]
  have eck : 65535 - sumOf (ipHd v 0) = ipCk v := rfl
  rw [eck, gshr8, wr_u8, wr_u8, show ipCk v / 256 % 256 = ipCk v / 256 by omega]
  have hr3l := hr3'.len
  have row5 := u5.keep b (by omega) (by simp)
  rw [row4] at row5
  refine needC (by omega) (hr3'.isSome (by decide) (by omega)) (own_set (c := cU8) (x := ipCk v / 256) hr3' ho5 (by decide) (by omega) rfl (by simp) fun w6 h6 o6 u6 => ?_)
  have row6 := u6.keep b (by have := u5.size; omega) (fun hm => d3 b hm rfl)
  rw [row5] at row6
  have v6 := v5.step0 u6 (fun x hx => (ho4.blk x hx).1)
  refine needC (by omega) (hr3'.isSome (by decide) (by omega)) (own_set (c := cU8) (x := ipCk v % 256) h6 o6 (by decide) (by simp; omega) rfl (by simp) fun w7 h7 o7 u7 => ?_)
  have row7 := u7.keep b (by have := u5.size; have := u6.size; omega) (fun hm => d3 b hm rfl)
  rw [row6] at row7
  have v7 := v6.step0 u7 (fun x hx => (ho4.blk x hx).1)
  rw [hd_set (by omega) (by omega)] at h7
  refine ⟨sd, by rw [add_none, cell_of_block row7]; rfl, ?_⟩
  have hl7 := ipHd_len v (ipCk v)
  refine append_own (c := cU8) h7 o7 (hd.old v7) v7.size (by simp) (by decide) (by omega) fun r w8 hr8 ho8 u8 _ => ?_
  exact k r w8 (v7.step0 u8 (fun x hx => (ho4.blk x hx).1)) hr8 ho8

set_option maxRecDepth 10000 in
theorem c25 {v : IpV} {so sd : Sl} {os : List (Int × Sl)} {w : World} {R : SV → World → Prop} (hg : Sees cI64 w wid4 widths4) (hO : Opts w so v.opts os) (hl : v.opts.length < 9223372036854775807) (hod : ∀ o ∈ v.opts, o.data.length ≤ 140737488355328) (hd : SeesB w sd v.data) (hdl : v.data.length ≤ 140737488355328) (f : Fit v)
    (k : ∀ r w1, Upd [] [] w w1 → SeesB w1 r (serL v) → Own w.heap.size 1 w1 r → R (.tuple [.slice r, .int .i64 (ipChk v)]) w1) : Ret Tryd.prog 25 [ipSV v so sd] w R := by
  refine f25_of _ _ _ _ _ _ _ _ _ _ _ _ _ _ _ ?_
  unfold vc25
  intro b w1 u1
  have hb1 := u1.new (b := b) (by simp)
  refine c33 (hO.old u1) hl hod (hd.old u1).len hdl fun w2 u2 => ⟨_, rfl, kp u2, ?_⟩
  have v2 := u1.then u2
  refine bre' (fun hne => ?_) (fun hc => ?_)
  · refine k _ _ v2 ?_ (Own.none _ _ _)
    unfold serL; rw [if_neg hne]; exact Sees.nil _ _ _ _
  have k' : ∀ r w1, Upd [] [] w w1 → SeesB w1 r (ipSer v) → Own w.heap.size 1 w1 r → R (.tuple [.slice r, .int .i64 0]) w1 := fun r w1 u h o => by
    have := k r w1 u (by unfold serL; rw [if_pos hc]; exact h) o
    rwa [hc] at this
  obtain ⟨h1, _, h3, _, _, _, _, h8, h9, _⟩ := ipChk_ok hc
  have hr8 := hdL_r h8
  have hpl := putO_len h8
  refine c27 (hO.old v2) hl hod fun s w3 u3 hs3 hos3 => ⟨_, _, rfl, kp u3, ?_⟩
  unfold putL at hs3
  rw [if_pos h8] at hs3
  have v3 := v2.then u3
  have hsl := hs3.len
  have hdlen := hd.len
  have hg3 := hg.old v3
  refine ⟨fun i => widths4.getD i 0, fun i hi => ?_, ?_⟩
  · have := intAt hg3 i hi
    rw [show wid4.at 1 i = (Addr.add ⟨0, 0, none⟩ (0 + i)) by simp [Sl.at, wid4]] at this
    rw [this]
    simp only [List.getD_eq_getElem?_getD, List.getElem?_eq_getElem (show i < widths4.length from hi), Option.getD_some]
    rfl
  intro b1 w4 u4 hr4 _
  have v4 := v3.then u4
  have hws : ∀ {w' : World}, Upd [] [] w4 w' → Sees cI64 w' (Sl.sub ⟨some ⟨b1, 0, none⟩, 12, 12⟩ 1 0 12 12) widths4 := fun u => by
    have : Sees cI64 w4 ⟨some ⟨b1, 0, none⟩, 12, 12⟩ widths4 := sees_row hr4 _ rfl rfl
    rw [sub_lit (by omega)]; exact this.old u
  have en : wr .i64 (Int.tdiv (wr .i64 (20 + (s.len : Int))) 4) = (hdL v : Int) / 4 := by
    rw [wr_i64 (x := 20 + (s.len : Int)) (by omega) (by omega), tdiv_pos (by omega), wr_i64 (by omega) (by omega)]; unfold hdL; omega
  have et : wr .i64 (wr .i64 (20 + (s.len : Int)) + (sd.len : Int)) = (hdL v : Int) + v.data.length := by
    rw [wr_i64 (x := 20 + (s.len : Int)) (by omega) (by omega), wr_i64 (by omega) (by omega)]; unfold hdL; omega
  have eo : wr .i64 (Int.tdiv v.off 8) = v.off / 8 := by rw [tdiv_pos (by omega), wr_i64 (by omega) (by omega)]
  rw [en, et, eo]
  have y3 := v3.size
  have y2 := v2.size
  have y34 := u4.size
  have y23 := u3.size
  have zb : b < w2.heap.size := by have := u2.size; omega
  have zs := hos3.blk
  -- the packing
  have main : ∀ (bs : List Nat) (b2 : Nat) (w5 : World), Upd [] [] w4 w5 → w5.heap[b2]? = some (.cells (SV.struct [.int .i64 4, .int .i64 ((hdL v : Int) / 4), .int .i64 v.tos, .int .i64 ((hdL v : Int) + v.data.length), .int .i64 v.id, .int .i64 0, .int .i64 (if v.df then 1 else 0), .int .i64 (if v.mf then 1 else 0), .int .i64 (v.off / 8), .int .i64 v.ttl, .int .i64 v.proto, .int .i64 0]).cells.toArray 3 (0, 0)) →
      Ret Tryd.prog 62 [.slice (Sl.sub ⟨some ⟨b1, 0, none⟩, 12, 12⟩ 1 0 12 12), .slice ⟨some ⟨b2, 0, none⟩, 12, 12⟩] w5 fun r w1 => ∃ (s1 : Sl) (n : Int), r = .tuple [.slice s1, .int .i64 n] ∧ Keeps bs w5 w1 ∧
        Br (n != 0) (R (.tuple [.slice ⟨none, 0, 0⟩, .int .i64 n]) w1) (SerT R v so sd s b s1 w1) := by
    intro bs b2 w5 u5 hr5
    have hvs : Sees cI64 w5 ⟨some ⟨b2, 0, none⟩, 12, 12⟩ (packV v) := sees_row hr5 _ rfl rfl
    refine c62 (hws u5) hvs wid_ok rfl (fun i hi => packV_r hc i hi hi) fun s1 w6 u6 hs6 ho6 => ⟨_, _, rfl, kp u6, brf (by simp) ?_⟩
    have e12 : packB widths4 (packV v) (wsum widths4 / 8) = (ipHd v 0).take 12 := pack4 hc
    rw [e12] at hs6
    have y5 := u5.size
    have y6 := u6.size
    have v6 := (v4.then u5).then u6
    refine serT hc f v6 hs6 (ho6.mono (by omega)) (((hs3.old u4).old u5).old u6) ((((hos3.mono y2).old u4).old u5).old u6) hd (fun x hx e => by have := (ho6.blk x hx).1; omega) (fun x hx hm => by have := (ho6.blk x hm).1; have := zs x hx; omega) (by omega) k'
  have cl : ∀ {x y : Int}, x = y → x = y := fun h => h
  refine ⟨⟨Upd.refl _, fun w5 u5 => c63 ⟨_, rfl, kp (Upd.refl _), u5, c63 ⟨_, rfl, kp (Upd.refl _), u5, fun b2 w6 u6 hr6 => main _ b2 w6 (u5.then u6) hr6⟩⟩⟩,
    fun w5 u5 => c63 ⟨_, rfl, kp (Upd.refl _), u5, ⟨u5, c63 ⟨_, rfl, kp (Upd.refl _), u5, fun b2 w6 u6 hr6 => main _ b2 w6 (u5.then u6) hr6⟩⟩, c63 ⟨_, rfl, kp (Upd.refl _), u5, ⟨u5, fun b2 w6 u6 hr6 => main _ b2 w6 (u5.then u6) hr6⟩, fun b2 w6 u6 hr6 => ⟨u5.then u6, main _ b2 w6 (u5.then u6) hr6⟩⟩⟩⟩
end Go.Vc.S6
end

section
namespace Go.Vc
set_option linter.unusedVariables false
set_option linter.unusedSimpArgs false
set_option autoImplicit false
/-- the first m of an array's bytes are appended one by one -/
theorem app_loop' {w w0 : World} {s : Sl} {l : List Int} {f : Nat → Int} {m : Nat} {mi m2 : Int} {e e' : Nat} {cells : Int → List Value} {bs : List Nat} {K : Sl → World → Prop} {C : (Sl → Int → World → Prop) → (Sl → Int → World → Nat) → Sl → Int → World → Sl → World → Prop}
    (hm : mi = m) (hm2 : mi ≤ m2) (u : Upd [] [] w0 w) (h : SeesB w s l) (o : Own w0.heap.size 1 w s) (hl : l.length + m ≤ 70368744177664) (hcells : ∀ t : Nat, t < m → cells (t : Int) = [.int .u8 (f t)]) (hbs : ∀ b ∈ bs, b < w0.heap.size)
    (hC : ∀ (I : Sl → Int → World → Prop) (M : Sl → Int → World → Nat) s n w r w', I r (wr .i64 (n + 1)) w' → M r (wr .i64 (n + 1)) w' < M s n w → C I M s n w r w')
    (k : ∀ s w1, Upd [] [] w0 w1 → SeesB w1 s (l ++ arrL m f) → Own w0.heap.size 1 w1 s → K s w1) :
    ∃ (I : Sl → Int → World → Prop), ∃ (M : Sl → Int → World → Nat), I s 0 w ∧ ∀ (s : Sl) (n : Int) (w1 : World), I s n w1 →
      Br (decide (n < mi)) (Need (decide (0 ≤ n) && decide (n < m2)) (∀ (b : Nat) (w2 : World), Upd [] [b] w1 w2 → w2.heap[b]? = some (.cells (cells n).toArray e (0, 0)) → Append e' 1 1 s ⟨some ⟨b, 0, none⟩, 1, 1⟩ bs w2 fun r w3 => C I M s n w1 r w3)) (K s w1) := by
  subst hm
  refine ⟨fun s n w1 => Upd [] [] w0 w1 ∧ Own w0.heap.size 1 w1 s ∧ ∃ t : Nat, n = t ∧ t ≤ m ∧ SeesB w1 s (l ++ arrL t f), fun _ n _ => (m - n).toNat, ⟨u, o, 0, rfl, by omega, by simpa [arrL] using h⟩, ?_⟩
  rintro s n w1 ⟨u, o, t, rfl, ht, hs⟩
  refine brd (fun hlt => ?_) (fun hge => ?_)
  · refine needIx2 (by omega) (by omega) ?_
    intro b w2 u2 hrow
    rw [hcells t (by omega)] at hrow
    have ho2 := o.old u2
    have v2 := u.then u2
    refine append_own (c := cU8) (new := [f t]) (hs.old u2) ho2 (rowB hrow _ rfl rfl) v2.size (fun b hb hmem => by have := (ho2.blk b hb).1; have := hbs b hmem; omega) (by omega) (by simp [arrL_len]; omega) fun r w3 hr3 ho3 u3 _ => ?_
    refine hC _ _ _ _ _ _ _ ⟨v2.step0 u3 (fun b hb => (ho2.blk b hb).1), ho3, t + 1, wr_succ (by omega), by omega, ?_⟩ (by rw [wr_succ (by omega)]; (try dsimp only); omega)
    rw [arrL_succ, ← List.append_assoc]
    exact hr3
  · have : t = m := by omega
    subst this
    exact k s w1 u hs o
/-- two bytes of 0 do not matter to a sum -/
theorem sum_gap {a b : List Int} (h : a.length % 2 = 0) : sumOf (a ++ ([0, 0] ++ b)) = sumOf (a ++ b) := by
  have p1 : par true a.length = true := by unfold par; rw [if_pos h]
  unfold sumOf
  rw [ws_app, ws_app a b, p1, ws_app]
  have p2 : par true ([0, 0] : List Int).length = true := rfl
  rw [p2]
  have : ws true [0, 0] = 0 := rfl
  rw [this]
  congr 1
  omega
end Go.Vc
end

section
open Go Go.Vc Go.Proofs
set_option linter.unusedVariables false
set_option linter.unusedSimpArgs false
set_option autoImplicit false
namespace Go.Vc.S6

def b10 (v : IpV) : List Int := (ipHd v 0).take 10
def tl12 (v : IpV) : List Int := (ipHd v 0).drop 12
theorem hd_parts (v : IpV) {c : Int} : ipHd v c = b10 v ++ (tw c ++ tl12 v) := rfl

theorem words {c d : Bool} {a : Int} {w : World} {M : Int → World → Prop} {x1 x2 x3 x4 : Option SV} (ha : 0 ≤ a ∧ a < 8192) (h : M ((if c then 16384 else 0) + (if d then 8192 else 0) + a) w) :
    ∀ (J : Int → World → Prop), (∀ (n : Int) (w1 : World), (∀ (J : Int → World → Prop), (∀ (n : Int) (w1 : World), M n w1 → J n w1) → Br d (x1 = x1 ∧ J (wr .i64 (n + 8192)) w1) (x2 = x2 ∧ J n w1)) → J n w1) → Br c (x3 = x3 ∧ J (wr .i64 (a + 16384)) w) (x4 = x4 ∧ J a w) := by
  intro J hJ
  cases c <;> cases d
  · refine brf rfl ⟨rfl, hJ _ _ fun J2 hJ2 => brf rfl ⟨rfl, hJ2 _ _ ?_⟩⟩
    simpa using h
  · refine brf rfl ⟨rfl, hJ _ _ fun J2 hJ2 => brt rfl ⟨rfl, hJ2 _ _ ?_⟩⟩
    rw [wr_i64 (by omega) (by omega), Int.add_comm]; simpa using h
  · refine brt rfl ⟨rfl, hJ _ _ fun J2 hJ2 => brf rfl ⟨rfl, hJ2 _ _ ?_⟩⟩
    rw [wr_i64 (by omega) (by omega), Int.add_comm]; simpa using h
  · refine brt rfl ⟨rfl, hJ _ _ fun J2 hJ2 => brt rfl ⟨rfl, hJ2 _ _ ?_⟩⟩
    rw [wr_i64 (x := a + 16384) (by omega) (by omega), wr_i64 (by omega) (by omega), show a + 16384 + 8192 = 16384 + 8192 + a by omega]; simpa using h

set_option maxRecDepth 10000 in
theorem c34 {v : IpV} {so sd : Sl} {os : List (Int × Sl)} {w : World} {R : SV → World → Prop} (hO : Opts w so v.opts os) (hl : v.opts.length ≤ 4398046511104) (hod : ∀ o ∈ v.opts, o.data.length ≤ 140737488355328) (hd : SeesB w sd v.data) (hdl : v.data.length ≤ 140737488355328) (f : Fit v)
    (k : ∀ r w1, Upd [] [] w w1 → SeesB w1 r (serL v) → Own w.heap.size 1 w1 r → R (.tuple [.slice r, .int .i64 (ipChk v)]) w1) : Ret Tryd.prog 34 [ipSV v so sd] w R := by
  refine f34_of _ _ _ _ _ _ _ _ _ _ _ _ _ _ _ ?_
  unfold vc34
  intro b w1 u1
  have hb1 := u1.new (b := b) (by simp)
  refine c36 (hO.old u1) hl hod (hd.old u1).len hdl fun w2 u2 => ⟨_, rfl, kp u2, ?_⟩
  have v2 := u1.then u2
  refine bre' (fun hne => ?_) (fun hc => ?_)
  · refine k _ _ v2 ?_ (Own.none _ _ _)
    unfold serL; rw [if_neg hne]; exact Sees.nil _ _ _ _
  have k' : ∀ r w1, Upd [] [] w w1 → SeesB w1 r (ipSer v) → Own w.heap.size 1 w1 r → R (.tuple [.slice r, .int .i64 0]) w1 := fun r w1 u h o => by
    have := k r w1 u (by unfold serL; rw [if_pos hc]; exact h) o
    rwa [hc] at this
  obtain ⟨h1, h1b, h3, h4, h5, _, _, h8, h9, _⟩ := ipChk_ok hc
  have hr8 := hdL_r h8
  have hpl := putO_len h8
  have hwr := ipWord_r hc
  have hck := ipCk_r hc f
  refine c35 (hO.old v2) hl hod fun s w3 u3 hs3 hos3 => ⟨_, _, rfl, kp u3, ?_⟩
  unfold putL at hs3
  rw [if_pos h8] at hs3
  have v3 := v2.then u3
  have hsl := hs3.len
  have hdlen := hd.len
  have y3 := v3.size
  have y2 := u2.size
  have y23 := u3.size
  have hbw : b < w3.heap.size := by omega
  have en : wr .i64 (Int.tdiv (wr .i64 (20 + (s.len : Int))) 4) = (hdL v : Int) / 4 := by
    rw [wr_i64 (x := 20 + (s.len : Int)) (by omega) (by omega), tdiv_pos (by omega), wr_i64 (by omega) (by omega)]; unfold hdL; omega
  have et : wr .i64 (wr .i64 (20 + (s.len : Int)) + (sd.len : Int)) = (hdL v : Int) + v.data.length := by
    rw [wr_i64 (x := 20 + (s.len : Int)) (by omega) (by omega), wr_i64 (by omega) (by omega)]; unfold hdL; omega
  have eo : wr .i64 (Int.tdiv v.off 8) = v.off / 8 := by rw [tdiv_pos (by omega), wr_i64 (by omega) (by omega)]
  rw [en, et, eo]
  refine words (a := v.off / 8) (by omega) ?_
  have ew : (if v.df then (16384 : Int) else 0) + (if v.mf then 8192 else 0) + v.off / 8 = ipWord v := rfl
  rw [ew]
  intro b1 w4 u4 hr4
  have v4 := v3.then u4
  have e64 : wr .u8 (wr .i64 (64 + (hdL v : Int) / 4)) = 64 + (hdL v : Int) / 4 := by rw [wr_i64 (by omega) (by omega), wr_u8]; omega
  have etos : wr .u8 v.tos = v.tos := by rw [wr_u8]; omega
  rw [e64, etos] at hr4
  have hs4 : SeesB w4 ⟨some ⟨b1, 0, none⟩, 2, 2⟩ [64 + (hdL v : Int) / 4, v.tos] := rowB hr4 _ rfl rfl
  have ho4 : Own w3.heap.size 1 w4 ⟨some ⟨b1, 0, none⟩, 2, 2⟩ := own_row hr4 (u4.new (by simp)).1 rfl (Nat.le_refl _)
  refine c70 hs4 ho4 u4.size (by simp) (by omega) fun r5 w5 u5 hr5 ho5 => ⟨_, rfl, kpm u5 (by simp; have := u4.size; omega) (fun x hx hm => by have := (ho4.blk x hm).1; simp at hx; omega), ?_⟩
  have t5 := u4.step0 u5 (fun x hx => (ho4.blk x hx).1)
  refine c70 hr5 ho5 t5.size (by simp [tw]) (by omega) fun r6 w6 u6 hr6 ho6 => ⟨_, rfl, kpm u6 (by simp; have := t5.size; omega) (fun x hx hm => by have := (ho5.blk x hm).1; simp at hx; omega), ?_⟩
  have t6 := t5.step0 u6 (fun x hx => (ho5.blk x hx).1)
  refine c70 hr6 ho6 t6.size (by simp [tw]) (by omega) fun r7 w7 u7 hr7 ho7 => ⟨_, rfl, kpm u7 (by simp; have := t6.size; omega) (fun x hx hm => by have := (ho6.blk x hm).1; simp at hx; omega), ?_⟩
  have t7 := t6.step0 u7 (fun x hx => (ho6.blk x hx).1)
  have z7 := t7.size
  intro b2 w8 u8 hr8'
  have ettl : wr .u8 v.ttl = v.ttl := by rw [wr_u8]; omega
  have epro : wr .u8 v.proto = v.proto := by rw [wr_u8]; omega
  rw [ettl, epro] at hr8'
  have t8 := t7.then u8
  refine append_own (c := cU8) (new := [v.ttl, v.proto]) (hr7.old u8) (ho7.old u8) (rowB hr8' _ rfl rfl) t8.size (fun x hx hm => by have := (ho7.blk x hx).1; simp at hm; omega) (by decide) (by simp [tw]) fun r9 w9 hr9 ho9 u9 _ => ?_
  have t9 := t8.step0 u9 (fun x hx => (ho7.blk x hx).1)
  have eb : [64 + (hdL v : Int) / 4, v.tos] ++ tw ((hdL v : Int) + v.data.length) ++ tw v.id ++ tw (ipWord v) ++ [v.ttl, v.proto] = b10 v := rfl
  rw [eb] at hr9
  have z9 := t9.size
  have hb9 : ∀ x ∈ [b], x < w9.heap.size := by simp; omega
  refine app_loop' (w0 := w9) (m := 4) (f := v.sa) rfl (by omega) (Upd.refl w9) (Sees.nil _ _ _ _) (Own.none _ _ _) (by simp) (fun t ht => by simp [SV.cells, SV.cellsL]) hb9 (fun I M s n w r w' h1 h2 => ⟨rfl, h1, h2⟩) fun s10 w10 u10 hs10 ho10 => ?_
  refine app_loop' (w0 := w9) (m := 4) (f := v.da) rfl (by omega) u10 hs10 ho10 (by simp [arrL_len]) (fun t ht => by simp [SV.cells, SV.cellsL]) hb9 (fun I M s n w r w' h1 h2 => ⟨rfl, h1, h2⟩) fun s11 w11 u11 hs11 ho11 => ?_
  have kb : ∀ {s' : Sl} {w' : World}, Own w9.heap.size 1 w' s' → ∀ x ∈ s'.blk, x ∉ [b] := fun o x hx hm => by have := (o.blk x hx).1; simp at hm; omega
  refine append_own (c := cU8) hs11 ho11 ((hs3.old t9).old u11) u11.size (kb ho11) (by decide) (by simp [arrL_len]; omega) fun r12 w12 hr12 ho12 u12 _ => ?_
  have t12 := u11.step0 u12 (fun x hx => (ho11.blk x hx).1)
  have etl : [] ++ arrL 4 v.sa ++ arrL 4 v.da ++ putO v.opts = tl12 v := rfl
  rw [etl] at hr12
  intro b3 w13 u13 hr13
  have t13 := t12.then u13
  have s9 := hr9.old t13
  have o9 := ho9.old t13
  have hP := rowP (n := 2) (cap := 2) hr13 (ss := [r9, r12]) rfl rfl (ls := [b10 v, tl12 v]) ⟨s9, hr12.old u13, trivial⟩
  have hH := ipHd_byt hc f 0
  have lH := ipHd_len v 0
  have l10 : (b10 v).length = 10 := by unfold b10; rw [List.length_take, lH]; omega
  have ltl : (tl12 v).length = hdL v - 12 := by unfold tl12; rw [List.length_drop, lH]
  refine c71 hP (by simp; exact ⟨hH.take _, hH.drop _⟩) (by simp) (by simp [l10, ltl]; omega) ⟨_, rfl, kp (Upd.refl _), ?_⟩
  have esum : 65535 - sumOf ([b10 v, tl12 v] : List (List Int)).flatten = ipCk v := by
    have : ([b10 v, tl12 v] : List (List Int)).flatten = b10 v ++ tl12 v := by simp
    rw [this]
    unfold ipCk
    rw [hd_parts v, show tw 0 = [0, 0] from rfl, sum_gap (by rw [l10])]
  rw [esum]
  have T13 := t9.then t13
  have z13 := t13.size
  refine c70 s9 o9 T13.size (by rw [l10]; decide) (by omega) fun r14 w14 u14 hr14 ho14 => ⟨_, rfl, kpm u14 (by simp; omega) (fun x hx hm => by have := (o9.blk x hm).1; simp at hx; omega), ?_⟩
  have T14 := T13.step0 u14 (fun x hx => (o9.blk x hx).1)
  have n12 : ∀ x ∈ r12.blk, x ∉ r9.blk := fun x hx hm => by have := (ho12.blk x hx).1; have := (ho9.blk x hm).2; omega
  have hb3 : ∀ {s' : Sl} {w' : World}, Own w3.heap.size 1 w' s' → ∀ x ∈ s'.blk, x ∉ [b] := fun o x hx hm => by have := (o.blk x hx).1; simp at hm; omega
  refine append_own (c := cU8) hr14 ho14 ((hr12.old u13).upd u14 n12) T14.size (hb3 ho14) (by decide) (by rw [List.length_append, l10, ltl]; simp [tw]; omega) fun r15 w15 hr15 ho15 u15 _ => ?_
  have T15 := T14.step0 u15 (fun x hx => (ho14.blk x hx).1)
  rw [List.append_assoc, ← hd_parts v] at hr15
  have lH2 := ipHd_len v (ipCk v)
  have V15 := v3.then T15
  refine append_own (c := cU8) hr15 ho15 (hd.old V15) T15.size (hb3 ho15) (by decide) (by omega) fun r16 w16 hr16 ho16 u16 _ => ?_
  exact k' r16 w16 (V15.step0 u16 (fun x hx => by have := (ho15.blk x hx).1; omega)) hr16 (ho16.mono y3)
end Go.Vc.S6
end

section
open Go Go.Vc Go.Proofs
set_option linter.unusedVariables false
set_option linter.unusedSimpArgs false
set_option autoImplicit false
namespace Go.Vc.S6

/-- is it a 16-bit word? -/
def isW (n : Int) : Prop := 0 ≤ n ∧ n ≤ 65535
instance (n : Int) : Decidable (isW n) := inferInstanceAs (Decidable (_ ∧ _))
/-- one word turned -/
def fix1 (c a b : Int) : Int := 65535 - fd (131070 - c - a + b)
def fixErr (c a b : Int) : Int := if isW c ∧ isW a ∧ isW b then 0 else 21
def fixOf (c a b : Int) : Int := if isW c ∧ isW a ∧ isW b then fix1 c a b else 0
theorem fix1_w {c a b : Int} (hc : isW c) (ha : isW a) (hb : isW b) : isW (fix1 c a b) := by
  unfold isW at *
  unfold fix1
  have := fd_range (n := 131070 - c - a + b) (by omega)
  omega
theorem c82 {c a b : Int} {w : World} {R : SV → World → Prop} (k : R (.tuple [.int .i64 (fixOf c a b), .int .i64 (fixErr c a b)]) w) : Ret Tryd.prog 82 [.int .i64 c, .int .i64 a, .int .i64 b] w R := by
  refine f82_of _ _ _ _ _ ?_
  unfold vc82
  let g : Int → Int := fset (fset (fset (fun (x : Nat) => 0) 0 c) 1 a) 2 b ∘ Int.toNat
  have g0 : g 0 = c := rfl
  have g1 : g 1 = a := rfl
  have g2 : g 2 = b := rfl
  refine ⟨fun i w1 => w1 = w ∧ 0 ≤ i ∧ i ≤ 3 ∧ ∀ j, 0 ≤ j → j < i → isW (g j), fun i _ => (3 - i).toNat, ⟨rfl, by omega, by omega, fun j h1 h2 => by omega⟩, ?_⟩
  rintro i w1 ⟨rfl, h0, h3, hj⟩
  refine brd (fun hlt => needIx2 h0 hlt ?_) (fun hge => ?_)
  · show Br (decide (g i < 0)) _ (Br (decide (g i > 65535)) _ _)
    have bad : ¬ isW (g i) → R (.tuple [.int .i64 0, .int .i64 21]) w1 := by
      intro hn
      have : ¬ (isW c ∧ isW a ∧ isW b) := by
        intro hh
        apply hn
        have : i = 0 ∨ i = 1 ∨ i = 2 := by omega
        rcases this with rfl | rfl | rfl
        · rw [g0]; exact hh.1
        · rw [g1]; exact hh.2.1
        · rw [g2]; exact hh.2.2
      unfold fixOf fixErr at k
      rw [if_neg this, if_neg this] at k
      exact k
    refine brd (fun h => bad (by unfold isW; omega)) (fun h => brd (fun h4 => bad (by unfold isW; omega)) (fun h4 => ?_))
    rw [wr_i64 (by omega) (by omega)]
    refine ⟨⟨rfl, by omega, by omega, fun j h1 h2 => ?_⟩, by (try dsimp only); omega⟩
    by_cases hji : j = i
    · subst hji; unfold isW; omega
    · exact hj j h1 (by omega)
  · have hc := hj 0 (by omega) (by omega)
    have ha := hj 1 (by omega) (by omega)
    have hb := hj 2 (by omega) (by omega)
    rw [g0] at hc; rw [g1] at ha; rw [g2] at hb
    unfold fixOf fixErr at k
    rw [if_pos ⟨hc, ha, hb⟩, if_pos ⟨hc, ha, hb⟩] at k
    have hf := fix1_w hc ha hb
    unfold isW at *
    rw [wr_i64 (x := 65535 - c) (by omega) (by omega), wr_i64 (x := 65535 - c + 65535) (by omega) (by omega), wr_i64 (x := 65535 - c + 65535 - a) (by omega) (by omega), wr_i64 (by omega) (by omega)]
    refine c92 (by omega) (by omega) ⟨_, rfl, ?_⟩
    have e : 65535 - c + 65535 - a + b = 131070 - c - a + b := by omega
    rw [e]
    unfold fix1 at k hf
    rw [wr_i64 (by omega) (by omega)]
    exact k

theorem sub_self {s : Sl} : s.sub 1 0 s.len s.cap = s := by
  unfold Sl.sub
  cases s with
  | mk p n c => cases p <;> simp
theorem sub0_at {s : Sl} {n m i : Nat} : (s.sub 1 0 n m).at 1 i = s.at 1 i := by
  unfold Sl.sub Sl.at
  simp only
  split
  · rfl
  · cases s.ptr <;> simp [Addr.add]
theorem sub0_blk {s : Sl} {n m : Nat} : (s.sub 1 0 n m).blk = s.blk := by
  unfold Sl.sub Sl.blk
  simp only
  cases s.ptr <;> split <;> rename_i h <;> simp_all
/-- two bytes of the boxed slice -/
theorem c81 {b : Nat} {s : Sl} {l : List Int} {i : Nat} {w : World} {R : SV → World → Prop} (hbx : Box cSl w b s) (h : SeesB w s l) (hb : Byt l) (hi : i + 1 < l.length) (hl : l.length < 9223372036854775807) (k : ∀ w1, Upd [] [] w w1 → R (.int .i64 (W16 l i)) w1) : Ret Tryd.prog 81 [.int .i64 (i : Int), .ptr (some ⟨b, 0, none⟩)] w R := by
  refine f81_of _ _ _ _ ?_
  unfold vc81
  have h1 := hb.bt (i : Int)
  have h2 := hb.bt ((i + 1 : Nat) : Int)
  rw [wr_succ (by omega)]
  refine deref_iff.2 ⟨_, rfl, s, hbx.sl, needB h (by omega) (by omega) ⟨_, h.byte (by omega) (by omega), deref_iff.2 ⟨_, rfl, s, hbx.sl, needB h (by omega) (by omega) ⟨_, h.byte (by omega) (by omega), fun w1 u => ?_⟩⟩⟩⟩
  rw [wr_i64 (x := bt l (i : Int)) (by omega) (by omega), wr_i64 (x := bt l ((i + 1 : Nat) : Int)) (by omega) (by omega), gshl8, wr_i64 (x := bt l (i : Int) * 256) (by omega) (by omega), ior_add 8 (by omega) (by omega) (by omega) (by omega) (by omega) (by omega)]
  exact k w1 u

def hopE (l : List Int) : Int := if ipErr l ≠ 0 then ipErr l else if bt l 8 < 2 then 67 else 0
def hopL (l : List Int) : List Int := if hopE l = 0 then ipHop l else l
theorem hopE_ok {l : List Int} (h : hopE l = 0) : ipErr l = 0 ∧ 2 ≤ bt l 8 := by
  unfold hopE at h
  by_cases e : ipErr l = 0
  · rw [if_neg (by simpa using e)] at h
    refine ⟨e, ?_⟩
    split at h
    · cases h
    · omega
  · rw [if_pos e] at h; exact absurd h e
theorem hopL_len (l : List Int) : (hopL l).length = l.length := by
  unfold hopL
  split
  · exact hop_len l
  · rfl
theorem bt_app0 {l z : List Int} {i : Nat} (h : i < l.length) : bt (l ++ z) (i : Int) = bt l (i : Int) := bt_app_l h
theorem _root_.Go.Vc.IpEq.fit {a b : IpV} (h : IpEq a b) (f : Fit b) : Fit a := ⟨fun i hi => by rw [h.sa i hi]; exact f.sa i hi, fun i hi => by rw [h.da i hi]; exact f.da i hi, fun o ho => f.opts o (by rw [← h.opts]; exact ho), by rw [h.data]; exact f.data⟩
theorem opts_small {l : List Int} (hb : Byt l) : (ipOf l).opts.length ≤ 40 ∧ ∀ o ∈ (ipOf l).opts, o.data.length ≤ 40 := by
  by_cases e : ipErr l = 0
  · have h := (ipChk_ok (parse_chk hb e).1).2.2.2.2.2.2.2.1
    have := flat_ge (ipOf l).opts
    exact ⟨by have := h.2; omega, fun o ho => by have := (h.1 o ho).2.2; omega⟩
  · unfold ipOf
    rw [if_neg e]
    simp [ipZ]
theorem data_small (l : List Int) : (ipOf l).data.length ≤ l.length := by
  unfold ipOf
  split
  · show ((l.take (totN l)).drop (hdN l)).length ≤ l.length
    simp; omega
  · simp [ipZ]

section
variable {a : Sl} {l z : List Int} {w : World} {R : SV → World → Prop}
set_option maxRecDepth 10000 in
theorem c46 {N : Nat} (hg : Sees cI64 w wid4 widths4) (h : SeesB w a (l ++ z)) (o : Own N 1 w a) (hb : Byt l) (hl : l.length ≤ 140737488355328)
    (k : ∀ w1, Upd a.blk [] w w1 → SeesB w1 a (hopL l ++ z) → Own N 1 w1 a → (hopE l ≠ 0 → Upd [] [] w w1) → R (.int .i64 (hopE l)) w1) : Ret Tryd.prog 46 [.slice (a.sub 1 0 l.length a.cap)] w R := by
  refine f46_of _ _ _ ?_
  unfold vc46
  have hal := h.len
  rw [List.length_append] at hal
  have hcap := o.le
  have ke : ∀ e w1, Upd [] [] w w1 → hopE l = e → e ≠ 0 → R (.int .i64 e) w1 := fun e w1 u he hn => by
    have hn' : hopE l ≠ 0 := by omega
    have := k w1 (u.wide (by simp)) (by unfold hopL; rw [if_neg hn']; exact h.old u) (o.old u) (fun _ => u)
    rwa [he] at this
  have sb : ∀ {w' : World} {l' : List Int}, SeesB w' a (l' ++ z) → l'.length = l.length → SeesB w' (a.sub 1 0 l.length a.cap) l' := fun h' e => by
    have := h'.subB (lo := 0) (hi := l.length) (mx := a.cap) (by omega) (by simp; omega) (by omega)
    rw [← e] at this ⊢
    simpa using this
  intro b1 w1 u1
  have n1 := u1.new (b := b1) (by simp)
  have hg1 := hg.old u1
  have h1 := h.old u1
  have o1 := o.old u1
  refine c20 hg1 (sb h1 rfl) hb (by simp [Sl.sub]; omega) hl fun v s w2 hv u2 hs2 ho2 => ⟨_, _, _, _, _, _, _, _, _, _, _, _, _, _, rfl, kp u2, ?_⟩
  have v2 := u1.then u2
  unfold hopE at ke
  intro b4
  refine bre' (fun hne w3 u3 => ke _ _ (v2.then u3) (by rw [if_pos hne]) hne) (fun he => ?_)
  rw [if_neg (by simpa using he)] at ke
  obtain ⟨_, h20, _⟩ := ipErr_ok he
  have hsub := fun (w' : World) (h' : SeesB w' a (l ++ z)) => sb h' rfl
  have h2 := h.old v2
  have b8 := hb.bt 8
  refine needC (by simp [Sl.sub]; omega) ((hsub _ h2).isSome (by decide) (by omega)) ⟨bt l 8, byteC (hsub _ h2) 8 (by omega), ?_⟩
  refine brd (fun hlt w3 u3 => ke _ _ (v2.then u3) (by rw [if_pos hlt]) (by decide)) (fun hge w3 u3 => ?_)
  have n4 := u3.new (b := b4) (by simp)
  have v3 := v2.then u3
  have hE : hopE l = 0 := by unfold hopE; rw [if_neg (by simpa using he), if_neg hge]
  clear ke
  intro hrow _
  have hbx : Box cSl w3 b1 (a.sub 1 0 l.length a.cap) := .mk' hrow rfl
  have h3 := h.old v3
  have z1 := u1.size
  have z2 := u2.size
  have z3 := u3.size
  refine c81 (i := 8) hbx (hsub _ h3) hb (by omega) (by omega) fun w4 u4 => ⟨_, rfl, kp u4, ?_⟩
  refine c81 (i := 10) (hbx.old u4) (hsub _ (h3.old u4)) hb (by omega) (by omega) fun w5 u5 => ⟨_, rfl, kp u5, ?_⟩
  have v5 := (v3.then u4).then u5
  have hbx5 := (hbx.old u4).old u5
  have w8 := W16_r hb 8
  have w10 := W16_r hb 10
  have e8 : W16 l 8 = bt l 8 * 256 + bt l 9 := rfl
  have b9 := hb.bt 9
  rw [wr_i64 (x := W16 l 8 - 256) (by omega) (by omega)]
  refine c82 ⟨_, _, rfl, kp (Upd.refl _), ?_⟩
  have i1 : isW (W16 l 10) := w10
  have i2 : isW (W16 l 8) := w8
  have i3 : isW (W16 l 8 - 256) := by unfold isW; omega
  have efix : fixOf (W16 l 10) (W16 l 8) (W16 l 8 - 256) = hopCk l := by
    unfold fixOf fix1 hopCk
    rw [if_pos ⟨i1, i2, i3⟩]
    congr 2
    omega
  have efe : fixErr (W16 l 10) (W16 l 8) (W16 l 8 - 256) = 0 := by unfold fixErr; rw [if_pos ⟨i1, i2, i3⟩]
  rw [efix, efe]
  have hck := hopCk_r hb
  have h5 := h.old v5
  have o5 := o.old v5
  have oblk : ∀ x ∈ a.blk, x < w.heap.size := fun x hx => (o.blk x hx).2
  have hp5 := (hsub _ h5).isSome (by decide) (by omega)
  have hlen : (Sl.sub a 1 0 l.length a.cap).len = l.length := rfl
  refine brf (by simp) ⟨_, hbx5.sl, needC (by rw [hlen]; omega) hp5 ⟨bt l 8, byteC (hsub _ h5) 8 (by omega), needC (by rw [hlen]; omega) hp5 ?_⟩⟩
  rw [sub0_at, gshr8, wr_u8, wr_u8, wr_u8]
  rw [show (bt l 8 - 1) % 256 = bt l 8 - 1 by omega, show hopCk l / 256 % 256 = hopCk l / 256 by omega]
  have nb4 : ∀ x ∈ a.blk, x ∉ [b4] := fun x hx hm => by have := oblk x hx; simp at hm; omega
  have nb1 : b1 ∉ a.blk := fun hx => by have := oblk _ hx; omega
  refine own_set (c := cU8) (x := bt l 8 - 1) h5 o5 (by decide) (by simp; omega) rfl nb4 fun w6 h6 o6 u6 => ?_
  have hbx6 := hbx5.upd u6 nb1
  refine ⟨[b1], fun x hx => by simp at hx; subst hx; exact hbx6.lt, by simp, _, hbx6.sl, by simp, _, hbx6.sl, needC (by rw [hlen]; omega) hp5 fun w7 u7 => ?_⟩
  rw [sub0_at]
  refine own_set (c := cU8) (x := hopCk l / 256) (h6.old u7) (o6.old u7) (by decide) (by simp; omega) rfl nb4 fun w8' h8 o8 u8 => ⟨?_, needC (by rw [hlen]; omega) hp5 ?_⟩
  · intro x hx
    simp at hx
    subst hx
    have := hbx6.lt
    rw [u8.keep _ (by have := u7.size; omega) nb1, u7.keep _ this (by simp)]
  rw [sub0_at]
  refine own_set (c := cU8) (x := hopCk l % 256) h8 o8 (by decide) (by simp; omega) rfl nb4 fun w9 h9 o9 u9 => ?_
  have hfin : ((((l ++ z).set 8 (bt l 8 - 1)).set 10 (hopCk l / 256)).set 11 (hopCk l % 256)) = hopL l ++ z := by
    unfold hopL
    rw [if_pos hE]
    unfold ipHop
    rw [List.set_append_left _ _ (by omega), List.set_append_left _ _ (by simp; omega), List.set_append_left _ _ (by simp; omega)]
  rw [hfin] at h9
  have uall : Upd a.blk [] w w9 := (((v5.wide (m' := a.blk) (by simp)).step u6 (fun x hx => .inr hx)).step u7 (by simp)).step u8 (fun x hx => .inr hx) |>.step u9 (fun x hx => .inr hx)
  have := k w9 uall h9 o9 (fun hn => absurd hE hn)
  rwa [hE] at this

theorem c77 {a b : Sl} {la lb : List Int} {w : World} {R : SV → World → Prop} (ha : SeesB w a la) (hb : SeesB w b lb) (ba : Byt la) (bb : Byt lb) (k : R (.bool (decide (la = lb))) w) : Ret Tryd.prog 77 [.slice a, .slice b] w R := by
  refine f77_of _ _ _ _ ?_
  unfold vc77
  exact alike (R := fun x => R (.bool x) w) ha hb ba bb k

/-- are they what Serialise writes? -/
def canB (l : List Int) : Bool := decide (ipErr l = 0) && decide (l = ipSer (ipOf l))
theorem canB_iff {l : List Int} : canB l = true ↔ ipCan l := by unfold canB ipCan; simp
theorem ser_byt {v : IpV} (h : ipChk v = 0) (f : Fit v) : Byt (ipSer v) := (ipHd_byt h f _).app f.data

theorem c43 {b : Sl} {l : List Int} {w : World} {R : SV → World → Prop} (hg : Sees cI64 w wid4 widths4) (h : SeesB w b l) (hb : Byt l) (hc : b.len ≤ b.cap) (hl : l.length ≤ 140737488355328)
    (k : ∀ w1, Upd [] [] w w1 → R (.bool (canB l)) w1) : Ret Tryd.prog 43 [.slice b] w R := by
  refine f43_of _ _ _ ?_
  unfold vc43
  have fin : ∀ x w1, Upd [] [] w w1 → canB l = x → R (.bool x) w1 := fun x w1 u hx => hx ▸ k w1 u
  refine c20 hg h hb hc hl fun v s w2 hv u2 hs2 ho2 => ⟨_, _, _, _, _, _, _, _, _, _, _, _, _, _, rfl, ?_⟩
  intro b3
  refine bre' (fun hne w3 u3 => fin _ _ (u2.then u3) (by unfold canB; rw [decide_eq_false hne]; rfl)) (fun he w3 u3 => ?_)
  have v3 := u2.then u3
  have hO := osOf_opts hb (h.old v3) (hs2.old u3)
  rw [← hv.opts] at hO
  have hD := dOf_sees (h.old v3)
  rw [← hv.data] at hD
  have hsm := opts_small hb
  rw [← hv.opts] at hsm
  have hds := data_small l
  rw [← hv.data] at hds
  have hfit := hv.fit (ipOf_fit hb)
  have hck : ipChk v = 0 := by rw [hv.chk]; exact (parse_chk hb he).1
  refine c25 (hg.old v3) hO (by omega) (fun o ho => by have := hsm.2 o ho; omega) hD (by omega) hfit fun r w4 u4 hr ho => ⟨_, _, rfl, kp u4, ?_⟩
  rw [hck]
  unfold serL at hr
  rw [if_pos hck, hv.ser] at hr
  refine brt (by simp) (c77 ((h.old v3).old u4) hr hb (hv.ser ▸ ser_byt hck hfit) ⟨_, rfl, kp (Upd.refl _), ?_⟩)
  exact fin _ _ (v3.then u4) (by unfold canB; rw [decide_eq_true he]; rfl)
theorem c48 {b : Sl} {l : List Int} {w : World} {R : SV → World → Prop} (h : SeesB w b l) (hb : Byt l) (hc : b.len ≤ b.cap) (hl : l.length ≤ 140737488355328)
    (k : ∀ w1, Upd [] [] w w1 → R (.bool (canB l)) w1) : Ret Tryd.prog 48 [.slice b] w R := by
  refine f48_of _ _ _ ?_
  unfold vc48
  have fin : ∀ x w1, Upd [] [] w w1 → canB l = x → R (.bool x) w1 := fun x w1 u hx => hx ▸ k w1 u
  refine c47 h hb hc hl fun v s os d w2 hv u2 hO ho2 hos2 hD hod => ⟨_, _, _, _, _, _, _, _, _, _, _, _, _, _, rfl, ?_⟩
  intro b3
  refine bre' (fun hne w3 u3 => fin _ _ (u2.then u3) (by unfold canB; rw [decide_eq_false hne]; rfl)) (fun he w3 u3 => ?_)
  have v3 := u2.then u3
  rw [← hv.opts] at hO
  rw [← hv.data] at hD
  have hsm := opts_small hb
  rw [← hv.opts] at hsm
  have hds := data_small l
  rw [← hv.data] at hds
  have hfit := hv.fit (ipOf_fit hb)
  have hck : ipChk v = 0 := by rw [hv.chk]; exact (parse_chk hb he).1
  refine c34 (hO.old u3) (by omega) (fun o ho => by have := hsm.2 o ho; omega) (hD.old u3) (by omega) hfit fun r w4 u4 hr ho => ⟨_, _, rfl, kp u4, ?_⟩
  rw [hck]
  unfold serL at hr
  rw [if_pos hck, hv.ser] at hr
  refine brt (by simp) (c24 ((h.old v3).old u4) hr hb (hv.ser ▸ ser_byt hck hfit) ⟨_, rfl, kp (Upd.refl _), ?_⟩)
  exact fin _ _ (v3.then u4) (by unfold canB; rw [decide_eq_true he]; rfl)

set_option maxRecDepth 10000 in
theorem c53 {b : Sl} {l : List Int} {w : World} {R : SV → World → Prop} (h : SeesB w b l) (hb : Byt l) (hc : b.len ≤ b.cap) (hl : l.length ≤ 140737488355328)
    (k : ∀ s w1, Upd [] [] w w1 → SeesB w1 s (hopL l) → Own w.heap.size 1 w1 s → R (.tuple [.slice s, .int .i64 (hopE l)]) w1) : Ret Tryd.prog 53 [.slice b] w R := by
  refine f53_of _ _ _ ?_
  unfold vc53
  have ke : ∀ e s w1, Upd [] [] w w1 → hopE l = e → e ≠ 0 → SeesB w1 s l → Own w.heap.size 1 w1 s → R (.tuple [.slice s, .int .i64 e]) w1 := fun e s w1 u he hn hs ho => by
    have := k s w1 u (by unfold hopL; rw [if_neg (by omega)]; exact hs) ho
    rwa [he] at this
  refine c47 h hb hc hl fun v s os d w2 hv u2 hO ho2 hos2 hD hod => ⟨_, _, _, _, _, _, _, _, _, _, _, _, _, _, rfl, ?_⟩
  intro b3
  unfold hopE at ke
  refine bre' (fun hne w3 u3 => ?_) (fun he => ?_)
  · refine c23 ((h.old u2).old u3) hl fun r w4 u4 hr ho => ⟨_, rfl, kp u4, ke _ r w4 ((u2.then u3).then u4) (by rw [if_pos hne]) hne hr (ho.mono (u2.then u3).size)⟩
  rw [if_neg (by simpa using he)] at ke
  have httl : v.ttl = bt l 8 := by rw [hv.ttl, ipOf_ok he]; rfl
  rw [httl]
  refine brd (fun hlt w3 u3 => ?_) (fun hge w3 u3 => ?_)
  · refine c23 ((h.old u2).old u3) hl fun r w4 u4 hr ho => ⟨_, rfl, kp u4, ke _ r w4 ((u2.then u3).then u4) (by rw [if_pos hlt]) (by decide) hr (ho.mono (u2.then u3).size)⟩
  have hE : hopE l = 0 := by unfold hopE; rw [if_neg (by simpa using he), if_neg hge]
  obtain ⟨_, h20, _, hh1, hh2, _⟩ := ipErr_ok he
  have n3 := u3.new (b := b3) (by simp)
  have v3 := u2.then u3
  refine c23 ((h.old u2).old u3) hl fun r w4 u4 hr ho => ⟨_, rfl, kp u4, ?_⟩
  have v4 := v3.then u4
  have hrl := hr.len
  have hrp := hr.isSome (by decide) (by omega)
  have b0 := hb.bt 0
  have b8 := hb.bt 8
  refine needC (by omega) hrp ⟨bt l 0, byteC hr 0 (by omega), needC (by omega) hrp ⟨bt l 8, byteC hr 8 (by omega), needC (by omega) hrp ?_⟩⟩
  have eh : wr .i64 (wr .i64 (Int.tmod (bt l 0) 16) * 4) = (hdN l : Int) := by
    rw [tmod_pos b0.1, wr_i64 (x := bt l 0 % 16) (by omega) (by omega), wr_i64 (by omega) (by omega), Int.mul_comm]; exact hdN_int hb
  rw [eh, wr_u8, show (bt l 8 - 1) % 256 = bt l 8 - 1 by omega]
  have rb : ∀ x ∈ r.blk, x ∉ [b3] := fun x hx hm => by have := (ho.blk x hx).1; simp at hm; omega
  refine own_set (c := cU8) (x := bt l 8 - 1) hr ho (by decide) (by omega) rfl rb fun w5 h5 o5 u5 => ?_
  have v5 := v4.step0 u5 (fun x hx => by have := (ho.blk x hx).1; have := v3.size; omega)
  have hcap := o5.le
  refine need (by simp; omega) (need (by simp; omega) ?_)
  rw [Int.toNat_natCast]
  generalize hcs : l.set 8 (bt l 8 - 1) = c at h5
  have hcl : c.length = l.length := by rw [← hcs]; simp
  have hcb : Byt c := by rw [← hcs]; exact hb.set _ (by omega)
  intro b6 w6 u6 hr6
  have h6 := h5.old u6
  have s1 := h6.subB (lo := 0) (hi := 10) (mx := r.cap) (by omega) (by omega) (by omega)
  have s2 := h6.subB (lo := 12) (hi := hdN l) (mx := r.cap) (by omega) (by omega) (by omega)
  rw [List.drop_zero] at s1
  have hP := rowP (n := 2) (cap := 2) hr6 (ss := [r.sub 1 0 10 r.cap, r.sub 1 12 (hdN l) r.cap]) rfl rfl (ls := [c.take 10, (c.take (hdN l)).drop 12]) ⟨s1, s2, trivial⟩
  refine c71 hP (by simp; exact ⟨hcb.take _, (hcb.take _).drop _⟩) (by simp) (by simp; omega) ⟨_, rfl, kp (Upd.refl _), ?_⟩
  have hsum := (hop_anew hb he (by omega)).1
  rw [hcs] at hsum
  have e2 : ([c.take 10, (c.take (hdN l)).drop 12] : List (List Int)).flatten = c.take 10 ++ (c.take (hdN l)).drop 12 := by simp
  rw [e2, hsum]
  have hck := hopCk_r hb
  rw [tdiv_pos hck.1, tmod_pos hck.1, wr_i64 (x := hopCk l / 256) (by omega) (by omega), wr_u8, wr_u8, show hopCk l / 256 % 256 = hopCk l / 256 by omega, show hopCk l % 256 % 256 = hopCk l % 256 by omega]
  refine needC (by omega) hrp (own_set (c := cU8) (x := hopCk l / 256) h6 (o5.old u6) (by decide) (by omega) rfl rb fun w7 h7 o7 u7 => needC (by omega) hrp (own_set (c := cU8) (x := hopCk l % 256) h7 o7 (by decide) (by simp; omega) rfl rb fun w8 h8 o8 u8 => ?_))
  have fr : ∀ x ∈ r.blk, w.heap.size ≤ x := fun x hx => by have := (ho.blk x hx).1; have := v3.size; omega
  have efin : (c.set 10 (hopCk l / 256)).set 11 (hopCk l % 256) = hopL l := by unfold hopL; rw [if_pos hE, ← hcs]; rfl
  rw [efin] at h8
  have := k r w8 (((v5.then u6).step0 u7 fr).step0 u8 fr) h8 (o8.mono v3.size)
  rwa [hE] at this
end
end Go.Vc.S6
end

section
open Go Go.Vc Go.Proofs
set_option linter.unusedVariables false
set_option linter.unusedSimpArgs false
set_option autoImplicit false
namespace Go.Vc.S6

def plL : List Int := [69, 0, 0, 22, 0, 0, 0, 0, 64, 17, 102, 213, 10, 0, 0, 1, 10, 0, 0, 2, 104, 105]
def plA (k : Int) : Nat → Int := fset (fset (fset (fset (fun (x : Nat) => 0) 0 10) 1 0) 2 0) 3 k
def plV : IpV := ⟨0, 0, false, false, 0, 64, 17, 4, plA 1, 4, plA 2, [], [104, 105]⟩
theorem plA_four (k : Int) : four 4 (plA k) := ⟨rfl, fun i h1 h2 => by
  unfold plA
  have hne : ∀ n : Nat, n < 4 → Nat.beq i n = false := fun n hn => by rw [← Bool.not_eq_true, Nat.beq_eq]; omega
  simp [fset, hne]⟩
theorem pl_chk : ipChk plV = 0 := by
  refine ipChk_mk ?_ ⟨by simp [plV], by simp [plV]⟩ (by decide) (by decide)
  rintro (h | h | h | h | h | h | h | h)
  · exact absurd h (by decide)
  · exact absurd h (by decide)
  · exact absurd h (by decide)
  · exact absurd h (by decide)
  · exact absurd h (by decide)
  · exact absurd h (by decide)
  · exact h (plA_four 1)
  · exact h (plA_four 2)
theorem pl_fit : Fit plV := by
  have h : ∀ k : Int, 0 ≤ k → k < 256 → ∀ i, i < 16 → 0 ≤ plA k i ∧ plA k i < 256 := fun k h0 h1 i hi => by
    unfold plA fset
    simp only
    repeat' split
    all_goals omega
  exact ⟨h 1 (by decide) (by decide), h 2 (by decide) (by decide), by simp [plV], by simp [plV, Byt]⟩
theorem pl_ser : ipSer plV = plL := by decide
theorem pl_eq : IpEq (ipOf plL) plV := by rw [← pl_ser]; exact ser_eq pl_chk pl_fit
theorem pl_err : ipErr plL = 0 := by rw [← pl_ser]; exact ser_err pl_chk pl_fit
theorem nil_err : ipErr [] = 60 := by decide

set_option maxRecDepth 10000 in
theorem c57 {w : World} {R : SV → World → Prop} (k : ∀ d b w1, Upd [] [] w w1 → SeesB w1 d [104, 105] → SeesB w1 b plL → b.len ≤ b.cap → R (.tuple [ipSV plV ⟨none, 0, 0⟩ d, .slice b]) w1) : Ret Tryd.prog 57 [] w R := by
  refine f57_of _ _ ?_
  unfold vc57
  intro b w1 u1 b1 w2 u2 hr2
  have nb := u1.new (b := b) (by simp)
  have n1 := u2.new (b := b1) (by simp)
  refine deref_iff.2 ⟨_, rfl, _, _, hr2, by simp; omega, fun w3 u3 hr3 b2 w4 u4 b3 w5 u5 hr5 w6 u6 => ?_⟩
  have v2 := u1.then u2
  have v3 := v2.step0 u3 (by simp; omega)
  have v5 := (v3.then u4).then u5
  have y2 := u2.size
  have y3 := u3.size
  have n2 := u4.new (b := b2) (by simp)
  have n3 := u5.new (b := b3) (by simp)
  have s3 : SeesB w3 ⟨some ⟨b1, 0, none⟩, 2, 2⟩ [104, 105] := rowB hr3 _ rfl rfl
  have s5 : SeesB w5 ⟨some ⟨b3, 0, none⟩, 22, 22⟩ plL := rowB hr5 _ rfl rfl
  have y4 := u4.size
  exact k _ _ w6 (v5.step0 u6 (by simp; omega)) (((s3.old u4).old u5).upd u6 (fun x hx hm => by simp [Sl.blk] at hx hm; omega)) (s5.upd u6 (fun x hx hm => by simp [Sl.blk] at hx hm; omega)) (Nat.le_refl _)
end Go.Vc.S6
end

section
namespace Go.Vc
set_option linter.unusedVariables false
set_option linter.unusedSimpArgs false
set_option autoImplicit false
theorem xor_low : ∀ x : Fin 256, ∀ k : Fin 8, 4 ≤ k.val → (x.val ^^^ 2 ^ k.val) % 16 = x.val % 16 := by decide +kernel
theorem xor_lt : ∀ x : Fin 256, ∀ k : Fin 8, x.val ^^^ 2 ^ k.val < 256 := by decide +kernel
/-- a bit of a written header turned over is told -/
theorem flip_err {v : IpV} (hc : ipChk v = 0) (f : Fit v) {q k : Nat} (hq : q < hdL v) (hk : k < 8) (hne : q = 0 → 4 ≤ k) (hl : q < (ipSer v).length) :
    ipErr ((ipSer v).set q ((((ipSer v)[q]).toNat ^^^ 2 ^ k : Nat) : Int)) ≠ 0 := by
  intro h
  have hb : Byt (ipSer v) := (ipHd_byt hc f _).app f.data
  have hx := hb _ (List.getElem_mem hl)
  obtain ⟨_, _, _, h4, h5, _, _, h8, _⟩ := ipErr_ok h
  obtain ⟨_, _, _, g4, g5, _, _, g8, _⟩ := ipErr_ok (ser_err hc f)
  have e1 := (ser_hdN hc).1
  have en : hdN ((ipSer v).set q ((((ipSer v)[q]).toNat ^^^ 2 ^ k : Nat) : Int)) = hdN (ipSer v) := by
    unfold hdN
    have hs := bt_set (l := ipSer v) (n := q) (i := 0) (v := ((((ipSer v)[q]).toNat ^^^ 2 ^ k : Nat) : Int)) hl
    rw [show ((0 : Nat) : Int) = 0 from rfl] at hs
    rw [hs]
    by_cases e : 0 = q
    · rw [if_pos e]
      subst e
      have := xor_low ⟨((ipSer v)[0]).toNat, by omega⟩ ⟨k, hk⟩ (hne rfl)
      simp only at this
      have e0 : bt (ipSer v) 0 = (ipSer v)[0] := bt_nat hl
      rw [e0]
      generalize ((ipSer v)[0]).toNat ^^^ 2 ^ k = y at *
      omega
    · rw [if_neg e]
  rw [en, e1, List.take_set] at h8
  rw [e1] at g8
  have hq2 : q < ((ipSer v).take (hdL v)).length := by simp; omega
  have e2 : ((ipSer v).take (hdL v))[q]'hq2 = (ipSer v)[q] := by simp
  have := sum_flip (hb.take (hdL v)) hq2 hk g8
  rw [e2] at this
  exact this h8
theorem bit_mask (r : Nat) (h : r < 8) : gshr .u8 128 (r : Int) = ((2 ^ (7 - r) : Nat) : Int) := by
  have : ∀ r : Fin 8, gshr .u8 128 (r.val : Int) = ((2 ^ (7 - r.val) : Nat) : Int) := by decide +kernel
  exact this ⟨r, h⟩
end Go.Vc
end
