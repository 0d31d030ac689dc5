import Derived.Test.YtkkdnnpnbmpifaaIp4B
import Derived.Test.YtkkdnnpnbmpifaaPk4
namespace Go.Vc
set_option linter.unusedVariables false
set_option linter.unusedSimpArgs false
set_option autoImplicit false
def bitI (b : Bool) : Int := if b then 1 else 0
def packV (v : IpV) : List Int := [4, (hdL v : Int) / 4, v.tos, (hdL v : Int) + v.data.length, v.id, 0, bitI v.df, bitI v.mf, v.off / 8, v.ttl, v.proto, 0]
theorem pack4 {v : IpV} (h : ipChk v = 0) : packB [4, 4, 8, 16, 16, 1, 1, 1, 13, 8, 8, 16] (packV v) 12 = (ipHd v 0).take 12 := by
  obtain ⟨h1, h2, h3, h4, h5, h6, h7, h8, h9, h10⟩ := ipChk_ok h
  have hr := hdL_r h8
  have hw := ipWord_r h
  have e : (ipHd v 0).take 12 = [64 + (hdL v : Int) / 4, v.tos, ((hdL v : Int) + v.data.length) / 256 % 256, ((hdL v : Int) + v.data.length) % 256, v.id / 256 % 256, v.id % 256, ipWord v / 256 % 256, ipWord v % 256, v.ttl, v.proto, 0, 0] := rfl
  have hb : ipWord v = bitI v.df * 16384 + bitI v.mf * 8192 + v.off / 8 := by
    unfold ipWord bitI
    cases v.df <;> cases v.mf <;> simp <;> omega
  have b1 : 0 ≤ bitI v.df ∧ bitI v.df ≤ 1 := by unfold bitI; split <;> omega
  have b2 : 0 ≤ bitI v.mf ∧ bitI v.mf ≤ 1 := by unfold bitI; split <;> omega
  rw [e, hb]
  unfold packV
  rw [pk4_all]
  simp only [List.cons.injEq, and_true]
  refine ⟨?_, ?_, ?_, ?_, ?_, ?_, ?_, ?_, ?_, ?_, ?_, ?_⟩ <;> first | omega | trivial
theorem packV_r {v : IpV} (h : ipChk v = 0) : ∀ (i : Nat) (hi : i < ([4, 4, 8, 16, 16, 1, 1, 1, 13, 8, 8, 16] : List Int).length) (h2 : i < (packV v).length), 0 ≤ (packV v)[i] ∧ (packV v)[i] < 2 ^ (([4, 4, 8, 16, 16, 1, 1, 1, 13, 8, 8, 16] : List Int)[i]).toNat := by
  obtain ⟨h1, h2, h3, h4, h5, h6, h7, h8, h9, h10⟩ := ipChk_ok h
  have hr := hdL_r h8
  have b1 : 0 ≤ bitI v.df ∧ bitI v.df ≤ 1 := by unfold bitI; split <;> omega
  have b2 : 0 ≤ bitI v.mf ∧ bitI v.mf ≤ 1 := by unfold bitI; split <;> omega
  intro i hi _
  match i, hi with
  | 0, _ => exact (show (0 : Int) ≤ 4 ∧ 4 < (2 : Int) ^ 4 from ⟨by omega, by omega⟩)
  | 1, _ => exact (show (0 : Int) ≤ (hdL v : Int) / 4 ∧ (hdL v : Int) / 4 < (2 : Int) ^ 4 from ⟨by omega, by omega⟩)
  | 2, _ => exact (show (0 : Int) ≤ v.tos ∧ v.tos < (2 : Int) ^ 8 from ⟨by omega, by omega⟩)
  | 3, _ => exact (show (0 : Int) ≤ (hdL v : Int) + v.data.length ∧ (hdL v : Int) + v.data.length < (2 : Int) ^ 16 from ⟨by omega, by omega⟩)
  | 4, _ => exact (show (0 : Int) ≤ v.id ∧ v.id < (2 : Int) ^ 16 from ⟨by omega, by omega⟩)
  | 5, _ => exact (show (0 : Int) ≤ 0 ∧ 0 < (2 : Int) ^ 1 from ⟨by omega, by omega⟩)
  | 6, _ => exact (show (0 : Int) ≤ bitI v.df ∧ bitI v.df < (2 : Int) ^ 1 from ⟨by omega, by omega⟩)
  | 7, _ => exact (show (0 : Int) ≤ bitI v.mf ∧ bitI v.mf < (2 : Int) ^ 1 from ⟨by omega, by omega⟩)
  | 8, _ => exact (show (0 : Int) ≤ v.off / 8 ∧ v.off / 8 < (2 : Int) ^ 13 from ⟨by omega, by omega⟩)
  | 9, _ => exact (show (0 : Int) ≤ v.ttl ∧ v.ttl < (2 : Int) ^ 8 from ⟨by omega, by omega⟩)
  | 10, _ => exact (show (0 : Int) ≤ v.proto ∧ v.proto < (2 : Int) ^ 8 from ⟨by omega, by omega⟩)
  | 11, _ => exact (show (0 : Int) ≤ 0 ∧ 0 < (2 : Int) ^ 16 from ⟨by omega, by omega⟩)
end Go.Vc
