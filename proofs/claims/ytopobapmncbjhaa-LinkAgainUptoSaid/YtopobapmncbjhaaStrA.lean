import Derived.Test.YtopobapmncbjhaaBoxA
import Derived.Test.YtopobapmncbjhaaOptB
namespace Go.Vc
set_option linter.unusedVariables false
set_option linter.unusedSimpArgs false
set_option autoImplicit false
/-- bytes as a string -/
def baOf (l : List Int) : ByteArray := ⟨(l.map fun x => UInt8.ofNat x.toNat).toArray⟩
theorem baOf_list (l : List Int) : (baOf l).data.toList = l.map fun x => UInt8.ofNat x.toNat := rfl
theorem strOf {w : World} {s : Sl} {l : List Int} {F : ByteArray → Prop} (h : SeesB w s l) (hb : Byt l) (k : F (baOf l)) : BytesStr w s F := by
  refine ⟨(l.map fun (x : Int) => UInt8.ofNat x.toNat), by rw [List.length_map, h.len], fun hn => ?_, fun i hi => ?_, k⟩
  · by_cases hl : 0 < l.length
    · have := h.isSome (by decide) hl
      rw [hn] at this; cases this
    · rw [List.length_eq_zero_iff.1 (show l.length = 0 by omega)]; rfl
  · rw [List.length_map] at hi
    rw [byteC h i hi, bt_nat hi, List.getElem_map]
    have := hb l[i] (List.getElem_mem hi)
    congr 2
    rw [UInt8.toNat_ofNat', Nat.mod_eq_of_lt (by omega)]
    omega
theorem baOf_back {l : List Int} (hb : Byt l) : (baOf l).data.toList.map (fun u => ((u.toNat : Nat) : Int)) = l := by
  simp only [baOf, List.map_map]
  refine (List.map_congr_left fun x hx => ?_).trans (List.map_id l)
  have := hb x hx
  simp only [Function.comp, UInt8.toNat_ofNat', id]
  rw [Nat.mod_eq_of_lt (by omega)]
  omega
theorem baOf_eq {l m : List Int} (hl : Byt l) (hm : Byt m) : (baOf l == baOf m) = decide (l = m) := by
  by_cases h : l = m
  · subst h
    rw [decide_eq_true rfl]
    show (baOf l).data == (baOf l).data
    simp
  · have eb : ∀ a b : ByteArray, (a == b) = (a.data == b.data) := fun a b => by cases a; cases b; rfl
    rw [decide_eq_false h, eb, beq_eq_false_iff_ne]
    intro e
    apply h
    rw [← baOf_back hl, ← baOf_back hm, e]
theorem alike {w : World} {a b : Sl} {la lb : List Int} {R : Bool → Prop} (ha : SeesB w a la) (hb : SeesB w b lb) (ba : Byt la) (bb : Byt lb) (k : R (decide (la = lb))) :
    BytesStr w a fun x => BytesStr w b fun y => R (x == y) := by
  refine strOf ha ba (strOf hb bb ?_)
  rw [baOf_eq ba bb]
  exact k
end Go.Vc
