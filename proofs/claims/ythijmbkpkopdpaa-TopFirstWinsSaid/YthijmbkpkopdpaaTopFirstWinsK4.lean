import Derived.Test.YthijmbkpkopdpaaTopFirstWinsK3
import Derived.Test.YthijmbkpkopdpaaTopFirstWinsK2
import Derived.KernelRfl
section
open Go Go.Vc Go.Proofs
set_option linter.unusedVariables false
set_option linter.unusedSimpArgs false
set_option autoImplicit false
namespace Go.Vc.Stop
/-- whose fragment it is -/
structure KeyV where
  sv : Int
  sa : Nat → Int
  dv : Int
  da : Nat → Int
  proto : Int
  id : Int
abbrev kSV (k : KeyV) : SV := .struct [.struct [.int .i64 k.sv, .arr .u8 16 k.sa], .struct [.int .i64 k.dv, .arr .u8 16 k.da], .int .i64 k.proto, .int .i64 k.id]
structure KeyV.Ok (k : KeyV) : Prop where
  sv : -9223372036854775808 ≤ k.sv ∧ k.sv ≤ 9223372036854775807
  sa : ∀ i, i < 16 → 0 ≤ k.sa i ∧ k.sa i < 256
  dv : -9223372036854775808 ≤ k.dv ∧ k.dv ≤ 9223372036854775807
  da : ∀ i, i < 16 → 0 ≤ k.da i ∧ k.da i < 256
  proto : -9223372036854775808 ≤ k.proto ∧ k.proto ≤ 9223372036854775807
  id : -9223372036854775808 ≤ k.id ∧ k.id ≤ 9223372036854775807
theorem und56 : Try.prog.underlying 56 = some (.map 66 67) := by kernel_rfl
theorem keyLaw66 : Go.WideMaps.KeyLaw Try.prog 66 := deep_law_laid (by kernel_rfl) (m := 6) (by omega) (Nat.le_of_ble_eq_true (by kernel_rfl)) (by kernel_rfl) (by kernel_rfl)
noncomputable def und66f : Array Field := match Try.prog.underlying 66 with | some (.struct fs) => fs | _ => #[]
theorem und66 : Try.prog.underlying 66 = some (.struct und66f) := by kernel_rfl
noncomputable def und24f : Array Field := match Try.prog.underlying 24 with | some (.struct fs) => fs | _ => #[]
theorem und24 : Try.prog.underlying 24 = some (.struct und24f) := by kernel_rfl
theorem und22 : Try.prog.underlying 22 = some (.array 16 5) := by kernel_rfl
theorem u5 : Try.prog.underlying 5 = some (.int .u8) := by kernel_rfl
theorem cl66 : Try.prog.cellsOf 66 = 36 := by kernel_rfl
theorem cl24 : Try.prog.cellsOf 24 = 17 := by kernel_rfl
theorem cl22 : Try.prog.cellsOf 22 = 16 := by kernel_rfl
theorem cl5 : Try.prog.cellsOf 5 = 1 := by kernel_rfl
theorem f66 : und66f.toList.map (fun f => (f.type, f.offset)) = [(24, 0), (24, 17), (3, 34), (3, 35)] := by kernel_rfl
theorem f66n : und66f.all (·.name != "_") = true := by kernel_rfl
theorem f24 : und24f.toList.map (fun f => (f.type, f.offset)) = [(3, 0), (22, 1)] := by kernel_rfl
theorem f24n : und24f.all (·.name != "_") = true := by kernel_rfl
theorem kt66 : Try.prog.keyType 66 = true := by kernel_rfl
theorem tsz4 : ∃ n, Try.prog.types.size + 1 = n + 5 := ⟨Try.prog.types.size - 4, by have : 4 ≤ Try.prog.types.size := Nat.le_of_ble_eq_true (by kernel_rfl); omega⟩
theorem mapM_some {α β : Type} {g : α → Option β} {h : α → β} : ∀ (l : List α), (∀ x ∈ l, g x = some (h x)) → l.mapM g = some (l.map h)
  | [], _ => rfl
  | x :: r, hx => by
    rw [List.mapM_cons, hx x (by simp), mapM_some r (fun y hy => hx y (by simp [hy]))]
    rfl
theorem lits_int {n : Nat} {x : Int} (h : -9223372036854775808 ≤ x ∧ x ≤ 9223372036854775807) : Try.prog.keyLits (n + 1) 3 [.int .i64 x] = some [.int .i64 x] := by
  simp [Program.keyLits, u3, lit_wf h.1 h.2]
theorem lits_u8 {n : Nat} {x : Int} (h : 0 ≤ x ∧ x < 256) : Try.prog.keyLits (n + 1) 5 [.int .u8 x] = some [.int .u8 x] := by
  have : (Lit.int .u8 x).wf = true := by
    simp [Lit.wf, IntKind.min, IntKind.max, IntKind.wrap, IntKind.bits, IntKind.signed]
    try omega
  simp [Program.keyLits, u5, this]
theorem lits_arr {n : Nat} {f : Nat → Int} (h : ∀ i, i < 16 → 0 ≤ f i ∧ f i < 256) : ∃ l, Try.prog.keyLits (n + 2) 22 ((List.range 16).map fun i => Value.int .u8 (f i)) = some l := by
  unfold Program.keyLits
  simp only [und22]
  rw [if_pos (by rw [cl22]; simp)]
  have := mapM_some (g := fun i => Try.prog.keyLits (n + 1) 5 ((((List.range 16).map fun i => Value.int .u8 (f i)).drop (i * Try.prog.cellsOf 5)).take (Try.prog.cellsOf 5))) (h := fun i => [Lit.int .u8 (f i)]) (List.range 16) (fun i hi => by
    have hi : i < 16 := by simpa using hi
    rw [cl5, Nat.mul_one]
    have e : (((List.range 16).map fun i => Value.int .u8 (f i)).drop i).take 1 = [Value.int .u8 (f i)] := by
      apply List.ext_getElem
      · simp; omega
      · intro j h1 h2
        have : j = 0 := by simp at h2; omega
        subst this
        simp
    rw [e]
    exact lits_u8 (h i hi))
  rw [this]
  exact ⟨_, rfl⟩
theorem mapM_ex {α β : Type} {g : α → Option β} : ∀ (l : List α), (∀ x ∈ l, ∃ y, g x = some y) → ∃ r, l.mapM g = some r
  | [], _ => ⟨[], rfl⟩
  | x :: r, hx => by
    obtain ⟨y, hy⟩ := hx x (by simp)
    obtain ⟨s, hs⟩ := mapM_ex r (fun y hy => hx y (by simp [hy]))
    exact ⟨y :: s, by rw [List.mapM_cons, hy, hs]; rfl⟩
theorem lits_ip {n : Nat} {v : Int} {f : Nat → Int} (hv : -9223372036854775808 ≤ v ∧ v ≤ 9223372036854775807) (h : ∀ i, i < 16 → 0 ≤ f i ∧ f i < 256) : ∃ l, Try.prog.keyLits (n + 3) 24 (Value.int .i64 v :: (List.range 16).map fun i => Value.int .u8 (f i)) = some l := by
  unfold Program.keyLits
  simp only [und24]
  rw [if_pos ⟨by rw [cl24]; simp, f24n⟩]
  have e := mapM_of (g := fun f : Field => (f.type, f.offset)) (F := fun p => Try.prog.keyLits (n + 2) p.1 (((Value.int .i64 v :: (List.range 16).map fun i => Value.int .u8 (f i)).drop p.2).take (Try.prog.cellsOf p.1))) und24f.toList
  rw [e, f24]
  obtain ⟨l, hl⟩ := lits_arr (n := n) h
  obtain ⟨r, hr⟩ := mapM_ex (g := fun p : Nat × Nat => Try.prog.keyLits (n + 2) p.1 (((Value.int .i64 v :: (List.range 16).map fun i => Value.int .u8 (f i)).drop p.2).take (Try.prog.cellsOf p.1))) [(3, 0), (22, 1)] (fun x hx => by
    simp only [List.mem_cons, List.not_mem_nil, or_false] at hx
    rcases hx with rfl | rfl
    · rw [cl3]; exact ⟨_, lits_int hv⟩
    · rw [cl22]; exact ⟨l, by
        have e16 : (List.map (fun i => Value.int .u8 (f i)) (List.range 16)).take 16 = List.map (fun i => Value.int .u8 (f i)) (List.range 16) := List.take_of_length_le (by simp)
        simp only [List.drop_succ_cons, List.drop_zero, e16]
        exact hl⟩)
  rw [hr]
  exact ⟨_, rfl⟩
theorem key_ok2 {k : KeyV} (h : k.Ok) : ∃ lx, keyOf Try.prog 66 (kSV k).enc = some lx := by
  obtain ⟨n, hn⟩ := tsz4
  have hl : (kSV k).enc.cells.toList = (Value.int .i64 k.sv :: (List.range 16).map fun i => Value.int .u8 (k.sa i)) ++ ((Value.int .i64 k.dv :: (List.range 16).map fun i => Value.int .u8 (k.da i)) ++ [Value.int .i64 k.proto, Value.int .i64 k.id]) := by simp [SV.enc, SV.cellsL, SV.cells, Value.cells]
  have hf : Value.formed Try.prog 66 (kSV k).enc = true := by
    have : (kSV k).enc.cells.size = 36 := by rw [← Array.length_toList, hl]; simp
    simp [Value.formed, SV.enc, SV.cellsL, SV.cells, und66, cl66]
  unfold keyOf
  rw [und66, hn]
  simp only [kt66, hf, Bool.and_self, if_true]
  have e := mapM_of (g := fun f : Field => (f.type, f.offset)) (F := fun p => Try.prog.keyLits (n + 4) p.1 (((kSV k).enc.cells.toList.drop p.2).take (Try.prog.cellsOf p.1))) und66f.toList
  obtain ⟨l1, h1⟩ := lits_ip (n := n + 1) h.sv h.sa
  obtain ⟨l2, h2⟩ := lits_ip (n := n + 1) h.dv h.da
  have : ∃ l, Try.prog.keyLits (n + 5) 66 (kSV k).enc.cells.toList = some l := by
    unfold Program.keyLits
    simp only [und66]
    rw [if_pos ⟨by rw [hl, cl66]; simp, f66n⟩, e, f66]
    obtain ⟨r, hr⟩ := mapM_ex (g := fun p : Nat × Nat => Try.prog.keyLits (n + 4) p.1 (((kSV k).enc.cells.toList.drop p.2).take (Try.prog.cellsOf p.1))) [(24, 0), (24, 17), (3, 34), (3, 35)] (fun x hx => by
      simp only [List.mem_cons, List.not_mem_nil, or_false] at hx
      rw [hl]
      rcases hx with rfl | rfl | rfl | rfl
      · rw [cl24]; exact ⟨l1, h1⟩
      · rw [cl24]; exact ⟨l2, h2⟩
      · rw [cl3]; exact ⟨_, lits_int h.proto⟩
      · rw [cl3]; exact ⟨_, lits_int h.id⟩)
    rw [hr]
    exact ⟨_, rfl⟩
  obtain ⟨l, hl2⟩ := this
  rw [hl2]
  exact ⟨_, rfl⟩
/-- the program's own comparison: the enclosed values -/
theorem kSV_cells {k k' : KeyV} (h : (kSV k).enc = (kSV k').enc) : k.sv = k'.sv ∧ (∀ i, i < 16 → k.sa i = k'.sa i) ∧ k.dv = k'.dv ∧ (∀ i, i < 16 → k.da i = k'.da i) ∧ k.proto = k'.proto ∧ k.id = k'.id := by
  have h' : SV.cellsL [.struct [.int .i64 k.sv, .arr .u8 16 k.sa], .struct [.int .i64 k.dv, .arr .u8 16 k.da], .int .i64 k.proto, .int .i64 k.id] = SV.cellsL [.struct [.int .i64 k'.sv, .arr .u8 16 k'.sa], .struct [.int .i64 k'.dv, .arr .u8 16 k'.da], .int .i64 k'.proto, .int .i64 k'.id] := by
    simpa [SV.enc] using h
  have g : ∀ (i : Nat) (v v' : Value), (SV.cellsL [.struct [.int .i64 k.sv, .arr .u8 16 k.sa], .struct [.int .i64 k.dv, .arr .u8 16 k.da], .int .i64 k.proto, .int .i64 k.id])[i]? = some v → (SV.cellsL [.struct [.int .i64 k'.sv, .arr .u8 16 k'.sa], .struct [.int .i64 k'.dv, .arr .u8 16 k'.da], .int .i64 k'.proto, .int .i64 k'.id])[i]? = some v' → v = v' := fun i v v' e e' => by
    rw [h', e'] at e; exact (Option.some.inj e).symm
  have inj : ∀ {q : IntKind} {a b : Int}, Value.int q a = Value.int q b → a = b := fun h => by injection h
  refine ⟨inj (g 0 _ _ rfl rfl), fun i hi => ?_, inj (g 17 _ _ rfl rfl), fun i hi => ?_, inj (g 34 _ _ rfl rfl), inj (g 35 _ _ rfl rfl)⟩
  · exact inj (g (1 + i) (.int .u8 (k.sa i)) (.int .u8 (k'.sa i)) (by
      rcases i with _ | _ | _ | _ | _ | _ | _ | _ | _ | _ | _ | _ | _ | _ | _ | _ | i <;> first | rfl | omega) (by
      rcases i with _ | _ | _ | _ | _ | _ | _ | _ | _ | _ | _ | _ | _ | _ | _ | _ | i <;> first | rfl | omega))
  · exact inj (g (18 + i) (.int .u8 (k.da i)) (.int .u8 (k'.da i)) (by
      rcases i with _ | _ | _ | _ | _ | _ | _ | _ | _ | _ | _ | _ | _ | _ | _ | _ | i <;> first | rfl | omega) (by
      rcases i with _ | _ | _ | _ | _ | _ | _ | _ | _ | _ | _ | _ | _ | _ | _ | _ | i <;> first | rfl | omega))
end Go.Vc.Stop
end

section
open Go Go.Vc Go.Vc.Stop Go.Proofs
set_option maxRecDepth 100000
set_option linter.unusedVariables false
namespace Go.Vc.Stop
def vc19 (n : Int) (hi : Int) (w : World) (R : SV → World → Prop) : Prop :=
  Br (decide (n < 0)) (R (SV.bool true) w) (R (SV.bool (decide (n > hi))) w)
theorem f19_of (n : Int) (hi : Int) (w : World) (R : SV → World → Prop) (hV : vc19 n hi w R) : Ret Try.prog 19 [.int .i64 n, .int .i64 hi] w R :=
  have e : vc19 n hi w R = fnVC X Try.f19 a19 [.int .i64 n, .int .i64 hi] w R := by kernel_rfl
  fnVC_sound X_ok (n := a19) (e ▸ hV) (by kernel_rfl) (by kernel_rfl) rfl rfl

def vc20 (ip_0 : Int) (ip_1 : Nat → Int) (w : World) (R : SV → World → Prop) : Prop :=
  ∀ (b : Nat),
    ∃ (I : Int → World → Prop),
      ∃ (M : Int → World → Nat),
        (∀ (w1 : World), Upd [] [b] w w1 → I 4 w1) ∧
          ∀ (n : Int) (w1 : World),
            I n w1 →
              Br (decide (n < 16))
                (Need (decide (0 ≤ n) && decide (n < 16))
                  (Br (ip_1 (Int.toNat n) != 0) (R (SV.bool false) w1)
                    (some (SV.box b 24 (SV.struct [SV.int IntKind.i64 ip_0, SV.arr IntKind.u8 16 ip_1])) =
                        some (SV.box b 24 (SV.struct [SV.int IntKind.i64 ip_0, SV.arr IntKind.u8 16 ip_1])) ∧
                      I (wr IntKind.i64 (n + 1)) w1 ∧ M (wr IntKind.i64 (n + 1)) w1 < M n w1)))
                (R (SV.bool (ip_0 == 4)) w1)
theorem f20_of (ip_0 : Int) (ip_1 : Nat → Int) (w : World) (R : SV → World → Prop) (hV : vc20 ip_0 ip_1 w R) : Ret Try.prog 20 [.struct [.int .i64 ip_0, .arr .u8 16 ip_1]] w R :=
  have e : vc20 ip_0 ip_1 w R = fnVC X Try.f20 a20 [.struct [.int .i64 ip_0, .arr .u8 16 ip_1]] w R := by kernel_rfl
  fnVC_sound X_ok (n := a20) (e ▸ hV) (by kernel_rfl) (by kernel_rfl) rfl rfl

def vc21 (l : Sl) (w : World) (R : SV → World → Prop) : Prop :=
  ∃ (I : Sl → Int → World → Prop),
    ∃ (M : Sl → Int → World → Nat),
      I { ptr := none, len := 0, cap := 0 } 0 w ∧
        ∀ (s : Sl) (n : Int) (w1 : World),
          I s n w1 →
            Br (decide (n < (↑l.2 : Int)))
              (∀ (J : Sl → World → Prop),
                (∀ (s_1 : Sl) (w1_1 : World), I s_1 (wr IntKind.i64 (n + 1)) w1_1 ∧ M s_1 (wr IntKind.i64 (n + 1)) w1_1 < M s n w1 → J s_1 w1_1) →
                  Need (decide (0 ≤ n) && decide (n < (↑l.2 : Int)) && Option.isSome l.1)
                    (∃ (s_1 : Sl),
                      World.cell? w1 (Addr.add (Sl.at l 2 (Int.toNat n)) 1) = some (Sl.val s_1) ∧
                        ∀ (J_1 : World → Prop),
                          (∀ (w1 : World),
                              Need (decide (0 ≤ n) && decide (n < (↑l.2 : Int)) && Option.isSome l.1)
                                  (∃ (n_1 : Int),
                                    World.cell? w1 (Sl.at l 2 (Int.toNat n)) = some (Value.int IntKind.i64 n_1) ∧
                                      ∀ (b : Nat) (w1_1 : World),
                                        Upd [] [b] w1 w1_1 →
                                          (World.heap w1_1)[b]? =
                                              some
                                                (Obj.cells
                                                  {
                                                    toList :=
                                                      SV.cells
                                                        (SV.struct [SV.int IntKind.u8 (wr IntKind.u8 n_1), SV.int IntKind.u8 (wr IntKind.u8 (wr IntKind.i64 ((↑s_1.2 : Int) + 2)))]) }
                                                  5) →
                                            Vc.Append 5 1 1 s { ptr := some { block := b, off := 0 }, len := 2, cap := 2 } [] w1_1 fun (r : Sl) (w : World) =>
                                              Need (decide (0 ≤ n) && decide (n < (↑l.2 : Int)) && Option.isSome l.1)
                                                (∃ (s : Sl),
                                                  World.cell? w (Addr.add (Sl.at l 2 (Int.toNat n)) 1) = some (Sl.val s) ∧
                                                    Vc.Append 5 1 1 r s [] w fun (r : Sl) (w : World) => J r w)) →
                                J_1 w1) →
                            Need (decide (0 ≤ n) && decide (n < (↑l.2 : Int)) && Option.isSome l.1)
                              (∃ (n_1 : Int),
                                World.cell? w1 (Sl.at l 2 (Int.toNat n)) = some (Value.int IntKind.i64 n_1) ∧
                                  Br (decide (n_1 < 2)) (R (SV.tuple [SV.slice { ptr := none, len := 0, cap := 0 }, SV.int IntKind.i64 65]) w1)
                                    (Need (decide (0 ≤ n) && decide (n < (↑l.2 : Int)) && Option.isSome l.1)
                                      (∃ (n_2 : Int),
                                        World.cell? w1 (Sl.at l 2 (Int.toNat n)) = some (Value.int IntKind.i64 n_2) ∧
                                          Br (decide (n_2 > 255)) (R (SV.tuple [SV.slice { ptr := none, len := 0, cap := 0 }, SV.int IntKind.i64 65]) w1)
                                            (Br (decide ((↑s_1.2 : Int) > 38)) (R (SV.tuple [SV.slice { ptr := none, len := 0, cap := 0 }, SV.int IntKind.i64 65]) w1) (J_1 w1)))))))
              (∃ (I : Sl → World → Prop),
                ∃ (M : Sl → World → Nat),
                  I s w1 ∧
                    ∀ (s : Sl) (w1 : World),
                      I s w1 →
                        Br (Int.tmod (↑s.2 : Int) 4 != 0)
                          (∀ (b : Nat) (w1_1 : World),
                            Upd [] [b] w1 w1_1 →
                              (World.heap w1_1)[b]? = some (Obj.cells { toList := SV.cells (SV.struct [SV.int IntKind.u8 0]) } 5) →
                                Vc.Append 5 1 1 s { ptr := some { block := b, off := 0 }, len := 1, cap := 1 } [] w1_1 fun (r : Sl) (w : World) => I r w ∧ M r w < M s w1)
                          (Br (decide ((↑s.2 : Int) > 40)) (R (SV.tuple [SV.slice { ptr := none, len := 0, cap := 0 }, SV.int IntKind.i64 65]) w1)
                            (R (SV.tuple [SV.slice s, SV.int IntKind.i64 0]) w1)))
theorem f21_of (l : Sl) (w : World) (R : SV → World → Prop) (hV : vc21 l w R) : Ret Try.prog 21 [.slice l] w R :=
  have e : vc21 l w R = fnVC X Try.f21 a21 [.slice l] w R := by kernel_rfl
  fnVC_sound X_ok (n := a21) (e ▸ hV) (by kernel_rfl) (by kernel_rfl) rfl rfl

def vc22 (mf : Bool) (off : Int) (n : Int) (w : World) (R : SV → World → Prop) : Prop :=
  Br mf (Br (n == 0) (R (SV.bool true) w) (Br (Int.tmod n 8 != 0) (R (SV.bool true) w) (R (SV.bool (decide (wr IntKind.i64 (off + n) > 65515))) w)))
    (R (SV.bool (decide (wr IntKind.i64 (off + n) > 65515))) w)
theorem f22_of (mf : Bool) (off : Int) (n : Int) (w : World) (R : SV → World → Prop) (hV : vc22 mf off n w R) : Ret Try.prog 22 [.bool mf, .int .i64 off, .int .i64 n] w R :=
  have e : vc22 mf off n w R = fnVC X Try.f22 a22 [.bool mf, .int .i64 off, .int .i64 n] w R := by kernel_rfl
  fnVC_sound X_ok (n := a22) (e ▸ hV) (by kernel_rfl) (by kernel_rfl) rfl rfl

def vc23 (h_0 : Int) (h_1 : Int) (h_2 : Bool) (h_3 : Bool) (h_4 : Int) (h_5 : Int) (h_6 : Int) (h_7_0 : Int) (h_7_1 : Nat → Int) (h_8_0 : Int) (h_8_1 : Nat → Int) (h_9 : Sl) (h_10 : Sl) (w : World) (R : SV → World → Prop) : Prop :=
  ∀ (b : Nat) (J : World → Prop),
    (∀ (w1 : World),
        (Ret Try.prog 45 [SV.slice h_9] w1 fun (r : SV) (w1_1 : World) =>
            ∃ (s : Sl),
              ∃ (n : Int),
                r = SV.tuple [SV.slice s, SV.int IntKind.i64 n] ∧
                  Keeps [b] w1 w1_1 ∧
                    Br (n != 0) (R (SV.int IntKind.i64 n) w1_1)
                      (Br (decide (wr IntKind.i64 (wr IntKind.i64 (20 + (↑s.2 : Int)) + (↑h_10.2 : Int)) > 65535)) (R (SV.int IntKind.i64 63) w1_1)
                        (Ret Try.prog 46 [SV.bool h_3, SV.int IntKind.i64 h_4, SV.int IntKind.i64 (↑h_10.2 : Int)] w1_1 fun (r : SV) (w1 : World) =>
                          ∃ (n : Int), r = SV.int IntKind.i64 n ∧ Keeps [b] w1_1 w1 ∧ R (SV.int IntKind.i64 n) w1))) →
          J w1) →
      ∀ (w1 : World),
        Upd [] [b] w w1 →
          Ret Try.prog 43 [SV.int IntKind.i64 h_0, SV.int IntKind.i64 255] w1 fun (r : SV) (w1_1 : World) =>
            ∃ (b_1 : Bool),
              r = SV.bool b_1 ∧
                Keeps [b] w1 w1_1 ∧
                  Br b_1 (R (SV.int IntKind.i64 68) w1_1)
                    (Ret Try.prog 43 [SV.int IntKind.i64 h_1, SV.int IntKind.i64 65535] w1_1 fun (r : SV) (w1 : World) =>
                      ∃ (b_2 : Bool),
                        r = SV.bool b_2 ∧
                          Keeps [b] w1_1 w1 ∧
                            Br b_2 (R (SV.int IntKind.i64 68) w1)
                              (Ret Try.prog 43 [SV.int IntKind.i64 h_4, SV.int IntKind.i64 65528] w1 fun (r : SV) (w1_2 : World) =>
                                ∃ (b_3 : Bool),
                                  r = SV.bool b_3 ∧
                                    Keeps [b] w1 w1_2 ∧
                                      Br b_3 (R (SV.int IntKind.i64 68) w1_2)
                                        (Br (Int.tmod h_4 8 != 0) (R (SV.int IntKind.i64 68) w1_2)
                                          (Ret Try.prog 43 [SV.int IntKind.i64 h_5, SV.int IntKind.i64 255] w1_2 fun (r : SV) (w1 : World) =>
                                            ∃ (b_4 : Bool),
                                              r = SV.bool b_4 ∧
                                                Keeps [b] w1_2 w1 ∧
                                                  Br b_4 (R (SV.int IntKind.i64 68) w1)
                                                    (Ret Try.prog 43 [SV.int IntKind.i64 h_6, SV.int IntKind.i64 255] w1 fun (r : SV) (w1_3 : World) =>
                                                      ∃ (b_5 : Bool),
                                                        r = SV.bool b_5 ∧
                                                          Keeps [b] w1 w1_3 ∧
                                                            Br b_5 (R (SV.int IntKind.i64 68) w1_3)
                                                              (Ret Try.prog 44 [SV.struct [SV.int IntKind.i64 h_7_0, SV.arr IntKind.u8 16 h_7_1]] w1_3 fun (r : SV) (w1 : World) =>
                                                                ∃ (b_6 : Bool),
                                                                  r = SV.bool b_6 ∧
                                                                    Keeps [b] w1_3 w1 ∧
                                                                      Br (!b_6) (R (SV.int IntKind.i64 68) w1)
                                                                        (Ret Try.prog 44 [SV.struct [SV.int IntKind.i64 h_8_0, SV.arr IntKind.u8 16 h_8_1]] w1
                                                                          fun (r : SV) (w1_4 : World) =>
                                                                          ∃ (b_7 : Bool),
                                                                            r = SV.bool b_7 ∧
                                                                              Keeps [b] w1 w1_4 ∧
                                                                                Br (!b_7) (R (SV.int IntKind.i64 68) w1_4)
                                                                                  (some
                                                                                        (SV.box b 28
                                                                                          (SV.struct
                                                                                            [SV.int IntKind.i64 h_0, SV.int IntKind.i64 h_1, SV.bool h_2, SV.bool h_3,
                                                                                              SV.int IntKind.i64 h_4, SV.int IntKind.i64 h_5, SV.int IntKind.i64 h_6,
                                                                                              SV.struct [SV.int IntKind.i64 h_7_0, SV.arr IntKind.u8 16 h_7_1],
                                                                                              SV.struct [SV.int IntKind.i64 h_8_0, SV.arr IntKind.u8 16 h_8_1], SV.slice h_9,
                                                                                              SV.slice h_10])) =
                                                                                      some
                                                                                        (SV.box b 28
                                                                                          (SV.struct
                                                                                            [SV.int IntKind.i64 h_0, SV.int IntKind.i64 h_1, SV.bool h_2, SV.bool h_3,
                                                                                              SV.int IntKind.i64 h_4, SV.int IntKind.i64 h_5, SV.int IntKind.i64 h_6,
                                                                                              SV.struct [SV.int IntKind.i64 h_7_0, SV.arr IntKind.u8 16 h_7_1],
                                                                                              SV.struct [SV.int IntKind.i64 h_8_0, SV.arr IntKind.u8 16 h_8_1], SV.slice h_9,
                                                                                              SV.slice h_10])) ∧
                                                                                    J w1_4))))))))
theorem f23_of (h_0 : Int) (h_1 : Int) (h_2 : Bool) (h_3 : Bool) (h_4 : Int) (h_5 : Int) (h_6 : Int) (h_7_0 : Int) (h_7_1 : Nat → Int) (h_8_0 : Int) (h_8_1 : Nat → Int) (h_9 : Sl) (h_10 : Sl) (w : World) (R : SV → World → Prop) (hV : vc23 h_0 h_1 h_2 h_3 h_4 h_5 h_6 h_7_0 h_7_1 h_8_0 h_8_1 h_9 h_10 w R) : Ret Try.prog 23 [.struct [.int .i64 h_0, .int .i64 h_1, .bool h_2, .bool h_3, .int .i64 h_4, .int .i64 h_5, .int .i64 h_6, .struct [.int .i64 h_7_0, .arr .u8 16 h_7_1], .struct [.int .i64 h_8_0, .arr .u8 16 h_8_1], .slice h_9, .slice h_10]] w R :=
  have e : vc23 h_0 h_1 h_2 h_3 h_4 h_5 h_6 h_7_0 h_7_1 h_8_0 h_8_1 h_9 h_10 w R = fnVC X Try.f23 a23 [.struct [.int .i64 h_0, .int .i64 h_1, .bool h_2, .bool h_3, .int .i64 h_4, .int .i64 h_5, .int .i64 h_6, .struct [.int .i64 h_7_0, .arr .u8 16 h_7_1], .struct [.int .i64 h_8_0, .arr .u8 16 h_8_1], .slice h_9, .slice h_10]] w R := by kernel_rfl
  fnVC_sound X_ok (n := a23) (e ▸ hV) (by kernel_rfl) (by kernel_rfl) rfl rfl

def vc43 (n : Int) (hi : Int) (w : World) (R : SV → World → Prop) : Prop :=
  Br (decide (n < 0)) (R (SV.bool true) w) (R (SV.bool (decide (n > hi))) w)
theorem f43_of (n : Int) (hi : Int) (w : World) (R : SV → World → Prop) (hV : vc43 n hi w R) : Ret Try.prog 43 [.int .i64 n, .int .i64 hi] w R :=
  have e : vc43 n hi w R = fnVC X Try.f43 a43 [.int .i64 n, .int .i64 hi] w R := by kernel_rfl
  fnVC_sound X_ok (n := a43) (e ▸ hV) (by kernel_rfl) (by kernel_rfl) rfl rfl

def vc44 (ip_0 : Int) (ip_1 : Nat → Int) (w : World) (R : SV → World → Prop) : Prop :=
  ∀ (b b_1 : Nat) (w1 : World),
    Upd [] [b_1, b] w w1 →
      (World.heap w1)[b_1]? = some (Obj.cells { toList := SV.cells (SV.arr IntKind.u8 16 fun (x : Nat) => 0) } 22) →
        Off b_1 [b] →
          (World.heap w1)[b]? = some (Obj.cells { toList := SV.cells (SV.struct [SV.int IntKind.i64 ip_0, SV.arr IntKind.u8 16 ip_1]) } 24) →
            (∀ (w1_1 : World),
                Upd [] [] w1 w1_1 →
                  Copy 1 (Sl.sub { ptr := some { block := b_1, off := 0 }, len := 16, cap := 16 } 1 0 4 16)
                    (Sl.sub { ptr := some (Addr.add { block := b, off := 0 } 1), len := 16, cap := 16 } 1 0 4 16) [] w1_1 fun (w : World) =>
                    ∃ (n : Int),
                      World.cell? w { block := b, off := 0 } = some (Value.int IntKind.i64 n) ∧
                        Br (n == 4)
                          (∃ (f : Nat → Int),
                            (∀ (i : Nat), i < 16 → World.cell? w (Addr.add (Addr.add { block := b, off := 0 } 1) (0 + i)) = some (Value.int IntKind.u8 (f i))) ∧
                              ∃ (f_1 : Nat → Int),
                                (∀ (i : Nat), i < 16 → World.cell? w (Addr.add { block := b_1, off := 0 } (0 + i)) = some (Value.int IntKind.u8 (f_1 i))) ∧
                                  R (SV.bool (eqArr 16 f f_1)) w)
                          (R (SV.bool false) w)) ∧
              ∀ (w1_1 : World),
                Upd [] [] w1 w1_1 →
                  Copy 1 (Sl.sub { ptr := some { block := b_1, off := 0 }, len := 16, cap := 16 } 1 0 4 16)
                    (Sl.sub { ptr := some (Addr.add { block := b, off := 0 } 1), len := 16, cap := 16 } 1 0 4 16) [] w1_1 fun (w : World) =>
                    ∃ (n : Int),
                      World.cell? w { block := b, off := 0 } = some (Value.int IntKind.i64 n) ∧
                        Br (n == 4)
                          (∃ (f : Nat → Int),
                            (∀ (i : Nat), i < 16 → World.cell? w (Addr.add (Addr.add { block := b, off := 0 } 1) (0 + i)) = some (Value.int IntKind.u8 (f i))) ∧
                              ∃ (f_1 : Nat → Int),
                                (∀ (i : Nat), i < 16 → World.cell? w (Addr.add { block := b_1, off := 0 } (0 + i)) = some (Value.int IntKind.u8 (f_1 i))) ∧
                                  R (SV.bool (eqArr 16 f f_1)) w)
                          (R (SV.bool false) w)
theorem f44_of (ip_0 : Int) (ip_1 : Nat → Int) (w : World) (R : SV → World → Prop) (hV : vc44 ip_0 ip_1 w R) : Ret Try.prog 44 [.struct [.int .i64 ip_0, .arr .u8 16 ip_1]] w R :=
  have e : vc44 ip_0 ip_1 w R = fnVC X Try.f44 a44 [.struct [.int .i64 ip_0, .arr .u8 16 ip_1]] w R := by kernel_rfl
  fnVC_sound X_ok (n := a44) (e ▸ hV) (by kernel_rfl) (by kernel_rfl) rfl rfl

def vc45 (l : Sl) (w : World) (R : SV → World → Prop) : Prop :=
  ∃ (I : Sl → Int → World → Prop),
    ∃ (M : Sl → Int → World → Nat),
      I { ptr := none, len := 0, cap := 0 } 0 w ∧
        ∀ (s : Sl) (n : Int) (w1 : World),
          I s n w1 →
            Br (decide (n < (↑l.2 : Int)))
              (Need (decide (0 ≤ n) && decide (n < (↑l.2 : Int)) && Option.isSome l.1)
                (∃ (n_1 : Int),
                  World.cell? w1 (Sl.at l 2 (Int.toNat n)) = some (Value.int IntKind.i64 n_1) ∧
                    ∃ (s_1 : Sl),
                      World.cell? w1 (Addr.add (Sl.at l 2 (Int.toNat n)) 1) = some (Sl.val s_1) ∧
                        ∀ (b : Nat) (J : World → Prop),
                          (∀ (w1_1 : World),
                              (∀ (b_1 : Nat) (w1_2 : World),
                                  Upd [] [b_1] w1_1 w1_2 →
                                    (World.heap w1_2)[b_1]? =
                                        some
                                          (Obj.cells
                                            {
                                              toList :=
                                                SV.cells
                                                  (SV.struct [SV.int IntKind.u8 (wr IntKind.u8 n_1), SV.int IntKind.u8 (wr IntKind.u8 (wr IntKind.i64 (2 + (↑s_1.2 : Int))))]) }
                                            5) →
                                      Vc.Append 5 1 1 s { ptr := some { block := b_1, off := 0 }, len := 2, cap := 2 } [b] w1_2 fun (r : Sl) (w : World) =>
                                        Vc.Append 5 1 1 r s_1 [b] w fun (r : Sl) (w : World) => I r (wr IntKind.i64 (n + 1)) w ∧ M r (wr IntKind.i64 (n + 1)) w < M s n w1) →
                                J w1_1) →
                            Br (decide (n_1 < 2)) (∀ (w1_1 : World), Upd [] [b] w1 w1_1 → R (SV.tuple [SV.slice { ptr := none, len := 0, cap := 0 }, SV.int IntKind.i64 65]) w1_1)
                              (Br (decide (n_1 > 255))
                                (∀ (w1_1 : World), Upd [] [b] w1 w1_1 → R (SV.tuple [SV.slice { ptr := none, len := 0, cap := 0 }, SV.int IntKind.i64 65]) w1_1)
                                (Br (decide ((↑s_1.2 : Int) > 38))
                                  (∀ (w1_1 : World), Upd [] [b] w1 w1_1 → R (SV.tuple [SV.slice { ptr := none, len := 0, cap := 0 }, SV.int IntKind.i64 65]) w1_1)
                                  (Br (decide (wr IntKind.i64 (wr IntKind.i64 ((↑s.2 : Int) + 2) + (↑s_1.2 : Int)) > 40))
                                    (∀ (w1_1 : World), Upd [] [b] w1 w1_1 → R (SV.tuple [SV.slice { ptr := none, len := 0, cap := 0 }, SV.int IntKind.i64 65]) w1_1)
                                    (∀ (w1_1 : World),
                                      Upd [] [b] w1 w1_1 →
                                        some (SV.box b 104 (SV.struct [SV.int IntKind.i64 n_1, SV.slice s_1])) =
                                            some (SV.box b 104 (SV.struct [SV.int IntKind.i64 n_1, SV.slice s_1])) ∧
                                          J w1_1))))))
              (∃ (I : Sl → World → Prop),
                ∃ (M : Sl → World → Nat),
                  I s w1 ∧
                    ∀ (s : Sl) (w1 : World),
                      I s w1 →
                        Br (decide (Int.tmod (↑s.2 : Int) 4 > 0))
                          (∀ (b : Nat) (w1_1 : World),
                            Upd [] [b] w1 w1_1 →
                              (World.heap w1_1)[b]? = some (Obj.cells { toList := SV.cells (SV.struct [SV.int IntKind.u8 0]) } 5) →
                                Vc.Append 5 1 1 s { ptr := some { block := b, off := 0 }, len := 1, cap := 1 } [] w1_1 fun (r : Sl) (w : World) => I r w ∧ M r w < M s w1)
                          (R (SV.tuple [SV.slice s, SV.int IntKind.i64 0]) w1))
theorem f45_of (l : Sl) (w : World) (R : SV → World → Prop) (hV : vc45 l w R) : Ret Try.prog 45 [.slice l] w R :=
  have e : vc45 l w R = fnVC X Try.f45 a45 [.slice l] w R := by kernel_rfl
  fnVC_sound X_ok (n := a45) (e ▸ hV) (by kernel_rfl) (by kernel_rfl) rfl rfl

def vc46 (mf : Bool) (off : Int) (n : Int) (w : World) (R : SV → World → Prop) : Prop :=
  Br mf
    (Br (n == 0) (R (SV.int IntKind.i64 66) w)
      (Br (Int.tmod n 8 != 0) (R (SV.int IntKind.i64 66) w) (Br (decide (wr IntKind.i64 (off + n) > 65515)) (R (SV.int IntKind.i64 66) w) (R (SV.int IntKind.i64 0) w))))
    (Br (decide (wr IntKind.i64 (off + n) > 65515)) (R (SV.int IntKind.i64 66) w) (R (SV.int IntKind.i64 0) w))
theorem f46_of (mf : Bool) (off : Int) (n : Int) (w : World) (R : SV → World → Prop) (hV : vc46 mf off n w R) : Ret Try.prog 46 [.bool mf, .int .i64 off, .int .i64 n] w R :=
  have e : vc46 mf off n w R = fnVC X Try.f46 a46 [.bool mf, .int .i64 off, .int .i64 n] w R := by kernel_rfl
  fnVC_sound X_ok (n := a46) (e ▸ hV) (by kernel_rfl) (by kernel_rfl) rfl rfl

def vc6 (h_0 : Int) (h_1 : Int) (h_2 : Bool) (h_3 : Bool) (h_4 : Int) (h_5 : Int) (h_6 : Int) (h_7_0 : Int) (h_7_1 : Nat → Int) (h_8_0 : Int) (h_8_1 : Nat → Int) (h_9 : Sl) (h_10 : Sl) (w : World) (R : SV → World → Prop) : Prop :=
  ∀ (b : Nat) (J : World → Prop),
    (∀ (w1 : World),
        (Ret Try.prog 21 [SV.slice h_9] w1 fun (r : SV) (w1_1 : World) =>
            ∃ (s : Sl),
              ∃ (n : Int),
                r = SV.tuple [SV.slice s, SV.int IntKind.i64 n] ∧
                  Keeps [b] w1 w1_1 ∧
                    Br (n != 0) (R (SV.int IntKind.i64 n) w1_1)
                      (Br (decide (wr IntKind.i64 (wr IntKind.i64 (20 + (↑s.2 : Int)) + (↑h_10.2 : Int)) > 65535)) (R (SV.int IntKind.i64 63) w1_1)
                        (Ret Try.prog 22 [SV.bool h_3, SV.int IntKind.i64 h_4, SV.int IntKind.i64 (↑h_10.2 : Int)] w1_1 fun (r : SV) (w1 : World) =>
                          ∃ (b_1 : Bool), r = SV.bool b_1 ∧ Keeps [b] w1_1 w1 ∧ Br b_1 (R (SV.int IntKind.i64 66) w1) (R (SV.int IntKind.i64 0) w1)))) →
          J w1) →
      ∀ (w1 : World),
        Upd [] [b] w w1 →
          Ret Try.prog 19 [SV.int IntKind.i64 h_0, SV.int IntKind.i64 255] w1 fun (r : SV) (w1_1 : World) =>
            ∃ (b_1 : Bool),
              r = SV.bool b_1 ∧
                Keeps [b] w1 w1_1 ∧
                  Br b_1 (R (SV.int IntKind.i64 68) w1_1)
                    (Ret Try.prog 19 [SV.int IntKind.i64 h_1, SV.int IntKind.i64 65535] w1_1 fun (r : SV) (w1 : World) =>
                      ∃ (b_2 : Bool),
                        r = SV.bool b_2 ∧
                          Keeps [b] w1_1 w1 ∧
                            Br b_2 (R (SV.int IntKind.i64 68) w1)
                              (Ret Try.prog 19 [SV.int IntKind.i64 h_4, SV.int IntKind.i64 65528] w1 fun (r : SV) (w1_2 : World) =>
                                ∃ (b_3 : Bool),
                                  r = SV.bool b_3 ∧
                                    Keeps [b] w1 w1_2 ∧
                                      Br b_3 (R (SV.int IntKind.i64 68) w1_2)
                                        (Br (Int.tmod h_4 8 != 0) (R (SV.int IntKind.i64 68) w1_2)
                                          (Ret Try.prog 19 [SV.int IntKind.i64 h_5, SV.int IntKind.i64 255] w1_2 fun (r : SV) (w1 : World) =>
                                            ∃ (b_4 : Bool),
                                              r = SV.bool b_4 ∧
                                                Keeps [b] w1_2 w1 ∧
                                                  Br b_4 (R (SV.int IntKind.i64 68) w1)
                                                    (Ret Try.prog 19 [SV.int IntKind.i64 h_6, SV.int IntKind.i64 255] w1 fun (r : SV) (w1_3 : World) =>
                                                      ∃ (b_5 : Bool),
                                                        r = SV.bool b_5 ∧
                                                          Keeps [b] w1 w1_3 ∧
                                                            Br b_5 (R (SV.int IntKind.i64 68) w1_3)
                                                              (Ret Try.prog 20 [SV.struct [SV.int IntKind.i64 h_7_0, SV.arr IntKind.u8 16 h_7_1]] w1_3 fun (r : SV) (w1 : World) =>
                                                                ∃ (b_6 : Bool),
                                                                  r = SV.bool b_6 ∧
                                                                    Keeps [b] w1_3 w1 ∧
                                                                      Br (!b_6) (R (SV.int IntKind.i64 68) w1)
                                                                        (Ret Try.prog 20 [SV.struct [SV.int IntKind.i64 h_8_0, SV.arr IntKind.u8 16 h_8_1]] w1
                                                                          fun (r : SV) (w1_4 : World) =>
                                                                          ∃ (b_7 : Bool),
                                                                            r = SV.bool b_7 ∧
                                                                              Keeps [b] w1 w1_4 ∧
                                                                                Br (!b_7) (R (SV.int IntKind.i64 68) w1_4)
                                                                                  (some
                                                                                        (SV.box b 28
                                                                                          (SV.struct
                                                                                            [SV.int IntKind.i64 h_0, SV.int IntKind.i64 h_1, SV.bool h_2, SV.bool h_3,
                                                                                              SV.int IntKind.i64 h_4, SV.int IntKind.i64 h_5, SV.int IntKind.i64 h_6,
                                                                                              SV.struct [SV.int IntKind.i64 h_7_0, SV.arr IntKind.u8 16 h_7_1],
                                                                                              SV.struct [SV.int IntKind.i64 h_8_0, SV.arr IntKind.u8 16 h_8_1], SV.slice h_9,
                                                                                              SV.slice h_10])) =
                                                                                      some
                                                                                        (SV.box b 28
                                                                                          (SV.struct
                                                                                            [SV.int IntKind.i64 h_0, SV.int IntKind.i64 h_1, SV.bool h_2, SV.bool h_3,
                                                                                              SV.int IntKind.i64 h_4, SV.int IntKind.i64 h_5, SV.int IntKind.i64 h_6,
                                                                                              SV.struct [SV.int IntKind.i64 h_7_0, SV.arr IntKind.u8 16 h_7_1],
                                                                                              SV.struct [SV.int IntKind.i64 h_8_0, SV.arr IntKind.u8 16 h_8_1], SV.slice h_9,
                                                                                              SV.slice h_10])) ∧
                                                                                    J w1_4))))))))
theorem f6_of (h_0 : Int) (h_1 : Int) (h_2 : Bool) (h_3 : Bool) (h_4 : Int) (h_5 : Int) (h_6 : Int) (h_7_0 : Int) (h_7_1 : Nat → Int) (h_8_0 : Int) (h_8_1 : Nat → Int) (h_9 : Sl) (h_10 : Sl) (w : World) (R : SV → World → Prop) (hV : vc6 h_0 h_1 h_2 h_3 h_4 h_5 h_6 h_7_0 h_7_1 h_8_0 h_8_1 h_9 h_10 w R) : Ret Try.prog 6 [.struct [.int .i64 h_0, .int .i64 h_1, .bool h_2, .bool h_3, .int .i64 h_4, .int .i64 h_5, .int .i64 h_6, .struct [.int .i64 h_7_0, .arr .u8 16 h_7_1], .struct [.int .i64 h_8_0, .arr .u8 16 h_8_1], .slice h_9, .slice h_10]] w R :=
  have e : vc6 h_0 h_1 h_2 h_3 h_4 h_5 h_6 h_7_0 h_7_1 h_8_0 h_8_1 h_9 h_10 w R = fnVC X Try.f6 a6 [.struct [.int .i64 h_0, .int .i64 h_1, .bool h_2, .bool h_3, .int .i64 h_4, .int .i64 h_5, .int .i64 h_6, .struct [.int .i64 h_7_0, .arr .u8 16 h_7_1], .struct [.int .i64 h_8_0, .arr .u8 16 h_8_1], .slice h_9, .slice h_10]] w R := by kernel_rfl
  fnVC_sound X_ok (n := a6) (e ▸ hV) (by kernel_rfl) (by kernel_rfl) rfl rfl

end Go.Vc.Stop
end

section
namespace Go.Vc
set_option linter.unusedVariables false
set_option linter.unusedSimpArgs false
set_option autoImplicit false

/-! ### IPv4 datagrams, in plain lists -/
structure IpV where
  tos : Int
  id : Int
  df : Bool
  mf : Bool
  off : Int
  ttl : Int
  proto : Int
  sv : Int
  sa : Nat → Int
  dv : Int
  da : Nat → Int
  opts : List Opt
  data : List Int
def ipZ : IpV := ⟨0, 0, false, false, 0, 0, 0, 0, fun _ => 0, 0, fun _ => 0, [], []⟩
def frag (mf : Bool) (off n : Int) : Prop := (mf = true ∧ (n = 0 ∨ n % 8 ≠ 0)) ∨ 65515 < off + n
instance (mf : Bool) (off n : Int) : Decidable (frag mf off n) := by unfold frag; infer_instance
/-! ### written -/
def four (v : Int) (a : Nat → Int) : Prop := v = 4 ∧ ∀ i, 4 ≤ i → i < 16 → a i = 0
def outN (n hi : Int) : Prop := n < 0 ∨ hi < n
instance (n hi : Int) : Decidable (outN n hi) := by unfold outN; infer_instance
def badF (v : IpV) : Prop := outN v.tos 255 ∨ outN v.id 65535 ∨ outN v.off 65528 ∨ v.off % 8 ≠ 0 ∨ outN v.ttl 255 ∨ outN v.proto 255 ∨ ¬ four v.sv v.sa ∨ ¬ four v.dv v.da
open Classical in
/-- may these values be a datagram? -/
noncomputable def ipChk (v : IpV) : Int :=
  if badF v then 68 else if ¬ putOk v.opts then 65 else if 65535 < 20 + (putO v.opts).length + v.data.length then 63
  else if frag v.mf v.off v.data.length then 66 else 0
def hdL (v : IpV) : Nat := 20 + (putO v.opts).length
section
variable {v : IpV}
theorem ipChk_ok (h : ipChk v = 0) : (0 ≤ v.tos ∧ v.tos ≤ 255) ∧ (0 ≤ v.id ∧ v.id ≤ 65535) ∧ (0 ≤ v.off ∧ v.off ≤ 65528 ∧ v.off % 8 = 0) ∧ (0 ≤ v.ttl ∧ v.ttl ≤ 255) ∧ (0 ≤ v.proto ∧ v.proto ≤ 255) ∧ four v.sv v.sa ∧ four v.dv v.da ∧
    putOk v.opts ∧ hdL v + v.data.length ≤ 65535 ∧ ¬ frag v.mf v.off v.data.length := by
  unfold ipChk at h
  split at h; · cases h
  split at h; · cases h
  split at h; · cases h
  split at h; · cases h
  rename_i h1 h2 h3 h4
  unfold badF outN at h1
  have f1 : four v.sv v.sa := Classical.byContradiction fun h => h1 (by simp [h])
  have f2 : four v.dv v.da := Classical.byContradiction fun h => h1 (by simp [h])
  refine ⟨by omega, by omega, by omega, by omega, by omega, f1, f2, Classical.not_not.1 h2, by unfold hdL; omega, h4⟩
end

end Go.Vc
end

section
namespace Go.Vc
set_option linter.unusedVariables false
set_option linter.unusedSimpArgs false
set_option autoImplicit false

section
variable {v : IpV}
end

section
variable {l : List Int}
/-! ### one hop -/
end
end Go.Vc
end

section
namespace Go.Vc
set_option linter.unusedVariables false
set_option linter.unusedSimpArgs false
set_option autoImplicit false
/-- what an append takes beyond what it needs -/
theorem growBy_le (n : Nat) : ∀ (r c : Nat), c ≤ n + n / 4 + 512 → Builtin.growBy n r c ≤ n + n / 4 + 512
  | 0, c, h => h
  | r + 1, c, h => by
    unfold Builtin.growBy
    split
    · exact h
    · exact growBy_le n r _ (by omega)
theorem nsc_le {need cap : Nat} (h : cap < need) : Builtin.nextslicecap need cap ≤ need + need / 4 + 512 := by
  unfold Builtin.nextslicecap
  split
  · omega
  · split
    · omega
    · exact growBy_le need 4 cap (by omega)
theorem nsc_fits {need cap by_ : Nat} (h : cap < need) (hby : by_ ≤ 1024) (hb : need * by_ ≤ 224000000000000) : Builtin.nextslicecap need cap * by_ ≤ 281474976710656 := by
  have h1 : Builtin.nextslicecap need cap * by_ ≤ (need + need / 4 + 512) * by_ := Nat.mul_le_mul_right _ (nsc_le h)
  have h2 : need / 4 * by_ ≤ need * by_ / 4 := by
    rw [Nat.le_div_iff_mul_le (by decide), Nat.mul_right_comm]
    exact Nat.mul_le_mul_right _ (Nat.div_mul_le_self need 4)
  have h3 : 512 * by_ ≤ 512 * 1024 := Nat.mul_le_mul_left _ hby
  rw [Nat.add_mul, Nat.add_mul] at h1
  omega
section
variable {α : Type} {c : Cod α} {w w1 : World} {s : Sl} {l : List α}
theorem appendN_big {N e by_ n : Nat} {new : List α} {bs : List Nat} {F : Sl → World → Prop} (h : Sees c w s l) (o : Own N c.sz w s) (hN : N ≤ w.heap.size) (hn : n = new.length)
    (hbs : ∀ b ∈ s.blk, b ∉ bs) (hpos : 0 < by_) (hby : by_ ≤ 1024) (hb : (l.length + new.length) * by_ ≤ 224000000000000)
    (k : ∀ r w1, Sees c w1 r (l ++ new) → Own N c.sz w1 r → Upd s.blk [] w w1 → (∀ b ∈ r.blk, b ∈ s.blk ∨ w.heap.size ≤ b) → F r w1) : AppendN e c.sz by_ s n (c.cells new) bs w F := by
  subst hn
  have hlen := h.len
  refine ⟨fun hfit => ?_, fun hgrow => ⟨?_, ?_, c.cells l, h.rowAt, fun cap b cs w1 hcap u hb1 htake hsize => ?_⟩⟩
  · cases hp : s.ptr with
    | none =>
      have h0 := o.nil hp
      have e1 : new = [] := by cases new with | nil => rfl | cons => simp at hfit; omega
      subst e1
      have el : (⟨none, s.len + ([] : List α).length, s.cap⟩ : Sl) = s := by cases s; simp at hp; subst hp; rfl
      show F ⟨none, s.len + ([] : List α).length, s.cap⟩ w
      rw [el]
      exact k s w (by simpa using h) o ((Upd.refl w).wide (by simp)) (fun b hb => .inl hb)
    | some a =>
      obtain ⟨hs, hc⟩ := o.cell a hp
      have hmul : (s.len + new.length) * c.sz ≤ s.cap * c.sz := Nat.mul_le_mul_right _ hfit
      rw [Nat.add_mul] at hmul
      have hlc := c.cells_length new
      have hll := c.cells_length l
      have hrow := h.row
      rw [hp] at hrow
      refine ⟨fun i hi => ?_, ?_, ?_⟩
      · rw [add_add]
        exact hc _ (by omega)
      · simp only [add_block]
        exact hbs _ (by simp [blk_some hp])
      · show F _ (w.setCells (a.add (s.len * c.sz)).block (a.add (s.len * c.sz)).off (c.cells new))
        rw [off_add hs, add_block]
        refine k _ _ ⟨by simp [hlen], ?_⟩ ?_ ((Upd.setCells w a.block _ _).wide (by simp [blk_some hp])) (fun b hb => .inl (by simp [blk_some hp]; simpa [Sl.blk] using hb))
        · rw [c.cells_append]
          refine Cells.mk ?_ ?_
          · have := cells_apart (vs := c.cells new) hs (s.len * c.sz) 0 (by simpa using hrow) (.inl (by rw [hll, hlen]; omega))
            simpa using this
          · rw [hll, ← hlen]
            exact cells_write hs _ (fun i hi => (hc _ (by omega)).1)
        · have := (o.setCells a.block (a.off + s.len * c.sz) (c.cells new))
          exact ⟨by simp; omega, by simp, by simpa [Sl.blk, hp] using this.blk, fun a' ha' => by simp at ha'; subst ha'; exact this.cell a hp⟩
  · have : l.length + new.length ≤ (l.length + new.length) * by_ := Nat.le_mul_of_pos_right _ hpos
    omega
  · rw [hlen]
    rw [hlen] at hgrow
    exact nsc_fits hgrow hby hb
  · have hll := c.cells_length l
    have hln := c.cells_length new
    have hmul : (s.len + new.length) * c.sz + (cap - (s.len + new.length)) * c.sz = cap * c.sz := by rw [← Nat.add_mul]; congr 1; omega
    rw [Nat.add_mul] at hmul
    have hsz : cs.size = cap * c.sz := by rw [hsize, hll, hln, hlen] at *; omega
    have hget : ∀ i (hi : i < (c.cells l ++ c.cells new).length), cs[i]? = some (c.cells l ++ c.cells new)[i] := by
      intro i hi
      have e1 : (cs.toList.take ((c.cells l).length + (c.cells new).length))[i]? = some (c.cells l ++ c.cells new)[i] := by rw [htake]; exact List.getElem?_eq_getElem hi
      rw [List.getElem?_take, if_pos (by simpa using hi)] at e1
      simpa using e1
    have hbn := u.new (b := b) (by simp)
    refine k _ _ ⟨by simp [hlen], ?_⟩ ?_ ((u.mono (m' := s.blk) (n' := []) (by simp) (by simp))) (fun b' hb' => by simp [Sl.blk] at hb'; subst hb'; exact .inr hbn.1)
    · rw [c.cells_append]
      intro i hi
      rw [add_none, Nat.zero_add, cell_of_block hb1]
      exact hget i hi
    · refine ⟨by simpa using hcap, by simp, fun b' hb' => ?_, fun a ha => ?_⟩
      · simp [Sl.blk] at hb'
        subst hb'
        exact ⟨Nat.le_trans hN hbn.1, hbn.2⟩
      · simp at ha
        subst ha
        refine ⟨rfl, fun i hi => ?_⟩
        rw [add_none, cell_of_block hb1, frozen_of_block hb1]
        simp at hi
        simp [hsz, hi]
theorem append_big {N e by_ : Nat} {x : Sl} {new : List α} {bs : List Nat} {F : Sl → World → Prop} (h : Sees c w s l) (o : Own N c.sz w s) (hx : Sees c w x new) (hN : N ≤ w.heap.size)
    (hbs : ∀ b ∈ s.blk, b ∉ bs) (hpos : 0 < by_) (hby : by_ ≤ 1024) (hb : (l.length + new.length) * by_ ≤ 224000000000000)
    (k : ∀ r w1, Sees c w1 r (l ++ new) → Own N c.sz w1 r → Upd s.blk [] w w1 → (∀ b ∈ r.blk, b ∈ s.blk ∨ w.heap.size ≤ b) → F r w1) : Append e c.sz by_ s x bs w F :=
  ⟨c.cells new, hx.rowAt, appendN_big h o hN hx.len hbs hpos hby hb k⟩end
end Go.Vc
end

section
open Go Go.Vc Go.Proofs
set_option linter.unusedVariables false
set_option linter.unusedSimpArgs false
set_option autoImplicit false
namespace Go.Vc.Stop

/-- what PutOptions answers -/
def putL (l : List Opt) : List Int := if putOk l then putO l else []
def putE (l : List Opt) : Int := if putOk l then 0 else 65
theorem flatMap_snoc {l : List Opt} {q : Nat} (h : q < l.length) : (l.take (q + 1)).flatMap optB = (l.take q).flatMap optB ++ optB l[q] := by rw [take_snoc h, List.flatMap_append]; simp [List.flatMap_cons]
theorem flatMap_le (l : List Opt) (q : Nat) : ((l.take q).flatMap optB).length ≤ (l.flatMap optB).length := by
  have := congrArg List.length (congrArg (fun x => x.flatMap optB) (List.take_append_drop q l))
  simp only [List.flatMap_append, List.length_append] at this
  omega

/-- the zeros behind -/
theorem pad_loop {w w0 : World} {s : Sl} {l : List Int} {e e' : Nat} {K : Sl → World → Prop} {D : Sl → Bool} {C : (Sl → World → Prop) → (Sl → World → Nat) → Sl → World → Sl → World → Prop}
    (u : Upd [] [] w0 w) (h : SeesB w s l) (o : Own w0.heap.size 1 w s) (hl : l.length ≤ 200000000000000)
    (hD : ∀ s, D s = decide (s.len % 4 ≠ 0))
    (hC : ∀ (I : Sl → World → Prop) (M : Sl → World → Nat) s w r w', I r w' → M r w' < M s w → C I M s w r w')
    (k : ∀ s w1, Upd [] [] w0 w1 → SeesB w1 s (pad4 l) → Own w0.heap.size 1 w1 s → K s w1) :
    ∃ (I : Sl → World → Prop), ∃ (M : Sl → World → Nat), I s w ∧ ∀ (s : Sl) (w1 : World), I s w1 →
      Br (D s) (∀ (b : Nat) (w2 : World), Upd [] [b] w1 w2 → w2.heap[b]? = some (.cells (SV.struct [.int .u8 0]).cells.toArray e (0, 0)) → Append e' 1 1 s ⟨some ⟨b, 0, none⟩, 1, 1⟩ [] w2 fun r w3 => C I M s w1 r w3) (K s w1) := by
  refine ⟨fun s w1 => Upd [] [] w0 w1 ∧ Own w0.heap.size 1 w1 s ∧ ∃ n : Nat, n ≤ (4 - l.length % 4) % 4 ∧ SeesB w1 s (l ++ List.replicate n 0), fun s _ => (4 - s.len % 4) % 4, ⟨u, o, 0, by omega, by simpa using h⟩, ?_⟩
  rintro s w1 ⟨u, o, n, hn, hs⟩
  have hlen := hs.len
  rw [List.length_append, List.length_replicate] at hlen
  rw [hD]
  refine brd (fun hne => ?_) (fun he => ?_)
  · intro b w2 u2 hr2
    have o2 := o.old u2
    have v2 := u.then u2
    refine append_big (c := cU8) (new := [0]) (hs.old u2) o2 (rowB hr2 _ rfl rfl) v2.size (by simp) (by decide) (by decide) (by simp; omega) fun r w3 hr3 ho3 u3 _ => ?_
    have hrl := hr3.len
    simp at hrl
    refine hC _ _ _ _ _ _ ⟨v2.step0 u3 (fun x hx => (o2.blk x hx).1), ho3, n + 1, by omega, ?_⟩ (by (try dsimp only); omega)
    rw [List.replicate_succ', ← List.append_assoc]
    exact hr3
  · have : n = (4 - l.length % 4) % 4 := by
      have : s.len % 4 = 0 := by omega
      omega
    subst this
    exact k s w1 u hs o

/-- options written -/
theorem c45 {a : Sl} {l : List Opt} {os : List (Int × Sl)} {w : World} {R : SV → World → Prop} (h : Opts w a l os) (hl : l.length < 9223372036854775807) (hd : ∀ o ∈ l, o.data.length ≤ 140737488355328)
    (k : ∀ s w1, Upd [] [] w w1 → SeesB w1 s (putL l) → Own w.heap.size 1 w1 s → R (.tuple [.slice s, .int .i64 (putE l)]) w1) : Ret Try.prog 45 [.slice a] w R := by
  refine f45_of _ _ _ ?_
  unfold vc45
  have hal := h.slen
  have bad : ¬ putOk l → ∀ w1, Upd [] [] w w1 → R (.tuple [.slice ⟨none, 0, 0⟩, .int .i64 65]) w1 := fun hn w1 u => by
    have := k ⟨none, 0, 0⟩ w1 u (by unfold putL; rw [if_neg hn]; exact Sees.nil _ _ _ _) (Own.none _ _ _)
    unfold putE at this
    rwa [if_neg hn] at this
  refine ⟨fun s i w1 => Upd [] [] w w1 ∧ Own w.heap.size 1 w1 s ∧ ∃ q : Nat, i = q ∧ q ≤ l.length ∧ SeesB w1 s ((l.take q).flatMap optB) ∧ ((l.take q).flatMap optB).length ≤ 40 ∧ ∀ j (h : j < l.length), j < q → okO l[j], fun _ i _ => (l.length - i).toNat,
    ⟨Upd.refl w, Own.none _ _ _, 0, rfl, by omega, Sees.nil _ _ _ _, by simp, fun j _ h => by omega⟩, ?_⟩
  rintro s i w1 ⟨u, o, q, rfl, hq, hs, h40, hj⟩
  have h1 := h.old u
  have hsl := hs.len
  refine brd (fun hlt => ?_) (fun hge => ?_)
  · have hq2 : q < l.length := by omega
    obtain ⟨g1, g2, g3, g4⟩ := h1.get q hq2
    have gl := g3.len
    have gd := hd _ (List.getElem_mem hq2)
    refine needO h1 (by omega) (by omega) ⟨_, (by rw [Int.toNat_natCast]; exact g1), _, (by rw [Int.toNat_natCast]; exact g2), ?_⟩
    intro b J hJ
    have fs := flatMap_snoc hq2
    have fl := flatMap_le l (q + 1)
    rw [fs, List.length_append, optB_len] at fl
    have nk : ¬ okO l[q] → ¬ putOk l := fun hn hp => hn (hp.1 _ (List.getElem_mem hq2))
    refine brd (fun g => fun w2 u2 => bad (nk (by unfold okO; omega)) _ (u.then u2)) (fun n1 => brd (fun g => fun w2 u2 => bad (nk (by unfold okO; omega)) _ (u.then u2)) (fun n2 => brd (fun g => fun w2 u2 => bad (nk (by unfold okO; omega)) _ (u.then u2)) (fun n3 => ?_)))
    rw [wr_i64 (x := (s.len : Int) + 2) (by omega) (by omega), wr_i64 (by omega) (by omega)]
    refine brd (fun g => fun w2 u2 => bad (fun hp => by have := hp.2; omega) _ (u.then u2)) (fun n4 => fun w2 u2 => ⟨rfl, hJ _ ?_⟩)
    clear hJ
    intro b1 w3 u3 hr3
    have hbn := u2.new (b := b) (by simp)
    have o3 := (o.old u2).old u3
    have v3 := (u.then u2).then u3
    have hs3 := (hs.old u2).old u3
    rw [wr_i64 (x := 2 + ((os[q]'(by rw [h.len]; exact hq2)).2.len : Int)) (by omega) (by omega), wr_u8, wr_u8] at hr3
    refine append_own (c := cU8) (new := [l[q].kind % 256, ((2 + l[q].data.length : Nat) : Int) % 256]) hs3 o3 (rowB hr3 _ (by rw [gl]; rfl) rfl) v3.size (fun x hx hm => by have := (o.blk x hx).2; simp at hm; omega) (by decide) (by simp only [List.length_cons, List.length_nil]; omega) fun r w4 hr ho4 u4 hn4 => ?_
    have hw0 : ∀ x ∈ s.blk, w.heap.size ≤ x := fun x hx => (o.blk x hx).1
    have v4 := v3.step0 u4 hw0
    refine append_own (c := cU8) hr ho4 (h.each q hq2 |>.old v4) v4.size (fun x hx hm => by
      rcases hn4 x hx with h' | h'
      · have := (o.blk x h').2; simp at hm; omega
      · have := u3.size; simp at hm; omega) (by decide) (by simp only [List.length_append, List.length_cons, List.length_nil]; omega) fun r5 w5 hr5 ho5 u5 _ => ?_
    refine ⟨⟨v4.step0 u5 (fun x hx => (ho4.blk x hx).1), ho5, q + 1, wr_succ (by omega), by omega, ?_, ?_, fun j hj1 hj2 => ?_⟩, by rw [wr_succ (q := q) (by omega)]; (try dsimp only); omega⟩
    · rw [fs]
      unfold optB
      rw [← List.append_assoc]
      exact hr5
    · rw [fs, List.length_append, optB_len]; omega
    · by_cases e : j = q
      · subst e; unfold okO; omega
      · exact hj j hj1 (by omega)
  · have hqe : q = l.length := by omega
    subst hqe
    rw [List.take_length] at hs h40
    have hok : putOk l := ⟨fun x hx => by
      obtain ⟨j, hj1, rfl⟩ := List.getElem_of_mem hx
      exact hj j hj1 (by omega), h40⟩
    refine pad_loop u hs o (by omega) (fun s => ?_) (fun I M s w r w' h1 h2 => ⟨h1, h2⟩) (fun s w2 u2 hs2 ho2 => ?_)
    · rw [tmod_pos (by omega)]
      rw [decide_eq_decide]
      omega
    · have := k s w2 u2 (by unfold putL; rw [if_pos hok]; exact hs2) ho2
      unfold putE at this
      rwa [if_pos hok] at this

theorem c21 {a : Sl} {l : List Opt} {os : List (Int × Sl)} {w : World} {R : SV → World → Prop} (h : Opts w a l os) (hl : l.length ≤ 4398046511104) (hd : ∀ o ∈ l, o.data.length ≤ 140737488355328)
    (k : ∀ s w1, Upd [] [] w w1 → SeesB w1 s (putL l) → Own w.heap.size 1 w1 s → R (.tuple [.slice s, .int .i64 (putE l)]) w1) : Ret Try.prog 21 [.slice a] w R := by
  refine f21_of _ _ _ ?_
  unfold vc21
  have hal := h.slen
  have bad : ¬ putOk l → ∀ w1, Upd [] [] w w1 → R (.tuple [.slice ⟨none, 0, 0⟩, .int .i64 65]) w1 := fun hn w1 u => by
    have := k ⟨none, 0, 0⟩ w1 u (by unfold putL; rw [if_neg hn]; exact Sees.nil _ _ _ _) (Own.none _ _ _)
    unfold putE at this
    rwa [if_neg hn] at this
  refine ⟨fun s i w1 => Upd [] [] w w1 ∧ Own w.heap.size 1 w1 s ∧ ∃ q : Nat, i = q ∧ q ≤ l.length ∧ SeesB w1 s ((l.take q).flatMap optB) ∧ ((l.take q).flatMap optB).length ≤ 40 * q ∧ ∀ j (h : j < l.length), j < q → okO l[j], fun _ i _ => (l.length - i).toNat,
    ⟨Upd.refl w, Own.none _ _ _, 0, rfl, by omega, Sees.nil _ _ _ _, by simp, fun j _ h => by omega⟩, ?_⟩
  rintro s i w1 ⟨u, o, q, rfl, hq, hs, h40, hj⟩
  have h1 := h.old u
  have hsl := hs.len
  refine brd (fun hlt => ?_) (fun hge => ?_)
  · have hq2 : q < l.length := by omega
    obtain ⟨g1, g2, g3, g4⟩ := h1.get q hq2
    have gl := g3.len
    have gd := hd _ (List.getElem_mem hq2)
    intro J hJ
    refine needO h1 (by omega) (by omega) ⟨_, (by rw [Int.toNat_natCast]; exact g2), ?_⟩
    have fs := flatMap_snoc hq2
    have nk : ¬ okO l[q] → ¬ putOk l := fun hn hp => hn (hp.1 _ (List.getElem_mem hq2))
    intro J1 hJ1
    have good : okO l[q] → J1 w1 := fun hk => by
      refine hJ1 _ ?_
      refine needO h1 (by omega) (by omega) ⟨_, (by rw [Int.toNat_natCast]; exact g1), ?_⟩
      intro b1 w3 u3 hr3
      obtain ⟨k1, k2, k3⟩ := hk
      have o3 := o.old u3
      have v3 := u.then u3
      have hs3 := hs.old u3
      rw [wr_i64 (x := ((os[q]'(by rw [h.len]; exact hq2)).2.len : Int) + 2) (by omega) (by omega), wr_u8, wr_u8] at hr3
      refine append_big (c := cU8) (new := [l[q].kind % 256, ((2 + l[q].data.length : Nat) : Int) % 256]) hs3 o3 (rowB hr3 _ (by rw [gl, Nat.add_comm 2]; rfl) rfl) v3.size (by simp) (by decide) (by decide) (by simp only [List.length_cons, List.length_nil]; omega) fun r w4 hr ho4 u4 hn4 => ?_
      have hw0 : ∀ x ∈ s.blk, w.heap.size ≤ x := fun x hx => (o.blk x hx).1
      have v4 := v3.step0 u4 hw0
      obtain ⟨_, g2', g3', _⟩ := (h.old v4).get q hq2
      refine needO (h.old v4) (by omega) (by omega) ⟨_, (by rw [Int.toNat_natCast]; exact g2'), ?_⟩
      refine append_big (c := cU8) hr ho4 g3' v4.size (by simp) (by decide) (by decide) (by simp only [List.length_append, List.length_cons, List.length_nil]; omega) fun r5 w5 hr5 ho5 u5 _ => ?_
      refine hJ _ _ ⟨⟨v4.step0 u5 (fun x hx => (ho4.blk x hx).1), ho5, q + 1, wr_succ (by omega), by omega, ?_, ?_, fun j hj1 hj2 => ?_⟩, by rw [wr_succ (q := q) (by omega)]; (try dsimp only); omega⟩
      · rw [fs]
        unfold optB
        rw [← List.append_assoc]
        exact hr5
      · rw [fs, List.length_append, optB_len]; omega
      · by_cases e : j = q
        · subst e; exact ⟨k1, k2, k3⟩
        · exact hj j hj1 (by omega)
    refine needO h1 (by omega) (by omega) ⟨_, (by rw [Int.toNat_natCast]; exact g1), ?_⟩
    refine brd (fun g => bad (nk (by unfold okO; omega)) _ u) (fun n1 => needO h1 (by omega) (by omega) ⟨_, (by rw [Int.toNat_natCast]; exact g1), brd (fun g => bad (nk (by unfold okO; omega)) _ u) (fun n2 => brd (fun g => bad (nk (by unfold okO; omega)) _ u) (fun n3 => good (by unfold okO; omega)))⟩)
  · have hqe : q = l.length := by omega
    subst hqe
    rw [List.take_length] at hs h40
    have hall : ∀ x ∈ l, okO x := fun x hx => by
      obtain ⟨j, hj1, rfl⟩ := List.getElem_of_mem hx
      exact hj j hj1 (by omega)
    refine pad_loop u hs o (by omega) (fun s => ?_) (fun I M s w r w' h1 h2 => ⟨h1, h2⟩) (fun s w2 u2 hs2 ho2 => ?_)
    · rw [tmod_pos (by omega)]
      rw [Bool.eq_iff_iff, bne_iff_ne, decide_eq_true_iff]
      omega
    · have hpl := pad4_len (l.flatMap optB)
      have hsl2 := hs2.len
      refine brd (fun g => bad (fun hp => ?_) _ u2) (fun g => ?_)
      · have := hp.2; omega
      · have hok : putOk l := ⟨hall, by omega⟩
        have := k s w2 u2 (by unfold putL; rw [if_pos hok]; exact hs2) ho2
        unfold putE at this
        rwa [if_pos hok] at this

end Go.Vc.Stop
end

section
namespace Go.Vc
set_option linter.unusedVariables false
set_option linter.unusedSimpArgs false
set_option autoImplicit false
/-- bytes copied into the middle of a row -/
theorem copy_mid {w : World} {b e n cap o : Nat} {pre mid post cs : List Value} {d x : Sl} {m : List Int} {bs : List Nat} {F : World → Prop} (h : w.heap[b]? = some (.cells cs.toArray e (0, 0))) (hcs : cs = pre ++ mid ++ post) (hx : SeesB w x m)
    (hd : d = ⟨some ⟨b, o, none⟩, n, cap⟩) (ho : o = pre.length) (hn : n ≤ m.length) (hm : mid.length = n) (hbs : b ∉ bs)
    (k : ∀ w1, w1.heap[b]? = some (.cells (pre ++ cU8.cells (m.take n) ++ post).toArray e (0, 0)) → Upd [b] [] w w1 → F w1) : Copy 1 d x bs w F := by
  subst hd hcs ho
  have hxl := hx.len
  have hl : (cU8.cells (m.take n)).length = n := by rw [Cod.cells_length, List.length_take]; simp [cU8]; omega
  refine ⟨cU8.cells (m.take n), ?_, ?_⟩
  · have := (hx.take (n := n) hn 0).rowAt
    rw [show Nat.min x.len n * 1 = n * cU8.sz by rw [show cU8.sz = 1 from rfl, hxl]; simp [Nat.min_def]; omega]
    exact this
  · refine ⟨fun i hi => ?_, hbs, ?_⟩
    · rw [add_none, cell_of_block h, frozen_of_block h]
      refine ⟨?_, rfl⟩
      simp; omega
    · refine k _ ?_ ((Upd.setCells w b _ _).wide (by simp))
      exact setCells_at b e (0, 0) _ pre mid post w h (by omega)
theorem u8cells (l : List Int) : cU8.cells l = l.map fun n => Value.int .u8 n := Cod.cells_map1 (fun _ => rfl) l
/-- a piece of a slice that is all but its own pointer -/
theorem sub_lit {b o n cap h m : Nat} (hm : m ≠ 0) : Sl.sub ⟨some ⟨b, o, none⟩, n, cap⟩ 1 0 h m = ⟨some ⟨b, o, none⟩, h, m⟩ := by
  unfold Sl.sub
  rw [if_neg hm]
  simp
end Go.Vc
end

section
namespace Go.Vc
set_option linter.unusedVariables false
set_option linter.unusedSimpArgs false
set_option autoImplicit false
set_option maxRecDepth 10000
end Go.Vc
end

section
open Go Go.Vc Go.Proofs
set_option linter.unusedVariables false
set_option linter.unusedSimpArgs false
set_option autoImplicit false
namespace Go.Vc.Stop

theorem c43 {n hi : Int} {w : World} {R : SV → World → Prop} (k : R (.bool (decide (outN n hi))) w) : Ret Try.prog 43 [.int .i64 n, .int .i64 hi] w R := by
  refine f43_of _ _ _ _ ?_
  unfold vc43
  refine brd (fun h => ?_) (fun h => ?_)
  · rw [decide_eq_true (show outN n hi by unfold outN; omega)] at k; exact k
  · rw [show decide (outN n hi) = decide (n > hi) by rw [decide_eq_decide]; unfold outN; omega] at k; exact k
theorem c19 {n hi : Int} {w : World} {R : SV → World → Prop} (k : R (.bool (decide (outN n hi))) w) : Ret Try.prog 19 [.int .i64 n, .int .i64 hi] w R := by
  refine f19_of _ _ _ _ ?_
  unfold vc19
  refine brd (fun h => ?_) (fun h => ?_)
  · rw [decide_eq_true (show outN n hi by unfold outN; omega)] at k; exact k
  · rw [show decide (outN n hi) = decide (n > hi) by rw [decide_eq_decide]; unfold outN; omega] at k; exact k
theorem frag_t {off n : Int} (h : n = 0 ∨ n % 8 ≠ 0 ∨ 65515 < off + n) : frag true off n := by unfold frag; simp; omega
theorem frag_n {mf : Bool} {off n : Int} (h : ¬ 65515 < off + n) (h2 : mf = true → n ≠ 0 ∧ n % 8 = 0) : ¬ frag mf off n := by
  unfold frag
  rintro (⟨h3, h4⟩ | h3)
  · have := h2 h3; omega
  · exact h h3
theorem c46 {mf : Bool} {off n : Int} {w : World} {R : SV → World → Prop} (h0 : -9223372036854775808 ≤ off + n) (h1 : off + n ≤ 9223372036854775807) (hn : 0 ≤ n) (k : R (.int .i64 (if frag mf off n then 66 else 0)) w) : Ret Try.prog 46 [.bool mf, .int .i64 off, .int .i64 n] w R := by
  refine f46_of _ _ _ _ _ ?_
  unfold vc46
  rw [wr_i64 h0 h1, tmod_pos hn]
  have y : frag mf off n → R (.int .i64 66) w := fun h => by rw [if_pos h] at k; exact k
  have z : ¬ frag mf off n → R (.int .i64 0) w := fun h => by rw [if_neg h] at k; exact k
  cases mf
  · refine brf rfl (brd (fun g => y (.inr g)) (fun g => z (frag_n (by omega) (by simp))))
  · refine brt rfl (bre (fun g => y (frag_t (.inl g))) (fun g1 => bre' (fun g => y (frag_t (.inr (.inl g)))) (fun g2 => brd (fun g => y (.inr g)) (fun g => z (frag_n (by omega) (fun _ => ⟨g1, g2⟩))))))
theorem c22 {mf : Bool} {off n : Int} {w : World} {R : SV → World → Prop} (h0 : -9223372036854775808 ≤ off + n) (h1 : off + n ≤ 9223372036854775807) (hn : 0 ≤ n) (k : R (.bool (decide (frag mf off n))) w) : Ret Try.prog 22 [.bool mf, .int .i64 off, .int .i64 n] w R := by
  refine f22_of _ _ _ _ _ ?_
  unfold vc22
  rw [wr_i64 h0 h1, tmod_pos hn]
  have y : frag mf off n → R (.bool true) w := fun h => by rw [decide_eq_true h] at k; exact k
  have z : decide (frag mf off n) = decide (off + n > 65515) → R (.bool (decide (off + n > 65515))) w := fun h => by rw [h] at k; exact k
  cases mf
  · refine brf rfl (z (by rw [decide_eq_decide]; unfold frag; simp))
  · refine brt rfl (bre (fun g => y (frag_t (.inl g))) (fun g1 => bre' (fun g => y (frag_t (.inr (.inl g)))) (fun g2 => z (by rw [decide_eq_decide]; unfold frag; simp; omega))))

def fourB (v : Int) (a : Nat → Int) : Bool := v == 4 && (List.range 12).all fun i => a (i + 4) == 0
theorem fourB_iff {v : Int} {a : Nat → Int} : fourB v a = true ↔ four v a := by
  unfold fourB four
  simp only [Bool.and_eq_true, beq_iff_eq, List.all_eq_true, List.mem_range]
  refine and_congr Iff.rfl ⟨fun h i h1 h2 => ?_, fun h i hi => h _ (by omega) (by omega)⟩
  have := h (i - 4) (by omega)
  rwa [show i - 4 + 4 = i by omega] at this
theorem c44 {v : Int} {a : Nat → Int} {w : World} {R : SV → World → Prop} (k : ∀ w1, Upd [] [] w w1 → R (.bool (fourB v a)) w1) : Ret Try.prog 44 [.struct [.int .i64 v, .arr .u8 16 a]] w R := by
  refine f44_of _ _ _ _ ?_
  unfold vc44
  intro b b1 w1 u1 hr1 hoff hr
  have n1 := u1.new (b := b1) (by simp)
  have hne : b ≠ b1 := fun e => hoff (by simp [e])
  have hblt := (Array.getElem?_eq_some_iff.1 hr).1
  have main : ∀ w2, Upd [] [] w1 w2 → Copy 1 (Sl.sub ⟨some ⟨b1, 0, none⟩, 16, 16⟩ 1 0 4 16) (Sl.sub { ptr := some (Addr.add ⟨b, 0, none⟩ 1), len := 16, cap := 16 } 1 0 4 16) [] w2 fun (w : World) =>
      ∃ (n : Int), World.cell? w ⟨b, 0, none⟩ = some (Value.int .i64 n) ∧
        Br (n == 4) (∃ (f : Nat → Int), (∀ (i : Nat), i < 16 → World.cell? w (Addr.add (Addr.add ⟨b, 0, none⟩ 1) (0 + i)) = some (Value.int .u8 (f i))) ∧ ∃ (f_1 : Nat → Int), (∀ (i : Nat), i < 16 → World.cell? w (Addr.add ⟨b1, 0, none⟩ (0 + i)) = some (Value.int .u8 (f_1 i))) ∧ R (.bool (eqArr 16 f f_1)) w) (R (.bool false) w) := by
    intro w2 u2
    have hr1' := u2.keep b1 (by omega) (by simp)
    rw [hr1] at hr1'
    have hr' := u2.keep b hblt (by simp)
    rw [hr] at hr'
    have hx : SeesB w2 (Sl.sub { ptr := some (Addr.add ⟨b, 0, none⟩ 1), len := 16, cap := 16 } 1 0 4 16) (arrL 4 a) := by
      rw [add_none, sub_lit (by omega)]
      exact rowMid hr' [.int .i64 v] ((List.range 12).map fun i => Value.int .u8 (a (i + 4))) (arrL 4 a) rfl rfl (by rw [arrL_len])
    refine copy_mid (pre := []) (mid := (List.range 4).map fun i => Value.int .u8 0) (post := (List.range 12).map fun i => Value.int .u8 0) hr1' rfl hx (sub_lit (by omega)) rfl (by rw [arrL_len]; omega) (by simp) (by simp) fun w3 hr3 u3 => ?_
    have hr3' := u3.keep b (by have := u2.size; omega) (by simpa using hne)
    rw [hr'] at hr3'
    refine ⟨v, by rw [cell_of_block hr3']; rfl, ?_⟩
    have v3 := (u1.then u2).step0 u3 (by simp; omega)
    have fin : ∀ x, fourB v a = x → R (.bool x) w3 := fun x hx => hx ▸ k w3 v3
    refine bre (fun hv => ⟨a, fun i hi => ?_, fun i => if i < 4 then a i else 0, fun i hi => ?_, fin _ ?_⟩) (fun hv => fin _ ?_)
    · rw [add_none, add_none, cell_of_block hr3']
      simp [SV.cells, SV.cellsL, hi, Nat.add_comm 1]
    · rw [add_none, cell_of_block hr3, u8cells, List.take_of_length_le (by rw [arrL_len]; omega)]
      simp only [List.getElem?_toArray, List.nil_append, Nat.zero_add, arrL, List.map_map]
      by_cases hi4 : i < 4
      · rw [if_pos hi4, List.getElem?_append_left (by simp; omega)]
        simp [hi4]
      · rw [if_neg hi4, List.getElem?_append_right (by simp; omega)]
        rw [List.getElem?_eq_getElem (by simp; omega)]
        simp
    · subst hv
      rw [Bool.eq_iff_iff, eqArr_iff, fourB_iff]
      unfold four
      constructor
      · rintro ⟨_, h⟩ i hi
        by_cases hi4 : i < 4
        · rw [if_pos hi4]
        · rw [if_neg hi4]; exact h i (by omega) hi
      · exact fun h => ⟨rfl, fun i h1 h2 => by have := h i h2; rwa [if_neg (by omega)] at this⟩
    · rw [Bool.eq_false_iff]
      intro h
      exact hv (fourB_iff.1 h).1
  exact ⟨main, main⟩

theorem c20 {v : Int} {a : Nat → Int} {w : World} {R : SV → World → Prop} (k : ∀ w1, Upd [] [] w w1 → R (.bool (fourB v a)) w1) : Ret Try.prog 20 [.struct [.int .i64 v, .arr .u8 16 a]] w R := by
  refine f20_of _ _ _ _ ?_
  unfold vc20
  intro b
  have fin : ∀ x w1, Upd [] [] w w1 → fourB v a = x → R (.bool x) w1 := fun x w1 u hx => hx ▸ k w1 u
  refine ⟨fun (i : Int) (w1 : World) => Upd [] [] w w1 ∧ 4 ≤ i ∧ i ≤ 16 ∧ ∀ j : Nat, 4 ≤ j → (j : Int) < i → a j = 0, fun i _ => (16 - i).toNat, fun w1 u => ⟨u.forget, by omega, by omega, fun j h1 h2 => by omega⟩, ?_⟩
  rintro i w1 ⟨u, h4, h16, hj⟩
  refine brd (fun hlt => needIx2 (by omega) hlt ?_) (fun hge => ?_)
  · refine bre' (fun hne => fin _ _ u ?_) (fun he => ?_)
    · rw [Bool.eq_false_iff]
      intro h
      exact hne ((fourB_iff.1 h).2 i.toNat (by omega) (by omega))
    · rw [wr_i64 (by omega) (by omega)]
      refine ⟨rfl, ⟨u, by omega, by omega, fun j h1 h2 => ?_⟩, by (try dsimp only); omega⟩
      by_cases e : (j : Int) = i
      · have : i.toNat = j := by omega
        rw [this] at he; exact he
      · exact hj j h1 (by omega)
  · refine fin _ _ u ?_
    rw [Bool.eq_iff_iff, fourB_iff, beq_iff_eq]
    exact ⟨fun h => h.1, fun h => ⟨h, fun j h1 h2 => hj j h1 (by omega)⟩⟩
end Go.Vc.Stop
end

section
open Go Go.Vc Go.Proofs
set_option linter.unusedVariables false
set_option linter.unusedSimpArgs false
set_option autoImplicit false
namespace Go.Vc.Stop

abbrev ipSV (v : IpV) (s d : Sl) : SV := .struct [.int .i64 v.tos, .int .i64 v.id, .bool v.df, .bool v.mf, .int .i64 v.off, .int .i64 v.ttl, .int .i64 v.proto, .struct [.int .i64 v.sv, .arr .u8 16 v.sa], .struct [.int .i64 v.dv, .arr .u8 16 v.da], .slice s, .slice d]

section
variable {v : IpV} {s d : Sl} {os : List (Int × Sl)} {w : World} {R : SV → World → Prop}
theorem bad68 (h : badF v) : ipChk v = 68 := by unfold ipChk; rw [if_pos h]
theorem chk65 (h : ¬ badF v) (h2 : ¬ putOk v.opts) : ipChk v = 65 := by unfold ipChk; rw [if_neg h, if_pos h2]
theorem chk63 (h : ¬ badF v) (h2 : putOk v.opts) (h3 : 65535 < 20 + (putO v.opts).length + v.data.length) : ipChk v = 63 := by unfold ipChk; rw [if_neg h, if_neg (Classical.not_not.2 h2), if_pos h3]
theorem chk66 (h : ¬ badF v) (h2 : putOk v.opts) (h3 : ¬ 65535 < 20 + (putO v.opts).length + v.data.length) : ipChk v = if frag v.mf v.off v.data.length then 66 else 0 := by unfold ipChk; rw [if_neg h, if_neg (Classical.not_not.2 h2), if_neg h3]

set_option maxRecDepth 10000 in
theorem c23 (hO : Opts w s v.opts os) (hl : v.opts.length < 9223372036854775807) (hod : ∀ o ∈ v.opts, o.data.length ≤ 140737488355328) (hd : d.len = v.data.length) (hdl : v.data.length ≤ 140737488355328)
    (k : ∀ w1, Upd [] [] w w1 → R (.int .i64 (ipChk v)) w1) : Ret Try.prog 23 [ipSV v s d] w R := by
  refine f23_of _ _ _ _ _ _ _ _ _ _ _ _ _ _ _ ?_
  unfold vc23
  intro b J hJ w1 u1
  have k1 : ∀ e w2, Upd [] [] w w2 → ipChk v = e → R (.int .i64 e) w2 := fun e w2 u he => he ▸ k w2 u
  have bad : badF v → ∀ w2, Upd [] [] w w2 → R (.int .i64 68) w2 := fun h w2 u => k1 _ _ u (bad68 h)
  refine c43 ⟨_, rfl, kp (Upd.refl _), brd (fun h => bad (.inl h) _ u1.forget) (fun h0 => ?_)⟩
  refine c43 ⟨_, rfl, kp (Upd.refl _), brd (fun h => bad (.inr (.inl h)) _ u1.forget) (fun h1 => ?_)⟩
  refine c43 ⟨_, rfl, kp (Upd.refl _), brd (fun h => bad (.inr (.inr (.inl h))) _ u1.forget) (fun h2 => ?_)⟩
  have h2' : 0 ≤ v.off ∧ v.off ≤ 65528 := by unfold outN at h2; omega
  rw [tmod_pos h2'.1]
  refine bre' (fun h => bad (.inr (.inr (.inr (.inl h)))) _ u1.forget) (fun h3 => ?_)
  refine c43 ⟨_, rfl, kp (Upd.refl _), brd (fun h => bad (.inr (.inr (.inr (.inr (.inl h))))) _ u1.forget) (fun h4 => ?_)⟩
  refine c43 ⟨_, rfl, kp (Upd.refl _), brd (fun h => bad (.inr (.inr (.inr (.inr (.inr (.inl h)))))) _ u1.forget) (fun h5 => ?_)⟩
  refine c44 fun w2 u2 => ⟨_, rfl, kp u2, brn (fun h => bad (.inr (.inr (.inr (.inr (.inr (.inr (.inl (fun hf => by rw [fourB_iff.2 hf] at h; cases h)))))))) _ (u1.then u2)) (fun h6 => ?_)⟩
  refine c44 fun w3 u3 => ⟨_, rfl, kp u3, brn (fun h => bad (.inr (.inr (.inr (.inr (.inr (.inr (.inr (fun hf => by rw [fourB_iff.2 hf] at h; cases h)))))))) _ ((u1.then u2).then u3)) (fun h7 => ?_)⟩
  have good : ¬ badF v := by
    rintro (x | x | x | x | x | x | x | x)
    · exact h0 x
    · exact h1 x
    · exact h2 x
    · exact x h3
    · exact h4 x
    · exact h5 x
    · exact x (fourB_iff.1 h6)
    · exact x (fourB_iff.1 h7)
  refine ⟨rfl, hJ _ ?_⟩
  have v3 := (u1.then u2).then u3
  have hO3 := hO.old v3
  refine c45 hO3 hl hod fun r w4 u4 hr ho => ⟨_, _, rfl, kp u4, ?_⟩
  have v4 := v3.then u4
  have hrl := hr.len
  by_cases hp : putOk v.opts
  · unfold putE
    unfold putL at hrl
    rw [if_pos hp] at hrl ⊢
    have hpl := putO_len hp
    rw [wr_i64 (x := 20 + (r.len : Int)) (by omega) (by omega), wr_i64 (by omega) (by omega)]
    refine brf (by simp) (brd (fun h => k1 _ _ v4 (chk63 good hp (by omega))) (fun h => ?_))
    refine c46 (by omega) (by omega) (by omega) ⟨_, rfl, kp (Upd.refl _), k1 _ _ v4 ?_⟩
    rw [chk66 good hp (by omega), hd]
  · unfold putE
    rw [if_neg hp]
    exact brt (by simp) (k1 _ _ v4 (chk65 good hp))

set_option maxRecDepth 10000 in
theorem c6 (hO : Opts w s v.opts os) (hl : v.opts.length ≤ 4398046511104) (hod : ∀ o ∈ v.opts, o.data.length ≤ 140737488355328) (hd : d.len = v.data.length) (hdl : v.data.length ≤ 140737488355328)
    (k : ∀ w1, Upd [] [] w w1 → R (.int .i64 (ipChk v)) w1) : Ret Try.prog 6 [ipSV v s d] w R := by
  refine f6_of _ _ _ _ _ _ _ _ _ _ _ _ _ _ _ ?_
  unfold vc6
  intro b J hJ w1 u1
  have k1 : ∀ e w2, Upd [] [] w w2 → ipChk v = e → R (.int .i64 e) w2 := fun e w2 u he => he ▸ k w2 u
  have bad : badF v → ∀ w2, Upd [] [] w w2 → R (.int .i64 68) w2 := fun h w2 u => k1 _ _ u (bad68 h)
  refine c19 ⟨_, rfl, kp (Upd.refl _), brd (fun h => bad (.inl h) _ u1.forget) (fun h0 => ?_)⟩
  refine c19 ⟨_, rfl, kp (Upd.refl _), brd (fun h => bad (.inr (.inl h)) _ u1.forget) (fun h1 => ?_)⟩
  refine c19 ⟨_, rfl, kp (Upd.refl _), brd (fun h => bad (.inr (.inr (.inl h))) _ u1.forget) (fun h2 => ?_)⟩
  have h2' : 0 ≤ v.off ∧ v.off ≤ 65528 := by unfold outN at h2; omega
  rw [tmod_pos h2'.1]
  refine bre' (fun h => bad (.inr (.inr (.inr (.inl h)))) _ u1.forget) (fun h3 => ?_)
  refine c19 ⟨_, rfl, kp (Upd.refl _), brd (fun h => bad (.inr (.inr (.inr (.inr (.inl h))))) _ u1.forget) (fun h4 => ?_)⟩
  refine c19 ⟨_, rfl, kp (Upd.refl _), brd (fun h => bad (.inr (.inr (.inr (.inr (.inr (.inl h)))))) _ u1.forget) (fun h5 => ?_)⟩
  refine c20 fun w2 u2 => ⟨_, rfl, kp u2, brn (fun h => bad (.inr (.inr (.inr (.inr (.inr (.inr (.inl (fun hf => by rw [fourB_iff.2 hf] at h; cases h)))))))) _ (u1.then u2)) (fun h6 => ?_)⟩
  refine c20 fun w3 u3 => ⟨_, rfl, kp u3, brn (fun h => bad (.inr (.inr (.inr (.inr (.inr (.inr (.inr (fun hf => by rw [fourB_iff.2 hf] at h; cases h)))))))) _ ((u1.then u2).then u3)) (fun h7 => ?_)⟩
  have good : ¬ badF v := by
    rintro (x | x | x | x | x | x | x | x)
    · exact h0 x
    · exact h1 x
    · exact h2 x
    · exact x h3
    · exact h4 x
    · exact h5 x
    · exact x (fourB_iff.1 h6)
    · exact x (fourB_iff.1 h7)
  refine ⟨rfl, hJ _ ?_⟩
  have v3 := (u1.then u2).then u3
  have hO3 := hO.old v3
  refine c21 hO3 hl hod fun r w4 u4 hr ho => ⟨_, _, rfl, kp u4, ?_⟩
  have v4 := v3.then u4
  have hrl := hr.len
  by_cases hp : putOk v.opts
  · unfold putE
    unfold putL at hrl
    rw [if_pos hp] at hrl ⊢
    have hpl := putO_len hp
    rw [wr_i64 (x := 20 + (r.len : Int)) (by omega) (by omega), wr_i64 (by omega) (by omega)]
    refine brf (by simp) (brd (fun h => k1 _ _ v4 (chk63 good hp (by omega))) (fun h => ?_))
    refine c22 (by omega) (by omega) (by omega) ⟨_, rfl, kp (Upd.refl _), ?_⟩
    have e := chk66 (v := v) good hp (by omega)
    rw [hd]
    refine brd (fun hf => k1 _ _ v4 (by rw [e, if_pos hf])) (fun hf => k1 _ _ v4 (by rw [e, if_neg hf]))
  · unfold putE
    rw [if_neg hp]
    exact brt (by simp) (k1 _ _ v4 (chk65 good hp))
end
end Go.Vc.Stop
end

section
namespace Go.Vc
set_option linter.unusedVariables false
set_option linter.unusedSimpArgs false
set_option autoImplicit false
/-- a block of cells, as a list -/
structure Blk (w : World) (p : Nat) (L : List Value) : Prop where
  lt : p < w.heap.size
  cell : ∀ i (h : i < L.length), w.cell? ⟨p, i, none⟩ = some L[i]
  fro : ∀ i, i < L.length → w.frozen? ⟨p, i, none⟩ = false
section
variable {w w1 : World} {p : Nat} {L : List Value}
theorem cell_keep {b i : Nat} (h : w1.heap[b]? = w.heap[b]?) : w1.cell? ⟨b, i, none⟩ = w.cell? ⟨b, i, none⟩ := by simp [World.cell?, h]
theorem frozen_keep {b i : Nat} (h : w1.heap[b]? = w.heap[b]?) : w1.frozen? ⟨b, i, none⟩ = w.frozen? ⟨b, i, none⟩ := by simp [World.frozen?, h]
theorem Blk.upd {m n : List Nat} (h : Blk w p L) (u : Upd m n w w1) (hm : p ∉ m) : Blk w1 p L :=
  have k := u.keep p h.lt hm
  ⟨Nat.lt_of_lt_of_le h.lt u.size, fun i hi => by rw [cell_keep k]; exact h.cell i hi, fun i hi => by rw [frozen_keep k]; exact h.fro i hi⟩
theorem Blk.old {n : List Nat} (h : Blk w p L) (u : Upd [] n w w1) : Blk w1 p L := h.upd u (by simp)
theorem Blk.at_ (h : Blk w p L) (i : Nat) {v : Value} (hv : L[i]? = some v) : w.cell? ((⟨p, 0, none⟩ : Addr).add i) = some v := by
  obtain ⟨hi, e⟩ := List.getElem?_eq_some_iff.1 hv
  rw [add_none, Nat.zero_add, h.cell i hi, e]
theorem Blk.at0 (h : Blk w p L) {v : Value} (hv : L[0]? = some v) : w.cell? ⟨p, 0, none⟩ = some v := by
  have := h.at_ 0 hv
  rwa [add_zero] at this
theorem Blk.row {e : Nat} (h : w.heap[p]? = some (.cells L.toArray e (0, 0))) : Blk w p L :=
  ⟨(Array.getElem?_eq_some_iff.1 h).1, fun i hi => by rw [cell_of_block h]; simp [hi], fun i hi => frozen_of_block h i⟩
/-- a part is written over -/
theorem Blk.store {o : Nat} {vs : List Value} {bs : List Nat} {F : World → Prop} (h : Blk w p L) (ho : o + vs.length ≤ L.length) (hb : p ∉ bs) (k : ∀ w1, Blk w1 p (L.take o ++ vs ++ L.drop (o + vs.length)) → Upd [p] [] w w1 → F w1) :
    Store w ((⟨p, 0, none⟩ : Addr).add o) vs bs F := by
  have ha : ((⟨p, 0, none⟩ : Addr).add o) = ⟨p, o, none⟩ := by rw [add_none, Nat.zero_add]
  rw [ha]
  have ex : ∀ j, j < vs.length → (w.cell? ⟨p, o + j, none⟩).isSome = true := fun j hj => by rw [h.cell (o + j) (by omega)]; rfl
  refine ⟨fun i hi => ?_, hb, ?_⟩
  · rw [add_none]
    exact ⟨ex i hi, h.fro _ (by omega)⟩
  · have u := Upd.setCells w p o vs
    have len : (L.take o ++ vs ++ L.drop (o + vs.length)).length = L.length := by simp; omega
    refine k _ ⟨Nat.lt_of_lt_of_le h.lt u.size, fun i hi => ?_, fun i hi => ?_⟩ u
    · rw [len] at hi
      by_cases h1 : i < o
      · rw [World.cell?_setCells_out p vs o w _ (fun _ _ => .inl h1), h.cell i hi]
        congr 1
        rw [List.getElem_append_left (by simp; omega), List.getElem_append_left (by simp; omega), List.getElem_take]
      · by_cases h2 : i < o + vs.length
        · have e := World.cell?_setCells_in p vs o w ex (i - o) (by omega)
          rw [show o + (i - o) = i by omega] at e
          rw [e]
          congr 1
          rw [List.getElem_append_left (by simp; omega), List.getElem_append_right (by simp; omega)]
          congr 1
          simp; omega
        · rw [World.cell?_setCells_out p vs o w _ (fun _ _ => .inr (by show o + vs.length ≤ i; omega)), h.cell i hi]
          congr 1
          rw [List.getElem_append_right (by simp; omega), List.getElem_drop]
          congr 1
          simp; omega
    · rw [len] at hi
      rw [World.frozen?_setCells p vs o w _]
      exact h.fro i hi
theorem Blk.store0 {vs : List Value} {bs : List Nat} {F : World → Prop} (h : Blk w p L) (ho : vs.length ≤ L.length) (hb : p ∉ bs) (k : ∀ w1, Blk w1 p (vs ++ L.drop vs.length) → Upd [p] [] w w1 → F w1) :
    Store w (⟨p, 0, none⟩ : Addr) vs bs F := by
  have := Blk.store (o := 0) (vs := vs) (bs := bs) (F := F) h (by omega) hb (fun w1 h1 u => k w1 (by simpa using h1) u)
  rwa [add_zero] at this
end
end Go.Vc
end

section
open Go Go.Vc Go.Proofs
set_option linter.unusedVariables false
set_option linter.unusedSimpArgs false
set_option autoImplicit false
namespace Go.Vc.Stop
/-- a context as a value; p: where its struct lies; tk: what was laid into its holes -/
structure Cv where
  key : KeyV
  began : Int
  left : Int
  state : Int
  why : Int
  frags : Int
  first : Bool
  h : IpV
  S : Hs
  tk : List (Int × List Int)
  p : Nat
structure Tv where
  max : Int
  ticks : Int
  begun : Int
  cs : List Cv
def ctxL (c : Cv) (hp : Option Addr) (so sd : Sl) (j : List Value) : List Value :=
  SV.cells (kSV c.key) ++ ([.int .i64 c.began, .int .i64 c.left, .int .i64 c.state, .int .i64 c.why, .pointer hp, .int .i64 c.frags, .bool c.first] ++ (SV.cells (ipSV c.h so sd) ++ j))
def optB (s : Sl) (os : List (Int × Sl)) : List Nat := s.blk ++ os.flatMap fun x => x.2.blk
theorem optB_mem {s : Sl} {os : List (Int × Sl)} {b : Nat} : b ∈ optB s os ↔ b ∈ s.blk ∨ ∃ x ∈ os, b ∈ x.2.blk := by simp [optB]
theorem Opts.updB {w w1 : World} {s : Sl} {l : List Opt} {os : List (Int × Sl)} {m n : List Nat} (h : Opts w s l os) (u : Upd m n w w1) (hm : ∀ x ∈ optB s os, x ∉ m) : Opts w1 s l os :=
  h.upd u (fun b hb => hm b (optB_mem.2 (.inl hb))) (fun x hx b hb => hm b (optB_mem.2 (.inr ⟨x, hx, hb⟩)))
/-- the holes of an open context -/
def HolP (N : Nat) (w : World) (c : Cv) (hp : Option Addr) (hb : List Nat) : Prop :=
  if c.state = 0 then ∃ h B G m, hp = some ⟨h, 0, none⟩ ∧ Hol N w h c.S B G m ∧ Good c.S ∧ First c.S c.tk ∧ c.S.max = 65515 ∧ hb = hblk h B G m else hb = []
theorem HolP.upd {N : Nat} {w w1 : World} {c : Cv} {hp : Option Addr} {hb m n : List Nat} (h : HolP N w c hp hb) (u : Upd m n w w1) (hm : ∀ x ∈ hb, x ∉ m) : HolP N w1 c hp hb := by
  unfold HolP at h ⊢
  split
  · rename_i hs
    rw [if_pos hs] at h
    obtain ⟨a, B, G, q, h1, h2, h3, h4, h5, rfl⟩ := h
    exact ⟨a, B, G, q, h1, h2.upd u hm, h3, h4, h5, rfl⟩
  · rename_i hs
    rw [if_neg hs] at h
    exact h
theorem HolP.lt {N : Nat} {w : World} {c : Cv} {hp : Option Addr} {hb : List Nat} (h : HolP N w c hp hb) : ∀ x ∈ hb, N ≤ x ∧ x < w.heap.size := by
  unfold HolP at h
  split at h
  · obtain ⟨a, B, G, q, h1, h2, h3, h4, h5, rfl⟩ := h
    exact h2.lt
  · subst h; simp
/-- a context in memory; hd: its blocks -/
structure CxM (N : Nat) (w : World) (c : Cv) (hd : List Nat) : Prop where
  ex : ∃ hp so sd j os hb, Blk w c.p (ctxL c hp so sd j) ∧ j.length = 44 ∧ HolP N w c hp hb ∧ Opts w so c.h.opts os ∧ (∀ x ∈ optB so os, N ≤ x ∧ x < w.heap.size) ∧ hd = c.p :: (hb ++ optB so os) ∧ c.p ∉ hb ∧ c.p ∉ optB so os ∧ (∀ x ∈ hb, x ∉ optB so os)
  le : N ≤ c.p
  key : c.key.Ok
  few : c.h.opts.length ≤ 4398046511000
  small : ∀ o ∈ c.h.opts, o.data.length ≤ 140737488351232
  byt : ∀ o ∈ c.h.opts, Byt o.data
section
variable {N : Nat} {w w1 : World} {c : Cv} {hd : List Nat}
theorem CxM.upd {m n : List Nat} (h : CxM N w c hd) (u : Upd m n w w1) (hm : ∀ x ∈ hd, x ∉ m) : CxM N w1 c hd := by
  obtain ⟨hp, so, sd, j, os, hb, h1, h2, h3, h4, h5, rfl, h6, h7, h8⟩ := h.ex
  have z := u.size
  exact ⟨⟨hp, so, sd, j, os, hb, h1.upd u (hm _ (by simp)), h2, h3.upd u (fun x hx => hm x (by simp [hx])), Opts.updB h4 u (fun x hx => hm x (by simp [hx])), fun x hx => by have := h5 x hx; omega, rfl, h6, h7, h8⟩, h.le, h.key, h.few, h.small, h.byt⟩
theorem CxM.lt (h : CxM N w c hd) : ∀ x ∈ hd, N ≤ x ∧ x < w.heap.size := by
  obtain ⟨hp, so, sd, j, os, hb, h1, h2, h3, h4, h5, rfl, h6, h7, h8⟩ := h.ex
  intro x hx
  rcases List.mem_cons.1 hx with rfl | q
  · exact ⟨h.le, h1.lt⟩
  · rcases List.mem_append.1 q with q | q
    · exact h3.lt x q
    · exact h5 x q
end
def ents (cs : List Cv) : List (Value × SV) := cs.map fun c => ((kSV c.key).enc, .ptr (some ⟨c.p, 0, none⟩))
/-- the table in memory; hd: all its blocks -/
structure TbAt (N : Nat) (w : World) (t : Nat) (T : Tv) (hd : List Nat) : Prop where
  ex : ∃ (mb : Nat) (col : Nat → Nat), Blk w t [.int .i64 T.max, .int .i64 T.ticks, .int .i64 T.begun, .map (some mb)] ∧ MapL w mb (ents T.cs) ∧ (t ∈ hd ∧ col t = 1) ∧ (mb ∈ hd ∧ col mb = 2) ∧ ∀ i (h : i < T.cs.length), ∃ hdi, CxM N w T.cs[i] hdi ∧ ∀ x ∈ hdi, x ∈ hd ∧ col x = 3 + i
  lt : ∀ x ∈ hd, N ≤ x ∧ x < w.heap.size
  dis : ∀ i j (hi : i < T.cs.length) (hj : j < T.cs.length), (kSV T.cs[i].key).enc = (kSV T.cs[j].key).enc → i = j
section
variable {N t : Nat} {w w1 : World} {T : Tv} {hd : List Nat}
theorem TbAt.upd {m n : List Nat} (h : TbAt N w t T hd) (u : Upd m n w w1) (hm : ∀ x ∈ hd, x ∉ m) : TbAt N w1 t T hd := by
  obtain ⟨mb, col, h1, h2, h3, h4, h5⟩ := h.ex
  have z := u.size
  refine ⟨⟨mb, col, h1.upd u (hm _ h3.1), h2.upd u (hm _ h4.1), h3, h4, fun i hi => ?_⟩, fun x hx => by have := h.lt x hx; omega, h.dis⟩
  obtain ⟨hdi, a, b⟩ := h5 i hi
  exact ⟨hdi, a.upd u (fun x hx => hm x (b x hx).1), b⟩
theorem TbAt.old {n : List Nat} (h : TbAt N w t T hd) (u : Upd [] n w w1) : TbAt N w1 t T hd := h.upd u (by simp)
theorem ents_keys {cs : List Cv} (h : ∀ c ∈ cs, c.key.Ok) {k : KeyV} (hk : k.Ok) : KeysOk Try.prog 66 (kSV k).enc (ents cs) :=
  ⟨keyLaw66, key_ok2 hk, fun p hp => by
    obtain ⟨c, hc, rfl⟩ := List.mem_map.1 hp
    exact key_ok2 (h c hc)⟩
theorem ents_shape {cs : List Cv} : AllShape (.ptr 83) (ents cs) := fun p hp => by
  obtain ⟨c, hc, rfl⟩ := List.mem_map.1 hp
  rfl
theorem TbAt.keys (h : TbAt N w t T hd) {k : KeyV} (hk : k.Ok) : KeysOk Try.prog 66 (kSV k).enc (ents T.cs) := by
  obtain ⟨mb, col, h1, h2, h3, h4, h5⟩ := h.ex
  refine ents_keys (fun c hc => ?_) hk
  obtain ⟨i, hi, rfl⟩ := List.getElem_of_mem hc
  obtain ⟨hdi, a, _⟩ := h5 i hi
  exact a.key
/-- what is found under a key -/
theorem found_ents {cs : List Cv} {k : KeyV} {p : Option Addr} {b : Bool} (h : Found (ents cs) (kSV k).enc (.ptr none) (.ptr p) b) :
    (p = none ∧ ∀ c ∈ cs, (kSV c.key).enc ≠ (kSV k).enc) ∨ ∃ i, ∃ hi : i < cs.length, (kSV cs[i].key).enc = (kSV k).enc ∧ p = some ⟨cs[i].p, 0, none⟩ := by
  rcases h with ⟨_, q, hq, e1, e2⟩ | ⟨_, h2, e⟩
  · obtain ⟨c, hc, rfl⟩ := List.mem_map.1 hq
    obtain ⟨i, hi, rfl⟩ := List.getElem_of_mem hc
    exact .inr ⟨i, hi, e1, by injection e2⟩
  · refine .inl ⟨by injection e, fun c hc => h2 _ (List.mem_map.2 ⟨c, hc, rfl⟩)⟩
/-- one context is another -/
theorem TbAt.at (h : TbAt N w t T hd) {i : Nat} (hi : i < T.cs.length) : ∃ hdi, CxM N w T.cs[i] hdi ∧ (∀ x ∈ hdi, x ∈ hd) ∧
    ∀ {m n hdi' : List Nat} {w1 : World} {c' : Cv}, Upd m n w w1 → (∀ x ∈ m, x ∈ hdi) → CxM N w1 c' hdi' → (∀ x ∈ hdi', x ∈ hdi ∨ w.heap.size ≤ x) → c'.key = T.cs[i].key → c'.p = T.cs[i].p →
      ∃ hd', TbAt N w1 t { T with cs := T.cs.set i c' } hd' ∧ ∀ x ∈ hd', x ∈ hd ∨ w.heap.size ≤ x := by
  obtain ⟨mb, col, h1, h2, h3, h4, h5⟩ := h.ex
  obtain ⟨hdi, a, b⟩ := h5 i hi
  refine ⟨hdi, a, fun x hx => (b x hx).1, fun {m n hdi' w1 c'} u hm hc hn ek ep => ?_⟩
  have z := u.size
  have lt := h.lt
  have alt := a.lt
  have clt := hc.lt
  let col' : Nat → Nat := fun x => if x < w.heap.size then col x else 3 + i
  have co : ∀ x, x < w.heap.size → col' x = col x := fun x hx => by simp only [col']; rw [if_pos hx]
  have cn : ∀ x, w.heap.size ≤ x → col' x = 3 + i := fun x hx => by simp only [col']; rw [if_neg (by omega)]
  have off : ∀ x, x ∈ hd → col x ≠ 3 + i → x ∉ m := fun x hx hne hmm => hne (b x (hm x hmm)).2
  have he : ents (T.cs.set i c') = ents T.cs := by
    unfold ents
    rw [List.map_set, ek, ep]
    apply List.ext_getElem
    · simp
    · intro j h1 h2
      rw [List.getElem_set]
      split
      · rename_i e; subst e; simp
      · rfl
  refine ⟨hd ++ hdi', ⟨⟨mb, col', h1.upd u (off t h3.1 (by omega)), ?_, ⟨by simp [h3.1], by rw [co t (lt t h3.1).2]; exact h3.2⟩, ⟨by simp [h4.1], by rw [co mb (lt mb h4.1).2]; exact h4.2⟩, fun j hj => ?_⟩, fun x hx => ?_, fun j k hj hk e => ?_⟩, fun x hx => ?_⟩
  · rw [he]; exact h2.upd u (off mb h4.1 (by omega))
  · simp only [List.length_set] at hj
    by_cases e : i = j
    · subst e
      refine ⟨hdi', by simpa using hc, fun x hx => ⟨by simp [hx], ?_⟩⟩
      rcases hn x hx with q | q
      · rw [co x (alt x q).2]; exact (b x q).2
      · exact cn x q
    · obtain ⟨hdj, a2, b2⟩ := h5 j hj
      refine ⟨hdj, ?_, fun x hx => ⟨by simp [(b2 x hx).1], by rw [co x (a2.lt x hx).2]; exact (b2 x hx).2⟩⟩
      rw [List.getElem_set_ne e]
      exact a2.upd u (fun x hx => off x (b2 x hx).1 (by have := (b2 x hx).2; omega))
  · rcases List.mem_append.1 hx with q | q
    · have := lt x q; omega
    · exact clt x q
  · simp only [List.length_set] at hj hk
    have key : ∀ q (hq : q < T.cs.length), ((T.cs.set i c')[q]'(by simpa using hq)).key = T.cs[q].key := fun q hq => by
      rw [List.getElem_set]
      split
      · rename_i e; subst e; exact ek
      · rfl
    rw [key j hj, key k hk] at e
    exact h.dis j k hj hk e
  · rcases List.mem_append.1 hx with q | q
    · exact .inl q
    · rcases hn x q with q | q
      · exact .inl (b x q).1
      · exact .inr q
/-- one context more -/
theorem TbAt.more (h : TbAt N w t T hd) : ∃ mb, Blk w t [.int .i64 T.max, .int .i64 T.ticks, .int .i64 T.begun, .map (some mb)] ∧ MapL w mb (ents T.cs) ∧ t ∈ hd ∧ mb ∈ hd ∧ t ≠ mb ∧
    ∀ {m n hdc : List Nat} {w1 : World} {c : Cv} {g : Int}, Upd m n w w1 → (∀ x ∈ m, x = t ∨ x = mb ∨ x ∈ hdc) → (∀ x ∈ hdc, x ∉ hd) → CxM N w1 c hdc → Blk w1 t [.int .i64 T.max, .int .i64 T.ticks, .int .i64 g, .map (some mb)] → MapL w1 mb (ents (T.cs ++ [c])) →
      (∀ x ∈ T.cs, (kSV x.key).enc ≠ (kSV c.key).enc) → TbAt N w1 t { T with begun := g, cs := T.cs ++ [c] } (hd ++ hdc) := by
  obtain ⟨mb, col, h1, h2, h3, h4, h5⟩ := h.ex
  refine ⟨mb, h1, h2, h3.1, h4.1, fun e => by have := h3.2; have := h4.2; rw [e] at *; omega, fun {m n hdc w1 c g} u hm hdis hc hb hmp hk => ?_⟩
  have z := u.size
  have lt := h.lt
  let col' : Nat → Nat := fun x => if x ∈ hd then col x else 3 + T.cs.length
  have co : ∀ x, x ∈ hd → col' x = col x := fun x hx => by simp only [col']; rw [if_pos hx]
  have cn : ∀ x, x ∈ hdc → col' x = 3 + T.cs.length := fun x hx => by simp only [col']; rw [if_neg (hdis x hx)]
  refine ⟨⟨mb, col', hb, hmp, ⟨by simp [h3.1], by rw [co t h3.1]; exact h3.2⟩, ⟨by simp [h4.1], by rw [co mb h4.1]; exact h4.2⟩, fun j hj => ?_⟩, fun x hx => ?_, fun j k hj hk2 e => ?_⟩
  · by_cases ej : j < T.cs.length
    · obtain ⟨hdj, a2, b2⟩ := h5 j ej
      refine ⟨hdj, ?_, fun x hx => ⟨by simp [(b2 x hx).1], by rw [co x (b2 x hx).1]; exact (b2 x hx).2⟩⟩
      rw [List.getElem_append_left ej]
      refine a2.upd u (fun x hx hmm => ?_)
      have := (b2 x hx).2
      rcases hm x hmm with e | e | e
      · subst e; have := h3.2; omega
      · subst e; have := h4.2; omega
      · exact hdis x e (b2 x hx).1
    · have e : j = T.cs.length := by simp at hj; omega
      subst e
      exact ⟨hdc, by simpa using hc, fun x hx => ⟨by simp [hx], cn x hx⟩⟩
  · rcases List.mem_append.1 hx with q | q
    · have := lt x q; omega
    · exact hc.lt x q
  · simp only [List.length_append, List.length_cons, List.length_nil] at hj hk2
    by_cases ej : j < T.cs.length
    · by_cases ek : k < T.cs.length
      · rw [List.getElem_append_left ej, List.getElem_append_left ek] at e
        exact h.dis j k ej ek e
      · have : k = T.cs.length := by omega
        subst this
        rw [List.getElem_append_left ej] at e
        simp at e
        exact absurd (by simpa using e) (hk _ (List.getElem_mem ej))
    · have : j = T.cs.length := by omega
      subst this
      by_cases ek : k < T.cs.length
      · rw [List.getElem_append_left ek] at e
        exact absurd (by simpa using e.symm) (hk _ (List.getElem_mem ek))
      · omega
end
end Go.Vc.Stop
end
