import Derived.Test.YtncgcdicadibbaaS2T8
import Derived.Test.YtncgcdicadibbaaS2C
import Derived.Test.YtncgcdicadibbaaS2G
import Derived.Test.YtncgcdicadibbaaRowB
open Go Go.Vc Go.Proofs
set_option linter.unusedVariables false
set_option linter.unusedSimpArgs false
set_option autoImplicit false
namespace Go.Vc.S2

theorem needC' {i n : Int} {o : Option Addr} {X : Prop} (h1 : i < n) (h2 : o.isSome = true) (x : X) : Need (decide (i < n) && o.isSome) X := need (by simp [h1, h2]) x
theorem c8 {check a b : Int} {old now : Sl} {lo ln : List Int} {w : World} (ho : SeesB w old lo) (hn : SeesB w now ln) (hbo : Byt lo) (hbn : Byt ln) :
    Ret Try.prog 8 [.int .i64 check, .int .i64 a, .int .i64 b, .slice old, .slice now] w fun r w1 => r = .bool true ∧ Upd [] [] w w1 := by
  refine f8_of _ _ _ _ _ _ _ ?_
  unfold vc8
  refine c28 ?_
  have e1 : fixOf 56623 21845 12933 = 0 := by decide
  have e2 : fixErr 56623 21845 12933 = 0 := by decide
  rw [e1, e2]
  refine ⟨_, _, rfl, ?_⟩
  intro J hJ
  refine brf (by decide) (brf (by decide) (hJ _ ?_))
  clear hJ
  refine c28 ⟨_, _, rfl, c29 ⟨_, _, rfl, ?_⟩⟩
  intro J hJ
  refine brf (by simp) (brf (by simp) (hJ _ ?_))
  clear hJ
  intro b1 w1 u1 hrow
  have P1 := rowP (n := 2) (cap := 2) hrow (ss := [old, now]) rfl rfl (ls := [lo, ln]) ⟨ho.old u1, hn.old u1, trivial⟩
  refine c14 P1 (by simp; exact ⟨hbo, hbn⟩) fun s a was w2 lx sx A u2 hP hbl hfl hll hcap hA hAl hW => ⟨_, _, _, rfl, ?_⟩
  have v2 := u1.then u2
  have hsl := hP.slen
  refine brd (fun h => ⟨rfl, v2⟩) (fun h => ?_)
  have hl2 : 2 ≤ lx.length := by omega
  refine needD (by omega) (need (by simp; omega) ?_)
  have h0 : 0 < lx.length := by omega
  have h1 : 1 < lx.length := by omega
  have k0 : 0 < sx.length := by rw [hP.len]; omega
  have k1 : 1 < sx.length := by rw [hP.len]; omega
  have hb0 : Byt lx[0] := hbl _ (List.getElem_mem _)
  have hb1 : Byt lx[1] := hbl _ (List.getElem_mem _)
  have hlen : ∀ l ∈ lx, l.length ≤ 131077 := fun l hl => by
    have := (List.sublist_flatten_of_mem hl).length_le
    omega
  have hl0 := hlen _ (List.getElem_mem h0)
  have hl1 := hlen _ (List.getElem_mem h1)
  -- the two parts, each alone in a slice
  have part : ∀ (w : World), Parts w s lx sx → Parts w (s.sub 1 0 1 s.cap) [lx[0]] [sx[0]] ∧ Parts w (s.sub 1 1 2 s.cap) [lx[1]] [sx[1]] := by
    intro w hP
    have r0 : Sees cSl w (s.sub 1 0 1 s.cap) ((sx.take 1).drop 0) := hP.row.sub (by omega) (by omega) (by omega)
    have r1 : Sees cSl w (s.sub 1 1 2 s.cap) ((sx.take 2).drop 1) := hP.row.sub (by omega) (by omega) (by omega)
    have q0 : (sx.take 1).drop 0 = [sx[0]] := by rw [List.drop_zero, show (1 : Nat) = 0 + 1 from rfl, take_snoc k0]; rfl
    have q1 : (sx.take 2).drop 1 = [sx[1]] := by
      rw [show (2 : Nat) = 1 + 1 from rfl, take_snoc k1, List.drop_append_of_le_length (by simp; omega), List.drop_of_length_le (by simp; omega)]; rfl
    rw [q0] at r0
    rw [q1] at r1
    refine ⟨⟨r0, rfl, fun i hi => ?_⟩, ⟨r1, rfl, fun i hi => ?_⟩⟩
    · have : i = 0 := by simpa using hi
      subst this
      exact hP.each 0 h0
    · have : i = 0 := by simpa using hi
      subst this
      exact hP.each 1 h1
  have rd : ∀ (w : World), Parts w s lx sx → w.cell? (s.at 1 0) = some (sx[0]).val ∧ w.cell? (s.at 1 1) = some (sx[1]).val ∧ s.ptr.isSome = true := by
    intro w hP
    obtain ⟨_, _, c0, _, hp⟩ := hP.get (i := 0) (by omega) (by omega)
    obtain ⟨_, _, c1, _, _⟩ := hP.get (i := 1) (by omega) (by omega)
    exact ⟨c0, c1, hp⟩
  have f0 : ∀ l : List Int, [l].flatten = l := fun l => by simp
  -- what follows, whatever the order
  have tail : ∀ (s3 s4 : Sl) (w' : World) (K : World → Prop) (bb : List Nat), Upd [] [] w w' → Parts w' s lx sx → SeesB w' a A → SeesB w' was A → SeesB w' s3 lx[0] → SeesB w' s4 lx[1] →
      Ret Try.prog 30 [.int .i64 check, .slice sx[0], .slice sx[1]] w' fun r w1 => ∃ (n n5 : Int), r = .tuple [.int .i64 n, .int .i64 n5] ∧ Keeps bb w' w1 ∧
        Ret Try.prog 31 [.int .i64 check, .slice s3, .slice s4] w1 fun r w14 => ∃ (n6 n7 : Int), r = .tuple [.int .i64 n6, .int .i64 n7] ∧ Keeps bb w1 w14 ∧
          Br (n5 == n7) (Br (n == n6) (Ret Try.prog 22 [.slice a, .slice was] w14 fun r w1 => ∃ (b1 : Bool), r = .bool b1 ∧ Keeps bb w14 w1 ∧ (SV.bool b1 = .bool true ∧ Upd [] [] w w1)) (SV.bool false = .bool true ∧ Upd [] [] w w14)) (SV.bool false = .bool true ∧ Upd [] [] w w14) := by
    intro s3 s4 w' K bb v hP hA hW h3 h4
    refine c30 (hP.each 0 h0) (hP.each 1 h1) hb0 hb1 (by omega) (by omega) ⟨_, _, rfl, .inl (Upd.refl _), ?_⟩
    refine c31 h3 h4 hb0 hb1 (by omega) (by omega) fun w5 u5 => ⟨_, _, rfl, .inl u5, brt (by simp) (brt (by simp) ?_)⟩
    exact c22 (hA.old u5) (hW.old u5) (by omega) fun w6 u6 => ⟨_, rfl, .inl u6, by simp, (v.then u5).then u6⟩
  have j0 : ∀ w, Parts w s lx sx → ∀ {X : Prop}, X → Need (decide (0 < (s.len : Int)) && s.ptr.isSome) X := fun w hP _ x => needC' (by omega) (rd w hP).2.2 x
  have j1 : ∀ w, Parts w s lx sx → ∀ {X : Prop}, X → Need (decide (1 < (s.len : Int)) && s.ptr.isSome) X := fun w hP _ x => needC' (by omega) (rd w hP).2.2 x
  refine ⟨fun w3 u3 => ?_, fun b3 w3 u3 => ?_⟩
  · have P3 := hP.old u3
    refine c15 (part _ P3).1 (by simp) (by rw [f0]; omega) fun s3 w4 u4 hs3 _ => ⟨_, rfl, ?_, ?_⟩
    · rw [f0] at hs3
      have P4 := P3.old u4
      refine c15 (part _ P4).2 (by simp) (by rw [f0]; omega) fun s4 w5 u5 hs4 _ => ⟨_, rfl, ?_⟩
      rw [f0] at hs4
      have P5 := P4.old u5
      intro b6
      refine j0 _ P5 ⟨_, (rd _ P5).1, j1 _ P5 ⟨_, (rd _ P5).2.1, fun w6 u6 => ?_⟩⟩
      exact tail s3 s4 w6 (fun _ => True) _ ((((v2.then u3).then u4).then u5).then u6) (P5.old u6) ((((hA.old u3).old u4).old u5).old u6) ((((hW.old u3).old u4).old u5).old u6) ((hs3.old u5).old u6) (hs4.old u6)
    · rw [f0] at hs3
      have P4 := P3.old u4
      intro b5 w5 u5
      have P5 := P4.old u5
      refine c15 (part _ P5).2 (by simp) (by rw [f0]; omega) fun s4 w6 u6 hs4 ho4' => ⟨_, rfl, .inl u6, ?_⟩
      have ho4 := fun b hb => ho4'.blk b hb
      rw [f0] at hs4
      have P6 := P5.old u6
      intro w7 u7
      have hb5 := u5.new (b := b5) (by simp)
      have hm : ∀ b ∈ [b5], w4.heap.size ≤ b := by simp; exact hb5.1
      have hm2 : ∀ b ∈ [b5], w2.heap.size ≤ b := by simp; have := u3.size; have := u4.size; omega
      have hm3 : ∀ b ∈ [b5], w6.heap.size ≤ b → False := by simp; have := u6.size; omega
      have hs6 := (hs3.old u5).old u6
      have P7 := P4.upd' P6 u7 hm
      refine j0 _ P7 ⟨_, (rd _ P7).1, j1 _ P7 ⟨_, (rd _ P7).2.1, fun w8 u8 => ?_⟩⟩
      have hs47 : SeesB w7 s4 lx[1] := hs4.upd u7 (fun b hb hm' => by
        have := (ho4 b hb).1
        simp at hm'
        subst hm'
        have := u5.new (b := b) (by simp)
        omega)
      have v7 : Upd [] [] w w7 := ((((v2.then u3).then u4).then u5).then u6).step0 u7 (by simp; have := v2.size; have := u3.size; have := u4.size; omega)
      exact tail s3 s4 w8 (fun _ => True) _ (v7.then u8) (P7.old u8) ((hA.upd' ((((hA.old u3).old u4).old u5).old u6) u7 hm2).old u8) ((hW.upd' ((((hW.old u3).old u4).old u5).old u6) u7 hm2).old u8) ((hs3.upd' hs6 u7 hm).old u8) (hs47.old u8)
  · have P3 := hP.old u3
    have hb3 := u3.new (b := b3) (by simp)
    refine c15 (part _ P3).1 (by simp) (by rw [f0]; omega) fun s3 w4 u4 hs3 ho3 => ⟨_, rfl, .inl u4, ?_⟩
    rw [f0] at hs3
    have P4 := P3.old u4
    refine c15 (part _ P4).2 (by simp) (by rw [f0]; omega) fun s4 w5 u5 hs4 ho4 => ⟨_, rfl, .inl u5, ?_⟩
    rw [f0] at hs4
    have P5 := P4.old u5
    intro w6 u6
    have hm2 : ∀ b ∈ [b3], w2.heap.size ≤ b := by simp; omega
    have P6 := hP.upd' P5 u6 hm2
    refine j0 _ P6 ⟨_, (rd _ P6).1, j1 _ P6 ⟨_, (rd _ P6).2.1, fun w7 u7 => ?_⟩⟩
    have d3 : ∀ {N : Nat} {s : Sl} {w' : World}, w3.heap.size ≤ N → Own N 1 w' s → ∀ b ∈ s.blk, b ∉ [b3] := fun hN ho b hb hm' => by
      have := (ho.blk b hb).1
      simp at hm'
      omega
    have v6 : Upd [] [] w w6 := (((v2.then u3).then u4).then u5).step0 u6 (by simp; have := v2.size; omega)
    exact tail s3 s4 w7 (fun _ => True) _ (v6.then u7) (P6.old u7) ((hA.upd' (((hA.old u3).old u4).old u5) u6 hm2).old u7) ((hW.upd' (((hW.old u3).old u4).old u5) u6 hm2).old u7)
      (((hs3.old u5).upd u6 (d3 (Nat.le_refl _) ho3)).old u7) ((hs4.upd u6 (d3 u4.size ho4)).old u7)

theorem walk8 {H : Type} {W : World} (svs : List SV) (ds : List (DataW H)) (h : ArgsD X W [3, 3, 3, 24, 24] svs ds) :
    Ret Try.prog 8 svs W fun r w1 => r = .bool true ∧ Upd [] [] W w1 := by
  obtain ⟨x, _, d1, _, m1, rfl, rfl, h1, h⟩ := argsD_cons h
  obtain ⟨y, _, d2, _, m2, rfl, rfl, h2, h⟩ := argsD_cons h
  obtain ⟨z, _, d3, _, m3, rfl, rfl, h3, h⟩ := argsD_cons h
  obtain ⟨z', _, d4, _, m4, rfl, rfl, h4, h⟩ := argsD_cons h
  obtain ⟨z'', _, d5, _, m5, rfl, rfl, h5, h⟩ := argsD_cons h
  obtain ⟨rfl, rfl⟩ := argsD_nil h
  obtain ⟨a, rfl, ha⟩ := deep_int (t := 3) (k := .i64) rfl h1
  obtain ⟨b, rfl, hb⟩ := deep_int (t := 3) (k := .i64) rfl h2
  obtain ⟨c, rfl, hc⟩ := deep_int (t := 3) (k := .i64) rfl h3
  obtain ⟨s, l, rfl, hs, hbl, _⟩ := deep_bytes (t := 24) (e := 5) rfl rfl h4
  obtain ⟨s2, l2, rfl, hs2, hbl2, _⟩ := deep_bytes (t := 24) (e := 5) rfl rfl h5
  exact c8 hs hs2 hbl hbl2
end Go.Vc.S2
