import Derived.Test.YtncgcdicadibbaaS2T10
import Derived.Test.YtncgcdicadibbaaG7
import Derived.Test.YtncgcdicadibbaaS2G
open Go Go.Vc Go.Proofs
set_option linter.unusedVariables false
set_option linter.unusedSimpArgs false
set_option autoImplicit false
namespace Go.Vc.S2
def cTn : Cod (Int × Int × Int × Bool) := ⟨4, fun p => [.int .i64 p.1, .int .i64 p.2.1, .int .u8 p.2.2.1, .bool p.2.2.2], fun _ => rfl, by simp [Value.oneCell']⟩
section
variable {w : World} {R : SV → World → Prop}
theorem flat40 {ls : List (List Int)} : ∀ n : Nat, ls.length ≤ n → (∀ l ∈ ls, l.length ≤ 1000000000) → ls.flatten.length ≤ n * 1000000000 := by
  induction ls with
  | nil => intro n _ _; simp
  | cons a r ih =>
    intro n hn h
    cases n with
    | zero => simp at hn
    | succ n =>
      have h1 := ih n (by simpa using hn) (fun l hl => h l (List.mem_cons_of_mem _ hl))
      have h2 := h a (by simp)
      rw [List.flatten_cons, List.length_append]
      omega
set_option maxRecDepth 20000 in
theorem c10 {parts turns : Sl} {ls0 : List (List Int)} {ss : List Sl} {check : Int} {tn : List (Int × Int × Int × Bool)} (h : Parts w parts ls0 ss) (hb : ∀ l ∈ ls0, Byt l) (hc : parts.len ≤ parts.cap) (hl : ∀ l ∈ ls0, l.length ≤ 1000000000) (htn : Sees cTn w turns tn) (hty : ∀ t ∈ tn, 0 ≤ t.2.2.1 ∧ t.2.2.1 < 256) :
    Ret Try.prog 10 [.slice parts, .int .i64 check, .slice turns] w fun r w1 => r = .bool true ∧ Upd [] [] w w1 := by
  refine f10_of _ _ _ _ _ ?_
  unfold vc10
  have htl := htn.len
  refine c13 fun w1 u1 => ⟨_, rfl, brf rfl ?_⟩
  intro J hJ
  have main : ∀ (p : Sl) (ls : List (List Int)) (ss : List Sl), Parts w1 p ls ss → ls.length ≤ 40 → (∀ l ∈ ls, Byt l ∧ l.length ≤ 1000000000) → J p w1 := by
    intro p ls ss hp hn hbl
    refine hJ _ _ ?_
    clear hJ
    refine c33 hp hn (fun l hx => (hbl l hx).2) fun L bs ms w2 u2 X => ⟨_, rfl, ?_⟩
    have v2 := u1.then u2
    have z12 := u2.size
    refine ⟨fun i w' => ∃ (t : Nat) (ls' : List (List Int)) (bs' : List Nat), i = t ∧ t ≤ 13 ∧ Upd [] [] w w' ∧ w1.heap.size ≤ w'.heap.size ∧ Lw w1.heap.size w' L ls' bs' ms ∧ ls'.length = ls.length ∧ ∀ l ∈ ls', l.length ≤ 1000000000 ∧ Byt l, fun i _ => (13 - i).toNat, ⟨0, ls, bs, rfl, by omega, v2, z12, X, rfl, fun l hx => ⟨(hbl l hx).2, (hbl l hx).1⟩⟩, ?_⟩
    clear X
    rintro i w3 ⟨t, ls', bs', rfl, ht, u3, z3, X, hln, hl'⟩
    intro J2 hJ2
    have fin : Ret Try.prog 13 [] w3 fun r w4 => ∃ b : Bool, r = .bool b ∧ (SV.bool b = .bool true ∧ Upd [] [] w w4) := c13 fun w4 u4 => ⟨_, rfl, rfl, u3.then u4⟩
    refine brd (fun h1 => brd (fun h2 => ?_) (fun _ => fin)) (fun _ => fin)
    clear fin
    refine hJ2 _ ?_
    clear hJ2
    intro J3 hJ3
    have next : ∀ w' ls2 bs2, Upd [] [] w w' → w1.heap.size ≤ w'.heap.size → Lw w1.heap.size w' L ls2 bs2 ms → ls2.length = ls.length → (∀ l ∈ ls2, l.length ≤ 1000000000 ∧ Byt l) → J3 w' := fun w' ls2 bs2 a b c d e => hJ3 _ ⟨⟨t + 1, ls2, bs2, wr_succ (by omega), by omega, a, b, c, d, e⟩, by rw [wr_succ (by omega)]; (try dsimp only); omega⟩
    clear hJ3
    have n40 : ls'.length ≤ 40 := by omega
    rw [show inS L ls.length = inS L ls'.length by rw [hln]]
    have hP := X.parts
    have lX := X.lt
    -- copies
    refine ⟨fun s i w' => ∃ (q : Nat) (gs : List Sl), i = q ∧ q ≤ ls'.length ∧ Upd [] [] w3 w' ∧ LotC cU8 w3.heap.size w' s (ls'.take q) gs, fun _ i _ => (ls'.length - i).toNat, ⟨0, [], rfl, by omega, Upd.refl _, by simpa using LotC.nil _ _ _⟩, ?_⟩
    rintro s i w4 ⟨q, gs, rfl, hq, u4, Y⟩
    have X4 := X.old u4
    have hgl := Y.len
    rw [List.length_take] at hgl
    refine brd (fun hlt => ?_) (fun hge => ?_)
    · have hq2 : q < ls'.length := by
        have : (q : Int) < (ls'.length : Int) := hlt
        omega
      obtain ⟨b, eb, cb, rb⟩ := X4.part hq2
      refine needIx (by omega) hlt (X.row.isSome (by decide) (by rw [List.length_append, wSs_len X.len, X.ml]; omega)) ⟨wS b ls'[q], by rw [Int.toNat_natCast, at_in]; exact cb, ?_⟩
      have hlq := hl' _ (List.getElem_mem hq2)
      refine c34 rb.part (by omega) fun s5 w5 u5 hs5 ho5 => ⟨_, rfl, fun b6 w6 u6 hr6 => ?_⟩
      have z4 := u4.size; have z5 := u5.size; have z6 := u6.size
      have g5 := ho5.blk
      have lY := Y.lt
      refine LotC.app1B (c := cU8) ((Y.old u5).old u6) hr6 rfl rfl (hs5.old u6) ((ho5.old u6).mono (by omega)) (fun x hx hm => by have := g5 x hx; have := lY x hm; omega) (by omega) (by omega) (by simp) fun r w7 Y7 u7 n7 => ?_
      refine ⟨⟨q + 1, gs ++ [s5], wr_succ (by omega), by omega, ((u4.then u5).then u6).step0 u7 (fun x hx => (lY x (lotB_mem.2 (.inl hx))).1), ?_⟩, by rw [wr_succ (by omega)]; (try dsimp only); omega⟩
      have e : ls'.take (q + 1) = ls'.take q ++ [ls'[q]] := by rw [List.take_add_one, List.getElem?_eq_getElem hq2]; rfl
      rw [e]; exact Y7
    have hqe : q = ls'.length := by
      have : ¬ (q : Int) < (ls'.length : Int) := hge
      omega
    subst hqe
    rw [List.take_length] at Y
    clear hge hq
    intro J4 hJ4
    have P4 : Parts w4 (inS L ls'.length) ls' (wSs ls' bs') := X4.parts
    have Q4 : Parts w4 s ls' gs := ⟨Y.row, Y.len, Y.each⟩
    have hbb : ∀ l ∈ ls', Byt l := fun l hx => (hl' l hx).2
    have hle : ∀ l ∈ ls', l.length ≤ 140737488355328 := fun l hx => by have := (hl' l hx).1; omega
    have hfl := flat40 (ls := ls') 40 n40 (fun l hx => (hl' l hx).1)
    have V4 := u3.then u4
    have z4 := u4.size
    refine c16 P4 hbb (by omega) hle ⟨_, rfl, c19 Q4 hbb (by omega) (by omega) ⟨_, rfl, brf (by simp) ?_⟩⟩
    refine c17 P4 hbb (by omega) hle ⟨_, rfl, c20 Q4 hbb (by omega) (by omega) ⟨_, rfl, brf (by simp) ?_⟩⟩
    refine c18 P4 hbb (by omega) hle ⟨_, rfl, c21 Q4 hbb (by omega) (by omega) ⟨_, rfl, brf (by simp) ?_⟩⟩
    refine hJ4 _ ?_
    clear hJ4
    intro J5 hJ5
    have tail : ∀ w5, Upd [] [] w4 w5 → J5 w5 := by
      intro w5 u5
      refine hJ5 _ ?_
      clear hJ5
      have z5 := u5.size
      refine c35T (X4.old u5) (Q4.old u5) n40 (fun l hx => (hl' l hx).1) fun w6 u6 => ⟨_, rfl, brf rfl ?_⟩
      have z6 := u6.size
      have X6 := (X4.old u5).old u6
      have V6 := (V4.then u5).then u6
      refine brd (fun hlt => ?_) (fun _ => next w6 ls' bs' V6 (by omega) X6 hln hl')
      have ht2 : t < tn.length := by omega
      have h6 := htn.old V6
      have e0 := h6.elem ht2 0 (by simp [cTn])
      have e1 := h6.elem ht2 1 (by simp [cTn])
      have e2 := h6.elem ht2 2 (by simp [cTn])
      have e3 := h6.elem ht2 3 (by simp [cTn])
      rw [add_zero] at e0
      rw [Int.toNat_natCast]
      refine needIx (by omega) (by omega) (h6.isSome (by decide) (by omega)) ⟨_, e0, _, e1, _, e2, _, e3, ?_⟩
      refine c36 X6 n40 (fun l hx => (hl' l hx).1) hbb (hty _ (List.getElem_mem ht2)) (by omega) fun ls2 bs2 w7 u7 X7 hl7 hb7 => ⟨rfl, ?_⟩
      have l6 := X6.lt
      have zz := u1.size
      exact next w7 ls2 bs2 (V6.step0 u7 (fun x hx => by have := (l6 x hx).1; omega)) (by have := u7.size; omega) X7 (hl7.trans hln) hb7
    clear hJ5 next
    have hs1 := Q4.slen
    refine brd (fun hgt => ?_) (fun _ => tail w4 (Upd.refl _))
    have hgt : 1 < ls'.length := by
      have : ((ls'.length : Nat) : Int) > 1 := hgt
      omega
    have ps : (inS L ls'.length).ptr.isSome = true := X.row.isSome (by decide) (by rw [List.length_append, wSs_len X.len, X.ml]; omega)
    have pq := Q4.row.isSome (by decide) (by rw [Q4.len]; omega)
    have in_ : ∀ {w' : World}, Upd [] [] w4 w' → ∀ j (hj : j < ls'.length), ∃ g : Sl, w'.cell? ((inS L ls'.length).at 1 j) = some g.val ∧ SeesB w' g ls'[j] := fun u j hj => by
      obtain ⟨b, _, c, r⟩ := (X4.old u).part hj
      exact ⟨_, c, r.part⟩
    have now_ : ∀ {w' : World}, Upd [] [] w4 w' → ∀ j (hj : j < ls'.length), ∃ g : Sl, w'.cell? (s.at 1 j) = some g.val ∧ SeesB w' g ls'[j] := fun u j hj => by
      have hg : j < gs.length := by omega
      have := (Q4.old u).row.elem (i := j) hg 0 (by simp [cSl])
      rw [add_zero] at this
      exact ⟨_, this, (Q4.old u).each j hj⟩
    have ni : ∀ (j : Nat) (X : Prop), j < ls'.length → X → Need (decide ((j : Int) < (((inS L ls'.length).len : Nat) : Int)) && (inS L ls'.length).ptr.isSome) X := fun j X hj x => needC (by show (j : Int) < (ls'.length : Int); omega) ps x
    have nn : ∀ (j : Nat) (X : Prop), j < ls'.length → X → Need (decide ((j : Int) < (s.len : Int)) && s.ptr.isSome) X := fun j X hj x => needC (by omega) pq x
    have b0 := hbb _ (List.getElem_mem (show 0 < ls'.length by omega))
    have b1 := hbb _ (List.getElem_mem hgt)
    have l0 := (hl' _ (List.getElem_mem (show 0 < ls'.length by omega))).1
    have l1 := (hl' _ (List.getElem_mem hgt)).1
    obtain ⟨g0, c0, s0⟩ := in_ (Upd.refl w4) 0 (by omega)
    obtain ⟨g1, c1, s1⟩ := in_ (Upd.refl w4) 1 hgt
    refine ni 0 _ (by omega) ⟨g0, c0, ni 1 _ hgt ⟨g1, c1, fun w5 u5 => ?_⟩⟩
    refine c30 (s0.old u5) (s1.old u5) b0 b1 (by omega) (by omega) ⟨_, _, rfl, ?_⟩
    obtain ⟨g2, c2, s2⟩ := now_ u5 0 (by omega)
    obtain ⟨g3, c3, s3⟩ := now_ u5 1 hgt
    refine nn 0 _ (by omega) ⟨g2, c2, nn 1 _ hgt ⟨g3, c3, fun w6 u6 => ?_⟩⟩
    refine c31 (s2.old u6) (s3.old u6) b0 b1 (by omega) (by omega) fun w7 u7 => ⟨_, _, rfl, ?_⟩
    have v7 := (u5.then u6).then u7
    obtain ⟨g4, c4, s4⟩ := in_ v7 1 hgt
    refine ni 1 _ hgt ⟨g4, c4, ni 1 _ hgt ⟨g4, c4, fun w8 u8 => ?_⟩⟩
    refine c30 (s4.old u8) (s4.old u8) b1 b1 (by omega) (by omega) ⟨_, _, rfl, ?_⟩
    obtain ⟨g5, c5, s5⟩ := now_ (v7.then u8) 1 hgt
    refine nn 1 _ hgt ⟨g5, c5, nn 1 _ hgt ⟨g5, c5, fun w9 u9 => ?_⟩⟩
    refine c31 (s5.old u9) (s5.old u9) b1 b1 (by omega) (by omega) fun w10 u10 => ⟨_, _, rfl, ?_⟩
    exact brf (by simp) (brf (by simp) (brf (by simp) (brf (by simp) (tail w10 (((v7.then u8).then u9).then u10)))))
  clear hJ
  have hP1 := h.old u1
  have hpl := h.slen
  refine brd (fun hgt => needD (by omega) ?_) (fun hle => main parts ls0 ss hP1 (by omega) (fun l hx => ⟨hb l hx, hl l hx⟩))
  have hss := hP1.len
  refine main _ (ls0.take 40) (ss.take 40) ⟨?_, by simp [hss], fun i hi => ?_⟩ (by simp; omega) (fun l hx => ⟨hb l (List.mem_of_mem_take hx), hl l (List.mem_of_mem_take hx)⟩)
  · exact hP1.row.sub (lo := 0) (hi := 40) (mx := parts.cap) (by omega) (by omega) (by omega)
  · have hi2 : i < ls0.length := by simp at hi; omega
    simp only [List.getElem_take]
    exact hP1.each i hi2
end
end Go.Vc.S2
