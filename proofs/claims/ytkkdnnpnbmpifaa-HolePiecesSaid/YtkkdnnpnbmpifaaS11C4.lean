import Derived.Test.YtkkdnnpnbmpifaaS11L4
open Go Go.Vc Go.Proofs
set_option linter.unusedVariables false
set_option linter.unusedSimpArgs false
set_option autoImplicit false
namespace Go.Vc.S11
section
variable {R : SV → World → Prop} {w : World}
set_option maxRecDepth 20000 in
theorem c4 {data cuts order : Sl} {D cs os : List Int} (hd : SeesB w data D) (hb : Byt D) (hc : data.len ≤ data.cap) (hcs : Sees cI64 w cuts cs) (hcc : cuts.len ≤ cuts.cap) (hos : Sees cI64 w order os) (hol : os.length ≤ 140737488351232) : Ret Try.prog 4 [.slice data, .slice cuts, .slice order] w fun r w1 => r = .bool true ∧ Upd [] [] w w1 := by
  refine f4_of _ _ _ _ _ ?_
  unfold vc4
  refine c13 hd hc fun s w1 u1 hs1 ho1 => ⟨_, rfl, ?_⟩
  intro J hJ
  have main : ∀ (s : Sl) (E : List Int) (w2 : World), Upd [] [] w w2 → SeesB w2 s E → Byt E → 0 < E.length → E.length ≤ 4096 → s.len ≤ s.cap → (∀ x ∈ s.blk, x < w2.heap.size) → J s w2 := by
    intro s E w2 u2 hs hE h0 h1 hcap hbl
    refine hJ _ _ ?_
    clear hJ
    intro J1 hJ1
    have main1 : ∀ (c : Sl) (cs : List Int), Sees cI64 w2 c cs → cs.length ≤ 90 → J1 c w2 := by
      intro c cs hcs2 hcl
      refine hJ1 _ _ ?_
      clear hJ1
      refine c17 hs hcap hcs2 h1 hcl hbl fun sp tk ls w3 u3 hcut pc3 hll ho3 => ⟨_, rfl, ?_⟩
      have z3 := u3.size
      have v3 := u2.then u3
      refine c10 (fun q => by omega) fun _ _ h m G w4 u4 H4 => ⟨_, _, rfl, ?_⟩
      have z4 := u4.size
      have v4 := v3.then u4
      intro J2 hJ2
      refine brf rfl (brf (by simp) ?_)
      refine hJ2 _ ?_
      clear hJ2
      have hpl := pc3.sees.len
      have hpk := pc3.len
      have hsp : ∀ x ∈ sp.blk, x < w3.heap.size := fun x hx => (ho3.blk x hx).2
      -- the list of what has come
      refine ⟨fun sc i w' => Upd [] [] w4 w' ∧ ∃ t : Nat, i = t ∧ t ≤ ls.length ∧ Sees cBl w' sc (List.replicate t false) ∧ Own w4.heap.size 1 w' sc, fun _ i _ => (ls.length - i).toNat, ⟨Upd.refl _, 0, rfl, by omega, Sees.nil _ _ _ _, Own.none _ _ _⟩, ?_⟩
      rintro sc i w5 ⟨u5, t, rfl, ht, h5, o5⟩
      refine brd (fun hlt => ?_) (fun hge => ?_)
      · intro b w6 u6 hr6
        refine append_own (c := cBl) (new := [false]) (h5.old u6) (o5.old u6) (sees_row hr6 [false] rfl rfl) (u5.then u6).size (by simp) (by decide) (by simp; omega) fun r w7 hr7 ho7 u7 _ => ?_
        refine ⟨⟨(u5.then u6).step0 u7 (fun x hx => (o5.blk x hx).1), t + 1, wr_succ (by omega), by omega, ?_, ho7⟩, by rw [wr_succ (by omega)]; (try dsimp only); omega⟩
        rw [List.replicate_succ']; exact hr7
      · have : t = ls.length := by omega
        subst this
        clear hge ht
        have z5 := u5.size
        have lt4 := H4.lt
        have st0 : St4 w3.heap.size w w5 h m E ls (List.replicate ls.length false) (List.replicate ls.length false) ⟨65535, [], [(0, 65535)], -1, 0, []⟩ [] ⟨none, 0, 0⟩ G s sp sc tk :=
          ⟨Came.new rfl hcut h0 (by omega), H4.old u5, v4.then u5, ((hs.old u3).old u4).old u5, (pc3.old u4).old u5, h5, o5.mono z4, v3.size, by simp, fun x hx => by have := hbl x hx; omega, hsp, fun x hx hm => by have := (lt4 x hm).2; have := (o5.blk x hx).1; omega⟩
        have hc0 : (0 : Int) = (((List.replicate ls.length false).count true : Nat) : Int) := by rw [List.count_replicate]; rfl
        have fin : ∀ w', Upd [] [] w w' → (SV.bool true = .bool true ∧ Upd [] [] w w') := fun w' u' => ⟨rfl, u'⟩
        refine ⟨fun n i w' => ∃ (cm : List Bool) (S : Hs) (lf : List (Int × List Int)) (B G : Sl) (t : Nat), St4 w3.heap.size w w' h m E ls cm cm S lf B G s sp sc tk ∧ n = ((cm.count true : Nat) : Int) ∧ i = t ∧ t ≤ 400, fun _ i _ => (400 - i).toNat, ⟨_, _, _, _, _, 0, st0, hc0, rfl, by omega⟩, ?_⟩
        rintro n i w6 ⟨cm, S, lf, B, G', t, st, rfl, rfl, ht⟩
        clear st0
        have hsl := hos.len
        have ew : wr .i64 ((order.len : Int) + (sp.len : Int)) = order.len + sp.len := wr_i64 (by omega) (by omega)
        intro J3 hJ3
        rw [ew] at hJ3 ⊢
        refine brd (fun hlt => brd (fun hlt4 => ?_) (fun _ => ⟨rfl, st.u⟩)) (fun _ => ⟨rfl, st.u⟩)
        refine hJ3 _ ?_
        clear hJ3
        intro J4 hJ4 J5 hJ5
        have next : ∀ (cm : List Bool) (S : Hs) (lf : List (Int × List Int)) (B G : Sl) (w' : World), St4 w3.heap.size w w' h m E ls cm cm S lf B G s sp sc tk → J4 ((cm.count true : Nat) : Int) w' := fun cm S lf B G w' st' => hJ4 _ _ ⟨⟨cm, S, lf, B, G, t + 1, st', rfl, wr_succ (by omega), by omega⟩, by rw [wr_succ (q := t) (by omega)]; (try dsimp only); omega⟩
        clear hJ4
        have cl := st.c.len
        -- piece k
        have piece : ∀ k : Nat, k < ls.length → J5 (k : Int) w6 := by
          intro k hk
          refine hJ5 _ _ ?_
          clear hJ5
          have hp : ls[k]? = some ls[k] := List.getElem?_eq_getElem hk
          generalize ls[k] = p at hp
          have hv : cm[k]? = some (cm[k]'(by omega)) := List.getElem?_eq_getElem (by omega)
          generalize cm[k]'(by omega) = v at hv
          have tl : k < tk.length := by omega
          obtain ⟨q, q1, q2, q3, q4, q5, q6⟩ := st.pc.each k tk[k] (List.getElem?_eq_getElem tl)
          rw [hp] at q1
          cases q1
          obtain ⟨r1, r2, r3, r4, r5, r6, r7⟩ := hcut.each p (List.mem_of_getElem? hp)
          have hpb : Byt p.2.1 := by rw [r5]; exact (hE.drop _).take _
          obtain ⟨a, ha⟩ := st.pc.sees.ptr_some (by decide) (by omega)
          have hblk : sp.blk = [a.block] := blk_some ha
          have hat : ∀ j, (sp.at 3 j).block = a.block := fun j => by simp [Sl.at, ha]
          have pix : ∀ X : Prop, X → Need (decide (0 ≤ (k : Int)) && decide ((k : Int) < (sp.len : Int)) && sp.ptr.isSome) X := fun X x => needIx (by omega) (by omega) (st.pc.sees.isSome (by decide) (by omega)) x
          have c0 := st.pc.sees.elem tl 0 (by simp [cPc])
          have c1 := st.pc.sees.elem tl 1 (by simp [cPc])
          have c2 := st.pc.sees.elem tl 2 (by simp [cPc])
          rw [add_zero] at c0
          have han : a.block < w3.heap.size := hsp a.block (by rw [hblk]; simp)
          have z6 := st.u.size
          have lt6 := st.H.lt

          have zz : w3.heap.size ≤ w6.heap.size := by have := (lt6 h (by simp [Go.Vc.hblk])); omega
          have dis : ∀ x ∈ tk[k].2.1.blk, x < w6.heap.size ∧ x ∉ Go.Vc.hblk h B G' m := fun x hx => by
            have := st.bd x (q6 x hx)
            exact ⟨by omega, fun hm => by have := lt6 x hm; omega⟩
          rw [Int.toNat_natCast]
          refine ⟨[a.block], fun b hb => by rw [List.mem_singleton] at hb; subst hb; exact Nat.lt_of_lt_of_le han zz, pix _ ⟨by rw [hat]; simp, _, c0, pix _ ⟨by rw [add_block, hat]; simp, _, c1, pix _ ⟨by rw [add_block, hat]; simp, _, c2, ?_⟩⟩⟩⟩
          have ep1 : tk[k].1 = p.1 := q2
          have ep2 : tk[k].2.2 = p.2.2 := q3
          dsimp only [cPc, List.getElem_cons_zero, List.getElem_cons_succ] at *
          rw [ep1, ep2]
          have hE2 : E.length < 65535 := by omega
          have scn : ∀ x, w6.heap.size ≤ x → x ∉ sc.blk := fun x hx hm => by have := (st.o.blk x hm).2; omega
          refine ⟨fun w7 u7 => ?_, fun b1 => ⟨fun x _ => rfl, fun w7 u7 => ?_⟩⟩
          · have st7 := st.old u7
            have z7 := u7.size
            refine c12 st7.H st.c.g.ok (q4.old u7) q5 hpb (fun x hx => ⟨by have := (dis x hx).1; omega, (dis x hx).2⟩) (fun w8 u8 hne => absurd (st.c.err hcut hE2 hp) hne) (fun B8 G8 w8 he V8 H8 hn8 => ⟨_, _, _, _, rfl, fun b1 => ⟨fun x hx => ?_, ?_⟩⟩)
            · rw [List.mem_singleton] at hx
              subst hx
              rw [V8.keep a.block (by omega) (fun hm => by have := lt6 _ hm; omega), u7.keep a.block (by omega) (by simp)]
            · have st8 := st7.put hcut hE hE2 hp V8 H8 hn8
              have z8 := V8.size
              intro J6 hJ6
              refine chk4 (R := fun r w1 => r = .bool true ∧ Upd [] [] w w1) st.c st8 hcut hE h1 hp hv fun w9 u9 => ?_
              have nb := u9.new (b := b1) (by simp)
              (repeat refine And.intro rfl ?_)
              exact hJ6 _ (t4 (st8.old u9) hcut h0 h1 hll hv (scn b1 (by omega)) fun w10 st10 => next _ _ _ _ _ w10 st10)
          · have st7 := st.old u7
            have z7 := u7.size
            have nb := u7.new (b := b1) (by simp)
            refine c12 st7.H st.c.g.ok (q4.old u7) q5 hpb (fun x hx => ⟨by have := (dis x hx).1; omega, (dis x hx).2⟩) (fun w8 u8 hne => absurd (st.c.err hcut hE2 hp) hne) (fun B8 G8 w8 he V8 H8 hn8 => ⟨_, _, _, _, rfl, kpm V8 (fun x hx => by rw [List.mem_singleton] at hx; omega) (fun x hx hm => by rw [List.mem_singleton] at hx; have := lt6 x hm; omega), ?_⟩)
            have st8 := st7.put hcut hE hE2 hp V8 H8 hn8
            have z8 := V8.size
            intro J6 hJ6 w9 u9
            have hb8 : ∀ x ∈ Go.Vc.hblk h B8 G8 m, x ≠ b1 := fun x hx e => by
              subst e
              rcases hn8 x hx with q | q
              · have := lt6 x q; omega
              · omega
            have st9 := st8.upd u9 (fun x hx => by rw [List.mem_singleton] at hx; omega) (fun x hx hm => by rw [List.mem_singleton] at hm; exact hb8 x hx hm) (fun x hx hm => by rw [List.mem_singleton] at hm; subst hm; exact scn x (by omega) hx)
            refine chk4 (R := fun r w1 => r = .bool true ∧ Upd [] [] w w1) st.c st9 hcut hE h1 hp hv fun w10 u10 => ?_
            (repeat refine And.intro rfl ?_)
            exact hJ6 _ (t4 (st9.old u10) hcut h0 h1 hll hv (scn b1 (by omega)) fun w11 st11 => next _ _ _ _ _ w11 st11)
        have hlpos : 0 < ls.length := by
          obtain ⟨k, p, hk, _⟩ := hcut.cov 0 (by omega) (by omega)
          have := (List.getElem?_eq_some_iff.1 hk).1
          omega
        clear hJ5
        refine brd (fun hlt2 => ?_) (fun hge2 => ?_)
        · have ho6 := hos.old st.u
          refine needI ho6 (by omega) (by omega) ⟨_, intAt ho6 _ (by rw [Int.toNat_natCast]; omega), ?_⟩
          generalize os[Int.toNat (t : Int)]'(by rw [Int.toNat_natCast]; omega) = v
          have e40 : iand .i64 v 1099511627775 = v % 1099511627776 := by
            have := iand_mask (a := v) 40 (by omega)
            simpa using this
          rw [e40]
          have hm : Int.tmod (v % 1099511627776) (sp.len : Int) = (((v % 1099511627776).toNat % sp.len : Nat) : Int) := by
            rw [Int.tmod_eq_emod_of_nonneg (by omega)]
            have : (v % 1099511627776) = (((v % 1099511627776).toNat : Nat) : Int) := by omega
            rw [this]
            simp
          refine needNe (by omega) ?_
          rw [hm]
          have := Nat.mod_lt (v % 1099511627776).toNat (show 0 < sp.len by omega)
          exact piece _ (by omega)
        · have e1 : wr .i64 ((order.len : Int) + (sp.len : Int) - 1) = order.len + sp.len - 1 := wr_i64 (by omega) (by omega)
          rw [e1]
          have e2 : wr .i64 ((order.len : Int) + (sp.len : Int) - 1 - (t : Int)) = ((order.len + sp.len - 1 - t : Nat) : Int) := by rw [wr_i64 (by omega) (by omega)]; omega
          rw [e2]
          refine brd (fun q => by omega) (fun q => brd (fun q2 => ?_) (fun q2 => piece _ (by omega)))
          exact next cm S lf B G' w6 st
    clear hJ1
    have hcsl := hcs.len
    refine brd (fun hgt => needD (by omega) ?_) (fun hle => main1 cuts cs (hcs.old u2) (by omega))
    refine main1 _ (cs.take 90) ?_ (by simp; omega)
    exact (hcs.old u2).sub (lo := 0) (hi := 90) (mx := cuts.cap) (by omega) (by omega) (by omega)
  clear hJ
  have hl1 := hs1.len
  refine bre (fun h0 => ?_) (fun h0 => ?_)
  · intro b w2 u2 hr2
    have n2 := u2.new (b := b) (by simp)
    exact main _ [1] w2 (u1.then u2) (sees_row hr2 [1] rfl rfl) (by intro x hx; simp at hx; omega) (by simp) (by simp) (Nat.le_refl _) (by simp [Sl.blk]; omega)
  · exact main s _ w1 u1 hs1 (hb.take _) (by omega) (by simp; omega) ho1.le (fun x hx => (ho1.blk x hx).2)
end
end Go.Vc.S11
