import Derived.Test.YthijmbkpkopdpaaTopWholeOnce4K5
import Derived.Test.YthijmbkpkopdpaaTopWholeOnce4K2
import Derived.KernelRfl
import Derived.Test.YthijmbkpkopdpaaTopWholeOnce4K3
import Derived.Test.YthijmbkpkopdpaaTopWholeOnce4K4
section
open Go Go.Vc Go.Proofs
set_option linter.unusedVariables false
set_option linter.unusedSimpArgs false
set_option autoImplicit false
namespace Go.Vc.Stop
/-- blocks that are looked at -/
structure OptIn (P : Nat → Prop) (s : Sl) (l : List Opt) (os : List (Int × Sl)) : Prop where
  row : 0 < l.length → ∀ x ∈ s.blk, P x
  each : ∀ i (h : i < l.length) (h' : i < os.length), 0 < l[i].data.length → ∀ x ∈ os[i].2.blk, P x
theorem OptIn.mono {P Q : Nat → Prop} {s : Sl} {l : List Opt} {os : List (Int × Sl)} (h : OptIn P s l os) (hp : ∀ x, P x → Q x) : OptIn Q s l os :=
  ⟨fun a x hx => hp x (h.row a x hx), fun i a b c x hx => hp x (h.each i a b c x hx)⟩
theorem Sees.updP {α : Type} {c : Cod α} {w w1 : World} {s : Sl} {l : List α} {m n : List Nat} (h : Sees c w s l) (u : Upd m n w w1) (hm : 0 < l.length → ∀ x ∈ s.blk, x ∉ m) : Sees c w1 s l := by
  refine ⟨h.len, h.row.upd u (fun a ha hne => hm ?_ _ (by simp [blk_some ha]))⟩
  cases l with
  | nil => exact absurd (by simp [Cod.cells]) hne
  | cons x r => simp
theorem Opts.updP {w w1 : World} {s : Sl} {l : List Opt} {os : List (Int × Sl)} {m n : List Nat} (h : Opts w s l os) (u : Upd m n w w1) (hm : OptIn (fun x => x ∉ m) s l os) : Opts w1 s l os :=
  ⟨Sees.updP h.row u (fun hp => hm.row (by rw [← h.len]; exact hp)), h.len, h.kind, fun i hi => Sees.updP (h.each i hi) u (hm.each i hi _)⟩
theorem Sees.inH {α : Type} {c : Cod α} {w : World} {s : Sl} {l : List α} (h : Sees c w s l) (hc : 0 < c.sz) : 0 < l.length → ∀ x ∈ s.blk, x < w.heap.size := by
  intro hp x hx
  have h1 := h.elem hp 0 (by rw [c.len]; exact hc)
  have e : (s.at c.sz 0).block = x := by
    unfold Sl.blk at hx
    unfold Sl.at
    cases hq : s.ptr with
    | none => rw [hq] at hx; simp at hx
    | some a => rw [hq] at hx; simp at hx; subst hx; simp [Addr.add]
  have := cell_lt h1
  rw [← e]
  exact this
theorem Opts.inH {w : World} {s : Sl} {l : List Opt} {os : List (Int × Sl)} (h : Opts w s l os) : OptIn (fun x => x < w.heap.size) s l os :=
  ⟨fun hp => Sees.inH h.row (by decide) (by rw [h.len]; exact hp), fun i hi _ => Sees.inH (h.each i hi) (by decide)⟩
section
variable {N t : Nat} {w : World} {R : SV → World → Prop} {T : Tv} {hd : List Nat}
set_option maxRecDepth 20000 in
set_option maxHeartbeats 2000000 in
/-- a fragment is offered -/
theorem c7 {v : IpV} {s0 d0 : Sl} {o0 : List (Int × Sl)} (hT : TbAt N w t T hd) (hlt : (T.cs.length : Int) < T.max) (hst : ∀ c ∈ T.cs, c.state = 0 ∨ c.state = 1 ∨ c.state = 2)
    (hk : (keyH v).Ok) (hO : Opts w s0 v.opts o0) (hl : v.opts.length ≤ 4398046511000) (hod : ∀ o ∈ v.opts, o.data.length ≤ 140737488351232) (hbo : ∀ o ∈ v.opts, Byt o.data) (hD : SeesB w d0 v.data) (hdl : v.data.length ≤ 140737488351232) (hcap : d0.len ≤ d0.cap) (hbd : Byt v.data)
    (hdo : OptIn (fun x => x ∉ hd) s0 v.opts o0) (hdd : 0 < v.data.length → ∀ x ∈ d0.blk, x < w.heap.size ∧ x ∉ hd)
    (k : ∀ T' out o e so sd os w' hd', OffR T v T' out o e → Upd hd [] w w' → TbAt N w' t T' hd' → (∀ x ∈ hd', x ∈ hd ∨ w.heap.size ≤ x) → Opts w' so out.opts os → SeesB w' sd out.data → (∀ x ∈ sd.blk, w.heap.size ≤ x ∨ x ∈ d0.blk) → R (.tuple [ipSV out so sd, .int .i64 o, .int .i64 e]) w') :
    Ret Try.prog 7 [.ptr (some ⟨t, 0, none⟩), ipSV v s0 d0] w R := by
  refine f7_of _ _ _ _ _ _ _ _ _ _ _ _ _ _ _ _ ?_
  unfold vc7
  intro b b1 w1 u1
  have nb := u1.new (b := b) (by simp)
  have nb1 := u1.new (b := b1) (by simp)
  have z1 := u1.size
  have lt := hT.lt
  obtain ⟨mb, bT, mT, tin, mbin, tne, _⟩ := hT.more
  have hN : N ≤ w.heap.size := by have := lt t tin; omega
  -- an error, nothing changed
  have ek : ∀ (e : Int) (w3 : World), OffR T v T ipZ 0 e → Upd hd [] w w3 → TbAt N w3 t T hd → R (.tuple [ipSV ipZ ⟨none, 0, 0⟩ ⟨none, 0, 0⟩, .int .i64 0, .int .i64 e]) w3 := fun e w3 ho u h =>
    k T ipZ 0 e ⟨none, 0, 0⟩ ⟨none, 0, 0⟩ [] w3 hd ho u h (fun x hx => .inl hx) (Opts.nil _ _ _) (Sees.nil _ _ _ _) (by simp [Sl.blk])
  have ek' : ∀ (e : Int) (w3 : World), OffR T v T ipZ 0 e → Upd [] [] w w3 → R (.tuple [ipSV ipZ ⟨none, 0, 0⟩ ⟨none, 0, 0⟩, .int .i64 0, .int .i64 e]) w3 := fun e w3 ho u => ek e w3 ho (u.wide (by simp)) (hT.old u)
  have hb1 : ∀ x ∈ [b1], w.heap.size ≤ x := fun x hx => by simp at hx; omega
  refine c23 (v := v) (hO.old u1) (by omega) (fun o ho => by have := hod o ho; omega) hD.len (by omega) fun w2 u2 => ⟨_, rfl, kp u2, bre' (fun hne w3 u3 => ?_) (fun he => ?_)⟩
  · exact ek' _ w3 (.bad hne) ((u1.then u2).step0 u3 hb1)
  intro J hJ
  have v2 := u1.then u2
  have z2 := v2.size; have z12 := u2.size
  have frag : ¬ (v.mf = false ∧ v.off = 0) → J 0 0 false false 0 0 0 0 (fun _ => 0) 0 (fun _ => 0) ⟨none, 0, 0⟩ ⟨none, 0, 0⟩ w2 := by
    intro hfr
    refine hJ _ _ _ _ _ _ _ _ _ _ _ _ _ _ ?_
    clear hJ
    intro b4
    dsimp only [deref]
    refine ⟨_, (bT.old v2).at_ 3 (v := .map (some mb)) rfl, ?_⟩
    dsimp only [derefN]
    intro w3 u3
    have nb4 := u3.new (b := b4) (by simp)
    have v3 := v2.then u3
    have z3 := v3.size; have z23 := u3.size
    refine ⟨und56, _, mT.upd v3 (by simp), hT.keys (k := keyH v) hk, ents_shape, fun p bb hf => ?_⟩
    have hf' : Found (ents T.cs) (kSV (keyH v)).enc (.ptr none) (.ptr p) bb := hf
    have hT3 := hT.old v3
    -- the piece laid in, and what follows
    have go : (∀ i (hi : i < T.cs.length), (kSV T.cs[i].key).enc = (kSV (keyH v)).enc → readyV T.cs[i] 125 123 = 0) →
        ∀ R' : SV → World → Prop, (∀ (p : Option Addr) (b_6 : Bool) (n_8 n_9 : Int) (b_7 b_8 : Bool) (n_10 : Int) (w5 : World), Keeps [b, b1, b4] w3 w5 →
          (tail7r b1 R p b b4 v.off v.tos v.id v.df v.mf v.ttl v.proto v.sv v.sa v.dv v.da s0 d0 0 0 false false 0 0 0 0 (fun _ => 0) 0 (fun _ => 0) ⟨none, 0, 0⟩ ⟨none, 0, 0⟩ b_6 n_8 n_9 b_7 b_8 (some ⟨t, 0, none⟩) n_10 w5) → R' (.tuple [.struct [.ptr p, .bool b_6, .struct [.int .i64 n_8, .int .i64 n_9, .bool b_7], .bool b_8], .int .i64 n_10]) w5) →
        Ret Try.prog 25 [.ptr (some ⟨t, 0, none⟩), kSV (keyH v), .int .i64 65515, .int .i64 v.off, .slice d0, .bool v.mf] w3 R' := by
      intro hrd R' hR
      have hstk : ∀ i (hi : i < T.cs.length), (kSV T.cs[i].key).enc = (kSV (keyH v)).enc → T.cs[i].state = 0 := fun i hi e => by
        have h0 := hrd i hi e
        have h1 := hst _ (List.getElem_mem hi)
        unfold readyV at h0
        split at h0
        · cases h0
        · split at h0
          · cases h0
          · omega
      have bx3 : ∀ x ∈ [b, b1, b4], w.heap.size ≤ x ∧ x < w3.heap.size ∧ x ∉ hd := fun x hx => by
        have q : w.heap.size ≤ x ∧ x < w3.heap.size := by
          simp only [List.mem_cons, List.not_mem_nil, or_false] at hx
          rcases hx with e | e | e <;> subst e <;> omega
        exact ⟨q.1, q.2, fun hm => by have := lt x hm; omega⟩
      have b1x := bx3 b1 (by simp)
      -- behind the hold
      have held : ∀ (T1 : Tv) (i : Nat) (hi : i < T1.cs.length) (hd1 : List Nat) (b9 : Nat) (w8 : World) (J2 : Int → World → Prop) (fr : Bool) (x1 x2 : Int) (y1 y2 : Bool), TbAt N w8 t T1 hd1 → T1.cs[i].state = 0 → Upd hd [] w w8 → (∀ x ∈ hd1, x ∈ hd ∨ w.heap.size ≤ x) → (∀ x ∈ hd1, x ∉ [b, b1, b4, b9]) → w.heap.size ≤ b9 → b9 < w8.heap.size → w3.heap.size ≤ w8.heap.size →
          (∀ T' out o e, Acc T1 i (stC T1.cs[i] v) T' out o e → OffR T v T' out o e) →
          (∀ z w6, tail7b z b1 w6 R (some ⟨T1.cs[i].p, 0, none⟩) b b4 b9 v.off v.tos v.id v.df v.mf v.ttl v.proto v.sv v.sa v.dv v.da s0 d0 0 0 false false 0 0 0 0 (fun _ => 0) 0 (fun _ => 0) ⟨none, 0, 0⟩ ⟨none, 0, 0⟩ fr x1 x2 y1 y2 J2) → J2 0 w8 := by
        intro T1 i hi hd1 b9 w8 J2 fr x1 x2 y1 y2 hT1 hs1 U8 sub8 off8 g1 g2 g3 hacc hb
        have hO8 := Opts.updP hO U8 hdo
        have hD8 := Sees.updP hD U8 (fun hp x hx => (hdd hp x hx).2)
        refine body7_ok (w0 := w) (hd0 := hd) hT1 hi hs1 U8 hN sub8 (fun x hx => ?_) hO8 hl hod hbo hD8 hdl (fun T' out o e so sd os w' hd' a1 a2 a3 a4 a5 a6 a7 => k T' out o e so sd os w' hd' (hacc T' out o e a1) a2 a3 a4 a5 a6 (fun x hx => .inl (a7 x hx))) (hb 0 w8)
        refine ⟨fun hm => off8 x hm hx, ?_⟩
        simp only [List.mem_cons, List.not_mem_nil, or_false] at hx
        rcases hx with e | e | e | e <;> subst e <;> omega
      refine c25 (k := keyH v) hT3 hk hstk (hD.old v3) hcap hbd (fun hp x hx => ⟨by have := (hdd hp x hx).1; omega, (hdd hp x hx).2⟩) (fun i hi w5 ek1 u5 he1 => ?_) (fun i hi w5 hd5 ek1 he1 u5 hT5 sub5 => ?_) (fun p5 w5 no u5 he1 => ?_) (fun p5 w5 hdc no he1 u5 hC5 nw5 => ?_)
      · refine hR _ _ _ _ _ _ _ w5 (kp u5) (rest7_err (fun h => he1 (by unfold lerr at h; split at h; cases h; exact h)) fun w6 u6 => ?_)
        exact ek' _ w6 (.far i hi he hfr ek1 (hrd i hi ek1) he1) ((v3.then u5).step0 u6 hb1)
      · have U5 : Upd hd [] w w5 := (v3.wide (m' := hd) (by simp)).step u5 (fun x hx => .inr hx)
        have sub5' : ∀ x ∈ hd5, x ∈ hd ∨ w3.heap.size ≤ x := sub5
        have bx5 : ∀ x ∈ [b, b1, b4], x ∉ hd5 := fun x hx hm => by
          rcases sub5 x hm with q | q
          · exact (bx3 x hx).2.2 q
          · have := (bx3 x hx).2.1; omega
        refine hR _ _ _ _ _ _ _ w5 (kpm u5 (fun x hx => (bx3 x hx).2.1) (fun x hx => (bx3 x hx).2.2)) ?_
        by_cases hdup : newN v.off (v.off + v.data.length) T.cs[i].S.gaps = 0 ∧ endF T.cs[i].S (putS T.cs[i].S v.off v.data v.mf) = false
        · refine rest7_dup hdup fun w6 u6 => ?_
          refine k _ ipZ 0 121 ⟨none, 0, 0⟩ ⟨none, 0, 0⟩ [] w6 hd5 (.dup i hi he hfr ek1 (hrd i hi ek1) he1 hdup) (U5.step u6 (fun x hx => .inl (hb1 x hx))) (hT5.upd u6 (fun x hx hm => by simp at hm; subst hm; exact bx5 x (by simp) hx)) (fun x hx => ?_) (Opts.nil _ _ _) (Sees.nil _ _ _ _) (by simp [Sl.blk])
          rcases sub5 x hx with q | q
          · exact .inl q
          · exact .inr (by omega)
        · refine rest7_ok hdup fun b9 w6 u6 J2 hJ2 R2 hR2 => ?_
          have n9 := u6.new (b := b9) (by simp)
          have hT6 := hT5.old u6
          have z5 := u5.size; have z6 := u6.size
          have hi5 : i < ({ T with cs := T.cs.set i (putC T.cs[i] v.off v.data v.mf) } : Tv).cs.length := by simpa using hi
          have e5 : ({ T with cs := T.cs.set i (putC T.cs[i] v.off v.data v.mf) } : Tv).cs[i] = putC T.cs[i] v.off v.data v.mf := by simp
          have c26 := c26F (R := R2) (x1 := newN v.off (v.off + v.data.length) T.cs[i].S.gaps) (x2 := v.data.length - newN v.off (v.off + v.data.length) T.cs[i].S.gaps) (y1 := sameS T.cs[i].S v.off v.data v.mf) (y2 := endF T.cs[i].S (putS T.cs[i].S v.off v.data v.mf)) hT6 hi5
          rw [e5] at c26
          refine c26 fun w8 hd8 u8 hT8 sub8 => ?_
          have l5 := hT5.lt
          have off9 : ∀ x ∈ hd8, x ∉ [b, b1, b4, b9] := fun x hx hm => by
            rcases sub8 x hx with q | q
            · have := (l5 x q).2
              by_cases e : x = b9
              · omega
              · exact bx5 x (by simp at hm ⊢; omega) q
            · by_cases e : x = b9
              · omega
              · have := (bx3 x (by simp at hm ⊢; omega)).2.1; omega
          have offh : ∀ x ∈ [b, b1, b4, b9], x < w6.heap.size ∧ x ∉ hd5 := fun x hx => by
            by_cases e : x = b9
            · exact ⟨by omega, fun hm => by have := (l5 x hm).2; omega⟩
            · have hx' : x ∈ [b, b1, b4] := by simp at hx ⊢; omega
              exact ⟨by have := (bx3 x hx').2.1; omega, bx5 x hx'⟩
          refine hR2 w8 (kpm u8 (fun x hx => (offh x hx).1) (fun x hx => (offh x hx).2)) ?_
          have hset : (T.cs.set i (putC T.cs[i] v.off v.data v.mf)).set i (incC (putC T.cs[i] v.off v.data v.mf)) = T.cs.set i (incC (putC T.cs[i] v.off v.data v.mf)) := by simp
          have hT8' : TbAt N w8 t { T with cs := T.cs.set i (incC (putC T.cs[i] v.off v.data v.mf)) } hd8 := by
            have := hT8
            simp only [hset] at this
            exact this
          have e8 : ({ T with cs := T.cs.set i (incC (putC T.cs[i] v.off v.data v.mf)) } : Tv).cs[i]'(by simpa using hi) = incC (putC T.cs[i] v.off v.data v.mf) := by simp
          have z8 := u8.size
          refine held { T with cs := T.cs.set i (incC (putC T.cs[i] v.off v.data v.mf)) } i (by simpa using hi) hd8 b9 w8 J2 _ _ _ _ _ hT8' (by rw [e8]; exact hstk i hi ek1) ((U5.step u6 (by simp)).step u8 (fun x hx => ?_)) (fun x hx => ?_) off9 (by omega) (by omega) (by omega) (fun T' out o e ha => .more i hi T' out o e he hfr ek1 (hrd i hi ek1) he1 hdup (by rw [e8] at ha; exact ha)) (fun z w' => by rw [e8]; exact hJ2 z w')
          · rcases sub5 x hx with q | q
            · exact .inr q
            · exact .inl (by omega)
          · rcases sub8 x hx with q | q
            · rcases sub5 x q with q | q
              · exact .inl q
              · exact .inr (by omega)
            · exact .inr (by omega)
      · refine hR _ _ _ _ _ _ _ w5 (kp u5) (rest7_err (fun h => he1 (by unfold lerr at h; split at h; cases h; exact h)) fun w6 u6 => ?_)
        exact ek' _ w6 (.far0 he hfr no he1) ((v3.then u5).step0 u6 hb1)
      · refine hR _ _ _ _ _ _ _ w5 (kp u5) ?_
        have v5 := v3.then u5
        by_cases hdup : newN v.off (v.off + v.data.length) newS.gaps = 0 ∧ endF newS (putS newS v.off v.data v.mf) = false
        · exact rest7_dup hdup fun w6 u6 => ek' _ w6 (.dup0 he hfr no he1 hdup) (v5.step0 u6 hb1)
        · refine rest7_ok hdup fun b9 w6 u6 J2 hJ2 R2 hR2 => ?_
          have n9 := u6.new (b := b9) (by simp)
          have v6 := v5.then u6
          have hT6 := hT.old v6
          have z5 := u5.size; have z6 := u6.size
          have hCl := hC5.lt
          have hdisc : ∀ x ∈ hdc, x ∉ hd := fun x hx hm => by have := nw5 x hx; have := lt x hm; omega
          refine c26N (c := putC (newC (keyH v) T.ticks p5) v.off v.data v.mf) hT6 hlt (hC5.upd u6 (by simp)) hdisc no fun w8 u8 hT8 => ?_
          have z8 := u8.size
          have off9 : ∀ x ∈ hd ++ hdc, x ∉ [b, b1, b4, b9] := fun x hx hm => by
            have q : x < w5.heap.size ∧ (x ∈ hd ∨ w3.heap.size ≤ x) := by
              rcases List.mem_append.1 hx with q | q
              · exact ⟨by have := lt x q; omega, .inl q⟩
              · exact ⟨(hCl x q).2, .inr (nw5 x q)⟩
            by_cases e : x = b9
            · omega
            · have hx' := bx3 x (by simp at hm ⊢; omega)
              rcases q.2 with q2 | q2
              · exact hx'.2.2 q2
              · omega
          refine hR2 w8 (kpm u8 (fun x hx => ?_) (fun x hx hm => off9 x hm hx)) ?_
          · by_cases e : x = b9
            · omega
            · have := (bx3 x (by simp at hx ⊢; omega)).2.1; omega
          have e8 : (T.cs ++ [incC { putC (newC (keyH v) T.ticks p5) v.off v.data v.mf with began := T.begun }])[T.cs.length]'(by simp) = incC { putC (newC (keyH v) T.ticks p5) v.off v.data v.mf with began := T.begun } := by simp
          refine held { T with begun := wr .i64 (T.begun + 1), cs := T.cs ++ [incC { putC (newC (keyH v) T.ticks p5) v.off v.data v.mf with began := T.begun }] } T.cs.length (by simp) (hd ++ hdc) b9 w8 J2 _ _ _ _ _ hT8 (by rw [e8]; rfl) ((v6.wide (m' := hd) (by simp)).step u8 (fun x hx => ?_)) (fun x hx => ?_) off9 (by omega) (by omega) (by omega) (fun T' out o e ha => .more0 p5 T' out o e he hfr no he1 hdup (by rw [e8] at ha; exact ha)) (fun z w' => by rw [e8]; exact hJ2 z w')
          · rcases List.mem_append.1 hx with q | q
            · exact .inr q
            · exact .inl (by have := nw5 x q; omega)
          · rcases List.mem_append.1 hx with q | q
            · exact .inl q
            · exact .inr (by have := nw5 x q; omega)
    have bx4 : ∀ x ∈ [b, b1, b4], x < w3.heap.size := fun x hx => by
      simp only [List.mem_cons, List.not_mem_nil, or_false] at hx
      rcases hx with e | e | e <;> subst e <;> omega
    rcases found_ents hf' with ⟨rfl, no⟩ | ⟨i, hi, ek1, rfl⟩
    · refine c24N ⟨_, rfl, kp (Upd.refl _), brf rfl ?_⟩
      exact go (fun i hi e => absurd e (no _ (List.getElem_mem hi))) _ (fun p b_6 n_8 n_9 b_7 b_8 n_10 w5 kk hh => ⟨p, b_6, n_8, n_9, b_7, b_8, n_10, rfl, kk, hh⟩)
    · obtain ⟨hdi, hC, _, _⟩ := hT3.at hi
      obtain ⟨hp, so, sd, j, os, hb', hBk, _⟩ := hC.ex
      refine c24 hBk ⟨_, rfl, kp (Upd.refl _), bre' (fun hne w4 u4 => ?_) (fun he0 => ?_)⟩
      · exact ek' _ w4 (.busy i hi he hfr ek1 hne) (v3.step0 u4 hb1)
      · exact go (fun i' hi' e => by
          have := hT.dis i' i hi' hi (e.trans ek1.symm)
          subst this
          exact he0) _ (fun p b_6 n_8 n_9 b_7 b_8 n_10 w5 kk hh => ⟨p, b_6, n_8, n_9, b_7, b_8, n_10, rfl, kk, hh⟩)
  refine brb (fun hmf => ?_) (fun hmf => ?_)
  · have hmf : v.mf = false := by simpa using hmf
    refine bre (fun e0 w3 u3 => ?_) (fun ne => ?_)
    · have U3 := v2.step0 u3 hb1
      exact k T v 1 0 s0 d0 o0 w3 hd (.plain he hmf e0) (U3.wide (by simp)) (hT.old U3) (fun x hx => .inl hx) (hO.old U3) (hD.old U3) (fun x hx => .inr hx)
    · (repeat refine And.intro rfl ?_)
      exact frag (fun h => ne h.2)
  · have hmf : v.mf = true := by simpa using hmf
    (repeat refine And.intro rfl ?_)
    exact frag (fun h => by rw [hmf] at h; cases h.1)
end
end Go.Vc.Stop
end

section
open Go Go.Vc Go.Proofs
set_option linter.unusedVariables false
set_option linter.unusedSimpArgs false
set_option autoImplicit false
namespace Go.Vc.Stop
theorem iterL_len {w : World} {it r : Nat} {l : List (Value × SV)} {seen : List Nat} (h : IterL w it r l seen) : ∃ c S, w.heap[it]? = some (.mapIter (some r) c S c) ∧ S.size = seen.length ∧ ∀ i ∈ seen, i < l.length := by
  obtain ⟨es, c, S, h1, h2, ⟨h3, _⟩, h4, h5⟩ := h
  have hl : es.size = l.length := by have := congrArg List.length h3; simpa using this
  exact ⟨c, S, h1, by have := congrArg List.length h5; simpa using this, fun i hi => by have := h4 i hi; omega⟩
/-- how many are still to come -/
noncomputable def leftM (n b : Nat) (w : World) : Nat := match w.heap[b]? with | some (.mapIter _ _ S _) => n - S.size | _ => 0
theorem leftM_eq {n b r : Nat} {w : World} {l : List (Value × SV)} {seen : List Nat} (h : IterL w b r l seen) : leftM n b w = n - seen.length := by
  obtain ⟨c, S, h1, h2, _⟩ := iterL_len h
  unfold leftM
  rw [h1, ← h2]
section
variable {N t : Nat} {w : World} {R : SV → World → Prop} {T : Tv} {hd : List Nat}
end
end Go.Vc.Stop
end

section
open Go Go.Vc Go.Vc.Stop Go.Proofs
set_option maxRecDepth 100000
set_option linter.unusedVariables false
namespace Go.Vc.Stop
def vc11 (a : Sl) (b : Sl) (w : World) (R : SV → World → Prop) : Prop :=
  BytesStr w a fun (b_1 : ByteArray) => BytesStr w b fun (b : ByteArray) => R (SV.bool (b_1 == b)) w
theorem f11_of (a : Sl) (b : Sl) (w : World) (R : SV → World → Prop) (hV : vc11 a b w R) : Ret Try.prog 11 [.slice a, .slice b] w R :=
  have e : vc11 a b w R = fnVC X Try.f11 a11 [.slice a, .slice b] w R := by kernel_rfl
  fnVC_sound X_ok (n := a11) (e ▸ hV) (by kernel_rfl) (by kernel_rfl) rfl rfl

end Go.Vc.Stop
end

section
open Go Go.Vc Go.Proofs
set_option linter.unusedVariables false
set_option linter.unusedSimpArgs false
set_option autoImplicit false
namespace Go.Vc.Stop
section
variable {N sb : Nat} {w w1 : World} {lb : List Int} {li : List Bool} {e : Int} {B I : Sl} {R : SV → World → Prop}
end
end Go.Vc.Stop
end

section
open Go Go.Vc Go.Proofs
set_option linter.unusedVariables false
set_option linter.unusedSimpArgs false
set_option autoImplicit false
namespace Go.Vc.Stop
section
variable {N sb : Nat} {w : World} {lb : List Int} {li : List Bool} {e : Int} {B I : Sl} {R : SV → World → Prop}
theorem c11 {a b : Sl} {la lb : List Int} {w : World} {R : SV → World → Prop} (ha : SeesB w a la) (hb : SeesB w b lb) (ba : Byt la) (bb : Byt lb) (k : R (.bool (decide (la = lb))) w) : Ret Try.prog 11 [.slice a, .slice b] w R := by
  refine f11_of _ _ _ _ ?_
  unfold vc11
  exact alike (R := fun x => R (.bool x) w) ha hb ba bb k
theorem c5 {mx tk : Int} (h1 : 1 ≤ mx ∧ mx ≤ 256) (h2 : 1 ≤ tk ∧ tk ≤ 1048576) (k : ∀ t mb w1, Upd [] [] w w1 → TbAt w.heap.size w1 t ⟨mx, tk, 0, []⟩ [t, mb] → w.heap.size ≤ t → w.heap.size ≤ mb → R (.tuple [.ptr (some ⟨t, 0, none⟩), .int .i64 0]) w1) : Ret Try.prog 5 [.int .i64 mx, .int .i64 tk] w R := by
  refine f5_of _ _ _ _ ?_
  unfold vc5
  intro J hJ
  refine brd (fun h => by omega) (fun _ => brd (fun h => by omega) (fun _ => brd (fun h => by omega) (fun _ => brd (fun h => by omega) (fun _ => hJ _ ?_))))
  clear hJ
  intro mb w1 u1 hm t w2 u2 hr2
  have n1 := u1.new (b := mb) (by simp)
  have n2 := u2.new (b := t) (by simp)
  have bT := Blk.row (L := [.int .i64 mx, .int .i64 tk, .int .i64 0, .map (some mb)]) hr2
  have z1 := u1.size; have z2 := u2.size
  refine k t mb w2 (u1.forget.then u2) ⟨⟨mb, fun x => if x = t then 1 else 2, bT, hm.upd u2 (by simp), ⟨by simp, by simp⟩, ⟨by simp, by dsimp only; rw [if_neg (by omega)]⟩, fun i hi => by simp at hi⟩, fun x hx => ?_, fun i j hi => by simp at hi⟩ (by omega) (by omega)
  simp at hx
  omega
end
end Go.Vc.Stop
end

section
open Go Go.Vc Go.Proofs
set_option linter.unusedVariables false
set_option linter.unusedSimpArgs false
set_option autoImplicit false
namespace Go.Vc.Stop
theorem newN_nonneg {top off e : Int} (hoe : off < e) : ∀ {l : List (Int × Int)} {b : Int}, Rise top b l → 0 ≤ newN off e l
  | [], _, _ => by simp [newN]
  | g :: r, b, ⟨h1, h2, h3, h4⟩ => by
    have ih := newN_nonneg hoe h4
    simp only [newN]
    split
    · omega
    · split
      · exact ih
      · omega
section
variable {tk : List (Int × List Int)} {lb lb' : List Int} {li li' : List Bool} {l : List Int}
end
end Go.Vc.Stop
end

section
open Go Go.Vc Go.Proofs
set_option linter.unusedVariables false
set_option linter.unusedSimpArgs false
set_option autoImplicit false
namespace Go.Vc.Stop
theorem stC_same (c : Cv) (v : IpV) : (stC c v).S = c.S ∧ (stC c v).tk = c.tk ∧ (stC c v).state = c.state ∧ (stC c v).frags = c.frags ∧ (stC c v).key = c.key := by
  unfold stC
  split <;> exact ⟨rfl, rfl, rfl, rfl, rfl⟩
section
variable {n : Int} {k0 : KeyV} {T T' : Tv} {lb : List Int} {li : List Bool} {e : Int} {v out : IpV} {o e' : Int}
end
end Go.Vc.Stop
end

section
open Go Go.Vc Go.Proofs
set_option linter.unusedVariables false
set_option linter.unusedSimpArgs false
set_option autoImplicit false
namespace Go.Vc.Stop
/-- pieces that part some bytes: place, bytes, more -/
structure Cutting (D : List Int) (ls : List (Int × List Int × Bool)) : Prop where
  each : ∀ p ∈ ls, 0 ≤ p.1 ∧ p.1 % 8 = 0 ∧ 0 < p.2.1.length ∧ p.1 + p.2.1.length ≤ D.length ∧ p.2.1 = (D.drop p.1.toNat).take p.2.1.length ∧ p.2.2 = decide (p.1 + p.2.1.length < D.length) ∧ (p.2.2 = true → p.2.1.length % 8 = 0)
  cov : ∀ i, 0 ≤ i → i < (D.length : Int) → ∃ (k : Nat) (p : Int × List Int × Bool), ls[k]? = some p ∧ p.1 ≤ i ∧ i < p.1 + p.2.1.length
  apart : ls.Pairwise fun (p q : Int × List Int × Bool) => p.1 + (p.2.1.length : Int) ≤ q.1
theorem Cutting.one {D : List Int} {ls : List (Int × List Int × Bool)} (c : Cutting D ls) {j k : Nat} {p q : Int × List Int × Bool} {i : Int} (hj : ls[j]? = some p) (hk : ls[k]? = some q) (h1 : p.1 ≤ i ∧ i < p.1 + p.2.1.length) (h2 : q.1 ≤ i ∧ i < q.1 + q.2.1.length) : j = k := by
  have ap := List.pairwise_iff_getElem.1 c.apart
  obtain ⟨a1, a2⟩ := List.getElem?_eq_some_iff.1 hj
  obtain ⟨b1, b2⟩ := List.getElem?_eq_some_iff.1 hk
  rcases Nat.lt_trichotomy j k with h | h | h
  · have := ap j k a1 b1 h
    rw [a2, b2] at this
    omega
  · exact h
  · have := ap k j b1 a1 h
    rw [a2, b2] at this
    omega
theorem firstB_none {i : Int} : ∀ {l : List (Int × List Int)}, firstB l i = none ↔ ∀ p ∈ l, ¬ (p.1 ≤ i ∧ i < p.1 + p.2.length)
  | [] => by simp [firstB]
  | p :: r => by
    simp only [firstB]
    by_cases c : p.1 ≤ i ∧ i < p.1 + p.2.length
    · rw [if_pos c]
      simp only [reduceCtorEq, false_iff]
      intro h
      exact h p (by simp) c
    · rw [if_neg c, firstB_none]
      constructor
      · intro h q hq
        rcases List.mem_cons.1 hq with rfl | hq
        · exact c
        · exact h q hq
      · intro h q hq
        exact h q (List.mem_cons_of_mem _ hq)
theorem firstB_some {i v : Int} : ∀ {l : List (Int × List Int)}, firstB l i = some v → ∃ p ∈ l, p.1 ≤ i ∧ i < p.1 + p.2.length ∧ v = bt p.2 (i - p.1)
  | p :: r, h => by
    simp only [firstB] at h
    split at h
    · rename_i c
      exact ⟨p, by simp, c.1, c.2, (Option.some.inj h).symm⟩
    · obtain ⟨q, hq, x⟩ := firstB_some h
      exact ⟨q, List.mem_cons_of_mem _ hq, x⟩
theorem newN_zeroC {top off e : Int} (hoe : off < e) : ∀ {l : List (Int × Int)} {b : Int}, Rise top b l → (∀ i, off ≤ i → i < e → inG i l = false) → newN off e l = 0
  | [], _, _, _ => rfl
  | g :: r, b, ⟨h1, h2, h3, h4⟩, h => by
    have ih := newN_zeroC hoe h4 (fun i a c => by have := h i a c; simp only [inG, Bool.or_eq_false_iff] at this; exact this.2)
    unfold newN
    split
    · rfl
    · split
      · exact ih
      · rename_i q1 q2
        have := h (max g.1 off) (by omega) (by omega)
        simp only [inG, Bool.or_eq_false_iff] at this
        have t := this.1
        rw [decide_eq_true (by omega), decide_eq_true (by omega)] at t
        cases t
theorem newN_pos {top off e i : Int} (hoe : off < e) (h1 : off ≤ i) (h2 : i < e) : ∀ {l : List (Int × Int)} {b : Int}, Rise top b l → inG i l = true → 0 < newN off e l
  | g :: r, b, ⟨q1, q2, q3, q4⟩, h => by
    have nn := newN_nonneg hoe q4
    unfold newN
    simp only [inG, Bool.or_eq_true, Bool.and_eq_true, decide_eq_true_eq] at h
    rcases h with h | h
    · rw [if_neg (by omega), if_neg (by omega)]
      omega
    · have ih := newN_pos hoe h1 h2 q4 h
      have : g.2 < i := by
        rcases Int.lt_or_le g.2 i with c | c
        · exact c
        · rw [inG_low q4 c] at h; cases h
      rw [if_neg (by omega)]
      split
      · exact ih
      · omega
/-- the last hole, where all behind a place is a hole -/
theorem topS_le {S : Hs} {L : Int} (g : Good S) (hf : S.fin < 0) (hL : L < S.max) (h : ∀ i, L ≤ i → i < S.max → inG i S.gaps = true) : topS S ≤ max L 0 := by
  have e0 : bnd S = S.max := by unfold bnd; rw [if_neg (by omega)]
  have ri := g.ri
  have gm := g.mx
  rw [e0] at ri
  have mem : ∀ {l : List (Int × Int)} {i : Int}, inG i l = true → ∃ x ∈ l, x.1 ≤ i ∧ i < x.2 := by
    intro l
    induction l with
    | nil => intro i h; cases h
    | cons x r ih =>
      intro i h
      simp only [inG, Bool.or_eq_true, Bool.and_eq_true, decide_eq_true_eq] at h
      rcases h with h | h
      · exact ⟨x, by simp, h⟩
      · obtain ⟨y, hy, z⟩ := ih h
        exact ⟨y, List.mem_cons_of_mem _ hy, z⟩
  rcases List.eq_nil_or_concat S.gaps with q | ⟨c, y, q⟩
  · have := h (S.max - 1) (by omega) (by omega)
    rw [q] at this
    cases this
  · rw [List.concat_eq_append] at q
    have tq : topS S = if y.2 = S.max then y.1 else S.max := by unfold topS; rw [q, List.getLast?_concat]
    rw [q] at ri h
    obtain ⟨k1, k2, k3, k4, k5⟩ := Rise.init ri
    have hy : y.2 = S.max := by
      obtain ⟨x, hx, z1, z2⟩ := mem (h (S.max - 1) (by omega) (by omega))
      rcases List.mem_append.1 hx with hx | hx
      · have := k2 x hx; omega
      · rw [List.mem_singleton] at hx; subst hx; omega
    rw [tq, if_pos hy]
    rcases Int.lt_or_le (max L 0) y.1 with a | a
    · obtain ⟨x, hx, z1, z2⟩ := mem (h (y.1 - 1) (by omega) (by omega))
      rcases List.mem_append.1 hx with hx | hx
      · have := k2 x hx; omega
      · rw [List.mem_singleton] at hx; subst hx; omega
    · exact a
/-- where it stands: which pieces have come -/
structure Came (D : List Int) (ls : List (Int × List Int × Bool)) (come : List Bool) (S : Hs) (lf : List (Int × List Int)) : Prop where
  g : Good S
  hx : S.max = 65515
  f : First S lf
  len : come.length = ls.length
  lf1 : ∀ q ∈ lf, ∃ (k : Nat) (p : Int × List Int × Bool), ls[k]? = some p ∧ come[k]? = some true ∧ q = (p.1, p.2.1)
  lf2 : ∀ (k : Nat) (p : Int × List Int × Bool), ls[k]? = some p → come[k]? = some true → (p.1, p.2.1) ∈ lf
  seen : ∀ (k : Nat) (p : Int × List Int × Bool), ls[k]? = some p → ((p.1, (p.2.1.length : Int), p.2.2) ∈ S.seen ↔ come[k]? = some true)
  fin : (S.fin = -1 ∧ ∀ (k : Nat) (p : Int × List Int × Bool), ls[k]? = some p → p.2.2 = false → come[k]? ≠ some true) ∨ (S.fin = D.length ∧ ∀ (k : Nat) (p : Int × List Int × Bool), ls[k]? = some p → p.2.2 = false → come[k]? = some true)
section
variable {D : List Int} {ls : List (Int × List Int × Bool)} {come : List Bool} {S : Hs} {lf : List (Int × List Int)} {k : Nat} {p : Int × List Int × Bool}
theorem bt_win {D : List Int} {o n : Nat} {i : Int} (h0 : (o : Int) ≤ i) (h1 : i < o + n) : bt ((D.drop o).take n) (i - o) = bt D i := by
  unfold bt
  simp only [List.getD_eq_getElem?_getD, List.getElem?_take, List.getElem?_drop]
  rw [if_pos (by omega)]
  congr 2
  omega
theorem Came.new (hl : come = List.replicate ls.length false) (hc : Cutting D ls) (hD : 0 < D.length) (hD2 : D.length ≤ 65515) : Came D ls come ⟨65515, [], [(0, 65515)], -1, 0, []⟩ [] := by
  subst hl
  refine ⟨Good.new (by omega) (by omega), rfl, First.new (by omega), by simp, by simp, fun k p hp h => ?_, fun k p hp => ?_, .inl ⟨rfl, fun k p hp _ h => ?_⟩⟩
  · rw [List.getElem?_replicate] at h; split at h <;> simp at h
  · rw [List.getElem?_replicate]; split <;> simp
  · rw [List.getElem?_replicate] at h; split at h <;> simp at h
/-- a place is covered just if its piece has come -/
theorem Came.isIn (c : Came D ls come S lf) (hc : Cutting D ls) (hp : ls[k]? = some p) {i : Int} (h1 : p.1 ≤ i) (h2 : i < p.1 + p.2.1.length) : (firstB lf i).isNone = true ↔ come[k]? ≠ some true := by
  rw [Option.isNone_iff_eq_none, firstB_none]
  constructor
  · intro h e
    exact h _ (c.lf2 k p hp e) ⟨h1, h2⟩
  · intro h q hq hcov
    obtain ⟨j, r, e1, e2, rfl⟩ := c.lf1 q hq
    have := hc.one e1 hp hcov ⟨h1, h2⟩
    subst this
    exact h e2
theorem Came.byte (c : Came D ls come S lf) (hc : Cutting D ls) {i v : Int} (h : firstB lf i = some v) : v = bt D i ∧ 0 ≤ i ∧ i < D.length := by
  obtain ⟨q, hq, a, b, e⟩ := firstB_some h
  obtain ⟨j, r, e1, e2, rfl⟩ := c.lf1 q hq
  obtain ⟨r1, _, _, r4, r5, _⟩ := hc.each r (List.mem_of_getElem? e1)
  dsimp only at a b e
  rw [e, r5]
  have := bt_win (D := D) (o := r.1.toNat) (n := r.2.1.length) (i := i) (by omega) (by omega)
  rw [Int.toNat_of_nonneg r1] at this
  exact ⟨this, by omega, by omega⟩
theorem Came.bnd (c : Came D ls come S lf) (hD2 : D.length ≤ 65515) : (D.length : Int) ≤ bnd S := by
  unfold Stop.bnd
  have := c.hx
  rcases c.fin with ⟨h, _⟩ | ⟨h, _⟩
  · rw [if_neg (by omega)]; omega
  · rw [if_pos (by omega)]; omega
/-- no piece is refused -/
theorem Came.err (c : Came D ls come S lf) (hc : Cutting D ls) (hD2 : D.length ≤ 65515) (hp : ls[k]? = some p) : errS S p.1 p.2.1.length p.2.2 = 0 := by
  obtain ⟨r1, r2, r3, r4, r5, r6, r7⟩ := hc.each p (List.mem_of_getElem? hp)
  have hx := c.hx
  unfold errS
  rw [if_neg (by omega), if_neg, if_neg (by omega), if_neg (by omega), if_neg, if_neg, if_neg]
  · rintro ⟨a, b, d⟩
    rcases c.fin with ⟨h, _⟩ | ⟨h, _⟩
    · have tm : topS S ≤ S.max := by
        unfold topS
        split
        · exact Int.le_refl _
        · rename_i g hg
          have gm := c.g.bnd_le
          have := c.g.ri.mem g (List.mem_of_getLast? hg)
          split <;> omega
      have hDm : (D.length : Int) < S.max := by
        rcases Int.lt_or_le (D.length : Int) S.max with x | x
        · exact x
        · rw [r6] at b
          have := of_decide_eq_false b
          omega
      have := topS_le (L := D.length) c.g a hDm (fun i h1 h2 => by
        rw [c.f.hole i (by omega) (by unfold Stop.bnd; rw [if_neg (by omega)]; exact h2)]
        rw [Option.isNone_iff_eq_none]
        cases e : firstB lf i with
        | none => rfl
        | some v => have := (c.byte hc e).2.2; omega)
      rw [r6] at b
      have := of_decide_eq_false b
      omega
    · omega
  · rintro ⟨a, b, d⟩
    rcases c.fin with ⟨h, _⟩ | ⟨h, _⟩ <;> omega
  · rintro ⟨a, b, d⟩
    rw [r6] at b
    have := of_decide_eq_false b
    rcases c.fin with ⟨h, _⟩ | ⟨h, _⟩ <;> omega
  · rintro (a | a | a)
    · omega
    · rw [Int.tmod_eq_emod_of_nonneg r1] at a; exact a r2
    · exact a.2 (r7 a.1)
theorem Came.newZ (c : Came D ls come S lf) (hc : Cutting D ls) (hD2 : D.length ≤ 65515) (hp : ls[k]? = some p) : newN p.1 (p.1 + p.2.1.length) S.gaps = 0 ↔ come[k]? = some true := by
  obtain ⟨r1, r2, r3, r4, r5, r6, r7⟩ := hc.each p (List.mem_of_getElem? hp)
  have hb := c.bnd (by omega)
  constructor
  · intro h
    rcases Decidable.em (come[k]? = some true) with e | e
    · exact e
    · have h1 := (c.isIn hc hp (i := p.1) (by omega) (by omega)).2 e
      rw [← c.f.hole p.1 r1 (by omega)] at h1
      have := newN_pos (off := p.1) (e := p.1 + p.2.1.length) (i := p.1) (by omega) (by omega) (by omega) c.g.ri h1
      omega
  · intro h
    refine newN_zeroC (by omega) c.g.ri fun i h1 h2 => ?_
    rw [c.f.hole i (by omega) (by omega)]
    rw [Bool.eq_false_iff]
    intro e
    exact (c.isIn hc hp h1 h2).1 e h
theorem Came.put (c : Came D ls come S lf) (hc : Cutting D ls) (hD : Byt D) (hD2 : D.length ≤ 65515) (hp : ls[k]? = some p) : Came D ls (come.set k true) (putS S p.1 p.2.1 p.2.2) (lf ++ [(p.1, p.2.1)]) := by
  have he := c.err hc hD2 hp
  obtain ⟨r1, r2, r3, r4, r5, r6, r7⟩ := hc.each p (List.mem_of_getElem? hp)
  have hb : Byt p.2.1 := by rw [r5]; exact (hD.drop _).take _
  obtain ⟨kl, kp⟩ := List.getElem?_eq_some_iff.1 hp
  have kc : k < come.length := by rw [c.len]; exact kl
  have hk : (come.set k true)[k]? = some true := by rw [List.getElem?_set_self kc]
  have ho : ∀ j, j ≠ k → (come.set k true)[j]? = come[j]? := fun j hj => List.getElem?_set_ne (Ne.symm hj)
  refine ⟨c.g.put he hb, c.hx, c.f.put c.g he hb, by simpa using c.len, fun q hq => ?_, fun j q hq h => ?_, fun j q hq => ?_, ?_⟩
  · rcases List.mem_append.1 hq with h | h
    · obtain ⟨j, r, e1, e2, e3⟩ := c.lf1 q h
      refine ⟨j, r, e1, ?_, e3⟩
      by_cases e : j = k
      · subst e; exact hk
      · rw [ho j e]; exact e2
    · rw [List.mem_singleton] at h
      exact ⟨k, p, hp, hk, h⟩
  · by_cases e : j = k
    · subst e
      rw [hp] at hq
      cases hq
      simp
    · rw [ho j e] at h
      exact List.mem_append_left _ (c.lf2 j q hq h)
  · have es : (putS S p.1 p.2.1 p.2.2).seen = if (p.1, (p.2.1.length : Int), p.2.2) ∈ S.seen then S.seen else S.seen ++ [(p.1, (p.2.1.length : Int), p.2.2)] := rfl
    rw [es]
    by_cases e : j = k
    · subst e
      rw [hp] at hq
      cases hq
      rw [hk]
      simp only [iff_true]
      split
      · assumption
      · simp
    · rw [ho j e, ← c.seen j q hq]
      obtain ⟨s1, _, s3, _⟩ := hc.each q (List.mem_of_getElem? hq)
      have hne : (q.1, (q.2.1.length : Int), q.2.2) ≠ (p.1, (p.2.1.length : Int), p.2.2) := fun x => by
        have e1 : q.1 = p.1 := congrArg (·.1) x
        exact e (hc.one hq hp (i := p.1) (by omega) (by omega))
      split
      · rfl
      · rw [List.mem_append, List.mem_singleton]
        exact ⟨fun x => x.resolve_right hne, .inl⟩
  · have ef : (putS S p.1 p.2.1 p.2.2).fin = if p.2.2 = false ∧ S.fin < 0 then p.1 + p.2.1.length else S.fin := rfl
    rw [ef]
    by_cases q : p.2.2 = false ∧ S.fin < 0
    · rw [if_pos q]
      right
      have := q.1
      rw [r6] at this
      have := of_decide_eq_false this
      refine ⟨by omega, fun j r hr hm => ?_⟩
      obtain ⟨s1, _, s3, s4, _, s6, _⟩ := hc.each r (List.mem_of_getElem? hr)
      rw [s6] at hm
      have := of_decide_eq_false hm
      have : j = k := hc.one hr hp (i := D.length - 1) (by omega) (by omega)
      subst this
      exact hk
    · rw [if_neg q]
      rcases c.fin with ⟨h, h'⟩ | h
      · left
        refine ⟨h, fun j r hr hm => ?_⟩
        by_cases e : j = k
        · subst e
          rw [hp] at hr
          cases hr
          exact absurd ⟨hm, by omega⟩ q
        · rw [ho j e]; exact h' j r hr hm
      · refine .inr ⟨h.1, fun j r hr hm => ?_⟩
        by_cases e : j = k
        · subst e; exact hk
        · rw [ho j e]; exact h.2 j r hr hm
/-- whole: just if all have come -/
theorem Came.whole (c : Came D ls come S lf) (hc : Cutting D ls) (hD0 : 0 < D.length) (hD2 : D.length ≤ 65515) : wholeS S = decide (come.count true = ls.length) := by
  rw [← c.len, Bool.eq_iff_iff, decide_eq_true_iff, List.count_eq_length]
  constructor
  · intro hw b hb
    obtain ⟨h0, h1, h2⟩ := c.f.bytes c.g hw
    obtain ⟨j, hj, rfl⟩ := List.getElem_of_mem hb
    have hj2 : j < ls.length := by rw [← c.len]; exact hj
    obtain ⟨r1, r2, r3, r4, r5, r6, r7⟩ := hc.each _ (List.getElem_mem hj2)
    have e := h2 ls[j].1 r1 (by rcases c.fin with ⟨h, _⟩ | ⟨h, _⟩ <;> omega)
    rcases Decidable.em (come[j]? = some true) with q | q
    · rw [List.getElem?_eq_getElem hj] at q
      exact (Option.some.inj q).symm
    · have := (c.isIn hc (List.getElem?_eq_getElem hj2) (i := ls[j].1) (by omega) (by omega)).2 q
      rw [e] at this
      cases this
  · intro h
    have all : ∀ (j : Nat) (q : Int × List Int × Bool), ls[j]? = some q → come[j]? = some true := fun j q hq => by
      obtain ⟨a, b⟩ := List.getElem?_eq_some_iff.1 hq
      have hj : j < come.length := by rw [c.len]; exact a
      rw [List.getElem?_eq_getElem hj, ← h _ (List.getElem_mem hj)]
    have hf : S.fin = D.length := by
      rcases c.fin with ⟨h1, h2⟩ | h1
      · obtain ⟨j, q, hq, q1, q2⟩ := hc.cov (D.length - 1) (by omega) (by omega)
        obtain ⟨r1, r2, r3, r4, r5, r6, r7⟩ := hc.each q (List.mem_of_getElem? hq)
        exact absurd (all j q hq) (h2 j q hq (by rw [r6]; exact decide_eq_false (by omega)))
      · exact h1.1
    have eb : Stop.bnd S = S.fin := by unfold Stop.bnd; rw [if_pos (by omega)]
    unfold wholeS
    rw [decide_eq_true (by omega), Bool.true_and]
    cases hg : S.gaps with
    | nil => rfl
    | cons x r =>
      have ri := c.g.ri
      rw [hg] at ri
      obtain ⟨q1, q2, q3, q4⟩ := ri
      obtain ⟨j, q, hq, p1, p2⟩ := hc.cov x.1 (by omega) (by omega)
      have h1 := c.f.hole x.1 (by omega) (by omega)
      rw [hg] at h1
      simp only [inG] at h1
      rw [decide_eq_true (Int.le_refl _), decide_eq_true q2] at h1
      exact absurd (all j q hq) ((c.isIn hc hq p1 p2).1 h1.symm)
theorem Came.bytes (c : Came D ls come S lf) (hc : Cutting D ls) (hD2 : D.length ≤ 65515) (hw : wholeS S = true) : S.fin ≤ S.buf.length ∧ S.buf.take S.fin.toNat = D := by
  obtain ⟨h0, h1, h2⟩ := c.f.bytes c.g hw
  have hf : S.fin = D.length := by rcases c.fin with ⟨h, _⟩ | ⟨h, _⟩ <;> omega
  refine ⟨h1, ?_⟩
  refine List.ext_getElem (by simp; omega) fun i a b => ?_
  have := (c.byte hc (h2 i (by omega) (by omega))).1
  rw [List.getElem_take]
  unfold bt at this
  simp only [List.getD_eq_getElem?_getD, Int.toNat_natCast] at this
  rw [List.getElem?_eq_getElem (by simp at a; omega), List.getElem?_eq_getElem b] at this
  exact this
end
end Go.Vc.Stop
end

section
open Go Go.Vc Go.Vc.Stop Go.Proofs
set_option maxRecDepth 100000
set_option linter.unusedVariables false
namespace Go.Vc.Stop
def vc69 (parts : Sl) (w : World) (R : SV → World → Prop) : Prop :=
  ∃ (I : Int → Int → Int → World → Prop),
    ∃ (M : Int → Int → Int → World → Nat),
      I 0 0 0 w ∧
        ∀ (n n_1 n_2 : Int) (w1 : World),
          I n n_1 n_2 w1 →
            Br (decide (n_2 < (↑parts.2 : Int)))
              (∃ (I_1 : Int → Int → Int → World → Prop),
                ∃ (M_1 : Int → Int → Int → World → Nat),
                  I_1 n n_1 0 w1 ∧
                    ∀ (n_3 n_4 n_5 : Int) (w1_1 : World),
                      I_1 n_3 n_4 n_5 w1_1 →
                        Need (decide (0 ≤ n_2) && decide (n_2 < (↑parts.2 : Int)) && Option.isSome parts.1)
                          (∃ (s : Sl),
                            World.cell? w1_1 (Sl.at parts 1 (Int.toNat n_2)) = some (Sl.val s) ∧
                              Br (decide (n_5 < (↑s.2 : Int)))
                                (∀ (J : Int → Int → World → Prop),
                                  (∀ (n n_6 : Int) (w1 : World),
                                      I_1 n n_6 (wr IntKind.i64 (n_5 + 1)) w1 ∧ M_1 n n_6 (wr IntKind.i64 (n_5 + 1)) w1 < M_1 n_3 n_4 n_5 w1_1 → J n n_6 w1) →
                                    Need (decide (0 ≤ n_2) && decide (n_2 < (↑parts.2 : Int)) && Option.isSome parts.1)
                                      (∃ (s : Sl),
                                        World.cell? w1_1 (Sl.at parts 1 (Int.toNat n_2)) = some (Sl.val s) ∧
                                          Need (decide (0 ≤ n_5) && decide (n_5 < (↑s.2 : Int)) && Option.isSome s.1)
                                            (∃ (n : Int),
                                              World.cell? w1_1 (Sl.at s 1 (Int.toNat n_5)) = some (Value.int IntKind.u8 n) ∧
                                                ∀ (J_1 : Int → World → Prop),
                                                  (∀ (n : Int) (w1 : World), J (wr IntKind.i64 (n_3 + 1)) (wr IntKind.i64 (n_4 + n)) w1 → J_1 n w1) →
                                                    Br (Int.tmod n_3 2 == 0) (J_1 (wr IntKind.i64 (wr IntKind.i64 n * 256)) w1_1) (J_1 (wr IntKind.i64 n) w1_1))))
                                (I n_3 n_4 (wr IntKind.i64 (n_2 + 1)) w1_1 ∧ M n_3 n_4 (wr IntKind.i64 (n_2 + 1)) w1_1 < M n n_1 n_2 w1)))
              (Ret Try.prog 80 [SV.int IntKind.i64 n_1] w1 fun (r : SV) (w1 : World) => ∃ (n : Int), r = SV.int IntKind.i64 n ∧ R (SV.int IntKind.i64 n) w1)
theorem f69_of (parts : Sl) (w : World) (R : SV → World → Prop) (hV : vc69 parts w R) : Ret Try.prog 69 [.slice parts] w R :=
  have e : vc69 parts w R = fnVC X Try.f69 a69 [.slice parts] w R := by kernel_rfl
  fnVC_sound X_ok (n := a69) (e ▸ hV) (by kernel_rfl) (by kernel_rfl) rfl rfl

def vc64 (parts : Sl) (w : World) (R : SV → World → Prop) : Prop :=
  Ret Try.prog 69 [SV.slice parts] w fun (r : SV) (w1 : World) => ∃ (n : Int), r = SV.int IntKind.i64 n ∧ R (SV.int IntKind.i64 (wr IntKind.i64 (65535 - n))) w1
theorem f64_of (parts : Sl) (w : World) (R : SV → World → Prop) (hV : vc64 parts w R) : Ret Try.prog 64 [.slice parts] w R :=
  have e : vc64 parts w R = fnVC X Try.f64 a64 [.slice parts] w R := by kernel_rfl
  fnVC_sound X_ok (n := a64) (e ▸ hV) (by kernel_rfl) (by kernel_rfl) rfl rfl

def vc63 (b : Sl) (n : Int) (w : World) (R : SV → World → Prop) : Prop :=
  ∀ (b_1 : Nat) (w1 : World),
    Upd [] [b_1] w w1 →
      (World.heap w1)[b_1]? =
          some
            (Obj.cells { toList := SV.cells (SV.struct [SV.int IntKind.u8 (wr IntKind.u8 (wr IntKind.i64 (Int.tdiv n 256))), SV.int IntKind.u8 (wr IntKind.u8 (Int.tmod n 256))]) }
              5) →
        Vc.Append 5 1 1 b { ptr := some { block := b_1, off := 0 }, len := 2, cap := 2 } [] w1 fun (r : Sl) (w : World) => R (SV.slice r) w
theorem f63_of (b : Sl) (n : Int) (w : World) (R : SV → World → Prop) (hV : vc63 b n w R) : Ret Try.prog 63 [.slice b, .int .i64 n] w R :=
  have e : vc63 b n w R = fnVC X Try.f63 a63 [.slice b, .int .i64 n] w R := by kernel_rfl
  fnVC_sound X_ok (n := a63) (e ▸ hV) (by kernel_rfl) (by kernel_rfl) rfl rfl

def vc80 (n : Int) (w : World) (R : SV → World → Prop) : Prop :=
  Br (n == 0) (R (SV.int IntKind.i64 0) w) (R (SV.int IntKind.i64 (wr IntKind.i64 (Int.tmod (wr IntKind.i64 (n - 1)) 65535 + 1))) w)
theorem f80_of (n : Int) (w : World) (R : SV → World → Prop) (hV : vc80 n w R) : Ret Try.prog 80 [.int .i64 n] w R :=
  have e : vc80 n w R = fnVC X Try.f80 a80 [.int .i64 n] w R := by kernel_rfl
  fnVC_sound X_ok (n := a80) (e ▸ hV) (by kernel_rfl) (by kernel_rfl) rfl rfl

def vc56 (h_0 : Int) (h_1 : Int) (h_2 : Bool) (h_3 : Bool) (h_4 : Int) (h_5 : Int) (h_6 : Int) (h_7_0 : Int) (h_7_1 : Nat → Int) (h_8_0 : Int) (h_8_1 :
  Nat → Int) (h_9 : Sl) (h_10 : Sl) (w : World) (R : SV → World → Prop) : Prop := ∀ (b : Nat) (w1 : World), Upd [] [b] w w1 → Ret Try.prog 6 [SV.struct [SV.int
  IntKind.i64 h_0, SV.int IntKind.i64 h_1, SV.bool h_2, SV.bool h_3, SV.int IntKind.i64 h_4, SV.int IntKind.i64 h_5, SV.int IntKind.i64 h_6, SV.struct [SV.int
  IntKind.i64 h_7_0, SV.arr IntKind.u8 16 h_7_1], SV.struct [SV.int IntKind.i64 h_8_0, SV.arr IntKind.u8 16 h_8_1], SV.slice h_9, SV.slice h_10]] w1 fun (r
  : SV) (w1_1 : World) => ∃ (n : Int), r = SV.int IntKind.i64 n ∧ Keeps [b] w1 w1_1 ∧ Br (n != 0) (R (SV.tuple [SV.slice { ptr := none, len := 0, cap := 0 },
  SV.int IntKind.i64 n]) w1_1) (Ret Try.prog 21 [SV.slice h_9] w1_1 fun (r : SV) (w1 : World) => ∃ (s : Sl), ∃ (n : Int), r = SV.tuple [SV.slice s, SV.int
  IntKind.i64 n] ∧ Keeps [b] w1_1 w1 ∧ ∀ (J : Int → World → Prop), (∀ (n : Int) (w1 : World), (∀ (J : Int → World → Prop), (∀ (n : Int) (w1 : World), (∀ (b_1
  : Nat) (w1_2 : World), Upd [] [b_1] w1 w1_2 → (World.heap w1_2)[b_1]? = some (Obj.cells { toList := SV.cells (SV.struct [SV.int IntKind.u8 (wr IntKind.u8 (wr IntKind.i64 (64 + wr IntKind.i64 (Int.tdiv (wr IntKind.i64 (20 + (↑s.2 : Int))) 4)))), SV.int IntKind.u8 (wr IntKind.u8 h_0)]) }
  5) → Ret Try.prog 63 [SV.slice { ptr := some { block := b_1, off := 0 }, len := 2, cap := 2 }, SV.int IntKind.i64 (wr IntKind.i64 (wr IntKind.i64 (20 +
  (↑s.2 : Int)) + (↑h_10.2 : Int)))] w1_2 fun (r : SV) (w1 : World) => ∃ (s_1 : Sl), r = SV.slice s_1 ∧ Keeps [b] w1_2 w1 ∧ Ret Try.prog 63 [SV.slice s_1,
  SV.int IntKind.i64 h_1] w1 fun (r : SV) (w1_3 : World) => ∃ (s_2 : Sl), r = SV.slice s_2 ∧ Keeps [b] w1 w1_3 ∧ Ret Try.prog 63 [SV.slice s_2, SV.int IntKind.i64
  n] w1_3 fun (r : SV) (w1 : World) => ∃ (s_3 : Sl), r = SV.slice s_3 ∧ Keeps [b] w1_3 w1 ∧ ∀ (b_2 : Nat) (w1_4 : World), Upd [] [b_2] w1 w1_4 → (World.heap
  w1_4)[b_2]? = some (Obj.cells { toList := SV.cells (SV.struct [SV.int IntKind.u8 (wr IntKind.u8 h_5), SV.int IntKind.u8 (wr IntKind.u8 h_6)]) } 5) → Vc.Append
  5 1 1 s_3 { ptr := some { block := b_2, off := 0 }, len := 2, cap := 2 } [b] w1_4 fun (r : Sl) (w : World) => ∃ (I : Sl → Int → World → Prop), ∃ (M : Sl
  → Int → World → Nat), I { ptr := none, len := 0, cap := 0 } 0 w ∧ ∀ (s_4 : Sl) (n : Int) (w1 : World), I s_4 n w1 → Br (decide (n < 4)) (Need (decide (0
  ≤ n) && decide (n < 16)) (∀ (b_3 : Nat) (w1_5 : World), Upd [] [b_3] w1 w1_5 → (World.heap w1_5)[b_3]? = some (Obj.cells { toList := SV.cells (SV.struct [SV.int IntKind.u8 (h_7_1 (Int.toNat n))]) }
  5) → Vc.Append 5 1 1 s_4 { ptr := some { block := b_3, off := 0 }, len := 1, cap := 1 } [b] w1_5 fun (r : Sl) (w : World) => some (SV.box b 28 (SV.struct
  [SV.int IntKind.i64 h_0, SV.int IntKind.i64 h_1, SV.bool h_2, SV.bool h_3, SV.int IntKind.i64 h_4, SV.int IntKind.i64 h_5, SV.int IntKind.i64 h_6, SV.struct
  [SV.int IntKind.i64 h_7_0, SV.arr IntKind.u8 16 h_7_1], SV.struct [SV.int IntKind.i64 h_8_0, SV.arr IntKind.u8 16 h_8_1], SV.slice h_9, SV.slice h_10]))
  = some (SV.box b 28 (SV.struct [SV.int IntKind.i64 h_0, SV.int IntKind.i64 h_1, SV.bool h_2, SV.bool h_3, SV.int IntKind.i64 h_4, SV.int IntKind.i64 h_5,
  SV.int IntKind.i64 h_6, SV.struct [SV.int IntKind.i64 h_7_0, SV.arr IntKind.u8 16 h_7_1], SV.struct [SV.int IntKind.i64 h_8_0, SV.arr IntKind.u8 16 h_8_1],
  SV.slice h_9, SV.slice h_10])) ∧ I r (wr IntKind.i64 (n + 1)) w ∧ M r (wr IntKind.i64 (n + 1)) w < M s_4 n w1)) (∃ (I : Sl → Int → World → Prop), ∃ (M :
  Sl → Int → World → Nat), I s_4 0 w1 ∧ ∀ (s_5 : Sl) (n : Int) (w1 : World), I s_5 n w1 → Br (decide (n < 4)) (Need (decide (0 ≤ n) && decide (n < 16)) (∀
  (b_3 : Nat) (w1_5 : World), Upd [] [b_3] w1 w1_5 → (World.heap w1_5)[b_3]? = some (Obj.cells { toList := SV.cells (SV.struct [SV.int IntKind.u8 (h_8_1 (Int.toNat n))]) }
  5) → Vc.Append 5 1 1 s_5 { ptr := some { block := b_3, off := 0 }, len := 1, cap := 1 } [b] w1_5 fun (r : Sl) (w : World) => some (SV.box b 28 (SV.struct
  [SV.int IntKind.i64 h_0, SV.int IntKind.i64 h_1, SV.bool h_2, SV.bool h_3, SV.int IntKind.i64 h_4, SV.int IntKind.i64 h_5, SV.int IntKind.i64 h_6, SV.struct
  [SV.int IntKind.i64 h_7_0, SV.arr IntKind.u8 16 h_7_1], SV.struct [SV.int IntKind.i64 h_8_0, SV.arr IntKind.u8 16 h_8_1], SV.slice h_9, SV.slice h_10]))
  = some (SV.box b 28 (SV.struct [SV.int IntKind.i64 h_0, SV.int IntKind.i64 h_1, SV.bool h_2, SV.bool h_3, SV.int IntKind.i64 h_4, SV.int IntKind.i64 h_5,
  SV.int IntKind.i64 h_6, SV.struct [SV.int IntKind.i64 h_7_0, SV.arr IntKind.u8 16 h_7_1], SV.struct [SV.int IntKind.i64 h_8_0, SV.arr IntKind.u8 16 h_8_1],
  SV.slice h_9, SV.slice h_10])) ∧ I r (wr IntKind.i64 (n + 1)) w ∧ M r (wr IntKind.i64 (n + 1)) w < M s_5 n w1)) (Vc.Append 5 1 1 s_5 s [b] w1 fun (r_1 :
  Sl) (w : World) => ∀ (b_3 : Nat) (w1 : World), Upd [] [b_3] w w1 → (World.heap w1)[b_3]? = some (Obj.cells { toList := SV.cells (SV.struct [SV.slice r, SV.slice r_1]) }
  26) → Ret Try.prog 64 [SV.slice { ptr := some { block := b_3, off := 0 }, len := 2, cap := 2 }] w1 fun (r_2 : SV) (w1_5 : World) => ∃ (n : Int), r_2 = SV.int
  IntKind.i64 n ∧ Keeps [b] w1 w1_5 ∧ Ret Try.prog 63 [SV.slice r, SV.int IntKind.i64 n] w1_5 fun (r : SV) (w1 : World) => ∃ (s : Sl), r = SV.slice s ∧ Keeps
  [b] w1_5 w1 ∧ Vc.Append 5 1 1 s r_1 [b] w1 fun (r : Sl) (w : World) => Vc.Append 5 1 1 r h_10 [b] w fun (r : Sl) (w : World) => R (SV.tuple [SV.slice r,
  SV.int IntKind.i64 0]) w))) → J n w1) → Br h_3 (some (SV.box b 28 (SV.struct [SV.int IntKind.i64 h_0, SV.int IntKind.i64 h_1, SV.bool h_2, SV.bool h_3,
  SV.int IntKind.i64 h_4, SV.int IntKind.i64 h_5, SV.int IntKind.i64 h_6, SV.struct [SV.int IntKind.i64 h_7_0, SV.arr IntKind.u8 16 h_7_1], SV.struct [SV.int
  IntKind.i64 h_8_0, SV.arr IntKind.u8 16 h_8_1], SV.slice h_9, SV.slice h_10])) = some (SV.box b 28 (SV.struct [SV.int IntKind.i64 h_0, SV.int IntKind.i64
  h_1, SV.bool h_2, SV.bool h_3, SV.int IntKind.i64 h_4, SV.int IntKind.i64 h_5, SV.int IntKind.i64 h_6, SV.struct [SV.int IntKind.i64 h_7_0, SV.arr IntKind.u8
  16 h_7_1], SV.struct [SV.int IntKind.i64 h_8_0, SV.arr IntKind.u8 16 h_8_1], SV.slice h_9, SV.slice h_10])) ∧ J (wr IntKind.i64 (n + 8192)) w1) (some (SV.box
  b 28 (SV.struct [SV.int IntKind.i64 h_0, SV.int IntKind.i64 h_1, SV.bool h_2, SV.bool h_3, SV.int IntKind.i64 h_4, SV.int IntKind.i64 h_5, SV.int IntKind.i64
  h_6, SV.struct [SV.int IntKind.i64 h_7_0, SV.arr IntKind.u8 16 h_7_1], SV.struct [SV.int IntKind.i64 h_8_0, SV.arr IntKind.u8 16 h_8_1], SV.slice h_9, SV.slice
  h_10])) = some (SV.box b 28 (SV.struct [SV.int IntKind.i64 h_0, SV.int IntKind.i64 h_1, SV.bool h_2, SV.bool h_3, SV.int IntKind.i64 h_4, SV.int IntKind.i64
  h_5, SV.int IntKind.i64 h_6, SV.struct [SV.int IntKind.i64 h_7_0, SV.arr IntKind.u8 16 h_7_1], SV.struct [SV.int IntKind.i64 h_8_0, SV.arr IntKind.u8 16
  h_8_1], SV.slice h_9, SV.slice h_10])) ∧ J n w1)) → J n w1) → Br h_2 (some (SV.box b 28 (SV.struct [SV.int IntKind.i64 h_0, SV.int IntKind.i64 h_1, SV.bool
  h_2, SV.bool h_3, SV.int IntKind.i64 h_4, SV.int IntKind.i64 h_5, SV.int IntKind.i64 h_6, SV.struct [SV.int IntKind.i64 h_7_0, SV.arr IntKind.u8 16 h_7_1],
  SV.struct [SV.int IntKind.i64 h_8_0, SV.arr IntKind.u8 16 h_8_1], SV.slice h_9, SV.slice h_10])) = some (SV.box b 28 (SV.struct [SV.int IntKind.i64 h_0,
  SV.int IntKind.i64 h_1, SV.bool h_2, SV.bool h_3, SV.int IntKind.i64 h_4, SV.int IntKind.i64 h_5, SV.int IntKind.i64 h_6, SV.struct [SV.int IntKind.i64
  h_7_0, SV.arr IntKind.u8 16 h_7_1], SV.struct [SV.int IntKind.i64 h_8_0, SV.arr IntKind.u8 16 h_8_1], SV.slice h_9, SV.slice h_10])) ∧ J (wr IntKind.i64
  (wr IntKind.i64 (Int.tdiv h_4 8) + 16384)) w1) (some (SV.box b 28 (SV.struct [SV.int IntKind.i64 h_0, SV.int IntKind.i64 h_1, SV.bool h_2, SV.bool h_3,
  SV.int IntKind.i64 h_4, SV.int IntKind.i64 h_5, SV.int IntKind.i64 h_6, SV.struct [SV.int IntKind.i64 h_7_0, SV.arr IntKind.u8 16 h_7_1], SV.struct [SV.int
  IntKind.i64 h_8_0, SV.arr IntKind.u8 16 h_8_1], SV.slice h_9, SV.slice h_10])) = some (SV.box b 28 (SV.struct [SV.int IntKind.i64 h_0, SV.int IntKind.i64
  h_1, SV.bool h_2, SV.bool h_3, SV.int IntKind.i64 h_4, SV.int IntKind.i64 h_5, SV.int IntKind.i64 h_6, SV.struct [SV.int IntKind.i64 h_7_0, SV.arr IntKind.u8
  16 h_7_1], SV.struct [SV.int IntKind.i64 h_8_0, SV.arr IntKind.u8 16 h_8_1], SV.slice h_9, SV.slice h_10])) ∧ J (wr IntKind.i64 (Int.tdiv h_4 8)) w1))
theorem f56_of (h_0 : Int) (h_1 : Int) (h_2 : Bool) (h_3 : Bool) (h_4 : Int) (h_5 : Int) (h_6 : Int) (h_7_0 : Int) (h_7_1 : Nat → Int) (h_8_0 : Int) (h_8_1 : Nat → Int) (h_9 : Sl) (h_10 : Sl) (w : World) (R : SV → World → Prop) (hV : vc56 h_0 h_1 h_2 h_3 h_4 h_5 h_6 h_7_0 h_7_1 h_8_0 h_8_1 h_9 h_10 w R) : Ret Try.prog 56 [.struct [.int .i64 h_0, .int .i64 h_1, .bool h_2, .bool h_3, .int .i64 h_4, .int .i64 h_5, .int .i64 h_6, .struct [.int .i64 h_7_0, .arr .u8 16 h_7_1], .struct [.int .i64 h_8_0, .arr .u8 16 h_8_1], .slice h_9, .slice h_10]] w R :=
  have e : vc56 h_0 h_1 h_2 h_3 h_4 h_5 h_6 h_7_0 h_7_1 h_8_0 h_8_1 h_9 h_10 w R = fnVC X Try.f56 a56 [.struct [.int .i64 h_0, .int .i64 h_1, .bool h_2, .bool h_3, .int .i64 h_4, .int .i64 h_5, .int .i64 h_6, .struct [.int .i64 h_7_0, .arr .u8 16 h_7_1], .struct [.int .i64 h_8_0, .arr .u8 16 h_8_1], .slice h_9, .slice h_10]] w R := by kernel_rfl
  fnVC_sound X_ok (n := a56) (e ▸ hV) (by kernel_rfl) (by kernel_rfl) rfl rfl

def vc57 (l : Sl) (w : World) (R : SV → World → Prop) : Prop :=
  ∃ (I : Sl → Int → World → Prop),
    ∃ (M : Sl → Int → World → Nat),
      I { ptr := none, len := 0, cap := 0 } 0 w ∧
        ∀ (s : Sl) (n : Int) (w1 : World),
          I s n w1 →
            Br (decide (n < (↑l.2 : Int)))
              (Need (decide (0 ≤ n) && decide (n < (↑l.2 : Int)) && Option.isSome l.1)
                (∃ (n_1 : Int),
                  World.cell? w1 (Sl.at l 2 (Int.toNat n)) = some (Value.int IntKind.i64 n_1) ∧
                    Need (decide (0 ≤ n) && decide (n < (↑l.2 : Int)) && Option.isSome l.1)
                      (∃ (s_1 : Sl),
                        World.cell? w1 (Addr.add (Sl.at l 2 (Int.toNat n)) 1) = some (Sl.val s_1) ∧
                          ∀ (w1_1 : World),
                            Upd [] [] w1 w1_1 →
                              Ret Try.prog 65 [SV.slice s_1] w1_1 fun (r : SV) (w1_2 : World) =>
                                ∃ (s_2 : Sl),
                                  r = SV.slice s_2 ∧
                                    Upd [] [] w1 w1_2 ∧
                                      ∀ (b : Nat) (w1_3 : World),
                                        Upd [] [b] w1_2 w1_3 →
                                          (World.heap w1_3)[b]? = some (Obj.cells { toList := SV.cells (SV.struct [SV.struct [SV.int IntKind.i64 n_1, SV.slice s_2]]) } 104) →
                                            Vc.Append 104 2 32 s { ptr := some { block := b, off := 0 }, len := 1, cap := 1 } [] w1_3 fun (r : Sl) (w : World) =>
                                              I r (wr IntKind.i64 (n + 1)) w ∧ M r (wr IntKind.i64 (n + 1)) w < M s n w1)))
              (R (SV.slice s) w1)
theorem f57_of (l : Sl) (w : World) (R : SV → World → Prop) (hV : vc57 l w R) : Ret Try.prog 57 [.slice l] w R :=
  have e : vc57 l w R = fnVC X Try.f57 a57 [.slice l] w R := by kernel_rfl
  fnVC_sound X_ok (n := a57) (e ▸ hV) (by kernel_rfl) (by kernel_rfl) rfl rfl

def vc65 (b : Sl) (w : World) (R : SV → World → Prop) : Prop :=
  Vc.Append 5 1 1 { ptr := none, len := 0, cap := 0 } b [] w fun (r : Sl) (w : World) => R (SV.slice r) w
theorem f65_of (b : Sl) (w : World) (R : SV → World → Prop) (hV : vc65 b w R) : Ret Try.prog 65 [.slice b] w R :=
  have e : vc65 b w R = fnVC X Try.f65 a65 [.slice b] w R := by kernel_rfl
  fnVC_sound X_ok (n := a65) (e ▸ hV) (by kernel_rfl) (by kernel_rfl) rfl rfl

def vc58 (b : Sl) (lo : Int) (hi : Int) (w : World) (R : SV → World → Prop) : Prop :=
  Need (decide (0 ≤ hi) && decide (hi ≤ (↑b.3 : Int)) && (decide (0 ≤ lo) && decide (lo ≤ (↑(Int.toNat hi) : Int))))
    (Vc.Append 5 1 1 { ptr := none, len := 0, cap := 0 } (Sl.sub b 1 (Int.toNat lo) (Int.toNat hi) b.3) [] w fun (r : Sl) (w : World) => R (SV.slice r) w)
theorem f58_of (b : Sl) (lo : Int) (hi : Int) (w : World) (R : SV → World → Prop) (hV : vc58 b lo hi w R) : Ret Try.prog 58 [.slice b, .int .i64 lo, .int .i64 hi] w R :=
  have e : vc58 b lo hi w R = fnVC X Try.f58 a58 [.slice b, .int .i64 lo, .int .i64 hi] w R := by kernel_rfl
  fnVC_sound X_ok (n := a58) (e ▸ hV) (by kernel_rfl) (by kernel_rfl) rfl rfl

def vc31 (h_0 : Int) (h_1 : Int) (h_2 : Bool) (h_3 : Bool) (h_4 : Int) (h_5 : Int) (h_6 : Int) (h_7_0 : Int) (h_7_1 : Nat → Int) (h_8_0 : Int) (h_8_1 : Nat → Int) (h_9 : Sl) (h_10 : Sl) (w : World) (R : SV → World → Prop) : Prop :=
  ∀ (b : Nat) (w1 : World),
    Upd [] [b] w w1 →
      Ret Try.prog 56
        [SV.struct
            [SV.int IntKind.i64 h_0, SV.int IntKind.i64 h_1, SV.bool h_2, SV.bool h_3, SV.int IntKind.i64 h_4, SV.int IntKind.i64 h_5, SV.int IntKind.i64 h_6,
              SV.struct [SV.int IntKind.i64 h_7_0, SV.arr IntKind.u8 16 h_7_1], SV.struct [SV.int IntKind.i64 h_8_0, SV.arr IntKind.u8 16 h_8_1], SV.slice h_9, SV.slice h_10]]
        w1 fun (r : SV) (w1_1 : World) => ∃ (s : Sl), ∃ (n : Int), r = SV.tuple [SV.slice s, SV.int IntKind.i64 n] ∧ Keeps [b] w1 w1_1 ∧ R (SV.int IntKind.i64 (↑s.2 : Int)) w1_1
theorem f31_of (h_0 : Int) (h_1 : Int) (h_2 : Bool) (h_3 : Bool) (h_4 : Int) (h_5 : Int) (h_6 : Int) (h_7_0 : Int) (h_7_1 : Nat → Int) (h_8_0 : Int) (h_8_1 : Nat → Int) (h_9 : Sl) (h_10 : Sl) (w : World) (R : SV → World → Prop) (hV : vc31 h_0 h_1 h_2 h_3 h_4 h_5 h_6 h_7_0 h_7_1 h_8_0 h_8_1 h_9 h_10 w R) : Ret Try.prog 31 [.struct [.int .i64 h_0, .int .i64 h_1, .bool h_2, .bool h_3, .int .i64 h_4, .int .i64 h_5, .int .i64 h_6, .struct [.int .i64 h_7_0, .arr .u8 16 h_7_1], .struct [.int .i64 h_8_0, .arr .u8 16 h_8_1], .slice h_9, .slice h_10]] w R :=
  have e : vc31 h_0 h_1 h_2 h_3 h_4 h_5 h_6 h_7_0 h_7_1 h_8_0 h_8_1 h_9 h_10 w R = fnVC X Try.f31 a31 [.struct [.int .i64 h_0, .int .i64 h_1, .bool h_2, .bool h_3, .int .i64 h_4, .int .i64 h_5, .int .i64 h_6, .struct [.int .i64 h_7_0, .arr .u8 16 h_7_1], .struct [.int .i64 h_8_0, .arr .u8 16 h_8_1], .slice h_9, .slice h_10]] w R := by kernel_rfl
  fnVC_sound X_ok (n := a31) (e ▸ hV) (by kernel_rfl) (by kernel_rfl) rfl rfl

def vc32 (h_0 : Int) (h_1 : Int) (h_2 : Bool) (h_3 : Bool) (h_4 : Int) (h_5 : Int) (h_6 : Int) (h_7_0 : Int) (h_7_1 : Nat → Int) (h_8_0 : Int) (h_8_1 : Nat → Int) (h_9 : Sl) (h_10 : Sl) (w : World) (R : SV → World → Prop) : Prop :=
  ∀ (b b_1 : Nat) (w1 : World),
    Upd [] [b_1, b] w w1 →
      Ret Try.prog 57 [SV.slice h_9] w1 fun (r : SV) (w1_1 : World) =>
        ∃ (s : Sl),
          r = SV.slice s ∧
            Keeps [b, b_1] w1 w1_1 ∧
              ∀ (w1 : World),
                Upd [b] [] w1_1 w1 →
                  Ret Try.prog 58 [SV.slice h_10, SV.int IntKind.i64 0, SV.int IntKind.i64 (↑h_10.2 : Int)] w1 fun (r : SV) (w1_2 : World) =>
                    ∃ (s_1 : Sl),
                      r = SV.slice s_1 ∧
                        Keeps [b, b_1] w1 w1_2 ∧
                          ∀ (w1 : World),
                            Upd [b_1, b] [] w1_2 w1 →
                              R
                                (SV.struct
                                  [SV.int IntKind.i64 h_0, SV.int IntKind.i64 h_1, SV.bool h_2, SV.bool h_3, SV.int IntKind.i64 h_4, SV.int IntKind.i64 h_5, SV.int IntKind.i64 h_6,
                                    SV.struct [SV.int IntKind.i64 h_7_0, SV.arr IntKind.u8 16 h_7_1], SV.struct [SV.int IntKind.i64 h_8_0, SV.arr IntKind.u8 16 h_8_1], SV.slice s,
                                    SV.slice s_1])
                                w1
theorem f32_of (h_0 : Int) (h_1 : Int) (h_2 : Bool) (h_3 : Bool) (h_4 : Int) (h_5 : Int) (h_6 : Int) (h_7_0 : Int) (h_7_1 : Nat → Int) (h_8_0 : Int) (h_8_1 : Nat → Int) (h_9 : Sl) (h_10 : Sl) (w : World) (R : SV → World → Prop) (hV : vc32 h_0 h_1 h_2 h_3 h_4 h_5 h_6 h_7_0 h_7_1 h_8_0 h_8_1 h_9 h_10 w R) : Ret Try.prog 32 [.struct [.int .i64 h_0, .int .i64 h_1, .bool h_2, .bool h_3, .int .i64 h_4, .int .i64 h_5, .int .i64 h_6, .struct [.int .i64 h_7_0, .arr .u8 16 h_7_1], .struct [.int .i64 h_8_0, .arr .u8 16 h_8_1], .slice h_9, .slice h_10]] w R :=
  have e : vc32 h_0 h_1 h_2 h_3 h_4 h_5 h_6 h_7_0 h_7_1 h_8_0 h_8_1 h_9 h_10 w R = fnVC X Try.f32 a32 [.struct [.int .i64 h_0, .int .i64 h_1, .bool h_2, .bool h_3, .int .i64 h_4, .int .i64 h_5, .int .i64 h_6, .struct [.int .i64 h_7_0, .arr .u8 16 h_7_1], .struct [.int .i64 h_8_0, .arr .u8 16 h_8_1], .slice h_9, .slice h_10]] w R := by kernel_rfl
  fnVC_sound X_ok (n := a32) (e ▸ hV) (by kernel_rfl) (by kernel_rfl) rfl rfl

def vc33 (l : Sl) (w : World) (R : SV → World → Prop) : Prop :=
  ∃ (I : Sl → Int → World → Prop),
    ∃ (M : Sl → Int → World → Nat),
      I { ptr := none, len := 0, cap := 0 } 0 w ∧
        ∀ (s : Sl) (n : Int) (w1 : World),
          I s n w1 →
            Br (decide (n < (↑l.2 : Int)))
              (∀ (J : Sl → World → Prop),
                (∀ (s_1 : Sl) (w1_1 : World), I s_1 (wr IntKind.i64 (n + 1)) w1_1 ∧ M s_1 (wr IntKind.i64 (n + 1)) w1_1 < M s n w1 → J s_1 w1_1) →
                  Need (decide (0 ≤ n) && decide (n < (↑l.2 : Int)) && Option.isSome l.1)
                    (∃ (n_1 : Int),
                      World.cell? w1 (Sl.at l 2 (Int.toNat n)) = some (Value.int IntKind.i64 n_1) ∧
                        Br (decide (n_1 ≥ 128))
                          (Need (decide (0 ≤ n) && decide (n < (↑l.2 : Int)) && Option.isSome l.1)
                            (∃ (n_2 : Int),
                              World.cell? w1 (Sl.at l 2 (Int.toNat n)) = some (Value.int IntKind.i64 n_2) ∧
                                ∃ (s_1 : Sl),
                                  World.cell? w1 (Addr.add (Sl.at l 2 (Int.toNat n)) 1) = some (Sl.val s_1) ∧
                                    ∀ (b : Nat) (w1_1 : World),
                                      Upd [] [b] w1 w1_1 →
                                        (World.heap w1_1)[b]? = some (Obj.cells { toList := SV.cells (SV.struct [SV.struct [SV.int IntKind.i64 n_2, SV.slice s_1]]) } 104) →
                                          Vc.Append 104 2 32 s { ptr := some { block := b, off := 0 }, len := 1, cap := 1 } [] w1_1 fun (r : Sl) (w : World) => J r w))
                          (J s w1)))
              (R (SV.slice s) w1)
theorem f33_of (l : Sl) (w : World) (R : SV → World → Prop) (hV : vc33 l w R) : Ret Try.prog 33 [.slice l] w R :=
  have e : vc33 l w R = fnVC X Try.f33 a33 [.slice l] w R := by kernel_rfl
  fnVC_sound X_ok (n := a33) (e ▸ hV) (by kernel_rfl) (by kernel_rfl) rfl rfl

def vc34 (left : Int) (head : Int) (mtu : Int) (w : World) (R : SV → World → Prop) : Prop :=
  Br (decide (wr IntKind.i64 (head + left) ≤ mtu)) (R (SV.int IntKind.i64 left) w)
    (∃ (I : Int → World → Prop),
      ∃ (M : Int → World → Nat),
        I 0 w ∧
          ∀ (n : Int) (w1 : World),
            I n w1 →
              Br (decide (wr IntKind.i64 (wr IntKind.i64 (head + n) + 8) ≤ mtu)) (I (wr IntKind.i64 (n + 8)) w1 ∧ M (wr IntKind.i64 (n + 8)) w1 < M n w1)
                (R (SV.int IntKind.i64 n) w1))
theorem f34_of (left : Int) (head : Int) (mtu : Int) (w : World) (R : SV → World → Prop) (hV : vc34 left head mtu w R) : Ret Try.prog 34 [.int .i64 left, .int .i64 head, .int .i64 mtu] w R :=
  have e : vc34 left head mtu w R = fnVC X Try.f34 a34 [.int .i64 left, .int .i64 head, .int .i64 mtu] w R := by kernel_rfl
  fnVC_sound X_ok (n := a34) (e ▸ hV) (by kernel_rfl) (by kernel_rfl) rfl rfl

def vc35 (l : Sl) (w : World) (R : SV → World → Prop) : Prop :=
  Ret Try.prog 45 [SV.slice l] w fun (r : SV) (w1 : World) => ∃ (s : Sl), ∃ (n : Int), r = SV.tuple [SV.slice s, SV.int IntKind.i64 n] ∧ R (SV.int IntKind.i64 (↑s.2 : Int)) w1
theorem f35_of (l : Sl) (w : World) (R : SV → World → Prop) (hV : vc35 l w R) : Ret Try.prog 35 [.slice l] w R :=
  have e : vc35 l w R = fnVC X Try.f35 a35 [.slice l] w R := by kernel_rfl
  fnVC_sound X_ok (n := a35) (e ▸ hV) (by kernel_rfl) (by kernel_rfl) rfl rfl

def vc36 (l : Sl) (copied : Bool) (w : World) (R : SV → World → Prop) : Prop :=
  ∃ (I : Sl → Int → World → Prop),
    ∃ (M : Sl → Int → World → Nat),
      I { ptr := none, len := 0, cap := 0 } 0 w ∧
        ∀ (s : Sl) (n : Int) (w1 : World),
          I s n w1 →
            Br (decide (n < (↑l.2 : Int)))
              (Need (decide (0 ≤ n) && decide (n < (↑l.2 : Int)) && Option.isSome l.1)
                (∃ (n_1 : Int),
                  World.cell? w1 (Sl.at l 2 (Int.toNat n)) = some (Value.int IntKind.i64 n_1) ∧
                    ∃ (s_1 : Sl),
                      World.cell? w1 (Addr.add (Sl.at l 2 (Int.toNat n)) 1) = some (Sl.val s_1) ∧
                        ∀ (b : Nat),
                          Br (!copied)
                            (∀ (w1_1 : World),
                              Upd [] [b] w1 w1_1 →
                                Ret Try.prog 54 [SV.slice s_1] w1_1 fun (r : SV) (w1_2 : World) =>
                                  ∃ (s_2 : Sl),
                                    r = SV.slice s_2 ∧
                                      Keeps [b] w1_1 w1_2 ∧
                                        Upd [] [] w1 w1_2 ∧
                                          ∀ (b_1 : Nat) (w1_3 : World),
                                            Upd [] [b_1] w1_2 w1_3 →
                                              (World.heap w1_3)[b_1]? = some (Obj.cells { toList := SV.cells (SV.struct [SV.struct [SV.int IntKind.i64 n_1, SV.slice s_2]]) } 104) →
                                                Vc.Append 104 2 32 s { ptr := some { block := b_1, off := 0 }, len := 1, cap := 1 } [b] w1_3 fun (r : Sl) (w : World) =>
                                                  I r (wr IntKind.i64 (n + 1)) w ∧ M r (wr IntKind.i64 (n + 1)) w < M s n w1)
                            (Br (iand IntKind.i64 n_1 128 != 0)
                              (∀ (w1_1 : World),
                                Upd [] [b] w1 w1_1 →
                                  Ret Try.prog 54 [SV.slice s_1] w1_1 fun (r : SV) (w1_2 : World) =>
                                    ∃ (s_2 : Sl),
                                      r = SV.slice s_2 ∧
                                        Keeps [b] w1_1 w1_2 ∧
                                          Upd [] [] w1 w1_2 ∧
                                            ∀ (b_1 : Nat) (w1_3 : World),
                                              Upd [] [b_1] w1_2 w1_3 →
                                                (World.heap w1_3)[b_1]? = some (Obj.cells { toList := SV.cells (SV.struct [SV.struct [SV.int IntKind.i64 n_1, SV.slice s_2]]) } 104) →
                                                  Vc.Append 104 2 32 s { ptr := some { block := b_1, off := 0 }, len := 1, cap := 1 } [b] w1_3 fun (r : Sl) (w : World) =>
                                                    I r (wr IntKind.i64 (n + 1)) w ∧ M r (wr IntKind.i64 (n + 1)) w < M s n w1)
                              (∀ (w1_1 : World), Upd [] [b] w1 w1_1 → I s (wr IntKind.i64 (n + 1)) w1_1 ∧ M s (wr IntKind.i64 (n + 1)) w1_1 < M s n w1))))
              (R (SV.slice s) w1)
theorem f36_of (l : Sl) (copied : Bool) (w : World) (R : SV → World → Prop) (hV : vc36 l copied w R) : Ret Try.prog 36 [.slice l, .bool copied] w R :=
  have e : vc36 l copied w R = fnVC X Try.f36 a36 [.slice l, .bool copied] w R := by kernel_rfl
  fnVC_sound X_ok (n := a36) (e ▸ hV) (by kernel_rfl) (by kernel_rfl) rfl rfl

def vc37 (h_0 : Int) (h_1 : Int) (h_2 : Bool) (h_3 : Bool) (h_4 : Int) (h_5 : Int) (h_6 : Int) (h_7_0 : Int) (h_7_1 : Nat → Int) (h_8_0 : Int) (h_8_1 : Nat → Int) (h_9 : Sl) (h_10 : Sl) (w : World) (R : SV → World → Prop) : Prop :=
  ∀ (b b_1 : Nat) (w1 : World),
    Upd [] [b_1, b] w w1 →
      Ret Try.prog 36 [SV.slice h_9, SV.bool false] w1 fun (r : SV) (w1_1 : World) =>
        ∃ (s : Sl),
          r = SV.slice s ∧
            Keeps [b, b_1] w1 w1_1 ∧
              ∀ (w1 : World),
                Upd [b] [] w1_1 w1 →
                  Ret Try.prog 54 [SV.slice h_10] w1 fun (r : SV) (w1_2 : World) =>
                    ∃ (s_1 : Sl),
                      r = SV.slice s_1 ∧
                        Keeps [b, b_1] w1 w1_2 ∧
                          ∀ (w1 : World),
                            Upd [b_1, b] [] w1_2 w1 →
                              R
                                (SV.struct
                                  [SV.int IntKind.i64 h_0, SV.int IntKind.i64 h_1, SV.bool h_2, SV.bool h_3, SV.int IntKind.i64 h_4, SV.int IntKind.i64 h_5, SV.int IntKind.i64 h_6,
                                    SV.struct [SV.int IntKind.i64 h_7_0, SV.arr IntKind.u8 16 h_7_1], SV.struct [SV.int IntKind.i64 h_8_0, SV.arr IntKind.u8 16 h_8_1], SV.slice s,
                                    SV.slice s_1])
                                w1
theorem f37_of (h_0 : Int) (h_1 : Int) (h_2 : Bool) (h_3 : Bool) (h_4 : Int) (h_5 : Int) (h_6 : Int) (h_7_0 : Int) (h_7_1 : Nat → Int) (h_8_0 : Int) (h_8_1 : Nat → Int) (h_9 : Sl) (h_10 : Sl) (w : World) (R : SV → World → Prop) (hV : vc37 h_0 h_1 h_2 h_3 h_4 h_5 h_6 h_7_0 h_7_1 h_8_0 h_8_1 h_9 h_10 w R) : Ret Try.prog 37 [.struct [.int .i64 h_0, .int .i64 h_1, .bool h_2, .bool h_3, .int .i64 h_4, .int .i64 h_5, .int .i64 h_6, .struct [.int .i64 h_7_0, .arr .u8 16 h_7_1], .struct [.int .i64 h_8_0, .arr .u8 16 h_8_1], .slice h_9, .slice h_10]] w R :=
  have e : vc37 h_0 h_1 h_2 h_3 h_4 h_5 h_6 h_7_0 h_7_1 h_8_0 h_8_1 h_9 h_10 w R = fnVC X Try.f37 a37 [.struct [.int .i64 h_0, .int .i64 h_1, .bool h_2, .bool h_3, .int .i64 h_4, .int .i64 h_5, .int .i64 h_6, .struct [.int .i64 h_7_0, .arr .u8 16 h_7_1], .struct [.int .i64 h_8_0, .arr .u8 16 h_8_1], .slice h_9, .slice h_10]] w R := by kernel_rfl
  fnVC_sound X_ok (n := a37) (e ▸ hV) (by kernel_rfl) (by kernel_rfl) rfl rfl

def vc38 (b : Sl) (mtu : Int) (h : Value) (w : World) (R : SV → World → Prop) : Prop :=
  ∃ (I : Sl → Int → World → Prop),
    ∃ (M : Sl → Int → World → Nat),
      I { ptr := none, len := 0, cap := 0 } 0 w ∧
        ∀ (s : Sl) (n : Int) (w1 : World),
          I s n w1 →
            ∃ (d : TypeId),
              ∃ (x : Value),
                ∃ (f : Nat),
                  ∃ (y : Value),
                    h = Value.iface d x ∧
                      MethOf Try.prog d x "weir/split.head" f y ∧
                        nthD false
                              [false, false, true, true, true, true, true, true, true, true, true, true, true, true, true, true, true, true, true, true, true, true, true, true, true,
                                true, true, true, true, true, true, true, true, true, true, true, true, true, true, true, true, true, true, true, true, true, true, true, true, true,
                                true, true, true, true, true, true, true, true, true, true, true, true, true, true, true, true, true, true, true, true, true, true, true, true, true,
                                true, true, true, true, true, true, true, true, true, true, true, true, false, false, false, false, false, false, false, false, false, false, false,
                                false, false, false, false, false, false, true, false]
                              f =
                            true ∧
                          Ret Try.prog f [SV.raw y, SV.bool (n == 0)] w1 fun (r : SV) (w1_1 : World) =>
                            ∃ (n_1 : Int),
                              r = SV.int IntKind.i64 n_1 ∧
                                Br (decide (wr IntKind.i64 ((↑b.2 : Int) - n) ≤ wr IntKind.i64 (mtu - n_1)))
                                  (Need
                                    (decide (0 ≤ (↑b.2 : Int)) && decide ((↑b.2 : Int) ≤ (↑b.3 : Int)) &&
                                        (decide (0 ≤ (↑b.2 : Int)) && decide ((↑b.2 : Int) ≤ (↑(Int.toNat (↑b.2 : Int)) : Int))) &&
                                      (decide (0 ≤ n) && decide (n ≤ (↑(Int.toNat (↑b.2 : Int)) : Int))))
                                    (Ret Try.prog 54 [SV.slice (Sl.sub b 1 (Int.toNat n) (Int.toNat (↑b.2 : Int)) (Int.toNat (↑b.2 : Int)))] w1_1 fun (r : SV) (w1 : World) =>
                                      ∃ (s_1 : Sl),
                                        r = SV.slice s_1 ∧
                                          ∀ (b : Nat) (w1_2 : World),
                                            Upd [] [b] w1 w1_2 →
                                              (World.heap w1_2)[b]? =
                                                  some (Obj.cells { toList := SV.cells (SV.struct [SV.struct [SV.int IntKind.i64 n, SV.slice s_1, SV.bool true]]) } 97) →
                                                Vc.Append 97 3 40 s { ptr := some { block := b, off := 0 }, len := 1, cap := 1 } [] w1_2 fun (r : Sl) (w : World) =>
                                                  R (SV.slice r) w))
                                  (Need
                                    (decide (0 ≤ wr IntKind.i64 (n + wr IntKind.i64 (wr IntKind.i64 (Int.tdiv (wr IntKind.i64 (mtu - n_1)) 8) * 8))) &&
                                          decide (wr IntKind.i64 (n + wr IntKind.i64 (wr IntKind.i64 (Int.tdiv (wr IntKind.i64 (mtu - n_1)) 8) * 8)) ≤ (↑b.3 : Int)) &&
                                        (decide (0 ≤ wr IntKind.i64 (n + wr IntKind.i64 (wr IntKind.i64 (Int.tdiv (wr IntKind.i64 (mtu - n_1)) 8) * 8))) &&
                                          decide
                                            (wr IntKind.i64 (n + wr IntKind.i64 (wr IntKind.i64 (Int.tdiv (wr IntKind.i64 (mtu - n_1)) 8) * 8)) ≤
                                              (↑(Int.toNat (wr IntKind.i64 (n + wr IntKind.i64 (wr IntKind.i64 (Int.tdiv (wr IntKind.i64 (mtu - n_1)) 8) * 8)))) : Int))) &&
                                      (decide (0 ≤ n) &&
                                        decide (n ≤ (↑(Int.toNat (wr IntKind.i64 (n + wr IntKind.i64 (wr IntKind.i64 (Int.tdiv (wr IntKind.i64 (mtu - n_1)) 8) * 8)))) : Int))))
                                    (Ret Try.prog 54
                                      [SV.slice
                                          (Sl.sub b 1 (Int.toNat n) (Int.toNat (wr IntKind.i64 (n + wr IntKind.i64 (wr IntKind.i64 (Int.tdiv (wr IntKind.i64 (mtu - n_1)) 8) * 8))))
                                            (Int.toNat (wr IntKind.i64 (n + wr IntKind.i64 (wr IntKind.i64 (Int.tdiv (wr IntKind.i64 (mtu - n_1)) 8) * 8)))))]
                                      w1_1 fun (r : SV) (w1_2 : World) =>
                                      ∃ (s_1 : Sl),
                                        r = SV.slice s_1 ∧
                                          ∀ (b : Nat) (w1_3 : World),
                                            Upd [] [b] w1_2 w1_3 →
                                              (World.heap w1_3)[b]? =
                                                  some (Obj.cells { toList := SV.cells (SV.struct [SV.struct [SV.int IntKind.i64 n, SV.slice s_1, SV.bool false]]) } 97) →
                                                Vc.Append 97 3 40 s { ptr := some { block := b, off := 0 }, len := 1, cap := 1 } [] w1_3 fun (r : Sl) (w : World) =>
                                                  I r (wr IntKind.i64 (n + wr IntKind.i64 (wr IntKind.i64 (Int.tdiv (wr IntKind.i64 (mtu - n_1)) 8) * 8))) w ∧
                                                    M r (wr IntKind.i64 (n + wr IntKind.i64 (wr IntKind.i64 (Int.tdiv (wr IntKind.i64 (mtu - n_1)) 8) * 8))) w < M s n w1))
theorem f38_of (b : Sl) (mtu : Int) (h : Value) (w : World) (R : SV → World → Prop) (hV : vc38 b mtu h w R) : Ret Try.prog 38 [.slice b, .int .i64 mtu, .raw h] w R :=
  have e : vc38 b mtu h w R = fnVC X Try.f38 a38 [.slice b, .int .i64 mtu, .raw h] w R := by kernel_rfl
  fnVC_sound X_ok (n := a38) (e ▸ hV) (by kernel_rfl) (by kernel_rfl) rfl rfl

def vc39 (a : Sl) (b : Sl) (w : World) (R : SV → World → Prop) : Prop :=
  Br ((↑a.2 : Int) != (↑b.2 : Int)) (R (SV.bool false) w)
    (∃ (I : Int → World → Prop),
      ∃ (M : Int → World → Nat),
        I 0 w ∧
          ∀ (n : Int) (w1 : World),
            I n w1 →
              Br (decide (n < (↑a.2 : Int)))
                (∀ (J : World → Prop),
                  (∀ (w1_1 : World), I (wr IntKind.i64 (n + 1)) w1_1 ∧ M (wr IntKind.i64 (n + 1)) w1_1 < M n w1 → J w1_1) →
                    Need (decide (0 ≤ n) && decide (n < (↑a.2 : Int)) && Option.isSome a.1)
                      (∃ (n_1 : Int),
                        World.cell? w1 (Sl.at a 2 (Int.toNat n)) = some (Value.int IntKind.i64 n_1) ∧
                          Need (decide (0 ≤ n) && decide (n < (↑b.2 : Int)) && Option.isSome b.1)
                            (∃ (n_2 : Int),
                              World.cell? w1 (Sl.at b 2 (Int.toNat n)) = some (Value.int IntKind.i64 n_2) ∧
                                Br (n_1 != n_2) (∀ (w1_1 : World), Upd [] [] w1 w1_1 → R (SV.bool false) w1_1)
                                  (Need (decide (0 ≤ n) && decide (n < (↑a.2 : Int)) && Option.isSome a.1)
                                    (∃ (s : Sl),
                                      World.cell? w1 (Addr.add (Sl.at a 2 (Int.toNat n)) 1) = some (Sl.val s) ∧
                                        Need (decide (0 ≤ n) && decide (n < (↑b.2 : Int)) && Option.isSome b.1)
                                          (∃ (s_1 : Sl),
                                            World.cell? w1 (Addr.add (Sl.at b 2 (Int.toNat n)) 1) = some (Sl.val s_1) ∧
                                              ∀ (w1_1 : World),
                                                Upd [] [] w1 w1_1 →
                                                  Ret Try.prog 11 [SV.slice s, SV.slice s_1] w1_1 fun (r : SV) (w1 : World) =>
                                                    ∃ (b : Bool), r = SV.bool b ∧ Br (!b) (R (SV.bool false) w1) (J w1)))))))
                (R (SV.bool true) w1))
theorem f39_of (a : Sl) (b : Sl) (w : World) (R : SV → World → Prop) (hV : vc39 a b w R) : Ret Try.prog 39 [.slice a, .slice b] w R :=
  have e : vc39 a b w R = fnVC X Try.f39 a39 [.slice a, .slice b] w R := by kernel_rfl
  fnVC_sound X_ok (n := a39) (e ▸ hV) (by kernel_rfl) (by kernel_rfl) rfl rfl

def vc40 (n : Int) (m : Int) (w : World) (R : SV → World → Prop) : Prop :=
  Need (m != 0) (Br (decide (Int.tmod n m < 0)) (R (SV.int IntKind.i64 (wr IntKind.i64 (Int.tmod n m + m))) w) (R (SV.int IntKind.i64 (Int.tmod n m)) w))
theorem f40_of (n : Int) (m : Int) (w : World) (R : SV → World → Prop) (hV : vc40 n m w R) : Ret Try.prog 40 [.int .i64 n, .int .i64 m] w R :=
  have e : vc40 n m w R = fnVC X Try.f40 a40 [.int .i64 n, .int .i64 m] w R := by kernel_rfl
  fnVC_sound X_ok (n := a40) (e ▸ hV) (by kernel_rfl) (by kernel_rfl) rfl rfl

def vc41 (l : Sl) (n : Int) (w : World) (R : SV → World → Prop) : Prop :=
  ∃ (I : Int → World → Prop),
    ∃ (M : Int → World → Nat),
      I 0 w ∧
        ∀ (n_1 : Int) (w1 : World),
          I n_1 w1 →
            Br (decide (n_1 < (↑l.2 : Int)))
              (Need (decide (0 ≤ n_1) && decide (n_1 < (↑l.2 : Int)) && Option.isSome l.1)
                (∃ (n_2 : Int),
                  World.cell? w1 (Sl.at l 1 (Int.toNat n_1)) = some (Value.int IntKind.i64 n_2) ∧
                    Br (n_2 == n) (R (SV.bool true) w1) (I (wr IntKind.i64 (n_1 + 1)) w1 ∧ M (wr IntKind.i64 (n_1 + 1)) w1 < M n_1 w1)))
              (R (SV.bool false) w1)
theorem f41_of (l : Sl) (n : Int) (w : World) (R : SV → World → Prop) (hV : vc41 l n w R) : Ret Try.prog 41 [.slice l, .int .i64 n] w R :=
  have e : vc41 l n w R = fnVC X Try.f41 a41 [.slice l, .int .i64 n] w R := by kernel_rfl
  fnVC_sound X_ok (n := a41) (e ▸ hV) (by kernel_rfl) (by kernel_rfl) rfl rfl

def vc16 (a_0 : Int) (a_1 : Int) (a_2 : Bool) (a_3 : Bool) (a_4 : Int) (a_5 : Int) (a_6 : Int) (a_7_0 : Int) (a_7_1 : Nat → Int) (a_8_0 : Int) (a_8_1 : Nat → Int) (a_9 : Sl) (a_10 : Sl) (h_0 : Int) (h_1 : Int) (h_2 : Bool) (h_3 : Bool) (h_4 : Int) (h_5 : Int) (h_6 : Int) (h_7_0 : Int) (h_7_1 : Nat → Int) (h_8_0 : Int) (h_8_1 : Nat → Int) (h_9 : Sl) (h_10 : Sl) (w : World) (R : SV → World → Prop) : Prop :=
  ∀ (b b_1 : Nat),
    Br (a_1 != h_1) (∀ (w1 : World), Upd [] [b_1, b] w w1 → R (SV.bool true) w1)
      (Br (a_6 != h_6) (∀ (w1 : World), Upd [] [b_1, b] w w1 → R (SV.bool true) w1)
        (Br (!(a_7_0 == h_7_0 && eqArr 16 a_7_1 h_7_1)) (∀ (w1 : World), Upd [] [b_1, b] w w1 → R (SV.bool true) w1)
          (∀ (w1 : World), Upd [] [b_1, b] w w1 → R (SV.bool !(a_8_0 == h_8_0 && eqArr 16 a_8_1 h_8_1)) w1)))
theorem f16_of (a_0 : Int) (a_1 : Int) (a_2 : Bool) (a_3 : Bool) (a_4 : Int) (a_5 : Int) (a_6 : Int) (a_7_0 : Int) (a_7_1 : Nat → Int) (a_8_0 : Int) (a_8_1 : Nat → Int) (a_9 : Sl) (a_10 : Sl) (h_0 : Int) (h_1 : Int) (h_2 : Bool) (h_3 : Bool) (h_4 : Int) (h_5 : Int) (h_6 : Int) (h_7_0 : Int) (h_7_1 : Nat → Int) (h_8_0 : Int) (h_8_1 : Nat → Int) (h_9 : Sl) (h_10 : Sl) (w : World) (R : SV → World → Prop) (hV : vc16 a_0 a_1 a_2 a_3 a_4 a_5 a_6 a_7_0 a_7_1 a_8_0 a_8_1 a_9 a_10 h_0 h_1 h_2 h_3 h_4 h_5 h_6 h_7_0 h_7_1 h_8_0 h_8_1 h_9 h_10 w R) : Ret Try.prog 16 [.struct [.int .i64 a_0, .int .i64 a_1, .bool a_2, .bool a_3, .int .i64 a_4, .int .i64 a_5, .int .i64 a_6, .struct [.int .i64 a_7_0, .arr .u8 16 a_7_1], .struct [.int .i64 a_8_0, .arr .u8 16 a_8_1], .slice a_9, .slice a_10], .struct [.int .i64 h_0, .int .i64 h_1, .bool h_2, .bool h_3, .int .i64 h_4, .int .i64 h_5, .int .i64 h_6, .struct [.int .i64 h_7_0, .arr .u8 16 h_7_1], .struct [.int .i64 h_8_0, .arr .u8 16 h_8_1], .slice h_9, .slice h_10]] w R :=
  have e : vc16 a_0 a_1 a_2 a_3 a_4 a_5 a_6 a_7_0 a_7_1 a_8_0 a_8_1 a_9 a_10 h_0 h_1 h_2 h_3 h_4 h_5 h_6 h_7_0 h_7_1 h_8_0 h_8_1 h_9 h_10 w R = fnVC X Try.f16 a16 [.struct [.int .i64 a_0, .int .i64 a_1, .bool a_2, .bool a_3, .int .i64 a_4, .int .i64 a_5, .int .i64 a_6, .struct [.int .i64 a_7_0, .arr .u8 16 a_7_1], .struct [.int .i64 a_8_0, .arr .u8 16 a_8_1], .slice a_9, .slice a_10], .struct [.int .i64 h_0, .int .i64 h_1, .bool h_2, .bool h_3, .int .i64 h_4, .int .i64 h_5, .int .i64 h_6, .struct [.int .i64 h_7_0, .arr .u8 16 h_7_1], .struct [.int .i64 h_8_0, .arr .u8 16 h_8_1], .slice h_9, .slice h_10]] w R := by kernel_rfl
  fnVC_sound X_ok (n := a16) (e ▸ hV) (by kernel_rfl) (by kernel_rfl) rfl rfl

def vc17 (seen : Sl) (n : Int) (piece : Int) (w : World) (R : SV → World → Prop) : Prop :=
  Br ((↑seen.2 : Int) == n) (R (SV.tuple [SV.int IntKind.i64 0, SV.int IntKind.i64 125]) w)
    (Ret Try.prog 41 [SV.slice seen, SV.int IntKind.i64 piece] w fun (r : SV) (w1 : World) =>
      ∃ (b : Bool),
        r = SV.bool b ∧
          Br b (R (SV.tuple [SV.int IntKind.i64 0, SV.int IntKind.i64 121]) w1)
            (Br (wr IntKind.i64 ((↑seen.2 : Int) + 1) == n) (R (SV.tuple [SV.int IntKind.i64 1, SV.int IntKind.i64 0]) w1)
              (R (SV.tuple [SV.int IntKind.i64 2, SV.int IntKind.i64 0]) w1)))
theorem f17_of (seen : Sl) (n : Int) (piece : Int) (w : World) (R : SV → World → Prop) (hV : vc17 seen n piece w R) : Ret Try.prog 17 [.slice seen, .int .i64 n, .int .i64 piece] w R :=
  have e : vc17 seen n piece w R = fnVC X Try.f17 a17 [.slice seen, .int .i64 n, .int .i64 piece] w R := by kernel_rfl
  fnVC_sound X_ok (n := a17) (e ▸ hV) (by kernel_rfl) (by kernel_rfl) rfl rfl

def vc14 (a_0 : Int) (a_1 : Int) (a_2 : Bool) (a_3 : Bool) (a_4 : Int) (a_5 : Int) (a_6 : Int) (a_7_0 : Int) (a_7_1 : Nat → Int) (a_8_0 : Int) (a_8_1 : Nat → Int) (a_9 : Sl) (a_10 : Sl) (b_0 : Int) (b_1 : Int) (b_2 : Bool) (b_3 : Bool) (b_4 : Int) (b_5 : Int) (b_6 : Int) (b_7_0 : Int) (b_7_1 : Nat → Int) (b_8_0 : Int) (b_8_1 : Nat → Int) (b_9 : Sl) (b_10 : Sl) (w : World) (R : SV → World → Prop) : Prop :=
  ∀ (b b_7 : Nat),
    Br (a_0 == b_0)
      (Br (a_1 == b_1)
        (Br (a_2 == b_2)
          (Br (a_3 == b_3)
            (Br (a_4 == b_4)
              (Br (a_5 == b_5)
                (Br (a_6 == b_6)
                  (Br (a_7_0 == b_7_0 && eqArr 16 a_7_1 b_7_1)
                    (Br (a_8_0 == b_8_0 && eqArr 16 a_8_1 b_8_1)
                      (∀ (w1 : World),
                        Upd [] [b_7, b] w w1 →
                          Ret Try.prog 39 [SV.slice a_9, SV.slice b_9] w1 fun (r : SV) (w1_1 : World) =>
                            ∃ (b_8 : Bool),
                              r = SV.bool b_8 ∧
                                Keeps [b, b_7] w1 w1_1 ∧
                                  Br b_8
                                    (Ret Try.prog 11 [SV.slice a_10, SV.slice b_10] w1_1 fun (r : SV) (w1 : World) =>
                                      ∃ (b_11 : Bool), r = SV.bool b_11 ∧ Keeps [b, b_7] w1_1 w1 ∧ R (SV.bool b_11) w1)
                                    (R (SV.bool false) w1_1))
                      (∀ (w1 : World), Upd [] [b_7, b] w w1 → R (SV.bool false) w1))
                    (∀ (w1 : World), Upd [] [b_7, b] w w1 → R (SV.bool false) w1))
                  (∀ (w1 : World), Upd [] [b_7, b] w w1 → R (SV.bool false) w1))
                (∀ (w1 : World), Upd [] [b_7, b] w w1 → R (SV.bool false) w1))
              (∀ (w1 : World), Upd [] [b_7, b] w w1 → R (SV.bool false) w1))
            (∀ (w1 : World), Upd [] [b_7, b] w w1 → R (SV.bool false) w1))
          (∀ (w1 : World), Upd [] [b_7, b] w w1 → R (SV.bool false) w1))
        (∀ (w1 : World), Upd [] [b_7, b] w w1 → R (SV.bool false) w1))
      (∀ (w1 : World), Upd [] [b_7, b] w w1 → R (SV.bool false) w1)
theorem f14_of (a_0 : Int) (a_1 : Int) (a_2 : Bool) (a_3 : Bool) (a_4 : Int) (a_5 : Int) (a_6 : Int) (a_7_0 : Int) (a_7_1 : Nat → Int) (a_8_0 : Int) (a_8_1 : Nat → Int) (a_9 : Sl) (a_10 : Sl) (b_0 : Int) (b_1 : Int) (b_2 : Bool) (b_3 : Bool) (b_4 : Int) (b_5 : Int) (b_6 : Int) (b_7_0 : Int) (b_7_1 : Nat → Int) (b_8_0 : Int) (b_8_1 : Nat → Int) (b_9 : Sl) (b_10 : Sl) (w : World) (R : SV → World → Prop) (hV : vc14 a_0 a_1 a_2 a_3 a_4 a_5 a_6 a_7_0 a_7_1 a_8_0 a_8_1 a_9 a_10 b_0 b_1 b_2 b_3 b_4 b_5 b_6 b_7_0 b_7_1 b_8_0 b_8_1 b_9 b_10 w R) : Ret Try.prog 14 [.struct [.int .i64 a_0, .int .i64 a_1, .bool a_2, .bool a_3, .int .i64 a_4, .int .i64 a_5, .int .i64 a_6, .struct [.int .i64 a_7_0, .arr .u8 16 a_7_1], .struct [.int .i64 a_8_0, .arr .u8 16 a_8_1], .slice a_9, .slice a_10], .struct [.int .i64 b_0, .int .i64 b_1, .bool b_2, .bool b_3, .int .i64 b_4, .int .i64 b_5, .int .i64 b_6, .struct [.int .i64 b_7_0, .arr .u8 16 b_7_1], .struct [.int .i64 b_8_0, .arr .u8 16 b_8_1], .slice b_9, .slice b_10]] w R :=
  have e : vc14 a_0 a_1 a_2 a_3 a_4 a_5 a_6 a_7_0 a_7_1 a_8_0 a_8_1 a_9 a_10 b_0 b_1 b_2 b_3 b_4 b_5 b_6 b_7_0 b_7_1 b_8_0 b_8_1 b_9 b_10 w R = fnVC X Try.f14 a14 [.struct [.int .i64 a_0, .int .i64 a_1, .bool a_2, .bool a_3, .int .i64 a_4, .int .i64 a_5, .int .i64 a_6, .struct [.int .i64 a_7_0, .arr .u8 16 a_7_1], .struct [.int .i64 a_8_0, .arr .u8 16 a_8_1], .slice a_9, .slice a_10], .struct [.int .i64 b_0, .int .i64 b_1, .bool b_2, .bool b_3, .int .i64 b_4, .int .i64 b_5, .int .i64 b_6, .struct [.int .i64 b_7_0, .arr .u8 16 b_7_1], .struct [.int .i64 b_8_0, .arr .u8 16 b_8_1], .slice b_9, .slice b_10]] w R := by kernel_rfl
  fnVC_sound X_ok (n := a14) (e ▸ hV) (by kernel_rfl) (by kernel_rfl) rfl rfl

def vc15 (n : Int) (order : Sl) (w : World) (R : SV → World → Prop) : Prop :=
  ∀ (J : Sl → World → Prop),
    (∀ (s : Sl) (w1 : World),
        (∃ (I : Sl → Int → World → Prop),
            ∃ (M : Sl → Int → World → Nat),
              I s (wr IntKind.i64 (n - 1)) w1 ∧
                ∀ (s : Sl) (n : Int) (w1 : World),
                  I s n w1 →
                    Br (decide (n ≥ 0))
                      (∀ (J : Sl → World → Prop),
                        (∀ (s_1 : Sl) (w1_1 : World), I s_1 (wr IntKind.i64 (n - 1)) w1_1 ∧ M s_1 (wr IntKind.i64 (n - 1)) w1_1 < M s n w1 → J s_1 w1_1) →
                          Ret Try.prog 41 [SV.slice s, SV.int IntKind.i64 n] w1 fun (r : SV) (w1 : World) =>
                            ∃ (b : Bool),
                              r = SV.bool b ∧
                                Br (!b)
                                  (∀ (b : Nat) (w1_1 : World),
                                    Upd [] [b] w1 w1_1 →
                                      (World.heap w1_1)[b]? = some (Obj.cells { toList := SV.cells (SV.struct [SV.int IntKind.i64 n]) } 3) →
                                        Vc.Append 3 1 8 s { ptr := some { block := b, off := 0 }, len := 1, cap := 1 } [] w1_1 fun (r : Sl) (w : World) => J r w)
                                  (J s w1))
                      (R (SV.slice s) w1)) →
          J s w1) →
      ∃ (I : Sl → Int → World → Prop),
        ∃ (M : Sl → Int → World → Nat),
          I { ptr := none, len := 0, cap := 0 } 0 w ∧
            ∀ (s : Sl) (n_1 : Int) (w1 : World),
              I s n_1 w1 →
                ∀ (J_1 : World → Prop),
                  (∀ (w1_1 : World),
                      Need (decide (0 ≤ n_1) && decide (n_1 < (↑order.2 : Int)) && Option.isSome order.1)
                          (∃ (n_2 : Int),
                            World.cell? w1_1 (Sl.at order 1 (Int.toNat n_1)) = some (Value.int IntKind.i64 n_2) ∧
                              Ret Try.prog 40 [SV.int IntKind.i64 n_2, SV.int IntKind.i64 n] w1_1 fun (r : SV) (w1_2 : World) =>
                                ∃ (n : Int),
                                  r = SV.int IntKind.i64 n ∧
                                    ∀ (b : Nat) (w1_3 : World),
                                      Upd [] [b] w1_2 w1_3 →
                                        (World.heap w1_3)[b]? = some (Obj.cells { toList := SV.cells (SV.struct [SV.int IntKind.i64 n]) } 3) →
                                          Vc.Append 3 1 8 s { ptr := some { block := b, off := 0 }, len := 1, cap := 1 } [] w1_3 fun (r : Sl) (w : World) =>
                                            I r (wr IntKind.i64 (n_1 + 1)) w ∧ M r (wr IntKind.i64 (n_1 + 1)) w < M s n_1 w1) →
                        J_1 w1_1) →
                    Br (decide (n_1 < (↑order.2 : Int))) (Br (decide (n_1 < 200)) (J_1 w1) (J s w1)) (J s w1)
theorem f15_of (n : Int) (order : Sl) (w : World) (R : SV → World → Prop) (hV : vc15 n order w R) : Ret Try.prog 15 [.int .i64 n, .slice order] w R :=
  have e : vc15 n order w R = fnVC X Try.f15 a15 [.int .i64 n, .slice order] w R := by kernel_rfl
  fnVC_sound X_ok (n := a15) (e ▸ hV) (by kernel_rfl) (by kernel_rfl) rfl rfl

def vc104 (h_0 : Int) (h_1 : Int) (first : Bool) (w : World) (R : SV → World → Prop) : Prop :=
  ∀ (b : Nat), Br first (∀ (w1 : World), Upd [] [b] w w1 → R (SV.int IntKind.i64 h_0) w1) (∀ (w1 : World), Upd [] [b] w w1 → R (SV.int IntKind.i64 h_1) w1)
theorem f104_of (h_0 : Int) (h_1 : Int) (first : Bool) (w : World) (R : SV → World → Prop) (hV : vc104 h_0 h_1 first w R) : Ret Try.prog 104 [.struct [.int .i64 h_0, .int .i64 h_1], .bool first] w R :=
  have e : vc104 h_0 h_1 first w R = fnVC X Try.f104 a104 [.struct [.int .i64 h_0, .int .i64 h_1], .bool first] w R := by kernel_rfl
  fnVC_sound X_ok (n := a104) (e ▸ hV) (by kernel_rfl) (by kernel_rfl) rfl rfl

end Go.Vc.Stop
end

section
section
open Go Go.Vc Go.Proofs
set_option linter.unusedVariables false
set_option linter.unusedSimpArgs false
set_option autoImplicit false
namespace Go.Vc.Stop

end Go.Vc.Stop
end
section
open Go Go.Vc Go.Proofs
set_option linter.unusedVariables false
set_option linter.unusedSimpArgs false
set_option autoImplicit false
namespace Go.Vc.Stop

theorem c80 {n : Int} {w : World} {R : SV → World → Prop} (h0 : 0 ≤ n) (h1 : n < 9223372036854775808) (k : R (.int .i64 (fd n)) w) : Ret Try.prog 80 [.int .i64 n] w R := by
  refine f80_of _ _ _ ?_
  unfold vc80
  refine bre (fun h => ?_) (fun h => ?_)
  · subst h; exact k
  · rw [wr_i64 (x := n - 1) (by omega) (by omega), tmod_pos (by omega), wr_i64 (by omega) (by omega)]
    unfold fd at k
    rw [if_neg h] at k
    exact k

theorem c69 {parts : Sl} {ls : List (List Int)} {ss : List Sl} {w : World} {R : SV → World → Prop} (h : Parts w parts ls ss) (hb : ∀ l ∈ ls, Byt l) (hn : ls.length < 9223372036854775807) (hl : ls.flatten.length ≤ 140737488355328)
    (k : R (.int .i64 (sumOf ls.flatten)) w) : Ret Try.prog 69 [.slice parts] w R := by
  refine f69_of _ _ _ ?_
  unfold vc69
  refine ⟨fun at_ n i w1 => w1 = w ∧ ∃ q : Nat, i = q ∧ q ≤ ls.length ∧ at_ = ((ls.take q).flatten.length : Nat) ∧ n = ws true (ls.take q).flatten, fun _ _ i _ => (ls.length - i).toNat, ⟨rfl, 0, rfl, by omega, by simp, by simp [ws]⟩, ?_⟩
  rintro at_ n i w1 ⟨rfl, q, rfl, hq, rfl, rfl⟩
  have hw0 := ws_nonneg true (byt_flat_take hb q)
  have hf := flat_le ls q
  refine brd (fun hlt => ?_) (fun hge => ?_)
  · rw [h.slen] at hlt
    obtain ⟨h1, h2, hc, hs, hp⟩ := h.get (i := (q : Int)) (by omega) hlt
    simp only [Int.toNat_natCast] at hs h1 h2 hc
    have hfs := flat_snoc h2
    have hf1 := flat_le ls (q + 1)
    rw [hfs, List.length_append] at hf1
    have hbp : Byt ls[q] := hb _ (List.getElem_mem _)
    refine ⟨fun at_ n j w2 => w2 = w1 ∧ ∃ t : Nat, j = t ∧ t ≤ ls[q].length ∧ at_ = ((ls.take q).flatten.length + t : Nat) ∧ n = ws true (ls.take q).flatten + ws (par true (ls.take q).flatten.length) (ls[q].take t),
      fun _ _ j _ => (ls[q].length - j).toNat, ⟨rfl, 0, rfl, by omega, by simp, by simp [ws]⟩, ?_⟩
    rintro at_ n j w2 ⟨rfl, t, rfl, ht, rfl, rfl⟩
    refine needP h (by omega) hlt ⟨_, (by rw [Int.toNat_natCast]; exact hc), ?_⟩
    have hw1 := ws_nonneg (par true (ls.take q).flatten.length) (hbp.take t)
    have hls : ((ls[q].take t).length : Int) = t := by rw [List.length_take]; omega
    refine brd (fun hlt2 => ?_) (fun hge2 => ?_)
    · refine fun J hJ => needP h (by omega) hlt ⟨_, (by rw [Int.toNat_natCast]; exact hc), ?_⟩
      rw [hs.len] at hlt2
      refine needB hs (by omega) hlt2 ⟨_, hs.byte (by omega) hlt2, ?_⟩
      have hbb := hbp.bt (t : Int)
      have hsn := ws_snoc (ls[q].take t) ls[q][t] (par true (ls.take q).flatten.length)
      rw [← take_snoc (by omega), ← bt_nat (by omega)] at hsn
      have hbt : par (par true (ls.take q).flatten.length) (ls[q].take t).length = decide (((ls.take q).flatten.length + t) % 2 = 0) := by
        rw [par_par, List.length_take, Nat.min_eq_left ht]; unfold par; split <;> simp_all
      rw [hbt] at hsn
      refine fun J1 hJ1 => bre (fun e => ?_) (fun e => ?_)
      all_goals
        rw [tmod_pos (by omega)] at e
        refine hJ1 _ _ (hJ _ _ _ ⟨⟨rfl, t + 1, ?_, by omega, ?_, ?_⟩, ?_⟩)
        · rw [wr_i64 (by omega) (by omega)]; push_cast; rfl
        · rw [wr_i64 (by omega) (by omega)]; push_cast; omega
        · first
            | rw [if_pos (decide_eq_true (by omega))] at hsn
            | rw [if_neg (by rw [decide_eq_true_eq]; omega)] at hsn
          first
            | rw [wr_i64 (x := bt ls[q] t) (by omega) (by omega), wr_i64 (x := bt ls[q] t * 256) (by omega) (by omega), wr_i64 (by omega) (by omega)]; omega
            | rw [wr_i64 (x := bt ls[q] t) (by omega) (by omega), wr_i64 (by omega) (by omega)]; omega
        · rw [wr_i64 (x := (t : Int) + 1) (by omega) (by omega)]; (try dsimp only); omega
    · have ht' : t = ls[q].length := by rw [hs.len] at hge2; omega
      subst ht'
      rw [List.take_length]
      refine ⟨⟨rfl, q + 1, ?_, by omega, ?_, ?_⟩, ?_⟩
      · rw [wr_i64 (by omega) (by omega)]; push_cast; rfl
      · rw [hfs, List.length_append]
      · rw [hfs, ws_app]
      · rw [wr_i64 (by omega) (by omega)]; (try dsimp only); omega
  · rw [h.slen] at hge
    have : q = ls.length := by omega
    subst this
    rw [List.take_length] at hw0 ⊢
    exact c80 (by omega) (by omega) ⟨_, rfl, k⟩
theorem c64 {parts : Sl} {ls : List (List Int)} {ss : List Sl} {w : World} {R : SV → World → Prop} (h : Parts w parts ls ss) (hb : ∀ l ∈ ls, Byt l) (hn : ls.length < 9223372036854775807) (hl : ls.flatten.length ≤ 140737488355328)
    (k : R (.int .i64 (65535 - sumOf ls.flatten)) w) : Ret Try.prog 64 [.slice parts] w R := by
  refine f64_of _ _ _ ?_
  unfold vc64
  refine c69 h hb hn hl ⟨_, rfl, ?_⟩
  have := fd_range (ws_nonneg true (byt_flat hb)).1
  rw [wr_i64 (by unfold sumOf; omega) (by unfold sumOf; omega)]
  exact k
end Go.Vc.Stop
end
end

section
open Go Go.Vc Go.Proofs
set_option linter.unusedVariables false
set_option linter.unusedSimpArgs false
set_option autoImplicit false
namespace Go.Vc.Stop

/-- a number of two bytes, written -/
def tw (n : Int) : List Int := [n / 256 % 256, n % 256]
theorem c63 {N : Nat} {b : Sl} {l : List Int} {n : Int} {w : World} {R : SV → World → Prop} (h : SeesB w b l) (o : Own N 1 w b) (hN : N ≤ w.heap.size) (hl : l.length ≤ 70368744177000) (hn : 0 ≤ n ∧ n ≤ 65535)
    (k : ∀ r w1, Upd b.blk [] w w1 → SeesB w1 r (l ++ tw n) → Own N 1 w1 r → R (.slice r) w1) : Ret Try.prog 63 [.slice b, .int .i64 n] w R := by
  refine f63_of _ _ _ _ ?_
  unfold vc63
  intro b1 w1 u1 hrow
  rw [tdiv_pos hn.1, tmod_pos hn.1, wr_i64 (by omega) (by omega), wr_u8, wr_u8, show n % 256 % 256 = n % 256 by omega] at hrow
  refine append_own (c := cU8) (new := tw n) (h.old u1) (o.old u1) (rowB hrow _ rfl rfl) (by have := u1.size; omega) (by simp) (by decide) (by simp [tw]; omega) fun r w2 hr ho u2 hn => ?_
  exact k r w2 ((u1.wide (m' := b.blk) (by simp)).step u2 (fun x hx => .inr hx)) hr ho
end Go.Vc.Stop
end

section
namespace Go.Vc
set_option linter.unusedVariables false
set_option linter.unusedSimpArgs false
set_option autoImplicit false
end Go.Vc
end

section
namespace Go.Vc
set_option linter.unusedVariables false
set_option linter.unusedSimpArgs false
set_option autoImplicit false
/-- the first m of an array's bytes are appended one by one -/
theorem app_loop' {w w0 : World} {s : Sl} {l : List Int} {f : Nat → Int} {m : Nat} {mi m2 : Int} {e e' : Nat} {cells : Int → List Value} {bs : List Nat} {K : Sl → World → Prop} {C : (Sl → Int → World → Prop) → (Sl → Int → World → Nat) → Sl → Int → World → Sl → World → Prop}
    (hm : mi = m) (hm2 : mi ≤ m2) (u : Upd [] [] w0 w) (h : SeesB w s l) (o : Own w0.heap.size 1 w s) (hl : l.length + m ≤ 70368744177664) (hcells : ∀ t : Nat, t < m → cells (t : Int) = [.int .u8 (f t)]) (hbs : ∀ b ∈ bs, b < w0.heap.size)
    (hC : ∀ (I : Sl → Int → World → Prop) (M : Sl → Int → World → Nat) s n w r w', I r (wr .i64 (n + 1)) w' → M r (wr .i64 (n + 1)) w' < M s n w → C I M s n w r w')
    (k : ∀ s w1, Upd [] [] w0 w1 → SeesB w1 s (l ++ arrL m f) → Own w0.heap.size 1 w1 s → K s w1) :
    ∃ (I : Sl → Int → World → Prop), ∃ (M : Sl → Int → World → Nat), I s 0 w ∧ ∀ (s : Sl) (n : Int) (w1 : World), I s n w1 →
      Br (decide (n < mi)) (Need (decide (0 ≤ n) && decide (n < m2)) (∀ (b : Nat) (w2 : World), Upd [] [b] w1 w2 → w2.heap[b]? = some (.cells (cells n).toArray e (0, 0)) → Append e' 1 1 s ⟨some ⟨b, 0, none⟩, 1, 1⟩ bs w2 fun r w3 => C I M s n w1 r w3)) (K s w1) := by
  subst hm
  refine ⟨fun s n w1 => Upd [] [] w0 w1 ∧ Own w0.heap.size 1 w1 s ∧ ∃ t : Nat, n = t ∧ t ≤ m ∧ SeesB w1 s (l ++ arrL t f), fun _ n _ => (m - n).toNat, ⟨u, o, 0, rfl, by omega, by simpa [arrL] using h⟩, ?_⟩
  rintro s n w1 ⟨u, o, t, rfl, ht, hs⟩
  refine brd (fun hlt => ?_) (fun hge => ?_)
  · refine needIx2 (by omega) (by omega) ?_
    intro b w2 u2 hrow
    rw [hcells t (by omega)] at hrow
    have ho2 := o.old u2
    have v2 := u.then u2
    refine append_own (c := cU8) (new := [f t]) (hs.old u2) ho2 (rowB hrow _ rfl rfl) v2.size (fun b hb hmem => by have := (ho2.blk b hb).1; have := hbs b hmem; omega) (by omega) (by simp [arrL_len]; omega) fun r w3 hr3 ho3 u3 _ => ?_
    refine hC _ _ _ _ _ _ _ ⟨v2.step0 u3 (fun b hb => (ho2.blk b hb).1), ho3, t + 1, wr_succ (by omega), by omega, ?_⟩ (by rw [wr_succ (by omega)]; (try dsimp only); omega)
    rw [arrL_succ, ← List.append_assoc]
    exact hr3
  · have : t = m := by omega
    subst this
    exact k s w1 u hs o
/-- two bytes of 0 do not matter to a sum -/
theorem sum_gap {a b : List Int} (h : a.length % 2 = 0) : sumOf (a ++ ([0, 0] ++ b)) = sumOf (a ++ b) := by
  have p1 : par true a.length = true := by unfold par; rw [if_pos h]
  unfold sumOf
  rw [ws_app, ws_app a b, p1, ws_app]
  have p2 : par true ([0, 0] : List Int).length = true := rfl
  rw [p2]
  have : ws true [0, 0] = 0 := rfl
  rw [this]
  congr 1
  omega
end Go.Vc
end

section
open Go Go.Vc Go.Proofs
set_option linter.unusedVariables false
set_option linter.unusedSimpArgs false
set_option autoImplicit false
namespace Go.Vc.Stop

noncomputable def serL (v : IpV) : List Int := if ipChk v = 0 then ipSer v else []
def b10 (v : IpV) : List Int := (ipHd v 0).take 10
def tl12 (v : IpV) : List Int := (ipHd v 0).drop 12
theorem hd_parts (v : IpV) {c : Int} : ipHd v c = b10 v ++ (tw c ++ tl12 v) := rfl

theorem words {c d : Bool} {a : Int} {w : World} {M : Int → World → Prop} {x1 x2 x3 x4 : Option SV} (ha : 0 ≤ a ∧ a < 8192) (h : M ((if c then 16384 else 0) + (if d then 8192 else 0) + a) w) :
    ∀ (J : Int → World → Prop), (∀ (n : Int) (w1 : World), (∀ (J : Int → World → Prop), (∀ (n : Int) (w1 : World), M n w1 → J n w1) → Br d (x1 = x1 ∧ J (wr .i64 (n + 8192)) w1) (x2 = x2 ∧ J n w1)) → J n w1) → Br c (x3 = x3 ∧ J (wr .i64 (a + 16384)) w) (x4 = x4 ∧ J a w) := by
  intro J hJ
  cases c <;> cases d
  · refine brf rfl ⟨rfl, hJ _ _ fun J2 hJ2 => brf rfl ⟨rfl, hJ2 _ _ ?_⟩⟩
    simpa using h
  · refine brf rfl ⟨rfl, hJ _ _ fun J2 hJ2 => brt rfl ⟨rfl, hJ2 _ _ ?_⟩⟩
    rw [wr_i64 (by omega) (by omega), Int.add_comm]; simpa using h
  · refine brt rfl ⟨rfl, hJ _ _ fun J2 hJ2 => brf rfl ⟨rfl, hJ2 _ _ ?_⟩⟩
    rw [wr_i64 (by omega) (by omega), Int.add_comm]; simpa using h
  · refine brt rfl ⟨rfl, hJ _ _ fun J2 hJ2 => brt rfl ⟨rfl, hJ2 _ _ ?_⟩⟩
    rw [wr_i64 (x := a + 16384) (by omega) (by omega), wr_i64 (by omega) (by omega), show a + 16384 + 8192 = 16384 + 8192 + a by omega]; simpa using h

set_option maxRecDepth 10000 in
theorem c56 {v : IpV} {so sd : Sl} {os : List (Int × Sl)} {w : World} {R : SV → World → Prop} (hO : Opts w so v.opts os) (hl : v.opts.length ≤ 4398046511104) (hod : ∀ o ∈ v.opts, o.data.length ≤ 140737488355328) (hd : SeesB w sd v.data) (hdl : v.data.length ≤ 140737488355328) (f : Fit v)
    (k : ∀ r w1, Upd [] [] w w1 → SeesB w1 r (serL v) → Own w.heap.size 1 w1 r → R (.tuple [.slice r, .int .i64 (ipChk v)]) w1) : Ret Try.prog 56 [ipSV v so sd] w R := by
  refine f56_of _ _ _ _ _ _ _ _ _ _ _ _ _ _ _ ?_
  unfold vc56
  intro b w1 u1
  have hb1 := u1.new (b := b) (by simp)
  refine c6 (hO.old u1) hl hod (hd.old u1).len hdl fun w2 u2 => ⟨_, rfl, kp u2, ?_⟩
  have v2 := u1.then u2
  refine bre' (fun hne => ?_) (fun hc => ?_)
  · refine k _ _ v2 ?_ (Own.none _ _ _)
    unfold serL; rw [if_neg hne]; exact Sees.nil _ _ _ _
  have k' : ∀ r w1, Upd [] [] w w1 → SeesB w1 r (ipSer v) → Own w.heap.size 1 w1 r → R (.tuple [.slice r, .int .i64 0]) w1 := fun r w1 u h o => by
    have := k r w1 u (by unfold serL; rw [if_pos hc]; exact h) o
    rwa [hc] at this
  obtain ⟨h1, h1b, h3, h4, h5, _, _, h8, h9, _⟩ := ipChk_ok hc
  have hr8 := hdL_r h8
  have hpl := putO_len h8
  have hwr := ipWord_r hc
  have hck := ipCk_r hc f
  refine c21 (hO.old v2) hl hod fun s w3 u3 hs3 hos3 => ⟨_, _, rfl, kp u3, ?_⟩
  unfold putL at hs3
  rw [if_pos h8] at hs3
  have v3 := v2.then u3
  have hsl := hs3.len
  have hdlen := hd.len
  have y3 := v3.size
  have y2 := u2.size
  have y23 := u3.size
  have hbw : b < w3.heap.size := by omega
  have en : wr .i64 (Int.tdiv (wr .i64 (20 + (s.len : Int))) 4) = (hdL v : Int) / 4 := by
    rw [wr_i64 (x := 20 + (s.len : Int)) (by omega) (by omega), tdiv_pos (by omega), wr_i64 (by omega) (by omega)]; unfold hdL; omega
  have et : wr .i64 (wr .i64 (20 + (s.len : Int)) + (sd.len : Int)) = (hdL v : Int) + v.data.length := by
    rw [wr_i64 (x := 20 + (s.len : Int)) (by omega) (by omega), wr_i64 (by omega) (by omega)]; unfold hdL; omega
  have eo : wr .i64 (Int.tdiv v.off 8) = v.off / 8 := by rw [tdiv_pos (by omega), wr_i64 (by omega) (by omega)]
  rw [en, et, eo]
  refine words (a := v.off / 8) (by omega) ?_
  have ew : (if v.df then (16384 : Int) else 0) + (if v.mf then 8192 else 0) + v.off / 8 = ipWord v := rfl
  rw [ew]
  intro b1 w4 u4 hr4
  have v4 := v3.then u4
  have e64 : wr .u8 (wr .i64 (64 + (hdL v : Int) / 4)) = 64 + (hdL v : Int) / 4 := by rw [wr_i64 (by omega) (by omega), wr_u8]; omega
  have etos : wr .u8 v.tos = v.tos := by rw [wr_u8]; omega
  rw [e64, etos] at hr4
  have hs4 : SeesB w4 ⟨some ⟨b1, 0, none⟩, 2, 2⟩ [64 + (hdL v : Int) / 4, v.tos] := rowB hr4 _ rfl rfl
  have ho4 : Own w3.heap.size 1 w4 ⟨some ⟨b1, 0, none⟩, 2, 2⟩ := own_row hr4 (u4.new (by simp)).1 rfl (Nat.le_refl _)
  refine c63 hs4 ho4 u4.size (by simp) (by omega) fun r5 w5 u5 hr5 ho5 => ⟨_, rfl, kpm u5 (by simp; have := u4.size; omega) (fun x hx hm => by have := (ho4.blk x hm).1; simp at hx; omega), ?_⟩
  have t5 := u4.step0 u5 (fun x hx => (ho4.blk x hx).1)
  refine c63 hr5 ho5 t5.size (by simp [tw]) (by omega) fun r6 w6 u6 hr6 ho6 => ⟨_, rfl, kpm u6 (by simp; have := t5.size; omega) (fun x hx hm => by have := (ho5.blk x hm).1; simp at hx; omega), ?_⟩
  have t6 := t5.step0 u6 (fun x hx => (ho5.blk x hx).1)
  refine c63 hr6 ho6 t6.size (by simp [tw]) (by omega) fun r7 w7 u7 hr7 ho7 => ⟨_, rfl, kpm u7 (by simp; have := t6.size; omega) (fun x hx hm => by have := (ho6.blk x hm).1; simp at hx; omega), ?_⟩
  have t7 := t6.step0 u7 (fun x hx => (ho6.blk x hx).1)
  have z7 := t7.size
  intro b2 w8 u8 hr8'
  have ettl : wr .u8 v.ttl = v.ttl := by rw [wr_u8]; omega
  have epro : wr .u8 v.proto = v.proto := by rw [wr_u8]; omega
  rw [ettl, epro] at hr8'
  have t8 := t7.then u8
  refine append_own (c := cU8) (new := [v.ttl, v.proto]) (hr7.old u8) (ho7.old u8) (rowB hr8' _ rfl rfl) t8.size (fun x hx hm => by have := (ho7.blk x hx).1; simp at hm; omega) (by decide) (by simp [tw]) fun r9 w9 hr9 ho9 u9 _ => ?_
  have t9 := t8.step0 u9 (fun x hx => (ho7.blk x hx).1)
  have eb : [64 + (hdL v : Int) / 4, v.tos] ++ tw ((hdL v : Int) + v.data.length) ++ tw v.id ++ tw (ipWord v) ++ [v.ttl, v.proto] = b10 v := rfl
  rw [eb] at hr9
  have z9 := t9.size
  have hb9 : ∀ x ∈ [b], x < w9.heap.size := by simp; omega
  refine app_loop' (w0 := w9) (m := 4) (f := v.sa) rfl (by omega) (Upd.refl w9) (Sees.nil _ _ _ _) (Own.none _ _ _) (by simp) (fun t ht => by simp [SV.cells, SV.cellsL]) hb9 (fun I M s n w r w' h1 h2 => ⟨rfl, h1, h2⟩) fun s10 w10 u10 hs10 ho10 => ?_
  refine app_loop' (w0 := w9) (m := 4) (f := v.da) rfl (by omega) u10 hs10 ho10 (by simp [arrL_len]) (fun t ht => by simp [SV.cells, SV.cellsL]) hb9 (fun I M s n w r w' h1 h2 => ⟨rfl, h1, h2⟩) fun s11 w11 u11 hs11 ho11 => ?_
  have kb : ∀ {s' : Sl} {w' : World}, Own w9.heap.size 1 w' s' → ∀ x ∈ s'.blk, x ∉ [b] := fun o x hx hm => by have := (o.blk x hx).1; simp at hm; omega
  refine append_own (c := cU8) hs11 ho11 ((hs3.old t9).old u11) u11.size (kb ho11) (by decide) (by simp [arrL_len]; omega) fun r12 w12 hr12 ho12 u12 _ => ?_
  have t12 := u11.step0 u12 (fun x hx => (ho11.blk x hx).1)
  have etl : [] ++ arrL 4 v.sa ++ arrL 4 v.da ++ putO v.opts = tl12 v := rfl
  rw [etl] at hr12
  intro b3 w13 u13 hr13
  have t13 := t12.then u13
  have s9 := hr9.old t13
  have o9 := ho9.old t13
  have hP := rowP (n := 2) (cap := 2) hr13 (ss := [r9, r12]) rfl rfl (ls := [b10 v, tl12 v]) ⟨s9, hr12.old u13, trivial⟩
  have hH := ipHd_byt hc f 0
  have lH := ipHd_len v 0
  have l10 : (b10 v).length = 10 := by unfold b10; rw [List.length_take, lH]; omega
  have ltl : (tl12 v).length = hdL v - 12 := by unfold tl12; rw [List.length_drop, lH]
  refine c64 hP (by simp; exact ⟨hH.take _, hH.drop _⟩) (by simp) (by simp [l10, ltl]; omega) ⟨_, rfl, kp (Upd.refl _), ?_⟩
  have esum : 65535 - sumOf ([b10 v, tl12 v] : List (List Int)).flatten = ipCk v := by
    have : ([b10 v, tl12 v] : List (List Int)).flatten = b10 v ++ tl12 v := by simp
    rw [this]
    unfold ipCk
    rw [hd_parts v, show tw 0 = [0, 0] from rfl, sum_gap (by rw [l10])]
  rw [esum]
  have T13 := t9.then t13
  have z13 := t13.size
  refine c63 s9 o9 T13.size (by rw [l10]; decide) (by omega) fun r14 w14 u14 hr14 ho14 => ⟨_, rfl, kpm u14 (by simp; omega) (fun x hx hm => by have := (o9.blk x hm).1; simp at hx; omega), ?_⟩
  have T14 := T13.step0 u14 (fun x hx => (o9.blk x hx).1)
  have n12 : ∀ x ∈ r12.blk, x ∉ r9.blk := fun x hx hm => by have := (ho12.blk x hx).1; have := (ho9.blk x hm).2; omega
  have hb3 : ∀ {s' : Sl} {w' : World}, Own w3.heap.size 1 w' s' → ∀ x ∈ s'.blk, x ∉ [b] := fun o x hx hm => by have := (o.blk x hx).1; simp at hm; omega
  refine append_own (c := cU8) hr14 ho14 ((hr12.old u13).upd u14 n12) T14.size (hb3 ho14) (by decide) (by rw [List.length_append, l10, ltl]; simp [tw]; omega) fun r15 w15 hr15 ho15 u15 _ => ?_
  have T15 := T14.step0 u15 (fun x hx => (ho14.blk x hx).1)
  rw [List.append_assoc, ← hd_parts v] at hr15
  have lH2 := ipHd_len v (ipCk v)
  have V15 := v3.then T15
  refine append_own (c := cU8) hr15 ho15 (hd.old V15) T15.size (hb3 ho15) (by decide) (by omega) fun r16 w16 hr16 ho16 u16 _ => ?_
  exact k' r16 w16 (V15.step0 u16 (fun x hx => by have := (ho15.blk x hx).1; omega)) hr16 (ho16.mono y3)
end Go.Vc.Stop
end

section
open Go Go.Vc Go.Proofs
set_option linter.unusedVariables false
set_option linter.unusedSimpArgs false
set_option autoImplicit false
namespace Go.Vc.Stop
/-- the options that go with this piece -/
def optF (c : Bool) (o : Opt) : Bool := !c || iand .i64 o.kind 128 != 0
theorem filter_snoc {α : Type} (f : α → Bool) {l : List α} {q : Nat} (h : q < l.length) : (l.take (q + 1)).filter f = (l.take q).filter f ++ if f l[q] then [l[q]] else [] := by
  rw [take_snoc h, List.filter_append]
  congr 1
  cases hf : f l[q] <;> simp [hf]
theorem filter_le {α : Type} (f : α → Bool) (l : List α) (q : Nat) : ((l.take q).filter f).length ≤ l.length := by
  have := List.length_filter_le f (l.take q)
  simp only [List.length_take] at this
  omega
section
variable {w : World} {R : SV → World → Prop}
set_option maxRecDepth 10000 in
theorem c36 {a : Sl} {l : List Opt} {os : List (Int × Sl)} {c : Bool} (h : Opts w a l os) (hl : l.length ≤ 4398046511000) (hd : ∀ o ∈ l, o.data.length ≤ 140737488351232)
    (k : ∀ s os w1, Upd [] [] w w1 → Opts w1 s (l.filter (optF c)) os → Own w.heap.size 2 w1 s → (∀ x ∈ os, Own w.heap.size 1 w1 x.2) → R (.slice s) w1) : Ret Try.prog 36 [.slice a, .bool c] w R := by
  refine f36_of _ _ _ _ ?_
  unfold vc36
  have hal := h.slen
  refine ⟨fun s i w1 => Upd [] [] w w1 ∧ ∃ (q : Nat) (os : List (Int × Sl)), i = q ∧ q ≤ l.length ∧ Opts w1 s ((l.take q).filter (optF c)) os ∧ Own w.heap.size 2 w1 s ∧ (∀ x ∈ os, Own w.heap.size 1 w1 x.2) ∧ (∀ x ∈ os, ∀ b ∈ x.2.blk, b ∉ s.blk), fun _ i _ => (l.length - i).toNat,
    ⟨Upd.refl w, 0, [], rfl, by omega, Opts.nil _ _ _, Own.none _ _ _, by simp, by simp⟩, ?_⟩
  rintro s i w1 ⟨u, q, os', rfl, hq, hO, oO, oo, of⟩
  have h1 := h.old u
  refine brd (fun hlt => ?_) (fun hge => ?_)
  · have hq2 : q < l.length := by omega
    obtain ⟨g1, g2, g3, g4⟩ := h1.get q hq2
    refine needO h1 (by omega) (by omega) ⟨_, (by rw [Int.toNat_natCast]; exact g1), ⟨_, (by rw [Int.toNat_natCast]; exact g2), ?_⟩⟩
    intro b
    have take : optF c l[q] = true → ∀ w2, Upd [] [b] w1 w2 → ∀ d w3, Upd [] [] w2 w3 → SeesB w3 d l[q].data → Own w2.heap.size 1 w3 d → ∀ b1 w4, Upd [] [b1] w3 w4 → w4.heap[b1]? = some (.cells (SV.struct [.struct [.int .i64 l[q].kind, .slice d]]).cells.toArray 104 (0, 0)) →
        Vc.Append 104 2 32 s ⟨some ⟨b1, 0, none⟩, 1, 1⟩ [b] w4 fun r w5 => (Upd [] [] w w5 ∧ ∃ (q' : Nat) (os : List (Int × Sl)), wr .i64 ((q : Int) + 1) = q' ∧ q' ≤ l.length ∧ Opts w5 r ((l.take q').filter (optF c)) os ∧ Own w.heap.size 2 w5 r ∧ (∀ x ∈ os, Own w.heap.size 1 w5 x.2) ∧ (∀ x ∈ os, ∀ b ∈ x.2.blk, b ∉ r.blk)) ∧ (l.length - wr .i64 ((q : Int) + 1)).toNat < (l.length - (q : Int)).toNat := by
      intro hf w2 u2 d w3 u3 hs3 ho3 b1 w4 u4 hr4
      have n2 := u2.new (b := b) (by simp)
      have v3 := (u.then u2).then u3
      have v4 := v3.then u4
      have y2 := u2.size; have y3 := u3.size; have y4 := u4.size
      have hO4 := ((hO.old u2).old u3).old u4
      have oO4 := ((oO.old u2).old u3).old u4
      have bs := oO.blk
      have bo : ∀ x ∈ os', ∀ z ∈ x.2.blk, z < w1.heap.size := fun x hx z hz => ((oo x hx).blk z hz).2
      have hol := hO.len
      have hfl := filter_le (optF c) l q
      refine append_own (c := cOpt) (new := [(l[q].kind, d)]) hO4.row oO4 (optRow hr4 rfl rfl) v4.size (fun x hx hm => by have := (bs x hx).2; simp at hm; omega) (by decide) (by simp [hO4.len]; omega) fun r w5 hr ho5 u5 hn => ?_
      have dis : ∀ x ∈ d.blk, x ∉ s.blk := fun x hx hm => by have := (ho3.blk x hx).1; have := (bs x hm).2; omega
      have hd5 := (hs3.old u4).upd u5 dis
      have hOs := Opts.snoc (o := l[q]) hO4 hr hd5 (fun j h2 => (hO4.each j h2).upd u5 (of _ (List.getElem_mem _)))
      refine ⟨⟨v4.step0 u5 (fun x hx => (bs x hx).1), q + 1, os' ++ [(l[q].kind, d)], wr_succ (by omega), by omega, by rw [filter_snoc _ hq2, if_pos hf]; exact hOs, ho5, ?_, ?_⟩, by rw [wr_succ (q := q) (by omega)]; (try dsimp only); omega⟩
      · intro x hx
        rcases List.mem_append.1 hx with hx | hx
        · exact (((((oo x hx).old u2).old u3).old u4).upd u5 (of x hx))
        · rw [List.mem_singleton] at hx
          subst hx
          exact ((ho3.old u4).upd u5 dis).mono (by have := u.size; omega)
      · intro x hx b' hb' hm
        rcases List.mem_append.1 hx with hx | hx
        · rcases hn b' hm with h' | h'
          · exact of x hx b' hb' h'
          · have := bo x hx b' hb'; omega
        · rw [List.mem_singleton] at hx
          subst hx
          rcases hn b' hm with h' | h'
          · exact dis b' hb' h'
          · have := (ho3.blk b' hb').2; omega
    refine brn (fun hc w2 u2 => ?_) (fun hc => brb (fun hk w2 u2 => ?_) (fun hk w2 u2 => ?_))
    · refine c54 (g3.old u2) (by have := hd _ (List.getElem_mem hq2); omega) fun d w3 u3 hs3 ho3 => ⟨_, rfl, kp u3, u2.forget.then u3, ?_⟩
      intro b1 w4 u4 hr4
      exact take (by simp [optF, hc]) w2 u2 d w3 u3 hs3 ho3 b1 w4 u4 hr4
    · refine c54 (g3.old u2) (by have := hd _ (List.getElem_mem hq2); omega) fun d w3 u3 hs3 ho3 => ⟨_, rfl, kp u3, u2.forget.then u3, ?_⟩
      intro b1 w4 u4 hr4
      exact take (by unfold optF; rw [hk]; simp) w2 u2 d w3 u3 hs3 ho3 b1 w4 u4 hr4
    · have hf : optF c l[q] = false := by unfold optF; rw [hk, hc]; rfl
      exact ⟨⟨u.then u2, q + 1, os', wr_succ (by omega), by omega, by rw [filter_snoc _ hq2, hf]; simpa using hO.old u2, oO.old u2, fun x hx => (oo x hx).old u2, of⟩, by rw [wr_succ (q := q) (by omega)]; (try dsimp only); omega⟩
  · have : q = l.length := by omega
    subst this
    rw [List.take_length] at hO
    exact k s os' w1 u hO oO oo
end
end Go.Vc.Stop
end

section
open Go Go.Vc Go.Proofs
set_option linter.unusedVariables false
set_option linter.unusedSimpArgs false
set_option autoImplicit false
namespace Go.Vc.Stop
section
variable {w : World} {R : SV → World → Prop}
theorem c35 {a : Sl} {l : List Opt} {os : List (Int × Sl)} (h : Opts w a l os) (hl : l.length ≤ 4398046511000) (hd : ∀ o ∈ l, o.data.length ≤ 140737488351232) (k : ∀ w1, Upd [] [] w w1 → R (.int .i64 ((putL l).length : Int)) w1) : Ret Try.prog 35 [.slice a] w R := by
  refine f35_of _ _ _ ?_
  unfold vc35
  refine c45 h (by omega) (fun o ho => by have := hd o ho; omega) fun s w1 u1 hs _ => ⟨_, _, rfl, ?_⟩
  rw [hs.len]
  exact k w1 u1
theorem c31 {v : IpV} {so sd : Sl} {os : List (Int × Sl)} (hO : Opts w so v.opts os) (hl : v.opts.length ≤ 4398046511000) (hod : ∀ o ∈ v.opts, o.data.length ≤ 140737488351232) (hd : SeesB w sd v.data) (hdl : v.data.length ≤ 140737488351232) (f : Fit v)
    (k : ∀ w1, Upd [] [] w w1 → R (.int .i64 ((serL v).length : Int)) w1) : Ret Try.prog 31 [ipSV v so sd] w R := by
  refine f31_of _ _ _ _ _ _ _ _ _ _ _ _ _ _ _ ?_
  unfold vc31
  intro b w1 u1
  refine c56 (hO.old u1) (by omega) (fun o ho => by have := hod o ho; omega) (hd.old u1) (by omega) f fun s w2 u2 hs _ => ⟨_, _, rfl, kp u2, ?_⟩
  rw [hs.len]
  exact k w2 (u1.then u2)
theorem c65 {b : Sl} {l : List Int} (h : SeesB w b l) (hl : l.length ≤ 140737488355328) (k : ∀ s w1, Upd [] [] w w1 → R (.slice s) w1) : Ret Try.prog 65 [.slice b] w R := by
  refine f65_of _ _ _ ?_
  unfold vc65
  refine append_own (c := cU8) (l := []) (Sees.nil _ _ _ _) (Own.none w.heap.size _ _) h (Nat.le_refl _) (by simp) (by decide) (by simp; omega) fun s w1 hs ho u1 _ => ?_
  exact k s w1 (by simpa [Sl.blk] using u1)
theorem c58 {b : Sl} {l : List Int} (h : SeesB w b l) (hc : b.len ≤ b.cap) (hl : l.length ≤ 140737488355328) (k : ∀ s w1, Upd [] [] w w1 → R (.slice s) w1) : Ret Try.prog 58 [.slice b, .int .i64 0, .int .i64 (b.len : Int)] w R := by
  refine f58_of _ _ _ _ _ ?_
  unfold vc58
  have hbl := h.len
  refine need (by simp; omega) ?_
  have := h.subB (lo := 0) (hi := b.len) (mx := b.cap) (by omega) (by omega) hc
  refine append_own (c := cU8) (l := []) (Sees.nil _ _ _ _) (Own.none w.heap.size _ _) (by simpa using this) (Nat.le_refl _) (by simp) (by decide) (by simp; omega) fun s w1 hs ho u1 _ => ?_
  exact k s w1 (by simpa [Sl.blk] using u1)
theorem c57 {a : Sl} {l : List Opt} {os : List (Int × Sl)} (h : Opts w a l os) (hl : l.length ≤ 4398046511000) (hd : ∀ o ∈ l, o.data.length ≤ 140737488351232)
    (k : ∀ s w1, Upd [] [] w w1 → R (.slice s) w1) : Ret Try.prog 57 [.slice a] w R := by
  refine f57_of _ _ _ ?_
  unfold vc57
  have hal := h.slen
  refine ⟨fun s i w1 => Upd [] [] w w1 ∧ ∃ (q : Nat) (os : List (Int × Sl)), i = q ∧ q ≤ l.length ∧ Sees cOpt w1 s os ∧ os.length = q ∧ Own w.heap.size 2 w1 s, fun _ i _ => (l.length - i).toNat,
    ⟨Upd.refl w, 0, [], rfl, by omega, Sees.nil _ _ _ _, rfl, Own.none _ _ _⟩, ?_⟩
  rintro s i w1 ⟨u, q, os', rfl, hq, hO, ol, oO⟩
  have h1 := h.old u
  refine brd (fun hlt => ?_) (fun hge => k s w1 u)
  have hq2 : q < l.length := by omega
  obtain ⟨g1, g2, g3, g4⟩ := h1.get q hq2
  refine needO h1 (by omega) (by omega) ⟨_, (by rw [Int.toNat_natCast]; exact g1), needO h1 (by omega) (by omega) ⟨_, (by rw [Int.toNat_natCast]; exact g2), fun w2 u2 => ?_⟩⟩
  refine c65 (g3.old u2) (by have := hd _ (List.getElem_mem hq2); omega) fun d w3 u3 => ⟨_, rfl, u2.then u3, ?_⟩
  intro b1 w4 u4 hr4
  have v4 := ((u.then u2).then u3).then u4
  have bs := oO.blk
  refine append_own (c := cOpt) (new := [(l[q].kind, d)]) (((hO.old u2).old u3).old u4) (((oO.old u2).old u3).old u4) (optRow hr4 rfl rfl) v4.size (by simp) (by decide) (by simp; omega) fun r w5 hr ho5 u5 hn => ?_
  exact ⟨⟨v4.step0 u5 (fun x hx => (bs x hx).1), q + 1, _, wr_succ (by omega), by omega, hr, by simp [ol], ho5⟩, by rw [wr_succ (q := q) (by omega)]; (try dsimp only); omega⟩
/-- the datagram in new memory, in the document's words -/
theorem c32 {v : IpV} {sa da : Sl} {oa : List (Int × Sl)} (hO : Opts w sa v.opts oa) (hl : v.opts.length ≤ 4398046511000) (hod : ∀ o ∈ v.opts, o.data.length ≤ 140737488351232) (hD : SeesB w da v.data) (hc : da.len ≤ da.cap) (hdl : v.data.length ≤ 140737488351232)
    (k : ∀ s d w1, Upd [] [] w w1 → R (ipSV v s d) w1) : Ret Try.prog 32 [ipSV v sa da] w R := by
  refine f32_of _ _ _ _ _ _ _ _ _ _ _ _ _ _ _ ?_
  unfold vc32
  intro b b1 w1 u1
  have n1 := u1.new (b := b) (by simp)
  have n2 := u1.new (b := b1) (by simp)
  refine c57 (hO.old u1) hl hod fun s w2 u2 => ⟨_, rfl, kp u2, fun w3 u3 => ?_⟩
  have v3 : Upd [] [] w w3 := (u1.then u2).step0 u3 (by simp; omega)
  refine c58 (hD.old v3) hc (by omega) fun d w4 u4 => ⟨_, rfl, kp u4, fun w5 u5 => ?_⟩
  exact k s d w5 ((v3.then u4).step0 u5 (by simp; omega))
theorem zip_fst {l : List Opt} {os : List (Int × Sl)} (h : os.length = l.length) (f : Opt → Bool) : ((l.zip os).filter (fun p => f p.1)).map (·.1) = l.filter f := by
  have e : (l.zip os).map (·.1) = l := by rw [List.map_fst_zip]; omega
  calc ((l.zip os).filter (fun p => f p.1)).map (·.1) = ((l.zip os).map (·.1)).filter f := by rw [List.filter_map]; rfl
    _ = _ := by rw [e]
/-- the options that go with every piece, in the document's words -/
theorem c33 {a : Sl} {l : List Opt} {os : List (Int × Sl)} (h : Opts w a l os) (hl : l.length ≤ 4398046511000)
    (k : ∀ s os' w1, Upd [] [] w w1 → Opts w1 s (l.filter fun o => decide (o.kind ≥ 128)) os' → (∀ P : Nat → Prop, OptIn P a l os → (∀ x, w.heap.size ≤ x → P x) → OptIn P s (l.filter fun o => decide (o.kind ≥ 128)) os') → R (.slice s) w1) : Ret Try.prog 33 [.slice a] w R := by
  refine f33_of _ _ _ ?_
  unfold vc33
  have hal := h.slen
  have hol := h.len
  let F : Opt × (Int × Sl) → Bool := fun p => decide (p.1.kind ≥ 128)
  refine ⟨fun s i w1 => Upd [] [] w w1 ∧ ∃ (q : Nat), i = q ∧ q ≤ l.length ∧ Sees cOpt w1 s ((((l.zip os).take q).filter F).map (·.2)) ∧ Own w.heap.size 2 w1 s, fun _ i _ => (l.length - i).toNat,
    ⟨Upd.refl w, 0, rfl, by omega, by simpa using Sees.nil _ _ _ _, Own.none _ _ _⟩, ?_⟩
  rintro s i w1 ⟨u, q, rfl, hq, hO, oO⟩
  have h1 := h.old u
  have zl : (l.zip os).length = l.length := by simp [hol]
  refine brd (fun hlt => ?_) (fun hge => ?_)
  · intro J hJ
    have hq2 : q < l.length := by omega
    obtain ⟨g1, g2, g3, g4⟩ := h1.get q hq2
    have zq : (l.zip os)[q]'(by omega) = (l[q], os[q]'(by omega)) := by simp
    have ek : (os[q]'(by omega)).1 = l[q].kind := h1.kind q hq2
    refine needO h1 (by omega) (by omega) ⟨_, (by rw [Int.toNat_natCast]; exact g1), ?_⟩
    refine brd (fun h128 => ?_) (fun h128 => hJ s w1 ?_)
    · refine needO h1 (by omega) (by omega) ⟨_, (by rw [Int.toNat_natCast]; exact g1), _, (by rw [Int.toNat_natCast]; exact g2), ?_⟩
      intro b1 w4 u4 hr4
      have v4 := u.then u4
      have bs := oO.blk
      have fl := filter_le F (l.zip os) q
      refine append_own (c := cOpt) (new := [(l[q].kind, (os[q]'(by omega)).2)]) (hO.old u4) (oO.old u4) (optRow hr4 rfl rfl) v4.size (by simp) (by decide) (by simp only [List.length_map, List.length_cons, List.length_nil]; omega) fun r w5 hr ho5 u5 hn => hJ _ _ ?_
      refine ⟨⟨v4.step0 u5 (fun x hx => (bs x hx).1), q + 1, wr_succ (by omega), by omega, ?_, ho5⟩, by rw [wr_succ (q := q) (by omega)]; (try dsimp only); omega⟩
      rw [filter_snoc F (by omega), zq, if_pos (by simpa [F] using h128), List.map_append]
      have : (os[q]'(by omega) : Int × Sl) = (l[q].kind, (os[q]'(by omega)).2) := by rw [← ek]
      simp only [List.map_cons, List.map_nil]
      rw [this]
      exact hr
    · refine ⟨⟨u, q + 1, wr_succ (by omega), by omega, ?_, oO⟩, by rw [wr_succ (q := q) (by omega)]; (try dsimp only); omega⟩
      rw [filter_snoc F (by omega), zq, if_neg (by simpa [F] using h128), List.append_nil]
      exact hO
  · have : q = l.length := by omega
    subst this
    rw [show l.length = (l.zip os).length from zl.symm, List.take_length] at hO
    have mem : ∀ p ∈ (l.zip os).filter F, ∃ i, ∃ h1 : i < l.length, ∃ h2 : i < os.length, p = (l[i], os[i]) := fun p hp => by
      obtain ⟨i, hi, e⟩ := List.getElem_of_mem (List.mem_filter.1 hp).1
      exact ⟨i, by omega, by omega, by rw [← e]; simp⟩
    rw [← zip_fst hol] at k
    have at_ : ∀ i (hi : i < ((l.zip os).filter fun p => decide (p.1.kind ≥ 128)).length), ∃ j, ∃ j1 : j < l.length, ∃ j2 : j < os.length, ((l.zip os).filter fun p => decide (p.1.kind ≥ 128))[i] = (l[j], os[j]) := fun i hi => mem _ (List.getElem_mem hi)
    refine k s (((l.zip os).filter F).map (·.2)) w1 u ⟨hO, by simp [F], fun i hi => ?_, fun i hi => ?_⟩ (fun P hP hn => ⟨fun _ x hx => hn x (oO.blk x hx).1, fun i hi hi2 h0 => ?_⟩)
    · simp only [List.length_map] at hi
      obtain ⟨j, j1, j2, e⟩ := at_ i hi
      simp only [List.getElem_map, F]
      rw [e]
      exact h1.kind j j1
    · simp only [List.length_map] at hi
      obtain ⟨j, j1, j2, e⟩ := at_ i hi
      simp only [List.getElem_map, F]
      rw [e]
      exact h1.each j j1
    · simp only [List.length_map] at hi
      obtain ⟨j, j1, j2, e⟩ := at_ i hi
      simp only [List.getElem_map, F] at h0 ⊢
      rw [e] at h0 ⊢
      exact hP.each j j1 j2 h0
end
end Go.Vc.Stop
end

section
open Go Go.Vc Go.Proofs Go.ChangeShapes Go.WideShapes Go.ChangeAt Go.RowKit
set_option linter.unusedVariables false
set_option linter.unusedSimpArgs false
set_option autoImplicit false
namespace Go.Vc.Stop
section
variable {H : Type} {w : World}
theorem dp_slice2 {X : Tab} {α : Type} {c : Cod α} {P : α → DataW H → Prop} {m e : Nat} {x : SV} {d : DataW H} (hsz : (X.T e).size = c.sz)
    (hE : ∀ (m : Nat) (x : SV) (d : DataW H), Deep X w m (X.T e) x d → ∃ a : α, x.cells = c.enc a ∧ P a d) (h : Deep X w m (.slice e) x d) :
    ∃ (s : Sl) (l : List α), x = .slice s ∧ Sees c w s l ∧ s.len ≤ s.cap ∧ (d = .nil ∧ l = [] ∨ ∃ els sp, d = .slice els sp ∧ els.length = l.length ∧ ∀ i (hi : i < l.length), ∃ di, els[i]? = some di ∧ P l[i] di) := by
  cases m with
  | zero => exact h.elim
  | succ m =>
    simp only [Deep] at h
    rcases h with ⟨rfl, rfl⟩ | ⟨a, len, cap, vs, ds, rfl, rfl, hl, hm, hv, hd, h⟩
    · exact ⟨⟨none, 0, 0⟩, [], rfl, Sees.nil _ _ _ _, Nat.le_refl _, .inl ⟨rfl, rfl⟩⟩
    · have each : ∀ i (hi : i < cap), ∃ t : α, Cells w (some (a.add (i * c.sz))) (c.enc t) ∧ P t (ds[i]'(by omega)) := by
        intro i hi
        obtain ⟨h1, h2, h3⟩ := h i _ _ (List.getElem?_eq_getElem (by omega)) (List.getElem?_eq_getElem (by omega))
        obtain ⟨t, g1, g2⟩ := hE _ _ _ h3
        rw [hsz, g1] at h2
        exact ⟨t, h2, g2⟩
      let F : Fin len → α := fun i => Classical.choose (each i (by omega))
      have hF : ∀ i : Fin len, Cells w (some (a.add (i * c.sz))) (c.enc (F i)) ∧ P (F i) (ds[i.val]'(by omega)) := fun i => Classical.choose_spec (each i (by omega))
      refine ⟨⟨some a, len, cap⟩, List.ofFn F, rfl, ⟨by simp, cells_each fun i hi => ?_⟩, hl, .inr ⟨_, _, rfl, by simp; omega, fun i hi => ?_⟩⟩
      · rw [List.getElem_ofFn]
        exact (hF ⟨i, by simpa using hi⟩).1
      · have hi' : i < len := by simpa using hi
        refine ⟨ds[i]'(by omega), ?_, ?_⟩
        · rw [List.getElem?_take_of_lt hi', List.getElem?_eq_getElem (by omega)]
        · rw [List.getElem_ofFn]
          exact (hF ⟨i, hi'⟩).2
end
/-- a datagram in a slice -/
structure IpC where
  v : IpV
  so : Sl
  sd : Sl
def cIp : Cod IpC := ⟨43, fun a => [.int .i64 a.v.tos, .int .i64 a.v.id, .bool a.v.df, .bool a.v.mf, .int .i64 a.v.off, .int .i64 a.v.ttl, .int .i64 a.v.proto, .int .i64 a.v.sv] ++ (((List.range 16).map fun i => .int .u8 (a.v.sa i)) ++ (.int .i64 a.v.dv :: (((List.range 16).map fun i => .int .u8 (a.v.da i)) ++ [a.so.val, a.sd.val]))), fun _ => rfl, by
  intro x v hv
  simp only [List.mem_append, List.mem_cons, List.mem_map, List.not_mem_nil, or_false] at hv
  rcases hv with (rfl | rfl | rfl | rfl | rfl | rfl | rfl | rfl) | ⟨i, _, rfl⟩ | rfl | ⟨i, _, rfl⟩ | rfl | rfl <;> rfl⟩
theorem ip_sa (a : IpC) : ∀ i, i < 16 → (cIp.enc a)[8 + i]? = some (.int .u8 (a.v.sa i))
  | 0, _ => rfl
  | 1, _ => rfl
  | 2, _ => rfl
  | 3, _ => rfl
  | 4, _ => rfl
  | 5, _ => rfl
  | 6, _ => rfl
  | 7, _ => rfl
  | 8, _ => rfl
  | 9, _ => rfl
  | 10, _ => rfl
  | 11, _ => rfl
  | 12, _ => rfl
  | 13, _ => rfl
  | 14, _ => rfl
  | 15, _ => rfl
  | i + 16, h => absurd h (by omega)
theorem ip_da (a : IpC) : ∀ i, i < 16 → (cIp.enc a)[25 + i]? = some (.int .u8 (a.v.da i))
  | 0, _ => rfl
  | 1, _ => rfl
  | 2, _ => rfl
  | 3, _ => rfl
  | 4, _ => rfl
  | 5, _ => rfl
  | 6, _ => rfl
  | 7, _ => rfl
  | 8, _ => rfl
  | 9, _ => rfl
  | 10, _ => rfl
  | 11, _ => rfl
  | 12, _ => rfl
  | 13, _ => rfl
  | 14, _ => rfl
  | 15, _ => rfl
  | i + 16, h => absurd h (by omega)
/-- it stands -/
structure IpOk (w : World) (a : IpC) : Prop where
  ex : ∃ os, Opts w a.so a.v.opts os ∧ ∀ y ∈ os, y.2.len ≤ y.2.cap
  d : SeesB w a.sd a.v.data
  few : a.v.opts.length ≤ 4398046511000
  small : ∀ o ∈ a.v.opts, o.data.length ≤ 140737488351232
  bo : ∀ o ∈ a.v.opts, Byt o.data
  dl : a.v.data.length ≤ 140737488351232
  bd : Byt a.v.data
  cap : a.sd.len ≤ a.sd.cap
  cap2 : a.so.len ≤ a.so.cap
  key : (keyH a.v).Ok
  tos : -9223372036854775808 ≤ a.v.tos ∧ a.v.tos ≤ 9223372036854775807
  off : -9223372036854775808 ≤ a.v.off ∧ a.v.off ≤ 9223372036854775807
  ttl : -9223372036854775808 ≤ a.v.ttl ∧ a.v.ttl ≤ 9223372036854775807
theorem IpOk.old {w w1 : World} {a : IpC} {n : List Nat} (h : IpOk w a) (u : Upd [] n w w1) : IpOk w1 a := by
  obtain ⟨os, h1, h2⟩ := h.ex
  exact ⟨⟨os, h1.old u, h2⟩, h.d.old u, h.few, h.small, h.bo, h.dl, h.bd, h.cap, h.cap2, h.key, h.tos, h.off, h.ttl⟩
noncomputable def und28f : Array Field := match Try.prog.underlying 28 with | some (.struct fs) => fs | _ => #[]
theorem und28 : Try.prog.underlying 28 = some (.struct und28f) := by kernel_rfl
theorem und28t : und28f.toList.map (·.type) = [3, 3, 4, 4, 3, 3, 3, 24, 24, 25, 26] := by kernel_rfl
noncomputable def und104f : Array Field := match Try.prog.underlying 104 with | some (.struct fs) => fs | _ => #[]
theorem und104 : Try.prog.underlying 104 = some (.struct und104f) := by kernel_rfl
theorem und104t : und104f.toList.map (·.type) = [3, 26] := by kernel_rfl
theorem und25 : Try.prog.underlying 25 = some (.slice 104) := by kernel_rfl
theorem und26 : Try.prog.underlying 26 = some (.slice 5) := by kernel_rfl
theorem und29 : Try.prog.underlying 29 = some (.slice 28) := by kernel_rfl
theorem bytes104 : Try.prog.bytesOf 104 = 32 := by kernel_rfl
theorem bytes5 : Try.prog.bytesOf 5 = 1 := by kernel_rfl
section
variable {H : Type} {w : World}
set_option maxRecDepth 10000 in
/-- a datagram that comes in -/
theorem deep_ip4 {m : Nat} {x : SV} {d : DataW H} (h : Deep X w m (X.T 28) x d) :
    ∃ a : IpC, x = ipSV a.v a.so a.sd ∧ (Light Try.prog 28 d → IpOk w a) := by
  obtain ⟨fs, l, m', rfl, rfl, hh⟩ := dp_struct (b := false) (ts := [.int .i64, .int .i64, .bool, .bool, .int .i64, .int .i64, .int .i64, .struct false [.int .i64, .arr .u8 16], .struct false [.int .i64, .arr .u8 16], .slice 104, .slice 5]) (show Deep X w m (.struct false [.int .i64, .int .i64, .bool, .bool, .int .i64, .int .i64, .int .i64, .struct false [.int .i64, .arr .u8 16], .struct false [.int .i64, .arr .u8 16], .slice 104, .slice 5]) x d from h)
  obtain ⟨x1, _, d1, _, rfl, rfl, h1, hh⟩ := all3_cons hh
  obtain ⟨x2, _, d2, _, rfl, rfl, h2, hh⟩ := all3_cons hh
  obtain ⟨x3, _, d3, _, rfl, rfl, h3, hh⟩ := all3_cons hh
  obtain ⟨x4, _, d4, _, rfl, rfl, h4, hh⟩ := all3_cons hh
  obtain ⟨x5, _, d5, _, rfl, rfl, h5, hh⟩ := all3_cons hh
  obtain ⟨x6, _, d6, _, rfl, rfl, h6, hh⟩ := all3_cons hh
  obtain ⟨x7, _, d7, _, rfl, rfl, h7, hh⟩ := all3_cons hh
  obtain ⟨x8, _, d8, _, rfl, rfl, h8, hh⟩ := all3_cons hh
  obtain ⟨x9, _, d9, _, rfl, rfl, h9, hh⟩ := all3_cons hh
  obtain ⟨x10, _, d10, _, rfl, rfl, h10, hh⟩ := all3_cons hh
  obtain ⟨x11, _, d11, _, rfl, rfl, h11, hh⟩ := all3_cons hh
  obtain ⟨rfl, rfl⟩ := all3_nil hh
  obtain ⟨n1, rfl, _, i1⟩ := dp_int h1
  obtain ⟨n2, rfl, _, i2⟩ := dp_int h2
  obtain ⟨n3, rfl, _⟩ := dp_bool h3
  obtain ⟨n4, rfl, _⟩ := dp_bool h4
  obtain ⟨n5, rfl, _, i5⟩ := dp_int h5
  obtain ⟨n6, rfl, _, i6⟩ := dp_int h6
  obtain ⟨n7, rfl, _, i7⟩ := dp_int h7
  obtain ⟨v8, a8, rfl, r8', r8⟩ := dp_ip h8
  obtain ⟨v9, a9, rfl, r9', r9⟩ := dp_ip h9
  obtain ⟨so, lo, os, rfl, ho, hob, hoc, hsc, hdo⟩ := dp_opts (X := X) (t := 25) (e := 104) (t2 := 26) (e2 := 5) rfl rfl rfl rfl (show Deep X w m' (X.T 25) x10 d10 from h10)
  obtain ⟨sd, data, rfl, hd, hdb, hdc, hsl⟩ := deep_bytes' (X := X) (t := 26) (e := 5) rfl rfl (show Deep X w m' (X.T 26) x11 d11 from h11)
  have j1 := wf_i64 i1
  have j2 := wf_i64 i2
  have j5 := wf_i64 i5
  have j6 := wf_i64 i6
  have j7 := wf_i64 i7
  refine ⟨⟨⟨n1, n2, n3, n4, n5, n6, n7, v8, a8, v9, a9, lo, data⟩, so, sd⟩, rfl, fun hL => ?_⟩
  have h := light_struct und28 und28t hL
  have g := (light_head (light_head (light_head (light_head (light_head (light_head (light_head (light_head (light_head h).2).2).2).2).2).2).2).2).2
  have g9 := light_head g
  have g10 := light_head g9.2
  have q := light_opts und25 bytes104 und104 und104t und26 bytes5 g9.1 hdo
  have q2 := light_len und26 bytes5 g10.1 hsl
  exact ⟨⟨os, ho, hoc⟩, hd, q.1, q.2, hob, q2, hdb, hdc, hsc, ⟨r8', r8, r9', r9, j7, j2⟩, j1, j5, j6⟩
theorem cells_ip (a : IpC) : (ipSV a.v a.so a.sd).cells = cIp.enc a := by simp [SV.cells, SV.cellsL, cIp]
/-- datagrams that come in -/
theorem deep_ips {m : Nat} {x : SV} {d : DataW H} (h : Deep X w m (X.T 29) x d) (hL : Light Try.prog 29 d) :
    ∃ (s : Sl) (l : List IpC), x = .slice s ∧ Sees cIp w s l ∧ s.len ≤ s.cap ∧ ∀ a ∈ l, IpOk w a := by
  obtain ⟨s, l, rfl, h1, h2, h3⟩ := dp_slice2 (X := X) (c := cIp) (e := 28) (P := fun a d => Light Try.prog 28 d → IpOk w a) rfl (fun m x d hh => by
    obtain ⟨a, rfl, ha⟩ := deep_ip4 hh
    exact ⟨a, cells_ip a, ha⟩) (show Deep X w m (.slice 28) x d from h)
  refine ⟨s, l, rfl, h1, h2, fun a ha => ?_⟩
  obtain ⟨i, hi, rfl⟩ := List.getElem_of_mem ha
  rcases h3 with ⟨_, rfl⟩ | ⟨els, sp, rfl, e1, e2⟩
  · simp at hi
  · obtain ⟨di, g1, g2⟩ := e2 i hi
    exact g2 ((light_slice und29 rfl hL).2 _ _ g1)
end
end Go.Vc.Stop
end

section
open Go Go.Vc Go.Proofs
set_option linter.unusedVariables false
set_option linter.unusedSimpArgs false
set_option autoImplicit false
namespace Go.Vc.Stop
/-- how a datagram's data is cut: places and lengths -/
def cuts (n m1 m2 : Nat) : Nat → Nat → List (Nat × Nat)
  | 0, _ => []
  | f + 1, at_ => if n ≤ at_ then [] else (at_, if n - at_ ≤ (if at_ = 0 then m1 else m2) then n - at_ else (if at_ = 0 then m1 else m2) / 8 * 8) :: cuts n m1 m2 f (at_ + if n - at_ ≤ (if at_ = 0 then m1 else m2) then n - at_ else (if at_ = 0 then m1 else m2) / 8 * 8)
theorem cuts_end {n m1 m2 f at_ : Nat} (h : n ≤ at_) : cuts n m1 m2 f at_ = [] := by
  cases f with
  | zero => rfl
  | succ f => rw [cuts, if_pos h]
theorem cuts_step {n m1 m2 f at_ k : Nat} (h : at_ < n) (hf : n - at_ < f) (hk : k = if n - at_ ≤ (if at_ = 0 then m1 else m2) then n - at_ else (if at_ = 0 then m1 else m2) / 8 * 8) :
    ∃ f', f = f' + 1 ∧ cuts n m1 m2 f at_ = (at_, k) :: cuts n m1 m2 f' (at_ + k) := by
  cases f with
  | zero => omega
  | succ f => exact ⟨f, rfl, by rw [cuts, if_neg (by omega), ← hk]⟩
theorem cuts_k {n m at_ k : Nat} (h : at_ < n) (hm : 8 ≤ m) (hk : k = if n - at_ ≤ m then n - at_ else m / 8 * 8) : 0 < k ∧ at_ + k ≤ n ∧ (at_ + k < n → k % 8 = 0) := by
  split at hk <;> omega
theorem flat_filter (f : Opt → Bool) : ∀ l : List Opt, ((l.filter f).flatMap Go.Vc.optB).length ≤ (l.flatMap Go.Vc.optB).length
  | [] => by simp
  | o :: r => by
    have := flat_filter f r
    cases h : f o <;> simp [List.filter_cons, h, List.flatMap_cons] at this ⊢ <;> omega
theorem putOk_filter (f : Opt → Bool) {l : List Opt} (h : putOk l) : putOk (l.filter f) :=
  ⟨fun o ho => h.1 o (List.mem_filter.1 ho).1, Nat.le_trans (flat_filter f l) h.2⟩
/-- the datagram's header, without data -/
def bare (v : IpV) (os : List Opt) : IpV := { v with opts := os, data := [], mf := false }
theorem bare_ok {v : IpV} {os : List Opt} (h : ipChk v = 0) (ho : v.off = 0) (hp : putOk os) : ipChk (bare v os) = 0 := by
  have hb : ¬ badF v := fun hb => by rw [bad68 hb] at h; cases h
  have hb' : ¬ badF (bare v os) := hb
  have := putO_len hp
  have e : (bare v os).off = 0 := ho
  rw [chk66 hb' hp (by show ¬ 65535 < 20 + (putO os).length + 0; omega), if_neg]
  unfold frag
  rw [e]
  simp [bare]
theorem serL_len {v : IpV} (h : ipChk v = 0) : (serL v).length = 20 + (putO v.opts).length + v.data.length := by
  unfold serL
  rw [if_pos h]
  simp [ipSer, ipHd]
  omega
section
variable {w : World} {R : SV → World → Prop}
theorem c34 {left head mtu : Int} (h0 : 0 ≤ left ∧ left ≤ 1000000) (h1 : 0 ≤ head ∧ head ≤ mtu) (h2 : mtu ≤ 65535) (k : R (.int .i64 (if left ≤ mtu - head then left else (mtu - head) / 8 * 8)) w) : Ret Try.prog 34 [.int .i64 left, .int .i64 head, .int .i64 mtu] w R := by
  refine f34_of _ _ _ _ _ ?_
  unfold vc34
  rw [wr_i64 (by omega) (by omega)]
  refine brd (fun h => ?_) (fun h => ?_)
  · rw [if_pos (by omega)] at k
    exact k
  · rw [if_neg (by omega)] at k
    refine ⟨fun n w' => w' = w ∧ 0 ≤ n ∧ n % 8 = 0 ∧ head + n ≤ mtu, fun n _ => (mtu - n).toNat, ⟨rfl, by omega, by omega, by omega⟩, ?_⟩
    rintro n w' ⟨rfl, a1, a2, a3⟩
    rw [wr_i64 (x := head + n) (by omega) (by omega), wr_i64 (x := head + n + 8) (by omega) (by omega), wr_i64 (x := n + 8) (by omega) (by omega)]
    refine brd (fun h8 => ⟨⟨rfl, by omega, by omega, by omega⟩, by (try dsimp only); omega⟩) (fun h8 => ?_)
    rw [show (mtu - head) / 8 * 8 = n by omega] at k
    exact k
end
end Go.Vc.Stop
end
