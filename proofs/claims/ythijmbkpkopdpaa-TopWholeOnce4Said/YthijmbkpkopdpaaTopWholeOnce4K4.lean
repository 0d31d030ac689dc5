import Derived.Test.YthijmbkpkopdpaaTopWholeOnce4K3
import Derived.Test.YthijmbkpkopdpaaTopWholeOnce4K2
import Derived.KernelRfl
section
open Go Go.Vc Go.Proofs
set_option linter.unusedVariables false
set_option linter.unusedSimpArgs false
set_option autoImplicit false
namespace Go.Vc.Stop
section
variable {w : World} {R : SV → World → Prop} {N h m : Nat} {S : Hs} {B G : Sl}
set_option maxRecDepth 20000 in
theorem c49 {off : Int} {data : Sl} {l : List Int} {more : Bool} (H : Hol N w h S B G m) (O : OkS S) (hd : SeesB w data l) (hcap : data.len ≤ data.cap) (hb : Byt l) (hdis : 0 < l.length → ∀ x ∈ data.blk, x < w.heap.size ∧ x ∉ hblk h B G m)
    (ke : ∀ w1, Upd [] [] w w1 → errS S off l.length more ≠ 0 → R (.tuple [.struct [.int .i64 0, .int .i64 0, .bool false], .int .i64 (errS S off l.length more)]) w1)
    (k : ∀ B' G' w1, errS S off l.length more = 0 → Upd (hblk h B G m) [] w w1 → Hol N w1 h (putS S off l more) B' G' m → (∀ x ∈ hblk h B' G' m, x ∈ hblk h B G m ∨ w.heap.size ≤ x) →
      R (.tuple [.struct [.int .i64 (newN off (off + l.length) S.gaps), .int .i64 (l.length - newN off (off + l.length) S.gaps), .bool (sameS S off l more)], .int .i64 0]) w1) :
    Ret Try.prog 49 [.ptr (some ⟨h, 0, none⟩), .int .i64 off, .slice data, .bool more] w R := by
  refine f49_of _ _ _ _ _ _ ?_
  unfold vc49
  have hdl := hd.len
  intro b0 w1 u1
  have n0 := u1.new (b := b0) (by simp)
  refine c61 (H.old u1) (by have := O.gl; omega) hdl O.mx.2 fun w2 u2 => ⟨_, rfl, kp u2, bre' (fun hne => fun w3 u3 => ke w3 ((u1.then u2).step0 u3 (by simp; omega)) hne) (fun he => ?_)⟩
  obtain ⟨p1, p2, _, _, p3, p4, p5, p6, p7⟩ := errS_ok he
  replace hdis := hdis p3
  have v2 := u1.then u2
  have y1 := u1.size; have y2 := u2.size
  have mx := O.mx
  have ew : wr .i64 (off + (data.len : Int)) = off + l.length := by rw [hdl]; exact wr_i64 (by omega) (by omega)
  rw [ew]
  have H2 := H.old v2
  have lt := H.lt
  have obl := O.bl
  have ogl := O.gl
  generalize hE : off + (l.length : Int) = E at *
  intro J hJ
  have main : ∀ B1 w3, Upd (hblk h B G m) [] w2 w3 → Hol N w3 h { S with buf := S.buf ++ List.replicate (E.toNat - S.buf.length) 0 } B1 G m → (∀ x ∈ B1.blk, x ∈ B.blk ∨ w2.heap.size ≤ x) → J w3 := by
    intro B1 w3 V3 H3 hB1
    refine hJ _ ?_
    clear hJ
    intro b1 J2 hJ2
    have lt3 := H3.lt
    have z3 := V3.size
    have b0n : b0 ∉ hblk h B1 G m := fun hx => by
      simp only [hblk, List.mem_cons, List.mem_append] at hx
      rcases hx with e | e | hx | hx
      · have := lt h (by simp [hblk]); omega
      · have := lt m (by simp [hblk]); omega
      · rcases hB1 b0 hx with q | q
        · have := lt b0 (by simp [hblk, q]); omega
        · omega
      · have := lt b0 (by simp [hblk, hx]); omega
    have after : ∀ (s : Sl) (bf : List Int) (NL : Nat) (wL : World), Upd (hblk h B G m) [] w2 wL → Hol N wL h { S with buf := bf } B1 G m → bf = putB off E l S.gaps (S.buf ++ List.replicate (E.toNat - S.buf.length) 0) → Sees cG wL s (cutG off E S.gaps) → Own NL 2 wL s → w3.heap.size ≤ NL → w3.heap.size ≤ b1 → b1 < NL → NL ≤ wL.heap.size → J2 s (newN off E S.gaps) 0 false wL := by
      intro s bf NL wL VL HL hbf hs os q1 q2 q3 q4
      have sB := os.blk
      have zL := VL.size
      have hh := lt3 h (by simp [hblk])
      have hm' := lt3 m (by simp [hblk])
      have bN := H3.base
      have b01 : ∀ y, y < w3.heap.size → y ∈ hblk h B1 G m → y ∉ [b0, b1] := fun y hy hy2 hm => by
        simp only [List.mem_cons, List.not_mem_nil, or_false] at hm
        rcases hm with q | q
        · exact b0n (q ▸ hy2)
        · omega
      have b0lt : b0 < NL := by omega
      have s01 : ∀ y, NL ≤ y → y ∉ [b0, b1] := fun y hy hm => by simp at hm; omega
      refine hJ2 _ _ _ _ _ ?_
      clear hJ2
      dsimp only [deref]
      refine HL.box.set (y := .sl s) 2 (by simp) rfl (b01 h hh.2 (by simp [hblk])) fun w5 hx5 u5 => ?_
      have z5 := u5.size
      have ne1 : ∀ y ∈ s.blk, y ≠ h := fun y hy e => by have := sB y hy; omega
      have H5 : Hol N w5 h { S with buf := bf, gaps := cutG off E S.gaps } B1 s m := ⟨hx5, HL.buf.upd u5 (fun x hx e => by rw [List.mem_singleton] at e; exact HL.a1.1 (e ▸ hx)), HL.bo.upd u5 (fun x hx e => by rw [List.mem_singleton] at e; exact HL.a1.1 (e ▸ hx)), hs.upd u5 (fun x hx e => by rw [List.mem_singleton] at e; exact ne1 x hx e), (os.mono (by omega)).upd u5 (fun x hx e => by rw [List.mem_singleton] at e; exact ne1 x hx e), HL.map.upd u5 (by simpa using fun e => HL.a1.2.2 e.symm), ⟨HL.a1.1, fun hx => ne1 h hx rfl, HL.a1.2.2⟩, ⟨HL.a2.1, fun hx => by have := sB m hx; omega⟩, fun x hx hx2 => by have := sB x hx2; have := (lt3 x (by simp [hblk, hx])).2; omega, ⟨HL.base.1, HL.base.2.1, by have := HL.base.2.2; omega⟩⟩
      have V5 : Upd (hblk h B G m) [] w2 w5 := VL.step u5 (fun x hx => .inr (by rw [List.mem_singleton] at hx; subst hx; simp [hblk]))
      have nb := newN_bound (off := off) (e := E) p2 (by omega) (by omega) S.gaps (fun g hg => ⟨(O.gp g hg).1, (O.gp g hg).2.1⟩)
      have oh := O.he
      intro J3 hJ3
      have fin : ∀ (gs : List (Int × Int)) (G' : Sl) (f : Int) (w6 : World), Upd (hblk h B G m) [] w2 w6 → w5.heap.size ≤ w6.heap.size → Hol N w6 h { S with buf := bf, gaps := gs, fin := f } B1 G' m → (∀ y ∈ G'.blk, NL ≤ y) → gs = finG S E more (cutG off E S.gaps) → f = (if more = false ∧ S.fin < 0 then E else S.fin) → J3 w6 := by
        intro gs G' f w6 V6 z6 H6 hG' hgs hf
        have hq : ∀ y ∈ hblk h B1 G' m, y < w3.heap.size ∧ y ∈ hblk h B1 G m ∨ NL ≤ y := fun y hy => by
          simp only [hblk, List.mem_cons, List.mem_append] at hy
          rcases hy with q | q | q | q
          · exact .inl ⟨by omega, by simp [hblk, q]⟩
          · exact .inl ⟨by omega, by simp [hblk, q]⟩
          · exact .inl ⟨(lt3 y (by simp [hblk, q])).2, by simp [hblk, q]⟩
          · exact .inr (hG' y q)
        have h01 : ∀ y ∈ hblk h B1 G' m, y ∉ [b0, b1] := fun y hy => by
          rcases hq y hy with q | q
          · exact b01 y q.1 q.2
          · exact s01 y q
        have hNew : ∀ x ∈ hblk h B1 G' m, x ∈ hblk h B G m ∨ w.heap.size ≤ x := fun x hx => by
          simp only [hblk, List.mem_cons, List.mem_append] at hx
          rcases hx with q | q | q | q
          · exact .inl (by simp [hblk, q])
          · exact .inl (by simp [hblk, q])
          · rcases hB1 x q with r | r
            · exact .inl (by simp [hblk, r])
            · exact .inr (by omega)
          · exact .inr (by have := hG' x q; omega)
        refine hJ3 _ ?_
        clear hJ3
        refine ⟨S.held, H6.box.int 4 S.held rfl, fun w7 u7 => ?_⟩
        have z7 := u7.size
        rw [wr_i64 (by omega) (by omega), hdl, wr_i64 (by omega) (by omega)]
        have H7 := H6.old u7
        refine H7.box.set (y := .int (S.held + newN off E S.gaps)) 4 (by simp) rfl (h01 h (by simp [hblk])) fun w8 hx8 u8 => ?_
        have z8 := u8.size
        have H8 : Hol N w8 h { S with buf := bf, gaps := gs, fin := f, held := S.held + newN off E S.gaps } B1 G' m := ⟨hx8, H7.buf.upd u8 (fun x hx e => by rw [List.mem_singleton] at e; exact H7.a1.1 (e ▸ hx)), H7.bo.upd u8 (fun x hx e => by rw [List.mem_singleton] at e; exact H7.a1.1 (e ▸ hx)), H7.gaps.upd u8 (fun x hx e => by rw [List.mem_singleton] at e; exact H7.a1.2.1 (e ▸ hx)), H7.go.upd u8 (fun x hx e => by rw [List.mem_singleton] at e; exact H7.a1.2.1 (e ▸ hx)), H7.map.upd u8 (by simpa using fun e => H7.a1.2.2 e.symm), H7.a1, H7.a2, H7.a3, ⟨H7.base.1, H7.base.2.1, by have := H7.base.2.2; omega⟩⟩
        have V8 : Upd (hblk h B G m) [] w w8 := (((v2.wide (m' := hblk h B G m) (by simp)).step V6 (fun x hx => .inr hx)).step u7 (by simp)).step u8 (fun x hx => .inr (by rw [List.mem_singleton] at hx; subst hx; simp [hblk]))
        intro b3 w9 u9
        have n3 := u9.new (b := b3) (by simp)
        have z9 := u9.size
        have h1' : ∀ y ∈ hblk h B1 G' m, y ∉ [b1] := fun y hy hm => h01 y hy (by rw [List.mem_singleton] at hm; simp [hm])
        have H9 := H8.upd u9 h1'
        have V9 : Upd (hblk h B G m) [] w w9 := V8.step u9 (fun x hx => .inl (by rw [List.mem_singleton] at hx; omega))
        have lt9 := H9.lt
        have lt8 := H8.lt
        have b3n : ∀ y ∈ hblk h B1 G' m, y ≠ b3 := fun y hy e => by have := (lt8 y hy).2; omega
        have kr : KeyR (off, (l.length : Int), more) := ⟨by dsimp only; omega, by dsimp only; omega⟩
        have eS : ({ S with buf := bf, gaps := gs, fin := f, held := S.held + newN off E S.gaps, seen := if (off, (l.length : Int), more) ∈ S.seen then S.seen else S.seen ++ [(off, (l.length : Int), more)] } : Hs) = putS S off l more := by
          rw [hbf, hgs, hf, ← hE]; rfl
        have eB : (putS S off l more).buf = bf := by rw [← eS]
        have pok := putB_ok (off := off) (e := E) p2 hE p3 hb S.gaps (S.buf ++ List.replicate (E.toNat - S.buf.length) 0) (fun g hg => ⟨(O.gp g hg).1, (O.gp g hg).2.1⟩) (by simp; omega) (fun x hx => by
          rcases List.mem_append.1 hx with q | q
          · exact O.bb x q
          · rw [List.eq_of_mem_replicate q]; omega)
        rw [← hbf] at pok
        have bfl : E.toNat ≤ bf.length := by rw [pok.1]; simp; omega
        have bfb : Byt bf := pok.2
        have sm : sameS S off l more = (decide ((off, (l.length : Int), more) ∈ S.seen) && decide ((bf.take E.toNat).drop off.toNat = l)) := by unfold sameS; rw [eB, hE]
        have b0h : b0 ∉ hblk h B1 G' m := fun hx => h01 b0 hx (by simp)
        have done : ∀ (bs : List Nat) (bb : Bool) (w10 : World), Upd (hblk h B G m) [] w w10 → Hol N w10 h { S with buf := bf, gaps := gs, fin := f, held := S.held + newN off E S.gaps } B1 G' m → m ∉ bs → bb = sameS S off l more →
            deref (some ⟨h, 0, none⟩) fun a => ∃ r : Option Nat, w10.cell? (a.add 5) = some (.map r) ∧ derefN r fun r => ∀ w2, Upd [] [] w10 w2 → Try.prog.underlying 117 = some (.map 131 132) ∧ r ∉ bs ∧ ∃ ll, MapL w2 r ll ∧ KeysOk Try.prog 131 (SV.struct [.int .i64 off, .int .i64 (l.length : Int), .bool more]).enc ll ∧
              ∀ l' w3, SetAt ll (SV.struct [.int .i64 off, .int .i64 (l.length : Int), .bool more]).enc (.struct []) l' → Upd [r] [] w2 w3 → MapL w3 r l' → ∀ w4, Upd [b0] [] w3 w4 → R (.tuple [.struct [.int .i64 (newN off E S.gaps), .int .i64 (l.length - newN off E S.gaps), .bool bb], .int .i64 0]) w4 := fun bs bb w10 V10 H10 hmb hbb =>
          putEnd (B := B) (G := G) (w0 := w) H10 O.ks kr hmb n0.1 V10 b0h fun w11 V11 H11 => by
            rw [eS] at H11
            rw [hbb]
            exact k B1 G' w11 he V11 H11 hNew
        have mbs : ∀ bs : List Nat, (∀ y ∈ bs, y = b0 ∨ y = b1 ∨ w8.heap.size ≤ y) → m ∉ bs := fun bs hbs hm => by
          have q1 := h01 m (by simp [hblk])
          have q2 := (lt8 m (by simp [hblk])).2
          rcases hbs m hm with q | q | q
          · exact q1 (by simp [q])
          · exact q1 (by simp [q])
          · omega
        have hB9 : SeesB w9 B1 bf := H9.buf
        have hBl9 := hB9.len
        have hBc9 := H9.bo.le
        have hd9 := hd.upd V9 (fun x hx hm => (hdis x hx).2 hm)
        have sub9 : ∀ w', SeesB w' B1 bf → SeesB w' (B1.sub 1 off.toNat E.toNat B1.cap) ((bf.take E.toNat).drop off.toNat) := fun w' h' => h'.subB (by omega) (by omega) (by omega)
        have bsb : Byt ((bf.take E.toNat).drop off.toNat) := fun x hx => bfb x (List.mem_of_mem_take (List.mem_of_mem_drop hx))
        refine ⟨some m, H9.box.mp 5 (some m) rfl, fun w10 u10 => ⟨und117, seenL S.seen, H9.map.upd u10 (by simp), keys_ok (k := (off, (l.length : Int), more)) O.ks kr, seen_shape, fun bv hF b5 => ⟨u10, ?_⟩⟩, fun b4 => ⟨Upd.refl _, fun w10 u10 => ⟨und117, seenL S.seen, H9.map.upd u10 (by simp), keys_ok (k := (off, (l.length : Int), more)) O.ks kr, seen_shape, fun bv hF => ?_⟩⟩⟩
        · have hbv := found_eq (k := (off, (l.length : Int), more)) hF
          have z10 := u10.size
          have H10 := H9.old u10
          have V10 := V9.step u10 (by simp)
          refine brb (fun ht => ⟨B1, H10.box.sl 1 B1 rfl, needSl (by omega) (by omega) (by omega) (by omega) fun w11 u11 => ?_⟩) (fun ht => fun w11 u11 => ?_)
          · have n5 := u11.new (b := b5) (by simp)
            refine c62 (sub9 _ ((hB9.old u10).old u11)) ((hd9.old u10).old u11) bsb hb ⟨_, rfl, kp (Upd.refl _), fun w12 u12 => ?_⟩
            exact done [b0, b1, b3, b5] _ w12 ((V10.step u11 (by simp)).step u12 (fun x hx => .inl (by rw [List.mem_singleton] at hx; omega))) ((H10.old u11).upd u12 h1') (mbs _ (by simp; omega)) (by rw [sm, ← hbv, ht, Bool.true_and])
          · have n5 := u11.new (b := b5) (by simp)
            exact done [b0, b1, b3, b5] _ w11 (V10.step u11 (fun x hx => .inl (by rw [List.mem_singleton] at hx; omega))) (H10.upd u11 h1') (mbs _ (by simp; omega)) (by rw [sm, ← hbv, ht, Bool.false_and])
        · have hbv := found_eq (k := (off, (l.length : Int), more)) hF
          have n4 := u10.new (b := b4) (by simp)
          have z10 := u10.size
          have H10 := H9.old u10
          have V10 := V9.step u10 (by simp)
          have b4n : ∀ y ∈ hblk h B1 G' m, y ≠ b4 := fun y hy e => by have := (lt9 y hy).2; omega
          refine brb (fun ht => fun w11 u11 => ?_) (fun ht => fun w11 u11 => ?_)
          · have b4' : ∀ y ∈ hblk h B1 G' m, y ∉ [b4] := fun y hy hm => b4n y hy (by rw [List.mem_singleton] at hm; exact hm)
            have H11 := H10.upd u11 b4'
            have b4d : ∀ x ∈ data.blk, x ∉ [b4] := fun x hx hm => by have := (hdis x hx).1; rw [List.mem_singleton] at hm; omega
            refine ⟨B1, H11.box.sl 1 B1 rfl, needSl (by omega) (by omega) (by omega) (by omega) ?_⟩
            refine c62 (sub9 _ H11.buf) ((hd9.old u10).upd u11 b4d) bsb hb ⟨_, rfl, kp (Upd.refl _), fun w12 u12 => ?_⟩
            exact done [b0, b1, b3, b4] _ w12 ((V10.step u11 (fun x hx => .inl (by rw [List.mem_singleton] at hx; omega))).step u12 (fun x hx => .inl (by rw [List.mem_singleton] at hx; omega))) (H11.upd u12 h1') (mbs _ (by simp; omega)) (by rw [sm, ← hbv, ht, Bool.true_and])
          · have b14 : ∀ y ∈ hblk h B1 G' m, y ∉ [b1, b4] := fun y hy hm => by
              simp only [List.mem_cons, List.not_mem_nil, or_false] at hm
              rcases hm with q | q
              · exact h1' y hy (by simp [q])
              · exact b4n y hy q
            exact done [b0, b1, b3, b4] _ w11 (V10.step u11 (fun x hx => .inl (by simp only [List.mem_cons, List.not_mem_nil, or_false] at hx; omega))) (H10.upd u11 b14) (mbs _ (by simp; omega)) (by rw [sm, ← hbv, ht, Bool.false_and])
      have hsl : s.len = (cutG off E S.gaps).length := hs.len
      have hcl := cutG_len (off := off) (e := E) S.gaps
      have sNL : ∀ y ∈ s.blk, NL ≤ y := fun y hy => (sB y hy).1
      generalize cutG off E S.gaps = cg at *
      have stay : ¬ (more = false ∧ S.fin < 0) → J3 w5 := fun hno => fin cg s S.fin w5 V5 (Nat.le_refl _) H5 sNL (finG_no hno).symm (by rw [if_neg hno])
      refine brn (fun hm => ⟨S.fin, H5.box.int 3 S.fin rfl, brd (fun hf => ?_) (fun hf => ?_)⟩) (fun hm => ?_)
      · subst hm
        (try dsimp only [deref])
        refine H5.box.set (y := .int E) 3 (by simp) rfl (b01 h hh.2 (by simp [hblk])) fun w6 hx6 u6 => ?_
        have z6 := u6.size
        have nh : ∀ x ∈ B1.blk, x ∉ [h] := fun x hx e => by rw [List.mem_singleton] at e; exact H5.a1.1 (e ▸ hx)
        have nhs : ∀ x ∈ s.blk, x ∉ [h] := fun x hx e => by rw [List.mem_singleton] at e; exact ne1 x hx e
        have nhm : m ∉ [h] := by simpa using fun e => H5.a1.2.2 e.symm
        have H6 : Hol N w6 h { S with buf := bf, gaps := cg, fin := E } B1 s m := ⟨hx6, H5.buf.upd u6 nh, H5.bo.upd u6 nh, H5.gaps.upd u6 nhs, H5.go.upd u6 nhs, H5.map.upd u6 nhm, H5.a1, H5.a2, H5.a3, ⟨H5.base.1, H5.base.2.1, by have := H5.base.2.2; omega⟩⟩
        have V6 := V5.step u6 (fun x hx => .inr (by rw [List.mem_singleton] at hx; subst hx; simp [hblk]))
        have hG6 : Sees cG w6 s cg := H6.gaps
        refine ⟨s, H6.box.sl 2 s rfl, brd (fun hpos => ?_) (fun hz => ?_)⟩
        · have hi : cg.length - 1 < cg.length := by omega
          have ew3 : wr .i64 ((s.len : Int) - 1) = ((cg.length - 1 : Nat) : Int) := by rw [wr_i64 (by omega) (by omega)]; omega
          rw [ew3, Int.toNat_natCast]
          have hfl := finG_last (S := S) (E := E) hf hi
          have e1 := hG6.elem hi 1 (by simp [cG])
          refine ⟨s, H6.box.sl 2 s rfl, needIx (by omega) (by omega) (hG6.isSome (by decide) (by omega)) ⟨cg[cg.length - 1].2, e1, S.max, (by have := H6.box.int 0 S.max rfl; rwa [add_zero] at this), bre (fun heq => ?_) (fun hne => fun w7 u7 => ?_)⟩⟩
          · rw [if_pos heq] at hfl
            refine ⟨s, H6.box.sl 2 s rfl, needIx (by omega) (by omega) (hG6.isSome (by decide) (by omega)) fun w7 u7 => ?_⟩
            have z7 := u7.size
            refine setG2 (hG6.old u7) (H6.go.old u7) hi (fun y hy => s01 y (sNL y hy)) fun w8 hg8 og8 u8 => ?_
            have z8 := u8.size
            have H7 := H6.old u7
            have H8 : Hol N w8 h { S with buf := bf, gaps := cg.set (cg.length - 1) (cg[cg.length - 1].1, E), fin := E } B1 s m := ⟨H7.box.upd u8 H7.a1.2.1, H7.buf.upd u8 (fun x hx hm => H7.a3 x hx hm), H7.bo.upd u8 (fun x hx hm => H7.a3 x hx hm), hg8, og8, H7.map.upd u8 H7.a2.2, H7.a1, H7.a2, H7.a3, ⟨H7.base.1, H7.base.2.1, by have := H7.base.2.2; omega⟩⟩
            have V8 := (V6.step u7 (by simp)).step u8 (fun x hx => .inl (by have := sNL x hx; omega))
            have hG8 : Sees cG w8 s (cg.set (cg.length - 1) (cg[cg.length - 1].1, E)) := H8.gaps
            have hi8 : cg.length - 1 < (cg.set (cg.length - 1) (cg[cg.length - 1].1, E)).length := by simp; omega
            have e0 : w8.cell? ((s.at 2 (cg.length - 1)).add 0) = some (.int .i64 cg[cg.length - 1].1) := by
              have := hG8.elem hi8 0 (by simp [cG])
              simpa [cG] using this
            refine ⟨s, H8.box.sl 2 s rfl, needIx (by omega) (by omega) (hG6.isSome (by decide) (by omega)) ⟨cg[cg.length - 1].1, e0, brd (fun hge => ?_) (fun hlt => ?_)⟩⟩
            · rw [if_pos hge] at hfl
              have hcs := H8.go.le
              refine ⟨s, H8.box.sl 2 s rfl, needIxLe (by omega) (by omega) ?_⟩
              (try dsimp only [deref])
              refine H8.box.set (y := .sl (s.sub 2 0 (cg.length - 1) s.cap)) 2 (by simp) rfl (b01 h hh.2 (by simp [hblk])) fun w9 hx9 u9 => ?_
              have z9 := u9.size
              have hbk : (s.sub 2 0 (cg.length - 1) s.cap).blk = s.blk := by unfold Sl.blk; rw [subG_ptr]
              have hg9 : Sees cG w8 (s.sub 2 0 (cg.length - 1) s.cap) cg.dropLast := by
                have := hG8.sub (lo := 0) (hi := cg.length - 1) (mx := s.cap) (by omega) (by omega) (by omega)
                rw [List.drop_zero, set_last (by omega), List.take_left' (by simp)] at this
                exact this
              have og9 := H8.go.subG (n := cg.length - 1) (by omega)
              (repeat refine And.intro rfl ?_)
              refine fin cg.dropLast (s.sub 2 0 (cg.length - 1) s.cap) E w9 (V8.step u9 (fun x hx => .inr (by rw [List.mem_singleton] at hx; subst hx; simp [hblk]))) (by omega) ⟨hx9, H8.buf.upd u9 nh, H8.bo.upd u9 nh, hg9.upd u9 (by rw [hbk]; exact nhs), og9.upd u9 (by rw [hbk]; exact nhs), H8.map.upd u9 nhm, ⟨H8.a1.1, by rw [hbk]; exact H8.a1.2.1, H8.a1.2.2⟩, ⟨H8.a2.1, by rw [hbk]; exact H8.a2.2⟩, by rw [hbk]; exact H8.a3, ⟨H8.base.1, H8.base.2.1, by have := H8.base.2.2; omega⟩⟩ (by rw [hbk]; exact sNL) hfl.symm (by rw [if_pos ⟨rfl, hf⟩])
            · rw [if_neg (by omega)] at hfl
              (repeat refine And.intro rfl ?_)
              refine fin _ s E w8 V8 (by omega) H8 sNL ?_ (by rw [if_pos ⟨rfl, hf⟩])
              rw [hfl, set_last (by omega)]
          · rw [if_neg hne] at hfl
            (repeat refine And.intro rfl ?_)
            exact fin cg s E w7 (V6.step u7 (by simp)) (by have := u7.size; omega) (H6.old u7) sNL hfl.symm (by rw [if_pos ⟨rfl, hf⟩])
        · have hn : cg = [] := List.eq_nil_of_length_eq_zero (by omega)
          intro w7 u7
          (repeat refine And.intro rfl ?_)
          exact fin cg s E w7 (V6.step u7 (by simp)) (by have := u7.size; omega) (H6.old u7) sNL (by rw [hn, finG_nil]) (by rw [if_pos ⟨rfl, hf⟩])
      · (repeat refine And.intro rfl ?_)
        exact stay (by omega)
      · (repeat refine And.intro rfl ?_)
        exact stay (by simp [hm])
    clear hJ2
    have hgl : G.len = S.gaps.length := H3.gaps.len
    refine ⟨G, H3.box.sl 2 G rfl, ?_⟩
    refine ⟨fun s i n1 n2 b2 w' => n2 = 0 ∧ b2 = false ∧ ∃ (NL t : Nat) (ls : List (Int × Int)) (bf : List Int), i = t ∧ t ≤ S.gaps.length ∧ Upd (hblk h B G m) [] w2 w' ∧ Hol N w' h { S with buf := bf } B1 G m ∧ Sees cG w' s ls ∧ Own NL 2 w' s ∧ ls.length ≤ 2 * t ∧ ls ++ cutG off E (S.gaps.drop t) = cutG off E S.gaps ∧ n1 + newN off E (S.gaps.drop t) = newN off E S.gaps ∧ (0 ≤ n1 ∧ n1 ≤ 65535 * t) ∧ putB off E l (S.gaps.drop t) bf = putB off E l S.gaps (S.buf ++ List.replicate (E.toNat - S.buf.length) 0) ∧ bf.length = (S.buf ++ List.replicate (E.toNat - S.buf.length) 0).length ∧ w3.heap.size ≤ NL ∧ w3.heap.size ≤ b1 ∧ b1 < NL ∧ NL ≤ w'.heap.size,
      fun s i n1 n2 b2 w' => (S.gaps.length - i).toNat, fun w4 u4 => ?_, ?_⟩
    · have n1 := u4.new (b := b1) (by simp)
      exact ⟨rfl, rfl, w4.heap.size, 0, [], _, rfl, by omega, V3.step u4 (by simp), H3.old u4, Sees.nil _ _ _ _, Own.none _ _ _, by simp, by simp, by simp, by omega, by simp, rfl, by omega, n1.1, n1.2, Nat.le_refl _⟩
    rintro s i n1 n2 b2 w4 ⟨rfl, rfl, NL, t, ls, bf, rfl, ht, V4, H4, hs, os, hll, e1, e2, en, e3, ebl, q1, q2, q3, q4⟩
    have hNL : ∀ y ∈ hblk h B1 G m, y < NL := fun y hy => by have := (lt3 y hy).2; omega
    have hw0 : w2.heap.size ≤ NL := by omega
    have sB := os.blk
    refine brd (fun hlt => ?_) (fun hge => ?_)
    · have ht2 : t < S.gaps.length := by omega
      have hg := O.gp _ (List.getElem_mem ht2)
      have hdr : S.gaps.drop t = S.gaps[t] :: S.gaps.drop (t + 1) := List.drop_eq_getElem_cons ht2
      rw [hdr] at e1 e2 e3
      have hG4 : Sees cG w4 G S.gaps := H4.gaps
      have g0 := hG4.elem ht2 0 (by simp [cG])
      have g1 := hG4.elem ht2 1 (by simp [cG])
      refine needIx (by omega) (by omega) (hG4.isSome (by decide) (by omega)) ⟨fun i => if i = 0 then S.gaps[t].1 else S.gaps[t].2, fun i hi => ?_, fun b3 => ?_⟩
      · rw [Nat.zero_add, Int.toNat_natCast]
        match i, hi with
        | 0, _ => exact g0
        | 1, _ => exact g1
      simp only [if_true, Nat.one_ne_zero, if_false]
      have sbs : ∀ y ∈ s.blk, ∀ w5, Upd [] [b3] w4 w5 → y ∉ [b0, b1, b3] := fun y hy w5 u5 hm => by
        have := sB y hy
        have n3 := u5.new (b := b3) (by simp)
        simp at hm; omega
      refine brd (fun hc1 => ?_) (fun hc1 => ?_)
      · -- the rest stays
        refine ⟨G, H4.box.sl 2 G rfl, needIxLe (by omega) (by omega) fun w5 u5 => ?_⟩
        have hx := (hG4.old u5).sub (lo := t) (hi := G.len) (mx := G.cap) (by omega) (by omega) (by have := H4.go.le; omega)
        rw [Int.toNat_natCast]
        rw [List.take_of_length_le (by omega)] at hx
        have z5 := u5.size
        refine appG (V4.step u5 (by simp)) (H4.old u5) (hs.old u5) (os.old u5) hx hNL hw0 (by omega) (fun y hy => sbs y hy _ u5) (by simp; omega) fun r w6 V6 H6 hr6 or6 _ z6 => ?_
        (repeat refine And.intro trivial ?_)
        have c1_MISSING : cutG off E (S.gaps[t] :: S.gaps.drop (t + 1)) = S.gaps[t] :: S.gaps.drop (t + 1) := by simp only [cutG]; rw [if_pos (by omega)]
        have c2_MISSING : newN off E (S.gaps[t] :: S.gaps.drop (t + 1)) = 0 := by simp only [newN]; rw [if_pos (by omega)]
        have c3_MISSING : putB off E l (S.gaps[t] :: S.gaps.drop (t + 1)) bf = bf := by simp only [putB]; rw [if_pos (by omega)]
        rw [c1_MISSING] at e1
        rw [c2_MISSING, Int.add_zero] at e2
        rw [c3_MISSING] at e3
        rw [hdr, e1] at hr6
        rw [e2]
        exact after r bf NL w6 V6 H6 e3 hr6 or6 q1 q2 q3 (by omega)
      · refine brd (fun hc2 => ?_) (fun hc2 => ?_)
        · intro w5 u5 b4 w6 u6 hr6
          have z5 := u5.size; have z6 := u6.size
          have hx : Sees cG w6 ⟨some ⟨b4, 0, none⟩, 1, 1⟩ [(S.gaps[t].1, S.gaps[t].2)] := rowG hr6 rfl
          refine appG ((V4.step u5 (by simp)).step u6 (by simp)) ((H4.old u5).old u6) ((hs.old u5).old u6) ((os.old u5).old u6) hx hNL hw0 (by omega) (fun y hy => sbs y hy _ u5) (by simp; omega) fun r w7 V7 H7 hr7 or7 _ z7 => ?_
          (repeat refine And.intro trivial ?_)
          have c1_MISSING : cutG off E (S.gaps[t] :: S.gaps.drop (t + 1)) = S.gaps[t] :: cutG off E (S.gaps.drop (t + 1)) := by simp only [cutG]; rw [if_neg (by omega), if_pos hc2]
          have c2_MISSING : newN off E (S.gaps[t] :: S.gaps.drop (t + 1)) = newN off E (S.gaps.drop (t + 1)) := by simp only [newN]; rw [if_neg (by omega), if_pos hc2]
          have c3_MISSING : putB off E l (S.gaps[t] :: S.gaps.drop (t + 1)) bf = putB off E l (S.gaps.drop (t + 1)) bf := by simp only [putB]; rw [if_neg (by omega), if_pos hc2]
          rw [c1_MISSING] at e1
          rw [c2_MISSING] at e2
          rw [c3_MISSING] at e3
          refine ⟨⟨trivial, trivial, NL, t + 1, ls ++ [S.gaps[t]], bf, wr_succ (by omega), by omega, V7, H7, hr7, or7, by simp; omega, by rw [List.append_assoc]; exact e1, e2, by omega, e3, ebl, q1, q2, q3, by omega⟩, by rw [wr_succ (q := t) (by omega)]; (try dsimp only); omega⟩
        · intro w5 u5
          simp only [imin_min, imax_max]
          have z5 := u5.size
          have n3 := u5.new (b := b3) (by simp)
          generalize hlo : max S.gaps[t].1 off = lo at *
          generalize hhi : min S.gaps[t].2 E = hi at *
          have r1 : off ≤ lo ∧ 0 ≤ lo ∧ lo < hi ∧ hi ≤ E ∧ E ≤ 65535 ∧ S.gaps[t].1 ≤ lo ∧ hi ≤ S.gaps[t].2 := by omega
          have ebl2 : E.toNat ≤ bf.length := by rw [ebl]; simp; omega
          have hB4 : SeesB w4 B1 bf := H4.buf
          have hBl4 := hB4.len
          have hBc4 := H4.bo.le
          have w1' : wr .i64 (hi - off) = hi - off := wr_i64 (by omega) (by omega)
          have w2' : wr .i64 (lo - off) = lo - off := wr_i64 (by omega) (by omega)
          rw [w1', w2']
          have hmin : ((Nat.min (data.sub 1 (lo - off).toNat (hi - off).toNat data.cap).len (B1.sub 1 lo.toNat hi.toNat B1.cap).len : Nat) : Int) = hi - lo := by
            simp only [Sl.sub]
            have : Nat.min ((hi - off).toNat - (lo - off).toNat) (hi.toNat - lo.toNat) = (hi - lo).toNat := by
              rw [show (hi - off).toNat - (lo - off).toNat = (hi - lo).toNat by omega, show hi.toNat - lo.toNat = (hi - lo).toNat by omega]; exact Nat.min_self _
            rw [this]; omega
          have hwr : wr .i64 (n1 + ((Nat.min (data.sub 1 (lo - off).toNat (hi - off).toNat data.cap).len (B1.sub 1 lo.toNat hi.toNat B1.cap).len : Nat) : Int)) = n1 + (hi - lo) := by
            rw [hmin]; exact wr_i64 (by omega) (by omega)
          refine ⟨[h], fun x hx => by rw [List.mem_singleton] at hx; subst hx; have := H4.box.lt; simp; omega, by simp, B1, (H4.old u5).box.sl 1 B1 rfl, needSl (by omega) (by omega) (by omega) (by omega) (needSl (by omega) (by omega) (by omega) (by omega) fun w6 u6 => ?_)⟩
          have z6 := u6.size
          have H6 := (H4.old u5).old u6
          have hd6 := (((hd.old v2).upd V4 (fun x hx hm => (hdis x hx).2 hm)).old u5).old u6
          have hx6 := hd6.subB (lo := (lo - off).toNat) (hi := (hi - off).toNat) (mx := data.cap) (by omega) (by omega) (by omega)
          have pl : ((l.take (hi - off).toNat).drop (lo - off).toNat).length = (hi - lo).toNat := piece_len (by omega) (by omega) (by omega)
          have B1b : ∀ y ∈ B1.blk, y ∉ [b0, b1, b3] := fun y hy hm => by
            have := (lt3 y (by simp [hblk, hy])).2
            simp only [List.mem_cons, List.not_mem_nil, or_false] at hm
            rcases hm with q | q | q
            · exact b0n (q ▸ (by simp [hblk, hy]))
            · omega
            · omega
          refine copy_win (l := bf) (m := (l.take (hi - off).toNat).drop (lo - off).toNat) H6.buf H6.bo hx6 (by rw [pl]; omega) (by omega) (by omega) (by rw [pl]; omega) B1b fun w7 hB7 oB7 u7 => ⟨fun x hx => ?_, ?_⟩
          · rw [List.mem_singleton] at hx
            subst hx
            have := H4.box.lt
            rw [u7.keep x (by omega) H6.a1.1, u6.keep x (by omega) (by simp)]
          have z7 := u7.size
          have H7 : Hol N w7 h { S with buf := blit bf lo.toNat ((l.take (hi - off).toNat).drop (lo - off).toNat) } B1 G m := ⟨H6.box.upd u7 H6.a1.1, hB7, oB7, H6.gaps.upd u7 (fun x hx hm => H6.a3 x hm hx), H6.go.upd u7 (fun x hx hm => H6.a3 x hm hx), H6.map.upd u7 H6.a2.1, H6.a1, H6.a2, H6.a3, ⟨H6.base.1, H6.base.2.1, by have := H6.base.2.2; omega⟩⟩
          have V7 : Upd (hblk h B G m) [] w2 w7 := ((V4.step u5 (by simp)).step u6 (by simp)).step u7 (fun x hx => by
            rcases hB1 x hx with q | q
            · exact .inr (by simp [hblk, q])
            · exact .inl q)
          have sB1 : ∀ y ∈ s.blk, y ∉ B1.blk := fun y hy hm => by have := sB y hy; have := hNL y (by simp [hblk, hm]); omega
          have hs7 := ((hs.old u5).old u6).upd u7 sB1
          have os7 := ((os.old u5).old u6).upd u7 sB1
          have c1_MISSING : cutG off E (S.gaps[t] :: S.gaps.drop (t + 1)) = (if S.gaps[t].1 < lo then [(S.gaps[t].1, lo)] else []) ++ (if hi < S.gaps[t].2 then [(hi, S.gaps[t].2)] else []) ++ cutG off E (S.gaps.drop (t + 1)) := by
            simp only [cutG]; rw [if_neg (by omega), if_neg (by omega), hlo, hhi]
          have c2_MISSING : newN off E (S.gaps[t] :: S.gaps.drop (t + 1)) = (hi - lo) + newN off E (S.gaps.drop (t + 1)) := by
            simp only [newN]; rw [if_neg (by omega), if_neg (by omega), hlo, hhi]
          have c3_MISSING : putB off E l (S.gaps[t] :: S.gaps.drop (t + 1)) bf = putB off E l (S.gaps.drop (t + 1)) (blit bf lo.toNat ((l.take (hi - off).toNat).drop (lo - off).toNat)) := by
            simp only [putB]; rw [if_neg (by omega), if_neg (by omega), hlo, hhi]
          rw [c1_MISSING] at e1
          rw [c2_MISSING] at e2
          rw [c3_MISSING] at e3
          have ebl3 : (blit bf lo.toNat ((l.take (hi - off).toNat).drop (lo - off).toNat)).length = (S.buf ++ List.replicate (E.toNat - S.buf.length) 0).length := by rw [blit_len (by rw [pl]; omega), ebl]
          intro J3 hJ3
          rw [hwr] at hJ3
          have step2 : ∀ (s2 : Sl) (w8 : World), Upd (hblk h B G m) [] w2 w8 → Hol N w8 h { S with buf := blit bf lo.toNat ((l.take (hi - off).toNat).drop (lo - off).toNat) } B1 G m → Sees cG w8 s2 (ls ++ if S.gaps[t].1 < lo then [(S.gaps[t].1, lo)] else []) → Own NL 2 w8 s2 → (∀ y ∈ s2.blk, y ∉ [b0, b1, b3]) → w7.heap.size ≤ w8.heap.size → J3 s2 w8 := by
            intro s2 w8 V8 H8 hs8 os8 sbs8 z8
            refine hJ3 _ _ ?_
            refine brd (fun hh => fun b4 w9 u9 hr9 => ?_) (fun hh => ?_)
            · have z9 := u9.size
              have hx9 : Sees cG w9 ⟨some ⟨b4, 0, none⟩, 1, 1⟩ [(hi, S.gaps[t].2)] := rowG hr9 rfl
              refine appG (V8.step u9 (by simp)) (H8.old u9) (hs8.old u9) (os8.old u9) hx9 hNL hw0 (by omega) sbs8 (by simp; split <;> simp <;> omega) fun r w10 V10 H10 hr10 or10 _ z10 => ?_
              (repeat refine And.intro trivial ?_)
              rw [if_pos hh] at e1
              refine ⟨⟨trivial, trivial, NL, t + 1, _, _, wr_succ (by omega), by omega, V10, H10, hr10, or10, by simp; split <;> simp <;> omega, by simpa [List.append_assoc] using e1, by omega, by omega, e3, ebl3, q1, q2, q3, by omega⟩, by rw [wr_succ (q := t) (by omega)]; (try dsimp only); omega⟩
            · (repeat refine And.intro trivial ?_)
              rw [if_neg hh, List.append_nil] at e1
              refine ⟨⟨trivial, trivial, NL, t + 1, _, _, wr_succ (by omega), by omega, V8, H8, hs8, os8, by simp; split <;> simp <;> omega, by rw [List.append_assoc]; exact e1, by omega, by omega, e3, ebl3, q1, q2, q3, by omega⟩, by rw [wr_succ (q := t) (by omega)]; (try dsimp only); omega⟩
          clear hJ3
          have b1n : ∀ y ∈ hblk h B1 G m, y ∉ [b1] := fun y hy hm => by have := (lt3 y hy).2; rw [List.mem_singleton] at hm; omega
          refine brd (fun hh => fun b4 w8 u8 hr8 => ?_) (fun hh => fun w8 u8 => ?_)
          · have z8 := u8.size
            have hx8 : Sees cG w8 ⟨some ⟨b4, 0, none⟩, 1, 1⟩ [(S.gaps[t].1, lo)] := rowG hr8 rfl
            refine appG (V7.step u8 (fun x hx => by rw [List.mem_singleton] at hx; exact .inl (by omega))) (H7.upd u8 b1n) (hs7.upd u8 (fun y hy hm => by have := sB y hy; rw [List.mem_singleton] at hm; omega)) (os7.upd u8 (fun y hy hm => by have := sB y hy; rw [List.mem_singleton] at hm; omega)) hx8 hNL hw0 (by omega) (fun y hy => sbs y hy _ u5) (by simp; omega) fun r w9 V9 H9 hr9 or9 nr z9 => ?_
            (repeat refine And.intro trivial ?_)
            refine step2 r w9 V9 H9 (by rw [if_pos hh]; exact hr9) or9 (fun y hy hm => ?_) (by omega)
            rcases nr y hy with q | q
            · exact sbs y q _ u5 hm
            · simp at hm; omega
          · have z8 := u8.size
            (repeat refine And.intro trivial ?_)
            exact step2 s w8 (V7.step u8 (fun x hx => by rw [List.mem_singleton] at hx; exact .inl (by omega))) (H7.upd u8 b1n) (by rw [if_neg hh, List.append_nil]; exact hs7.upd u8 (fun y hy hm => by have := sB y hy; rw [List.mem_singleton] at hm; omega)) (os7.upd u8 (fun y hy hm => by have := sB y hy; rw [List.mem_singleton] at hm; omega)) (fun y hy => sbs y hy _ u5) (by omega)
    · have htl : t = S.gaps.length := by omega
      subst htl
      rw [List.drop_length] at e1 e2 e3
      simp only [cutG, newN, putB, List.append_nil, Int.add_zero] at e1 e2 e3
      rw [e2]
      (repeat refine And.intro rfl ?_)
      exact after s bf NL w4 V4 H4 e3 (e1 ▸ hs) os q1 q2 q3 q4
  clear hJ
  have hBl := H2.buf.len
  have b0B : ∀ x ∈ hblk h B G m, x ≠ b0 := fun x hx => by have := lt x hx; omega
  refine ⟨B, H2.box.sl 1 B rfl, brd (fun hlt => ⟨B, H2.box.sl 1 B rfl, B, H2.box.sl 1 B rfl, fun w3 u3 => ?_⟩) (fun hge => ?_)⟩
  · have ew2 : wr .i64 (E - (B.len : Int)) = ((E.toNat - S.buf.length : Nat) : Int) := by rw [wr_i64 (by omega) (by omega)]; omega
    rw [ew2, Int.toNat_natCast, zeros_cells]
    refine need (by simp; omega) ?_
    have H3 := H2.old u3
    have y3 := u3.size
    refine appendN_own (c := cU8) (N := N) H3.buf H3.bo (by have := H3.base.2.2; omega) (by simp) (fun x hx => by have := b0B x (by simp [hblk, hx]); simpa using this) (by decide) (by simp; omega) fun B1 w4 hB4 oB4 u4 hn4 => ?_
    have y4 := u4.size
    dsimp only [deref]
    refine (H3.box.upd u4 H3.a1.1).set (y := .sl B1) 1 (by simp) rfl (by have := b0B h (by simp [hblk]); simpa using this) fun w5 hx5 u5 => ?_
    have hh := lt h (by simp [hblk]); have hm' := lt m (by simp [hblk])
    have nB1 : ∀ x ∈ B1.blk, x ∈ B.blk ∨ w2.heap.size ≤ x := fun x hx => by
      rcases hn4 x hx with q | q
      · exact .inl q
      · exact .inr (by omega)
    have hB1h : h ∉ B1.blk := fun hx => by
      rcases nB1 h hx with q | q
      · exact H3.a1.1 q
      · omega
    have a1 := H3.a1
    have V5 : Upd (hblk h B G m) [] w2 w5 := ((u3.wide (m' := hblk h B G m) (by simp)).step u4 (fun x hx => .inr (by simp [hblk, hx]))).step u5 (fun x hx => .inr (by rw [List.mem_singleton] at hx; subst hx; simp [hblk]))
    have y5 := u5.size
    (repeat refine And.intro rfl ?_)
    refine main B1 w5 V5 ⟨hx5, hB4.upd u5 (fun x hx e => by rw [List.mem_singleton] at e; exact hB1h (e ▸ hx)), oB4.upd u5 (fun x hx e => by rw [List.mem_singleton] at e; exact hB1h (e ▸ hx)),
      (H3.gaps.upd u4 (fun x hx hm => H3.a3 x hm hx)).upd u5 (fun x hx e => by rw [List.mem_singleton] at e; exact a1.2.1 (e ▸ hx)), (H3.go.upd u4 (fun x hx hm => H3.a3 x hm hx)).upd u5 (fun x hx e => by rw [List.mem_singleton] at e; exact a1.2.1 (e ▸ hx)),
      (H3.map.upd u4 H3.a2.1).upd u5 (by simpa using fun e => a1.2.2 e.symm), ⟨hB1h, a1.2.1, a1.2.2⟩, ⟨fun hx => ?_, H3.a2.2⟩, fun x hx hG => ?_, ⟨H3.base.1, H3.base.2.1, by have := H3.base.2.2; omega⟩⟩ nB1
    · rcases nB1 m hx with q | q
      · exact H3.a2.1 q
      · omega
    · rcases nB1 x hx with q | q
      · exact H3.a3 x q hG
      · have := lt x (by simp [hblk, hG]); omega
  · (repeat refine And.intro rfl ?_)
    refine main B w2 ((Upd.refl w2).wide (by simp)) ?_ (fun x hx => .inl hx)
    have e0 : E.toNat - S.buf.length = 0 := by omega
    rw [e0, List.replicate_zero, List.append_nil]
    exact H2
end
end Go.Vc.Stop
end

section
namespace Go.Vc
set_option linter.unusedVariables false
set_option linter.unusedSimpArgs false
set_option autoImplicit false
/-- holes that rise, none empty, none touching another, up to top -/
def Rise (top : Int) : Int → List (Int × Int) → Prop
  | _, [] => True
  | b, g :: r => b < g.1 ∧ g.1 < g.2 ∧ g.2 ≤ top ∧ Rise top g.2 r
def lens : List (Int × Int) → Int
  | [] => 0
  | g :: r => (g.2 - g.1) + lens r
theorem Rise.lower {top : Int} : ∀ {l : List (Int × Int)} {b b' : Int}, Rise top b l → b' ≤ b → Rise top b' l
  | [], _, _, _, _ => trivial
  | g :: r, b, b', h, hb => ⟨by have := h.1; omega, h.2.1, h.2.2.1, h.2.2.2⟩
theorem Rise.mem {top : Int} : ∀ {l : List (Int × Int)} {b : Int}, Rise top b l → ∀ g ∈ l, b < g.1 ∧ g.1 < g.2 ∧ g.2 ≤ top
  | g :: r, b, h, x, hx => by
    rcases List.mem_cons.1 hx with rfl | hx
    · exact ⟨h.1, h.2.1, h.2.2.1⟩
    · have := Rise.mem h.2.2.2 x hx
      exact ⟨by have := h.1; have := h.2.1; omega, this.2⟩
theorem Rise.cut {top off e : Int} (hoe : off < e) : ∀ {l : List (Int × Int)} {b : Int}, Rise top b l → Rise top b (cutG off e l)
  | [], _, _ => trivial
  | g :: r, b, ⟨h1, h2, h3, h4⟩ => by
    have ih := Rise.cut hoe h4
    unfold cutG
    split
    · exact ⟨h1, h2, h3, h4⟩
    · split
      · exact ⟨h1, h2, h3, ih⟩
      · rename_i q1 q2
        by_cases a1 : g.1 < max g.1 off
        · rw [if_pos a1]
          by_cases a2 : min g.2 e < g.2
          · rw [if_pos a2]
            exact ⟨h1, a1, by dsimp only; omega, by dsimp only; omega, a2, h3, ih⟩
          · rw [if_neg a2]
            exact ⟨h1, a1, by dsimp only; omega, ih.lower (by dsimp only; omega)⟩
        · rw [if_neg a1]
          by_cases a2 : min g.2 e < g.2
          · rw [if_pos a2]
            exact ⟨by dsimp only; omega, a2, h3, ih⟩
          · rw [if_neg a2]
            exact ih.lower (by omega)
theorem lens_app : ∀ (a b : List (Int × Int)), lens (a ++ b) = lens a + lens b
  | [], b => by simp [lens]
  | g :: r, b => by simp only [List.cons_append, lens, lens_app r b]; omega
theorem lens_cut {top off e : Int} (hoe : off < e) : ∀ {l : List (Int × Int)} {b : Int}, Rise top b l → lens (cutG off e l) + newN off e l = lens l
  | [], _, _ => rfl
  | g :: r, b, ⟨h1, h2, h3, h4⟩ => by
    have ih := lens_cut hoe h4
    unfold cutG newN
    split
    · simp
    · split
      · simp only [lens]; omega
      · simp only [lens_app, lens]
        split <;> split <;> simp only [lens] <;> omega
theorem newN_nonneg {top off e : Int} (hoe : off < e) : ∀ {l : List (Int × Int)} {b : Int}, Rise top b l → 0 ≤ newN off e l
  | [], _, _ => Int.le_refl _
  | g :: r, b, ⟨h1, h2, h3, h4⟩ => by
    have ih := newN_nonneg hoe h4
    unfold newN
    split
    · omega
    · split <;> omega
theorem lens_nonneg {top : Int} : ∀ {l : List (Int × Int)} {b : Int}, Rise top b l → 0 ≤ lens l
  | [], _, _ => Int.le_refl _
  | g :: r, b, ⟨h1, h2, h3, h4⟩ => by have := lens_nonneg h4; simp only [lens]; omega
theorem Rise.len {top : Int} : ∀ {l : List (Int × Int)} {b : Int}, Rise top b l → -1 ≤ b → b ≤ top → (l.length : Int) ≤ top - b
  | [], _, _, _, h => by simp; omega
  | g :: r, b, ⟨h1, h2, h3, h4⟩, hb, ht => by have := Rise.len h4 (by omega) h3; simp; omega
theorem Rise.top {top t2 : Int} : ∀ {l : List (Int × Int)} {b : Int}, Rise top b l → (∀ g ∈ l, g.2 ≤ t2) → Rise t2 b l
  | [], _, _, _ => trivial
  | g :: r, b, ⟨h1, h2, h3, h4⟩, h => ⟨h1, h2, h g (by simp), Rise.top h4 (fun x hx => h x (List.mem_cons_of_mem _ hx))⟩
theorem Rise.init {top : Int} : ∀ {l : List (Int × Int)} {b : Int} {y : Int × Int}, Rise top b (l ++ [y]) → Rise top b l ∧ (∀ g ∈ l, g.2 < y.1) ∧ b < y.1 ∧ y.1 < y.2 ∧ y.2 ≤ top
  | [], b, y, h => ⟨trivial, by simp, h.1, h.2.1, h.2.2.1⟩
  | g :: r, b, y, ⟨h1, h2, h3, h4⟩ => by
    obtain ⟨k1, k2, k3, k4, k5⟩ := Rise.init (l := r) h4
    refine ⟨⟨h1, h2, h3, k1⟩, fun x hx => ?_, by omega, k4, k5⟩
    rcases List.mem_cons.1 hx with rfl | hx
    · exact k3
    · exact k2 x hx
end Go.Vc
end

section
open Go Go.Vc Go.Proofs
set_option linter.unusedVariables false
set_option linter.unusedSimpArgs false
set_option autoImplicit false
namespace Go.Vc.Stop
def bnd (S : Hs) : Int := if 0 ≤ S.fin then S.fin else S.max
/-- a Holes as New and Put leave it -/
structure Good (S : Hs) : Prop where
  mx : 1 ≤ S.max ∧ S.max ≤ 65535
  fi : S.fin = -1 ∨ (1 ≤ S.fin ∧ S.fin ≤ S.max)
  ri : Rise (bnd S) (-1) S.gaps
  sum : S.held + lens S.gaps = bnd S
  he : 0 ≤ S.held
  bl : S.buf.length ≤ 65535
  bb : Byt S.buf
  ks : ∀ k ∈ S.seen, KeyR k
theorem Good.bnd_le {S : Hs} (h : Good S) : 1 ≤ bnd S ∧ bnd S ≤ S.max := by
  have := h.mx
  unfold bnd
  rcases h.fi with q | q
  · rw [if_neg (by omega)]; omega
  · rw [if_pos (by omega)]; omega
theorem Good.ok {S : Hs} (h : Good S) : OkS S := by
  have hb := h.bnd_le
  have hm := h.mx
  have hl := h.ri.len (by omega) (by omega)
  have hn := lens_nonneg h.ri
  have hs := h.sum
  have hh := h.he
  refine ⟨h.mx, fun g hg => ?_, by omega, h.bl, h.bb, by omega, by rcases h.fi with q | q <;> omega, h.ks⟩
  have := h.ri.mem g hg
  omega
theorem Good.new {mx : Int} (h1 : 1 ≤ mx) (h2 : mx ≤ 65535) : Good ⟨mx, [], [(0, mx)], -1, 0, []⟩ := by
  have e : bnd ⟨mx, [], [(0, mx)], -1, 0, []⟩ = mx := by simp [bnd]
  exact ⟨⟨h1, h2⟩, .inl rfl, by rw [e]; exact ⟨by dsimp only; omega, by dsimp only; omega, Int.le_refl _, trivial⟩, by rw [e]; simp [lens], Int.le_refl _, by simp, (fun x hx => by cases hx), (fun x hx => by cases hx)⟩
theorem cut_last {off e mx : Int} (hoe : off < e) : ∀ {l : List (Int × Int)} {b : Int} {y : Int × Int}, Rise mx b (l ++ [y]) → y.1 ≤ e → e < y.2 → ∃ c, cutG off e (l ++ [y]) = c ++ [(e, y.2)]
  | [], b, y, h, h1, h2 => by
    simp only [List.nil_append]
    unfold cutG
    split
    · exact ⟨[], by rw [List.nil_append]; congr 1; exact Prod.ext (by dsimp only; omega) rfl⟩
    · rw [if_neg (by omega), show min y.2 e = e by omega, if_pos h2]
      exact ⟨(if y.1 < max y.1 off then [(y.1, max y.1 off)] else []), by simp [cutG]⟩
  | g :: r, b, y, ⟨q1, q2, q3, q4⟩, h1, h2 => by
    obtain ⟨c, hc⟩ := cut_last hoe (l := r) q4 h1 h2
    have hy := (Rise.init (l := r) q4).2.2.1
    simp only [List.cons_append]
    unfold cutG
    rw [if_neg (by omega)]
    split
    · exact ⟨g :: c, by rw [hc]; rfl⟩
    · exact ⟨_ ++ c, by rw [hc, ← List.append_assoc]⟩
theorem Good.put {S : Hs} {off : Int} {l : List Int} {more : Bool} (h : Good S) (he : errS S off l.length more = 0) (hb : Byt l) : Good (putS S off l more) := by
  obtain ⟨p1, p2, _, _, p3, p4, p5, p6, p7⟩ := errS_ok he
  have O := h.ok
  have hB := h.bnd_le
  have hm := h.mx
  have hoe : off < off + (l.length : Int) := by omega
  have pok := putB_ok (off := off) (e := off + l.length) p2 rfl p3 hb S.gaps (S.buf ++ List.replicate ((off + (l.length : Int)).toNat - S.buf.length) 0) (fun g hg => ⟨(O.gp g hg).1, (O.gp g hg).2.1⟩) (by simp; omega) (fun x hx => by
    rcases List.mem_append.1 hx with q | q
    · exact O.bb x q
    · rw [List.eq_of_mem_replicate q]; omega)
  have hbl := h.bl
  have bl' : (putS S off l more).buf.length ≤ 65535 := by
    show (putB off (off + l.length) l S.gaps (S.buf ++ List.replicate ((off + (l.length : Int)).toNat - S.buf.length) 0)).length ≤ 65535
    rw [pok.1]; simp; omega
  have ks' : ∀ k ∈ (putS S off l more).seen, KeyR k := by
    intro k hk
    simp only [putS] at hk
    split at hk
    · exact h.ks k hk
    · rcases List.mem_append.1 hk with q | q
      · exact h.ks k q
      · rw [List.mem_singleton] at q; subst q; exact ⟨by dsimp only; omega, by dsimp only; omega⟩
  have nn := newN_nonneg hoe h.ri
  have lc := lens_cut hoe h.ri
  have rc := h.ri.cut hoe
  have hs := h.sum
  have hh := h.he
  by_cases hf : more = false ∧ S.fin < 0
  · obtain ⟨rfl, hf⟩ := hf
    have e0 : bnd S = S.max := by unfold bnd; rw [if_neg (by omega)]
    have e1 : bnd (putS S off l false) = off + l.length := by
      show (if 0 ≤ (if false = false ∧ S.fin < 0 then off + (l.length : Int) else S.fin) then (if false = false ∧ S.fin < 0 then off + (l.length : Int) else S.fin) else S.max) = _
      have e2 : (if false = false ∧ S.fin < 0 then off + (l.length : Int) else S.fin) = off + l.length := if_pos ⟨rfl, hf⟩
      rw [e2, if_pos (by omega)]
    have fi' : (putS S off l false).fin = off + l.length := by simp [putS, hf]
    have ht := p7 hf rfl
    rw [e0] at rc hs
    have main : Rise (off + l.length) (-1) (finG S (off + l.length) false (cutG off (off + l.length) S.gaps)) ∧ S.held + newN off (off + l.length) S.gaps + lens (finG S (off + l.length) false (cutG off (off + l.length) S.gaps)) = off + l.length := by
      have ri := h.ri
      rw [e0] at ri
      generalize off + (l.length : Int) = E at *
      have caseE : E = S.max → Rise E (-1) (finG S E false (cutG off E S.gaps)) ∧ S.held + newN off E S.gaps + lens (finG S E false (cutG off E S.gaps)) = E := by
        intro hE
        have : finG S E false (cutG off E S.gaps) = cutG off E S.gaps := by
          rcases List.eq_nil_or_concat (cutG off E S.gaps) with q | ⟨c, y, q⟩
          · rw [q, finG_nil]
          · rw [q] at rc ⊢
            unfold finG
            rw [if_pos ⟨rfl, hf⟩]
            simp only [List.concat_eq_append] at rc ⊢
            rw [List.getLast?_concat]
            simp only
            split
            · rename_i q2
              have := (Rise.init rc).2.2.2
              rw [if_neg (by omega), List.dropLast_concat]
              congr 2
              exact Prod.ext rfl (by dsimp only; omega)
            · rfl
        rw [this]
        exact ⟨by rw [hE]; rw [hE] at rc; exact rc, by omega⟩
      rcases List.eq_nil_or_concat S.gaps with q | ⟨c, y, q⟩
      · unfold topS at ht; rw [q] at ht; exact caseE (by simp at ht; omega)
      · rw [List.concat_eq_append] at q
        have tq : topS S = if y.2 = S.max then y.1 else S.max := by unfold topS; rw [q, List.getLast?_concat]
        by_cases hy : y.2 = S.max
        · rw [tq, if_pos hy] at ht
          by_cases hlt : E < S.max
          · have ri2 := ri
            rw [q] at ri2
            obtain ⟨d, hd⟩ := cut_last hoe ri2 ht (by omega)
            rw [← q] at hd
            rw [hd] at rc lc ⊢
            obtain ⟨k1, k2, k3, k4, k5⟩ := Rise.init rc
            have : finG S E false (d ++ [(E, y.2)]) = d := by
              unfold finG
              rw [if_pos ⟨rfl, hf⟩, List.getLast?_concat]
              simp only
              rw [if_pos hy, if_pos (Int.le_refl _), List.dropLast_concat]
            rw [this]
            rw [lens_app] at lc
            simp only [lens] at lc
            exact ⟨k1.top (fun g hg => by have := k2 g hg; dsimp only at this; omega), by omega⟩
          · exact caseE (by omega)
        · rw [tq, if_neg hy] at ht
          exact caseE (by omega)
    refine ⟨h.mx, .inr (by rw [fi']; show 1 ≤ off + (l.length : Int) ∧ off + (l.length : Int) ≤ S.max; omega), by rw [e1]; exact main.1, by rw [e1]; exact main.2, ?_, bl', pok.2, ks'⟩
    show 0 ≤ S.held + newN off (off + l.length) S.gaps
    omega
  · have fi' : (putS S off l more).fin = S.fin := by simp only [putS]; rw [if_neg hf]
    have e1 : bnd (putS S off l more) = bnd S := by unfold bnd; rw [fi']; rfl
    have g' : (putS S off l more).gaps = cutG off (off + l.length) S.gaps := by simp only [putS]; exact finG_no hf
    refine ⟨h.mx, by rw [fi']; exact h.fi, by rw [e1, g']; exact rc, ?_, ?_, bl', pok.2, ks'⟩
    · rw [e1, g']
      show S.held + newN off (off + l.length) S.gaps + _ = _
      omega
    · show 0 ≤ S.held + newN off (off + l.length) S.gaps
      omega
end Go.Vc.Stop
end

section
namespace Go.Vc
set_option linter.unusedVariables false
set_option linter.unusedSimpArgs false
set_option autoImplicit false
/-- is the place in a hole? -/
def inG (i : Int) : List (Int × Int) → Bool
  | [] => false
  | g :: r => (decide (g.1 ≤ i) && decide (i < g.2)) || inG i r
theorem inG_low {top i : Int} : ∀ {l : List (Int × Int)} {b : Int}, Rise top b l → i ≤ b → inG i l = false
  | [], _, _, _ => rfl
  | g :: r, b, ⟨h1, h2, h3, h4⟩, hi => by
    unfold inG
    rw [inG_low h4 (by omega), Bool.or_false, decide_eq_false (by omega), Bool.false_and]
theorem inG_app {i : Int} : ∀ (a b : List (Int × Int)), inG i (a ++ b) = (inG i a || inG i b)
  | [], b => by simp [inG]
  | g :: r, b => by simp only [List.cons_append, inG, inG_app r b, Bool.or_assoc]
/-- the holes behind a piece: what was a hole and is not covered -/
theorem inG_cut {top off e i : Int} (hoe : off < e) : ∀ {l : List (Int × Int)} {b : Int}, Rise top b l → inG i (cutG off e l) = (inG i l && !(decide (off ≤ i) && decide (i < e)))
  | [], _, _ => rfl
  | g :: r, b, ⟨h1, h2, h3, h4⟩ => by
    have ih := inG_cut (i := i) hoe h4
    unfold cutG
    split
    · rename_i q
      simp only [inG]
      by_cases a : i < e
      · have e1 : inG i r = false := inG_low h4 (by omega)
        rw [e1]
        rw [decide_eq_false (show ¬ g.1 ≤ i by omega)]; simp
      · rw [decide_eq_false a]; simp
    · split
      · rename_i q1 q2
        simp only [inG, ih]
        by_cases a : g.1 ≤ i ∧ i < g.2
        · rw [decide_eq_true a.1, decide_eq_true a.2, decide_eq_false (show ¬ off ≤ i by omega)]; simp
        · have : (decide (g.1 ≤ i) && decide (i < g.2)) = false := by simp; omega
          rw [this]; simp
      · rename_i q1 q2
        rw [inG_app, inG_app, ih]
        simp only [inG]
        have e1 : inG i (if g.1 < max g.1 off then [(g.1, max g.1 off)] else []) = decide (g.1 ≤ i ∧ i < max g.1 off) := by
          split
          · simp [inG]
          · simp only [inG]; symm; apply decide_eq_false; omega
        have e2 : inG i (if min g.2 e < g.2 then [(min g.2 e, g.2)] else []) = decide (min g.2 e ≤ i ∧ i < g.2) := by
          split
          · simp [inG]
          · simp only [inG]; symm; apply decide_eq_false; omega
        rw [e1, e2]
        cases hr : inG i r
        · simp only [Bool.false_and, Bool.or_false]
          rw [Bool.eq_iff_iff]
          simp
          omega
        · have : g.2 < i := by
            rcases Int.lt_or_le g.2 i with q | q
            · exact q
            · rw [inG_low h4 q] at hr; cases hr
          simp only [Bool.true_and, Bool.or_true]
          rw [Bool.eq_iff_iff]
          simp
          omega
theorem blit_bt {b d : List Int} {p : Nat} {i : Int} (h : p + d.length ≤ b.length) (h0 : 0 ≤ i) : bt (blit b p d) i = if (p : Int) ≤ i ∧ i < p + d.length then bt d (i - p) else bt b i := by
  obtain ⟨n, rfl⟩ := Int.eq_ofNat_of_zero_le h0
  unfold bt blit
  simp only [List.getD_eq_getElem?_getD]
  by_cases a : (p : Int) ≤ (n : Int) ∧ (n : Int) < p + d.length
  · rw [if_pos a, List.append_assoc, List.getElem?_append_right (by simp; omega), List.getElem?_append_left (by simp; omega)]
    congr 2
    simp; omega
  · rw [if_neg a]
    by_cases c : n < p
    · rw [List.append_assoc, List.getElem?_append_left (by simp; omega)]
      rw [List.getElem?_take, Int.toNat_natCast, if_pos c]
    · rw [List.getElem?_append_right (by simp; omega), List.getElem?_drop]
      congr 2
      simp; omega
/-- the bytes behind a piece: the piece's where a hole was covered, the elder ones elsewhere -/
theorem putB_bt {top off e : Int} {l : List Int} (h0 : 0 ≤ off) (he : off + l.length = e) (hl : 0 < l.length) : ∀ {gs : List (Int × Int)} {b : Int} {bf : List Int}, Rise top b gs → -1 ≤ b → e.toNat ≤ bf.length → ∀ i : Int, 0 ≤ i → bt (putB off e l gs bf) i = if inG i gs && (decide (off ≤ i) && decide (i < e)) then bt l (i - off) else bt bf i
  | [], _, _, _, _, _, i, _ => by simp [putB, inG]
  | g :: r, b, bf, ⟨h1, h2, h3, h4⟩, hb, hbf, i, hi => by
    unfold putB
    split
    · rename_i q
      have : (inG i (g :: r) && (decide (off ≤ i) && decide (i < e))) = false := by
        by_cases a : i < e
        · have e1 : inG i r = false := inG_low h4 (by omega)
          simp only [inG, e1]
          rw [decide_eq_false (show ¬ g.1 ≤ i by omega)]; rfl
        · rw [decide_eq_false a]; simp
      rw [this]; rfl
    · split
      · rename_i q1 q2
        rw [putB_bt h0 he hl h4 (by omega) hbf i hi]
        have : (inG i (g :: r) && (decide (off ≤ i) && decide (i < e))) = (inG i r && (decide (off ≤ i) && decide (i < e))) := by
          simp only [inG]
          by_cases a : g.1 ≤ i ∧ i < g.2
          · rw [decide_eq_false (show ¬ off ≤ i by omega)]; simp
          · have : (decide (g.1 ≤ i) && decide (i < g.2)) = false := by simp; omega
            rw [this]; simp
        rw [this]
      · rename_i q1 q2
        have pl : ((l.take (min g.2 e - off).toNat).drop (max g.1 off - off).toNat).length = (min g.2 e - max g.1 off).toNat := by simp; omega
        have hfit : (max g.1 off).toNat + ((l.take (min g.2 e - off).toNat).drop (max g.1 off - off).toNat).length ≤ bf.length := by rw [pl]; omega
        have bl : (blit bf (max g.1 off).toNat ((l.take (min g.2 e - off).toNat).drop (max g.1 off - off).toNat)).length = bf.length := by simp [blit]; omega
        rw [putB_bt h0 he hl h4 (by omega) (by rw [bl]; exact hbf) i hi, blit_bt hfit hi, pl]
        by_cases a : g.1 ≤ i ∧ i < g.2
        · have e1 : inG i r = false := inG_low h4 (by omega)
          simp only [inG, e1]
          rw [decide_eq_true a.1, decide_eq_true a.2]
          simp only [Bool.and_self, Bool.or_false, Bool.true_and, Bool.false_and, Bool.false_eq_true, if_false]
          by_cases c : off ≤ i ∧ i < e
          · rw [if_pos (by omega), decide_eq_true c.1, decide_eq_true c.2]
            simp only [Bool.and_self, if_true]
            unfold bt
            simp only [List.getD_eq_getElem?_getD, List.getElem?_drop, List.getElem?_take]
            rw [if_pos (by omega)]
            congr 2
            omega
          · have : (decide (off ≤ i) && decide (i < e)) = false := by simp; omega
            rw [this, if_neg (by omega)]; rfl
        · have : (decide (g.1 ≤ i) && decide (i < g.2)) = false := by simp; omega
          simp only [inG, this, Bool.false_or]
          rw [if_neg (show ¬ (((max g.1 off).toNat : Int) ≤ i ∧ i < ((max g.1 off).toNat : Int) + (((min g.2 e - max g.1 off).toNat : Nat) : Int)) by omega)]
end Go.Vc
end

section
open Go Go.Vc Go.Proofs
set_option linter.unusedVariables false
set_option linter.unusedSimpArgs false
set_option autoImplicit false
namespace Go.Vc.Stop
/-- the byte of the first piece that covers a place -/
def firstB : List (Int × List Int) → Int → Option Int
  | [], _ => none
  | p :: r, i => if p.1 ≤ i ∧ i < p.1 + p.2.length then some (bt p.2 (i - p.1)) else firstB r i
theorem firstB_snoc {p : Int × List Int} {i : Int} : ∀ (l : List (Int × List Int)), firstB (l ++ [p]) i = match firstB l i with | some v => some v | none => if p.1 ≤ i ∧ i < p.1 + p.2.length then some (bt p.2 (i - p.1)) else none
  | [] => by simp [firstB]
  | q :: r => by
    have ih := firstB_snoc (p := p) (i := i) r
    simp only [List.cons_append, firstB]
    split
    · rfl
    · exact ih
/-- what is held is what the first piece that covers it brought -/
structure First (S : Hs) (l : List (Int × List Int)) : Prop where
  hole : ∀ i, 0 ≤ i → i < bnd S → inG i S.gaps = (firstB l i).isNone
  byte : ∀ i, 0 ≤ i → i < bnd S → ∀ v, firstB l i = some v → bt S.buf i = v ∧ i < S.buf.length
theorem First.new {mx : Int} (h1 : 1 ≤ mx) : First ⟨mx, [], [(0, mx)], -1, 0, []⟩ [] := by
  refine ⟨fun i h0 hi => ?_, fun i _ _ v hv => by simp [firstB] at hv⟩
  have e : bnd ⟨mx, [], [(0, mx)], -1, 0, []⟩ = mx := by simp [bnd]
  rw [e] at hi
  simp [inG, firstB, h0, hi]
theorem inG_finG {S : Hs} {e i : Int} {more : Bool} {cg : List (Int × Int)} (hi : i < e) (he : e ≤ S.max) : inG i (finG S e more cg) = inG i cg := by
  unfold finG
  split
  · rcases List.eq_nil_or_concat cg with q | ⟨c, y, q⟩
    · rw [q]; rfl
    · rw [q, List.concat_eq_append, List.getLast?_concat]
      simp only
      split
      · split
        · rw [List.dropLast_concat, inG_app]
          simp only [inG]
          rw [decide_eq_false (show ¬ y.1 ≤ i by omega)]; simp
        · rw [List.dropLast_concat, inG_app, inG_app]
          simp only [inG]
          rw [decide_eq_true hi, decide_eq_true (show i < y.2 by omega)]
      · rfl
  · rfl
theorem First.put {S : Hs} {l : List (Int × List Int)} {off : Int} {data : List Int} {more : Bool} (g : Good S) (f : First S l) (he : errS S off data.length more = 0) (hb : Byt data) : First (putS S off data more) (l ++ [(off, data)]) := by
  obtain ⟨p1, p2, _, _, p3, p4, p5, p6, p7⟩ := errS_ok he
  have O := g.ok
  have hoe : off < off + (data.length : Int) := by omega
  have gb := g.bnd_le
  have hB' : bnd (putS S off data more) ≤ bnd S ∧ (more = false ∧ S.fin < 0 → bnd (putS S off data more) = off + data.length) := by
    by_cases hf : more = false ∧ S.fin < 0
    · have e1 : (putS S off data more).fin = off + data.length := by simp only [putS]; rw [if_pos hf]
      have e2 : bnd (putS S off data more) = off + data.length := by unfold bnd; rw [e1, if_pos (by omega)]
      have e0 : bnd S = S.max := by unfold bnd; rw [if_neg (by omega)]
      exact ⟨by omega, fun _ => e2⟩
    · have e1 : (putS S off data more).fin = S.fin := by simp only [putS]; rw [if_neg hf]
      have e2 : bnd (putS S off data more) = bnd S := by unfold bnd; rw [e1]; rfl
      exact ⟨by omega, fun q => absurd q hf⟩
  have hG : ∀ i, i < bnd (putS S off data more) → inG i (putS S off data more).gaps = (inG i S.gaps && !(decide (off ≤ i) && decide (i < off + data.length))) := by
    intro i hi
    rw [← inG_cut hoe g.ri]
    show inG i (finG S (off + data.length) more (cutG off (off + data.length) S.gaps)) = _
    by_cases hf : more = false ∧ S.fin < 0
    · exact inG_finG (by have := hB'.2 hf; omega) (by omega)
    · rw [finG_no hf]
  have pok := putB_ok (off := off) (e := off + data.length) p2 rfl p3 hb S.gaps (S.buf ++ List.replicate ((off + (data.length : Int)).toNat - S.buf.length) 0) (fun g hg => ⟨(O.gp g hg).1, (O.gp g hg).2.1⟩) (by simp; omega) (fun x hx => by
    rcases List.mem_append.1 hx with q | q
    · exact O.bb x q
    · rw [List.eq_of_mem_replicate q]; omega)
  have hlen : (putS S off data more).buf.length = S.buf.length + ((off + (data.length : Int)).toNat - S.buf.length) := by
    show (putB off (off + data.length) data S.gaps _).length = _
    rw [pok.1]; simp
  refine ⟨fun i h0 hi => ?_, fun i h0 hi v hv => ?_⟩
  · rw [hG i hi, f.hole i h0 (by omega), firstB_snoc]
    cases firstB l i with
    | some v => rfl
    | none =>
      dsimp only
      by_cases c : off ≤ i ∧ i < off + data.length
      · rw [if_pos c, decide_eq_true c.1, decide_eq_true c.2]; rfl
      · rw [if_neg c]
        have : (decide (off ≤ i) && decide (i < off + (data.length : Int))) = false := by simp; omega
        rw [this]; rfl
  · have hb2 : bt (putS S off data more).buf i = if inG i S.gaps && (decide (off ≤ i) && decide (i < off + (data.length : Int))) then bt data (i - off) else bt (S.buf ++ List.replicate ((off + (data.length : Int)).toNat - S.buf.length) 0) i :=
      putB_bt p2 rfl p3 g.ri (by omega) (by simp; omega) i h0
    rw [firstB_snoc] at hv
    rw [hb2, f.hole i h0 (by omega)]
    cases hf : firstB l i with
    | some u =>
      rw [hf] at hv
      obtain ⟨k1, k2⟩ := f.byte i h0 (by omega) u hf
      simp only [Option.isNone_some, Bool.false_and, Bool.false_eq_true, if_false]
      refine ⟨?_, by omega⟩
      have : u = v := Option.some.inj hv
      rw [← this, ← k1]
      unfold bt
      simp only [List.getD_eq_getElem?_getD]
      rw [List.getElem?_append_left (by omega)]
    | none =>
      rw [hf] at hv
      dsimp only at hv
      split at hv
      · rename_i c
        rw [decide_eq_true c.1, decide_eq_true c.2]
        refine ⟨by simpa using Option.some.inj hv, by omega⟩
      · cases hv
end Go.Vc.Stop
namespace Go.Vc.Stop
/-- the bytes that are told once all has come -/
theorem First.bytes {S : Hs} {l : List (Int × List Int)} (g : Good S) (f : First S l) (hw : wholeS S = true) : 0 ≤ S.fin ∧ S.fin ≤ S.buf.length ∧ ∀ i, 0 ≤ i → i < S.fin → firstB l i = some (bt S.buf i) := by
  have h0 : 0 ≤ S.fin := by unfold wholeS at hw; simp at hw; exact hw.1
  have hg : S.gaps = [] := by unfold wholeS at hw; simp at hw; exact hw.2
  have e : bnd S = S.fin := by unfold bnd; rw [if_pos h0]
  have gb := g.bnd_le
  have key : ∀ i, 0 ≤ i → i < S.fin → firstB l i = some (bt S.buf i) ∧ i < S.buf.length := by
    intro i hi hlt
    have h1 := f.hole i hi (by omega)
    rw [hg] at h1
    simp only [inG] at h1
    cases hf : firstB l i with
    | none => rw [hf] at h1; cases h1
    | some v =>
      obtain ⟨k1, k2⟩ := f.byte i hi (by omega) v hf
      exact ⟨by rw [k1], k2⟩
  refine ⟨h0, ?_, fun i hi hlt => (key i hi hlt).1⟩
  have := (key (S.fin - 1) (by omega) (by omega)).2
  omega
end Go.Vc.Stop
end

section
open Go Go.Vc Go.Proofs
set_option linter.unusedVariables false
set_option linter.unusedSimpArgs false
set_option autoImplicit false
namespace Go.Vc.Stop
/-- whose fragment it is -/
structure KeyV where
  sv : Int
  sa : Nat → Int
  dv : Int
  da : Nat → Int
  proto : Int
  id : Int
abbrev kSV (k : KeyV) : SV := .struct [.struct [.int .i64 k.sv, .arr .u8 16 k.sa], .struct [.int .i64 k.dv, .arr .u8 16 k.da], .int .i64 k.proto, .int .i64 k.id]
structure KeyV.Ok (k : KeyV) : Prop where
  sv : -9223372036854775808 ≤ k.sv ∧ k.sv ≤ 9223372036854775807
  sa : ∀ i, i < 16 → 0 ≤ k.sa i ∧ k.sa i < 256
  dv : -9223372036854775808 ≤ k.dv ∧ k.dv ≤ 9223372036854775807
  da : ∀ i, i < 16 → 0 ≤ k.da i ∧ k.da i < 256
  proto : -9223372036854775808 ≤ k.proto ∧ k.proto ≤ 9223372036854775807
  id : -9223372036854775808 ≤ k.id ∧ k.id ≤ 9223372036854775807
theorem und56 : Try.prog.underlying 56 = some (.map 66 67) := by kernel_rfl
theorem keyLaw66 : Go.WideMaps.KeyLaw Try.prog 66 := deep_law_laid (by kernel_rfl) (m := 6) (by omega) (Nat.le_of_ble_eq_true (by kernel_rfl)) (by kernel_rfl) (by kernel_rfl)
noncomputable def und66f : Array Field := match Try.prog.underlying 66 with | some (.struct fs) => fs | _ => #[]
theorem und66 : Try.prog.underlying 66 = some (.struct und66f) := by kernel_rfl
noncomputable def und24f : Array Field := match Try.prog.underlying 24 with | some (.struct fs) => fs | _ => #[]
theorem und24 : Try.prog.underlying 24 = some (.struct und24f) := by kernel_rfl
theorem und22 : Try.prog.underlying 22 = some (.array 16 5) := by kernel_rfl
theorem u5 : Try.prog.underlying 5 = some (.int .u8) := by kernel_rfl
theorem cl66 : Try.prog.cellsOf 66 = 36 := by kernel_rfl
theorem cl24 : Try.prog.cellsOf 24 = 17 := by kernel_rfl
theorem cl22 : Try.prog.cellsOf 22 = 16 := by kernel_rfl
theorem cl5 : Try.prog.cellsOf 5 = 1 := by kernel_rfl
theorem f66 : und66f.toList.map (fun f => (f.type, f.offset)) = [(24, 0), (24, 17), (3, 34), (3, 35)] := by kernel_rfl
theorem f66n : und66f.all (·.name != "_") = true := by kernel_rfl
theorem f24 : und24f.toList.map (fun f => (f.type, f.offset)) = [(3, 0), (22, 1)] := by kernel_rfl
theorem f24n : und24f.all (·.name != "_") = true := by kernel_rfl
theorem kt66 : Try.prog.keyType 66 = true := by kernel_rfl
theorem tsz4 : ∃ n, Try.prog.types.size + 1 = n + 5 := ⟨Try.prog.types.size - 4, by have : 4 ≤ Try.prog.types.size := Nat.le_of_ble_eq_true (by kernel_rfl); omega⟩
theorem mapM_some {α β : Type} {g : α → Option β} {h : α → β} : ∀ (l : List α), (∀ x ∈ l, g x = some (h x)) → l.mapM g = some (l.map h)
  | [], _ => rfl
  | x :: r, hx => by
    rw [List.mapM_cons, hx x (by simp), mapM_some r (fun y hy => hx y (by simp [hy]))]
    rfl
theorem lits_int {n : Nat} {x : Int} (h : -9223372036854775808 ≤ x ∧ x ≤ 9223372036854775807) : Try.prog.keyLits (n + 1) 3 [.int .i64 x] = some [.int .i64 x] := by
  simp [Program.keyLits, u3, lit_wf h.1 h.2]
theorem lits_u8 {n : Nat} {x : Int} (h : 0 ≤ x ∧ x < 256) : Try.prog.keyLits (n + 1) 5 [.int .u8 x] = some [.int .u8 x] := by
  have : (Lit.int .u8 x).wf = true := by
    simp [Lit.wf, IntKind.min, IntKind.max, IntKind.wrap, IntKind.bits, IntKind.signed]
    try omega
  simp [Program.keyLits, u5, this]
theorem lits_arr {n : Nat} {f : Nat → Int} (h : ∀ i, i < 16 → 0 ≤ f i ∧ f i < 256) : ∃ l, Try.prog.keyLits (n + 2) 22 ((List.range 16).map fun i => Value.int .u8 (f i)) = some l := by
  unfold Program.keyLits
  simp only [und22]
  rw [if_pos (by rw [cl22]; simp)]
  have := mapM_some (g := fun i => Try.prog.keyLits (n + 1) 5 ((((List.range 16).map fun i => Value.int .u8 (f i)).drop (i * Try.prog.cellsOf 5)).take (Try.prog.cellsOf 5))) (h := fun i => [Lit.int .u8 (f i)]) (List.range 16) (fun i hi => by
    have hi : i < 16 := by simpa using hi
    rw [cl5, Nat.mul_one]
    have e : (((List.range 16).map fun i => Value.int .u8 (f i)).drop i).take 1 = [Value.int .u8 (f i)] := by
      apply List.ext_getElem
      · simp; omega
      · intro j h1 h2
        have : j = 0 := by simp at h2; omega
        subst this
        simp
    rw [e]
    exact lits_u8 (h i hi))
  rw [this]
  exact ⟨_, rfl⟩
theorem mapM_ex {α β : Type} {g : α → Option β} : ∀ (l : List α), (∀ x ∈ l, ∃ y, g x = some y) → ∃ r, l.mapM g = some r
  | [], _ => ⟨[], rfl⟩
  | x :: r, hx => by
    obtain ⟨y, hy⟩ := hx x (by simp)
    obtain ⟨s, hs⟩ := mapM_ex r (fun y hy => hx y (by simp [hy]))
    exact ⟨y :: s, by rw [List.mapM_cons, hy, hs]; rfl⟩
theorem lits_ip {n : Nat} {v : Int} {f : Nat → Int} (hv : -9223372036854775808 ≤ v ∧ v ≤ 9223372036854775807) (h : ∀ i, i < 16 → 0 ≤ f i ∧ f i < 256) : ∃ l, Try.prog.keyLits (n + 3) 24 (Value.int .i64 v :: (List.range 16).map fun i => Value.int .u8 (f i)) = some l := by
  unfold Program.keyLits
  simp only [und24]
  rw [if_pos ⟨by rw [cl24]; simp, f24n⟩]
  have e := mapM_of (g := fun f : Field => (f.type, f.offset)) (F := fun p => Try.prog.keyLits (n + 2) p.1 (((Value.int .i64 v :: (List.range 16).map fun i => Value.int .u8 (f i)).drop p.2).take (Try.prog.cellsOf p.1))) und24f.toList
  rw [e, f24]
  obtain ⟨l, hl⟩ := lits_arr (n := n) h
  obtain ⟨r, hr⟩ := mapM_ex (g := fun p : Nat × Nat => Try.prog.keyLits (n + 2) p.1 (((Value.int .i64 v :: (List.range 16).map fun i => Value.int .u8 (f i)).drop p.2).take (Try.prog.cellsOf p.1))) [(3, 0), (22, 1)] (fun x hx => by
    simp only [List.mem_cons, List.not_mem_nil, or_false] at hx
    rcases hx with rfl | rfl
    · rw [cl3]; exact ⟨_, lits_int hv⟩
    · rw [cl22]; exact ⟨l, by
        have e16 : (List.map (fun i => Value.int .u8 (f i)) (List.range 16)).take 16 = List.map (fun i => Value.int .u8 (f i)) (List.range 16) := List.take_of_length_le (by simp)
        simp only [List.drop_succ_cons, List.drop_zero, e16]
        exact hl⟩)
  rw [hr]
  exact ⟨_, rfl⟩
theorem key_ok2 {k : KeyV} (h : k.Ok) : ∃ lx, keyOf Try.prog 66 (kSV k).enc = some lx := by
  obtain ⟨n, hn⟩ := tsz4
  have hl : (kSV k).enc.cells.toList = (Value.int .i64 k.sv :: (List.range 16).map fun i => Value.int .u8 (k.sa i)) ++ ((Value.int .i64 k.dv :: (List.range 16).map fun i => Value.int .u8 (k.da i)) ++ [Value.int .i64 k.proto, Value.int .i64 k.id]) := by simp [SV.enc, SV.cellsL, SV.cells, Value.cells]
  have hf : Value.formed Try.prog 66 (kSV k).enc = true := by
    have : (kSV k).enc.cells.size = 36 := by rw [← Array.length_toList, hl]; simp
    simp [Value.formed, SV.enc, SV.cellsL, SV.cells, und66, cl66]
  unfold keyOf
  rw [und66, hn]
  simp only [kt66, hf, Bool.and_self, if_true]
  have e := mapM_of (g := fun f : Field => (f.type, f.offset)) (F := fun p => Try.prog.keyLits (n + 4) p.1 (((kSV k).enc.cells.toList.drop p.2).take (Try.prog.cellsOf p.1))) und66f.toList
  obtain ⟨l1, h1⟩ := lits_ip (n := n + 1) h.sv h.sa
  obtain ⟨l2, h2⟩ := lits_ip (n := n + 1) h.dv h.da
  have : ∃ l, Try.prog.keyLits (n + 5) 66 (kSV k).enc.cells.toList = some l := by
    unfold Program.keyLits
    simp only [und66]
    rw [if_pos ⟨by rw [hl, cl66]; simp, f66n⟩, e, f66]
    obtain ⟨r, hr⟩ := mapM_ex (g := fun p : Nat × Nat => Try.prog.keyLits (n + 4) p.1 (((kSV k).enc.cells.toList.drop p.2).take (Try.prog.cellsOf p.1))) [(24, 0), (24, 17), (3, 34), (3, 35)] (fun x hx => by
      simp only [List.mem_cons, List.not_mem_nil, or_false] at hx
      rw [hl]
      rcases hx with rfl | rfl | rfl | rfl
      · rw [cl24]; exact ⟨l1, h1⟩
      · rw [cl24]; exact ⟨l2, h2⟩
      · rw [cl3]; exact ⟨_, lits_int h.proto⟩
      · rw [cl3]; exact ⟨_, lits_int h.id⟩)
    rw [hr]
    exact ⟨_, rfl⟩
  obtain ⟨l, hl2⟩ := this
  rw [hl2]
  exact ⟨_, rfl⟩
/-- the program's own comparison: the enclosed values -/
theorem kSV_cells {k k' : KeyV} (h : (kSV k).enc = (kSV k').enc) : k.sv = k'.sv ∧ (∀ i, i < 16 → k.sa i = k'.sa i) ∧ k.dv = k'.dv ∧ (∀ i, i < 16 → k.da i = k'.da i) ∧ k.proto = k'.proto ∧ k.id = k'.id := by
  have h' : SV.cellsL [.struct [.int .i64 k.sv, .arr .u8 16 k.sa], .struct [.int .i64 k.dv, .arr .u8 16 k.da], .int .i64 k.proto, .int .i64 k.id] = SV.cellsL [.struct [.int .i64 k'.sv, .arr .u8 16 k'.sa], .struct [.int .i64 k'.dv, .arr .u8 16 k'.da], .int .i64 k'.proto, .int .i64 k'.id] := by
    simpa [SV.enc] using h
  have g : ∀ (i : Nat) (v v' : Value), (SV.cellsL [.struct [.int .i64 k.sv, .arr .u8 16 k.sa], .struct [.int .i64 k.dv, .arr .u8 16 k.da], .int .i64 k.proto, .int .i64 k.id])[i]? = some v → (SV.cellsL [.struct [.int .i64 k'.sv, .arr .u8 16 k'.sa], .struct [.int .i64 k'.dv, .arr .u8 16 k'.da], .int .i64 k'.proto, .int .i64 k'.id])[i]? = some v' → v = v' := fun i v v' e e' => by
    rw [h', e'] at e; exact (Option.some.inj e).symm
  have inj : ∀ {q : IntKind} {a b : Int}, Value.int q a = Value.int q b → a = b := fun h => by injection h
  refine ⟨inj (g 0 _ _ rfl rfl), fun i hi => ?_, inj (g 17 _ _ rfl rfl), fun i hi => ?_, inj (g 34 _ _ rfl rfl), inj (g 35 _ _ rfl rfl)⟩
  · exact inj (g (1 + i) (.int .u8 (k.sa i)) (.int .u8 (k'.sa i)) (by
      rcases i with _ | _ | _ | _ | _ | _ | _ | _ | _ | _ | _ | _ | _ | _ | _ | _ | i <;> first | rfl | omega) (by
      rcases i with _ | _ | _ | _ | _ | _ | _ | _ | _ | _ | _ | _ | _ | _ | _ | _ | i <;> first | rfl | omega))
  · exact inj (g (18 + i) (.int .u8 (k.da i)) (.int .u8 (k'.da i)) (by
      rcases i with _ | _ | _ | _ | _ | _ | _ | _ | _ | _ | _ | _ | _ | _ | _ | _ | i <;> first | rfl | omega) (by
      rcases i with _ | _ | _ | _ | _ | _ | _ | _ | _ | _ | _ | _ | _ | _ | _ | _ | i <;> first | rfl | omega))
end Go.Vc.Stop
end

section
open Go Go.Vc Go.Vc.Stop Go.Proofs
set_option maxRecDepth 100000
set_option linter.unusedVariables false
namespace Go.Vc.Stop
def vc19 (n : Int) (hi : Int) (w : World) (R : SV → World → Prop) : Prop :=
  Br (decide (n < 0)) (R (SV.bool true) w) (R (SV.bool (decide (n > hi))) w)
theorem f19_of (n : Int) (hi : Int) (w : World) (R : SV → World → Prop) (hV : vc19 n hi w R) : Ret Try.prog 19 [.int .i64 n, .int .i64 hi] w R :=
  have e : vc19 n hi w R = fnVC X Try.f19 a19 [.int .i64 n, .int .i64 hi] w R := by kernel_rfl
  fnVC_sound X_ok (n := a19) (e ▸ hV) (by kernel_rfl) (by kernel_rfl) rfl rfl

def vc20 (ip_0 : Int) (ip_1 : Nat → Int) (w : World) (R : SV → World → Prop) : Prop :=
  ∀ (b : Nat),
    ∃ (I : Int → World → Prop),
      ∃ (M : Int → World → Nat),
        (∀ (w1 : World), Upd [] [b] w w1 → I 4 w1) ∧
          ∀ (n : Int) (w1 : World),
            I n w1 →
              Br (decide (n < 16))
                (Need (decide (0 ≤ n) && decide (n < 16))
                  (Br (ip_1 (Int.toNat n) != 0) (R (SV.bool false) w1)
                    (some (SV.box b 24 (SV.struct [SV.int IntKind.i64 ip_0, SV.arr IntKind.u8 16 ip_1])) =
                        some (SV.box b 24 (SV.struct [SV.int IntKind.i64 ip_0, SV.arr IntKind.u8 16 ip_1])) ∧
                      I (wr IntKind.i64 (n + 1)) w1 ∧ M (wr IntKind.i64 (n + 1)) w1 < M n w1)))
                (R (SV.bool (ip_0 == 4)) w1)
theorem f20_of (ip_0 : Int) (ip_1 : Nat → Int) (w : World) (R : SV → World → Prop) (hV : vc20 ip_0 ip_1 w R) : Ret Try.prog 20 [.struct [.int .i64 ip_0, .arr .u8 16 ip_1]] w R :=
  have e : vc20 ip_0 ip_1 w R = fnVC X Try.f20 a20 [.struct [.int .i64 ip_0, .arr .u8 16 ip_1]] w R := by kernel_rfl
  fnVC_sound X_ok (n := a20) (e ▸ hV) (by kernel_rfl) (by kernel_rfl) rfl rfl

def vc21 (l : Sl) (w : World) (R : SV → World → Prop) : Prop :=
  ∃ (I : Sl → Int → World → Prop),
    ∃ (M : Sl → Int → World → Nat),
      I { ptr := none, len := 0, cap := 0 } 0 w ∧
        ∀ (s : Sl) (n : Int) (w1 : World),
          I s n w1 →
            Br (decide (n < (↑l.2 : Int)))
              (∀ (J : Sl → World → Prop),
                (∀ (s_1 : Sl) (w1_1 : World), I s_1 (wr IntKind.i64 (n + 1)) w1_1 ∧ M s_1 (wr IntKind.i64 (n + 1)) w1_1 < M s n w1 → J s_1 w1_1) →
                  Need (decide (0 ≤ n) && decide (n < (↑l.2 : Int)) && Option.isSome l.1)
                    (∃ (s_1 : Sl),
                      World.cell? w1 (Addr.add (Sl.at l 2 (Int.toNat n)) 1) = some (Sl.val s_1) ∧
                        ∀ (J_1 : World → Prop),
                          (∀ (w1 : World),
                              Need (decide (0 ≤ n) && decide (n < (↑l.2 : Int)) && Option.isSome l.1)
                                  (∃ (n_1 : Int),
                                    World.cell? w1 (Sl.at l 2 (Int.toNat n)) = some (Value.int IntKind.i64 n_1) ∧
                                      ∀ (b : Nat) (w1_1 : World),
                                        Upd [] [b] w1 w1_1 →
                                          (World.heap w1_1)[b]? =
                                              some
                                                (Obj.cells
                                                  {
                                                    toList :=
                                                      SV.cells
                                                        (SV.struct [SV.int IntKind.u8 (wr IntKind.u8 n_1), SV.int IntKind.u8 (wr IntKind.u8 (wr IntKind.i64 ((↑s_1.2 : Int) + 2)))]) }
                                                  5) →
                                            Vc.Append 5 1 1 s { ptr := some { block := b, off := 0 }, len := 2, cap := 2 } [] w1_1 fun (r : Sl) (w : World) =>
                                              Need (decide (0 ≤ n) && decide (n < (↑l.2 : Int)) && Option.isSome l.1)
                                                (∃ (s : Sl),
                                                  World.cell? w (Addr.add (Sl.at l 2 (Int.toNat n)) 1) = some (Sl.val s) ∧
                                                    Vc.Append 5 1 1 r s [] w fun (r : Sl) (w : World) => J r w)) →
                                J_1 w1) →
                            Need (decide (0 ≤ n) && decide (n < (↑l.2 : Int)) && Option.isSome l.1)
                              (∃ (n_1 : Int),
                                World.cell? w1 (Sl.at l 2 (Int.toNat n)) = some (Value.int IntKind.i64 n_1) ∧
                                  Br (decide (n_1 < 2)) (R (SV.tuple [SV.slice { ptr := none, len := 0, cap := 0 }, SV.int IntKind.i64 65]) w1)
                                    (Need (decide (0 ≤ n) && decide (n < (↑l.2 : Int)) && Option.isSome l.1)
                                      (∃ (n_2 : Int),
                                        World.cell? w1 (Sl.at l 2 (Int.toNat n)) = some (Value.int IntKind.i64 n_2) ∧
                                          Br (decide (n_2 > 255)) (R (SV.tuple [SV.slice { ptr := none, len := 0, cap := 0 }, SV.int IntKind.i64 65]) w1)
                                            (Br (decide ((↑s_1.2 : Int) > 38)) (R (SV.tuple [SV.slice { ptr := none, len := 0, cap := 0 }, SV.int IntKind.i64 65]) w1) (J_1 w1)))))))
              (∃ (I : Sl → World → Prop),
                ∃ (M : Sl → World → Nat),
                  I s w1 ∧
                    ∀ (s : Sl) (w1 : World),
                      I s w1 →
                        Br (Int.tmod (↑s.2 : Int) 4 != 0)
                          (∀ (b : Nat) (w1_1 : World),
                            Upd [] [b] w1 w1_1 →
                              (World.heap w1_1)[b]? = some (Obj.cells { toList := SV.cells (SV.struct [SV.int IntKind.u8 0]) } 5) →
                                Vc.Append 5 1 1 s { ptr := some { block := b, off := 0 }, len := 1, cap := 1 } [] w1_1 fun (r : Sl) (w : World) => I r w ∧ M r w < M s w1)
                          (Br (decide ((↑s.2 : Int) > 40)) (R (SV.tuple [SV.slice { ptr := none, len := 0, cap := 0 }, SV.int IntKind.i64 65]) w1)
                            (R (SV.tuple [SV.slice s, SV.int IntKind.i64 0]) w1)))
theorem f21_of (l : Sl) (w : World) (R : SV → World → Prop) (hV : vc21 l w R) : Ret Try.prog 21 [.slice l] w R :=
  have e : vc21 l w R = fnVC X Try.f21 a21 [.slice l] w R := by kernel_rfl
  fnVC_sound X_ok (n := a21) (e ▸ hV) (by kernel_rfl) (by kernel_rfl) rfl rfl

def vc22 (mf : Bool) (off : Int) (n : Int) (w : World) (R : SV → World → Prop) : Prop :=
  Br mf (Br (n == 0) (R (SV.bool true) w) (Br (Int.tmod n 8 != 0) (R (SV.bool true) w) (R (SV.bool (decide (wr IntKind.i64 (off + n) > 65515))) w)))
    (R (SV.bool (decide (wr IntKind.i64 (off + n) > 65515))) w)
theorem f22_of (mf : Bool) (off : Int) (n : Int) (w : World) (R : SV → World → Prop) (hV : vc22 mf off n w R) : Ret Try.prog 22 [.bool mf, .int .i64 off, .int .i64 n] w R :=
  have e : vc22 mf off n w R = fnVC X Try.f22 a22 [.bool mf, .int .i64 off, .int .i64 n] w R := by kernel_rfl
  fnVC_sound X_ok (n := a22) (e ▸ hV) (by kernel_rfl) (by kernel_rfl) rfl rfl

def vc23 (h_0 : Int) (h_1 : Int) (h_2 : Bool) (h_3 : Bool) (h_4 : Int) (h_5 : Int) (h_6 : Int) (h_7_0 : Int) (h_7_1 : Nat → Int) (h_8_0 : Int) (h_8_1 : Nat → Int) (h_9 : Sl) (h_10 : Sl) (w : World) (R : SV → World → Prop) : Prop :=
  ∀ (b : Nat) (J : World → Prop),
    (∀ (w1 : World),
        (Ret Try.prog 45 [SV.slice h_9] w1 fun (r : SV) (w1_1 : World) =>
            ∃ (s : Sl),
              ∃ (n : Int),
                r = SV.tuple [SV.slice s, SV.int IntKind.i64 n] ∧
                  Keeps [b] w1 w1_1 ∧
                    Br (n != 0) (R (SV.int IntKind.i64 n) w1_1)
                      (Br (decide (wr IntKind.i64 (wr IntKind.i64 (20 + (↑s.2 : Int)) + (↑h_10.2 : Int)) > 65535)) (R (SV.int IntKind.i64 63) w1_1)
                        (Ret Try.prog 46 [SV.bool h_3, SV.int IntKind.i64 h_4, SV.int IntKind.i64 (↑h_10.2 : Int)] w1_1 fun (r : SV) (w1 : World) =>
                          ∃ (n : Int), r = SV.int IntKind.i64 n ∧ Keeps [b] w1_1 w1 ∧ R (SV.int IntKind.i64 n) w1))) →
          J w1) →
      ∀ (w1 : World),
        Upd [] [b] w w1 →
          Ret Try.prog 43 [SV.int IntKind.i64 h_0, SV.int IntKind.i64 255] w1 fun (r : SV) (w1_1 : World) =>
            ∃ (b_1 : Bool),
              r = SV.bool b_1 ∧
                Keeps [b] w1 w1_1 ∧
                  Br b_1 (R (SV.int IntKind.i64 68) w1_1)
                    (Ret Try.prog 43 [SV.int IntKind.i64 h_1, SV.int IntKind.i64 65535] w1_1 fun (r : SV) (w1 : World) =>
                      ∃ (b_2 : Bool),
                        r = SV.bool b_2 ∧
                          Keeps [b] w1_1 w1 ∧
                            Br b_2 (R (SV.int IntKind.i64 68) w1)
                              (Ret Try.prog 43 [SV.int IntKind.i64 h_4, SV.int IntKind.i64 65528] w1 fun (r : SV) (w1_2 : World) =>
                                ∃ (b_3 : Bool),
                                  r = SV.bool b_3 ∧
                                    Keeps [b] w1 w1_2 ∧
                                      Br b_3 (R (SV.int IntKind.i64 68) w1_2)
                                        (Br (Int.tmod h_4 8 != 0) (R (SV.int IntKind.i64 68) w1_2)
                                          (Ret Try.prog 43 [SV.int IntKind.i64 h_5, SV.int IntKind.i64 255] w1_2 fun (r : SV) (w1 : World) =>
                                            ∃ (b_4 : Bool),
                                              r = SV.bool b_4 ∧
                                                Keeps [b] w1_2 w1 ∧
                                                  Br b_4 (R (SV.int IntKind.i64 68) w1)
                                                    (Ret Try.prog 43 [SV.int IntKind.i64 h_6, SV.int IntKind.i64 255] w1 fun (r : SV) (w1_3 : World) =>
                                                      ∃ (b_5 : Bool),
                                                        r = SV.bool b_5 ∧
                                                          Keeps [b] w1 w1_3 ∧
                                                            Br b_5 (R (SV.int IntKind.i64 68) w1_3)
                                                              (Ret Try.prog 44 [SV.struct [SV.int IntKind.i64 h_7_0, SV.arr IntKind.u8 16 h_7_1]] w1_3 fun (r : SV) (w1 : World) =>
                                                                ∃ (b_6 : Bool),
                                                                  r = SV.bool b_6 ∧
                                                                    Keeps [b] w1_3 w1 ∧
                                                                      Br (!b_6) (R (SV.int IntKind.i64 68) w1)
                                                                        (Ret Try.prog 44 [SV.struct [SV.int IntKind.i64 h_8_0, SV.arr IntKind.u8 16 h_8_1]] w1
                                                                          fun (r : SV) (w1_4 : World) =>
                                                                          ∃ (b_7 : Bool),
                                                                            r = SV.bool b_7 ∧
                                                                              Keeps [b] w1 w1_4 ∧
                                                                                Br (!b_7) (R (SV.int IntKind.i64 68) w1_4)
                                                                                  (some
                                                                                        (SV.box b 28
                                                                                          (SV.struct
                                                                                            [SV.int IntKind.i64 h_0, SV.int IntKind.i64 h_1, SV.bool h_2, SV.bool h_3,
                                                                                              SV.int IntKind.i64 h_4, SV.int IntKind.i64 h_5, SV.int IntKind.i64 h_6,
                                                                                              SV.struct [SV.int IntKind.i64 h_7_0, SV.arr IntKind.u8 16 h_7_1],
                                                                                              SV.struct [SV.int IntKind.i64 h_8_0, SV.arr IntKind.u8 16 h_8_1], SV.slice h_9,
                                                                                              SV.slice h_10])) =
                                                                                      some
                                                                                        (SV.box b 28
                                                                                          (SV.struct
                                                                                            [SV.int IntKind.i64 h_0, SV.int IntKind.i64 h_1, SV.bool h_2, SV.bool h_3,
                                                                                              SV.int IntKind.i64 h_4, SV.int IntKind.i64 h_5, SV.int IntKind.i64 h_6,
                                                                                              SV.struct [SV.int IntKind.i64 h_7_0, SV.arr IntKind.u8 16 h_7_1],
                                                                                              SV.struct [SV.int IntKind.i64 h_8_0, SV.arr IntKind.u8 16 h_8_1], SV.slice h_9,
                                                                                              SV.slice h_10])) ∧
                                                                                    J w1_4))))))))
theorem f23_of (h_0 : Int) (h_1 : Int) (h_2 : Bool) (h_3 : Bool) (h_4 : Int) (h_5 : Int) (h_6 : Int) (h_7_0 : Int) (h_7_1 : Nat → Int) (h_8_0 : Int) (h_8_1 : Nat → Int) (h_9 : Sl) (h_10 : Sl) (w : World) (R : SV → World → Prop) (hV : vc23 h_0 h_1 h_2 h_3 h_4 h_5 h_6 h_7_0 h_7_1 h_8_0 h_8_1 h_9 h_10 w R) : Ret Try.prog 23 [.struct [.int .i64 h_0, .int .i64 h_1, .bool h_2, .bool h_3, .int .i64 h_4, .int .i64 h_5, .int .i64 h_6, .struct [.int .i64 h_7_0, .arr .u8 16 h_7_1], .struct [.int .i64 h_8_0, .arr .u8 16 h_8_1], .slice h_9, .slice h_10]] w R :=
  have e : vc23 h_0 h_1 h_2 h_3 h_4 h_5 h_6 h_7_0 h_7_1 h_8_0 h_8_1 h_9 h_10 w R = fnVC X Try.f23 a23 [.struct [.int .i64 h_0, .int .i64 h_1, .bool h_2, .bool h_3, .int .i64 h_4, .int .i64 h_5, .int .i64 h_6, .struct [.int .i64 h_7_0, .arr .u8 16 h_7_1], .struct [.int .i64 h_8_0, .arr .u8 16 h_8_1], .slice h_9, .slice h_10]] w R := by kernel_rfl
  fnVC_sound X_ok (n := a23) (e ▸ hV) (by kernel_rfl) (by kernel_rfl) rfl rfl

def vc43 (n : Int) (hi : Int) (w : World) (R : SV → World → Prop) : Prop :=
  Br (decide (n < 0)) (R (SV.bool true) w) (R (SV.bool (decide (n > hi))) w)
theorem f43_of (n : Int) (hi : Int) (w : World) (R : SV → World → Prop) (hV : vc43 n hi w R) : Ret Try.prog 43 [.int .i64 n, .int .i64 hi] w R :=
  have e : vc43 n hi w R = fnVC X Try.f43 a43 [.int .i64 n, .int .i64 hi] w R := by kernel_rfl
  fnVC_sound X_ok (n := a43) (e ▸ hV) (by kernel_rfl) (by kernel_rfl) rfl rfl

def vc44 (ip_0 : Int) (ip_1 : Nat → Int) (w : World) (R : SV → World → Prop) : Prop :=
  ∀ (b b_1 : Nat) (w1 : World),
    Upd [] [b_1, b] w w1 →
      (World.heap w1)[b_1]? = some (Obj.cells { toList := SV.cells (SV.arr IntKind.u8 16 fun (x : Nat) => 0) } 22) →
        Off b_1 [b] →
          (World.heap w1)[b]? = some (Obj.cells { toList := SV.cells (SV.struct [SV.int IntKind.i64 ip_0, SV.arr IntKind.u8 16 ip_1]) } 24) →
            (∀ (w1_1 : World),
                Upd [] [] w1 w1_1 →
                  Copy 1 (Sl.sub { ptr := some { block := b_1, off := 0 }, len := 16, cap := 16 } 1 0 4 16)
                    (Sl.sub { ptr := some (Addr.add { block := b, off := 0 } 1), len := 16, cap := 16 } 1 0 4 16) [] w1_1 fun (w : World) =>
                    ∃ (n : Int),
                      World.cell? w { block := b, off := 0 } = some (Value.int IntKind.i64 n) ∧
                        Br (n == 4)
                          (∃ (f : Nat → Int),
                            (∀ (i : Nat), i < 16 → World.cell? w (Addr.add (Addr.add { block := b, off := 0 } 1) (0 + i)) = some (Value.int IntKind.u8 (f i))) ∧
                              ∃ (f_1 : Nat → Int),
                                (∀ (i : Nat), i < 16 → World.cell? w (Addr.add { block := b_1, off := 0 } (0 + i)) = some (Value.int IntKind.u8 (f_1 i))) ∧
                                  R (SV.bool (eqArr 16 f f_1)) w)
                          (R (SV.bool false) w)) ∧
              ∀ (w1_1 : World),
                Upd [] [] w1 w1_1 →
                  Copy 1 (Sl.sub { ptr := some { block := b_1, off := 0 }, len := 16, cap := 16 } 1 0 4 16)
                    (Sl.sub { ptr := some (Addr.add { block := b, off := 0 } 1), len := 16, cap := 16 } 1 0 4 16) [] w1_1 fun (w : World) =>
                    ∃ (n : Int),
                      World.cell? w { block := b, off := 0 } = some (Value.int IntKind.i64 n) ∧
                        Br (n == 4)
                          (∃ (f : Nat → Int),
                            (∀ (i : Nat), i < 16 → World.cell? w (Addr.add (Addr.add { block := b, off := 0 } 1) (0 + i)) = some (Value.int IntKind.u8 (f i))) ∧
                              ∃ (f_1 : Nat → Int),
                                (∀ (i : Nat), i < 16 → World.cell? w (Addr.add { block := b_1, off := 0 } (0 + i)) = some (Value.int IntKind.u8 (f_1 i))) ∧
                                  R (SV.bool (eqArr 16 f f_1)) w)
                          (R (SV.bool false) w)
theorem f44_of (ip_0 : Int) (ip_1 : Nat → Int) (w : World) (R : SV → World → Prop) (hV : vc44 ip_0 ip_1 w R) : Ret Try.prog 44 [.struct [.int .i64 ip_0, .arr .u8 16 ip_1]] w R :=
  have e : vc44 ip_0 ip_1 w R = fnVC X Try.f44 a44 [.struct [.int .i64 ip_0, .arr .u8 16 ip_1]] w R := by kernel_rfl
  fnVC_sound X_ok (n := a44) (e ▸ hV) (by kernel_rfl) (by kernel_rfl) rfl rfl

def vc45 (l : Sl) (w : World) (R : SV → World → Prop) : Prop :=
  ∃ (I : Sl → Int → World → Prop),
    ∃ (M : Sl → Int → World → Nat),
      I { ptr := none, len := 0, cap := 0 } 0 w ∧
        ∀ (s : Sl) (n : Int) (w1 : World),
          I s n w1 →
            Br (decide (n < (↑l.2 : Int)))
              (Need (decide (0 ≤ n) && decide (n < (↑l.2 : Int)) && Option.isSome l.1)
                (∃ (n_1 : Int),
                  World.cell? w1 (Sl.at l 2 (Int.toNat n)) = some (Value.int IntKind.i64 n_1) ∧
                    ∃ (s_1 : Sl),
                      World.cell? w1 (Addr.add (Sl.at l 2 (Int.toNat n)) 1) = some (Sl.val s_1) ∧
                        ∀ (b : Nat) (J : World → Prop),
                          (∀ (w1_1 : World),
                              (∀ (b_1 : Nat) (w1_2 : World),
                                  Upd [] [b_1] w1_1 w1_2 →
                                    (World.heap w1_2)[b_1]? =
                                        some
                                          (Obj.cells
                                            {
                                              toList :=
                                                SV.cells
                                                  (SV.struct [SV.int IntKind.u8 (wr IntKind.u8 n_1), SV.int IntKind.u8 (wr IntKind.u8 (wr IntKind.i64 (2 + (↑s_1.2 : Int))))]) }
                                            5) →
                                      Vc.Append 5 1 1 s { ptr := some { block := b_1, off := 0 }, len := 2, cap := 2 } [b] w1_2 fun (r : Sl) (w : World) =>
                                        Vc.Append 5 1 1 r s_1 [b] w fun (r : Sl) (w : World) => I r (wr IntKind.i64 (n + 1)) w ∧ M r (wr IntKind.i64 (n + 1)) w < M s n w1) →
                                J w1_1) →
                            Br (decide (n_1 < 2)) (∀ (w1_1 : World), Upd [] [b] w1 w1_1 → R (SV.tuple [SV.slice { ptr := none, len := 0, cap := 0 }, SV.int IntKind.i64 65]) w1_1)
                              (Br (decide (n_1 > 255))
                                (∀ (w1_1 : World), Upd [] [b] w1 w1_1 → R (SV.tuple [SV.slice { ptr := none, len := 0, cap := 0 }, SV.int IntKind.i64 65]) w1_1)
                                (Br (decide ((↑s_1.2 : Int) > 38))
                                  (∀ (w1_1 : World), Upd [] [b] w1 w1_1 → R (SV.tuple [SV.slice { ptr := none, len := 0, cap := 0 }, SV.int IntKind.i64 65]) w1_1)
                                  (Br (decide (wr IntKind.i64 (wr IntKind.i64 ((↑s.2 : Int) + 2) + (↑s_1.2 : Int)) > 40))
                                    (∀ (w1_1 : World), Upd [] [b] w1 w1_1 → R (SV.tuple [SV.slice { ptr := none, len := 0, cap := 0 }, SV.int IntKind.i64 65]) w1_1)
                                    (∀ (w1_1 : World),
                                      Upd [] [b] w1 w1_1 →
                                        some (SV.box b 104 (SV.struct [SV.int IntKind.i64 n_1, SV.slice s_1])) =
                                            some (SV.box b 104 (SV.struct [SV.int IntKind.i64 n_1, SV.slice s_1])) ∧
                                          J w1_1))))))
              (∃ (I : Sl → World → Prop),
                ∃ (M : Sl → World → Nat),
                  I s w1 ∧
                    ∀ (s : Sl) (w1 : World),
                      I s w1 →
                        Br (decide (Int.tmod (↑s.2 : Int) 4 > 0))
                          (∀ (b : Nat) (w1_1 : World),
                            Upd [] [b] w1 w1_1 →
                              (World.heap w1_1)[b]? = some (Obj.cells { toList := SV.cells (SV.struct [SV.int IntKind.u8 0]) } 5) →
                                Vc.Append 5 1 1 s { ptr := some { block := b, off := 0 }, len := 1, cap := 1 } [] w1_1 fun (r : Sl) (w : World) => I r w ∧ M r w < M s w1)
                          (R (SV.tuple [SV.slice s, SV.int IntKind.i64 0]) w1))
theorem f45_of (l : Sl) (w : World) (R : SV → World → Prop) (hV : vc45 l w R) : Ret Try.prog 45 [.slice l] w R :=
  have e : vc45 l w R = fnVC X Try.f45 a45 [.slice l] w R := by kernel_rfl
  fnVC_sound X_ok (n := a45) (e ▸ hV) (by kernel_rfl) (by kernel_rfl) rfl rfl

def vc46 (mf : Bool) (off : Int) (n : Int) (w : World) (R : SV → World → Prop) : Prop :=
  Br mf
    (Br (n == 0) (R (SV.int IntKind.i64 66) w)
      (Br (Int.tmod n 8 != 0) (R (SV.int IntKind.i64 66) w) (Br (decide (wr IntKind.i64 (off + n) > 65515)) (R (SV.int IntKind.i64 66) w) (R (SV.int IntKind.i64 0) w))))
    (Br (decide (wr IntKind.i64 (off + n) > 65515)) (R (SV.int IntKind.i64 66) w) (R (SV.int IntKind.i64 0) w))
theorem f46_of (mf : Bool) (off : Int) (n : Int) (w : World) (R : SV → World → Prop) (hV : vc46 mf off n w R) : Ret Try.prog 46 [.bool mf, .int .i64 off, .int .i64 n] w R :=
  have e : vc46 mf off n w R = fnVC X Try.f46 a46 [.bool mf, .int .i64 off, .int .i64 n] w R := by kernel_rfl
  fnVC_sound X_ok (n := a46) (e ▸ hV) (by kernel_rfl) (by kernel_rfl) rfl rfl

def vc6 (h_0 : Int) (h_1 : Int) (h_2 : Bool) (h_3 : Bool) (h_4 : Int) (h_5 : Int) (h_6 : Int) (h_7_0 : Int) (h_7_1 : Nat → Int) (h_8_0 : Int) (h_8_1 : Nat → Int) (h_9 : Sl) (h_10 : Sl) (w : World) (R : SV → World → Prop) : Prop :=
  ∀ (b : Nat) (J : World → Prop),
    (∀ (w1 : World),
        (Ret Try.prog 21 [SV.slice h_9] w1 fun (r : SV) (w1_1 : World) =>
            ∃ (s : Sl),
              ∃ (n : Int),
                r = SV.tuple [SV.slice s, SV.int IntKind.i64 n] ∧
                  Keeps [b] w1 w1_1 ∧
                    Br (n != 0) (R (SV.int IntKind.i64 n) w1_1)
                      (Br (decide (wr IntKind.i64 (wr IntKind.i64 (20 + (↑s.2 : Int)) + (↑h_10.2 : Int)) > 65535)) (R (SV.int IntKind.i64 63) w1_1)
                        (Ret Try.prog 22 [SV.bool h_3, SV.int IntKind.i64 h_4, SV.int IntKind.i64 (↑h_10.2 : Int)] w1_1 fun (r : SV) (w1 : World) =>
                          ∃ (b_1 : Bool), r = SV.bool b_1 ∧ Keeps [b] w1_1 w1 ∧ Br b_1 (R (SV.int IntKind.i64 66) w1) (R (SV.int IntKind.i64 0) w1)))) →
          J w1) →
      ∀ (w1 : World),
        Upd [] [b] w w1 →
          Ret Try.prog 19 [SV.int IntKind.i64 h_0, SV.int IntKind.i64 255] w1 fun (r : SV) (w1_1 : World) =>
            ∃ (b_1 : Bool),
              r = SV.bool b_1 ∧
                Keeps [b] w1 w1_1 ∧
                  Br b_1 (R (SV.int IntKind.i64 68) w1_1)
                    (Ret Try.prog 19 [SV.int IntKind.i64 h_1, SV.int IntKind.i64 65535] w1_1 fun (r : SV) (w1 : World) =>
                      ∃ (b_2 : Bool),
                        r = SV.bool b_2 ∧
                          Keeps [b] w1_1 w1 ∧
                            Br b_2 (R (SV.int IntKind.i64 68) w1)
                              (Ret Try.prog 19 [SV.int IntKind.i64 h_4, SV.int IntKind.i64 65528] w1 fun (r : SV) (w1_2 : World) =>
                                ∃ (b_3 : Bool),
                                  r = SV.bool b_3 ∧
                                    Keeps [b] w1 w1_2 ∧
                                      Br b_3 (R (SV.int IntKind.i64 68) w1_2)
                                        (Br (Int.tmod h_4 8 != 0) (R (SV.int IntKind.i64 68) w1_2)
                                          (Ret Try.prog 19 [SV.int IntKind.i64 h_5, SV.int IntKind.i64 255] w1_2 fun (r : SV) (w1 : World) =>
                                            ∃ (b_4 : Bool),
                                              r = SV.bool b_4 ∧
                                                Keeps [b] w1_2 w1 ∧
                                                  Br b_4 (R (SV.int IntKind.i64 68) w1)
                                                    (Ret Try.prog 19 [SV.int IntKind.i64 h_6, SV.int IntKind.i64 255] w1 fun (r : SV) (w1_3 : World) =>
                                                      ∃ (b_5 : Bool),
                                                        r = SV.bool b_5 ∧
                                                          Keeps [b] w1 w1_3 ∧
                                                            Br b_5 (R (SV.int IntKind.i64 68) w1_3)
                                                              (Ret Try.prog 20 [SV.struct [SV.int IntKind.i64 h_7_0, SV.arr IntKind.u8 16 h_7_1]] w1_3 fun (r : SV) (w1 : World) =>
                                                                ∃ (b_6 : Bool),
                                                                  r = SV.bool b_6 ∧
                                                                    Keeps [b] w1_3 w1 ∧
                                                                      Br (!b_6) (R (SV.int IntKind.i64 68) w1)
                                                                        (Ret Try.prog 20 [SV.struct [SV.int IntKind.i64 h_8_0, SV.arr IntKind.u8 16 h_8_1]] w1
                                                                          fun (r : SV) (w1_4 : World) =>
                                                                          ∃ (b_7 : Bool),
                                                                            r = SV.bool b_7 ∧
                                                                              Keeps [b] w1 w1_4 ∧
                                                                                Br (!b_7) (R (SV.int IntKind.i64 68) w1_4)
                                                                                  (some
                                                                                        (SV.box b 28
                                                                                          (SV.struct
                                                                                            [SV.int IntKind.i64 h_0, SV.int IntKind.i64 h_1, SV.bool h_2, SV.bool h_3,
                                                                                              SV.int IntKind.i64 h_4, SV.int IntKind.i64 h_5, SV.int IntKind.i64 h_6,
                                                                                              SV.struct [SV.int IntKind.i64 h_7_0, SV.arr IntKind.u8 16 h_7_1],
                                                                                              SV.struct [SV.int IntKind.i64 h_8_0, SV.arr IntKind.u8 16 h_8_1], SV.slice h_9,
                                                                                              SV.slice h_10])) =
                                                                                      some
                                                                                        (SV.box b 28
                                                                                          (SV.struct
                                                                                            [SV.int IntKind.i64 h_0, SV.int IntKind.i64 h_1, SV.bool h_2, SV.bool h_3,
                                                                                              SV.int IntKind.i64 h_4, SV.int IntKind.i64 h_5, SV.int IntKind.i64 h_6,
                                                                                              SV.struct [SV.int IntKind.i64 h_7_0, SV.arr IntKind.u8 16 h_7_1],
                                                                                              SV.struct [SV.int IntKind.i64 h_8_0, SV.arr IntKind.u8 16 h_8_1], SV.slice h_9,
                                                                                              SV.slice h_10])) ∧
                                                                                    J w1_4))))))))
theorem f6_of (h_0 : Int) (h_1 : Int) (h_2 : Bool) (h_3 : Bool) (h_4 : Int) (h_5 : Int) (h_6 : Int) (h_7_0 : Int) (h_7_1 : Nat → Int) (h_8_0 : Int) (h_8_1 : Nat → Int) (h_9 : Sl) (h_10 : Sl) (w : World) (R : SV → World → Prop) (hV : vc6 h_0 h_1 h_2 h_3 h_4 h_5 h_6 h_7_0 h_7_1 h_8_0 h_8_1 h_9 h_10 w R) : Ret Try.prog 6 [.struct [.int .i64 h_0, .int .i64 h_1, .bool h_2, .bool h_3, .int .i64 h_4, .int .i64 h_5, .int .i64 h_6, .struct [.int .i64 h_7_0, .arr .u8 16 h_7_1], .struct [.int .i64 h_8_0, .arr .u8 16 h_8_1], .slice h_9, .slice h_10]] w R :=
  have e : vc6 h_0 h_1 h_2 h_3 h_4 h_5 h_6 h_7_0 h_7_1 h_8_0 h_8_1 h_9 h_10 w R = fnVC X Try.f6 a6 [.struct [.int .i64 h_0, .int .i64 h_1, .bool h_2, .bool h_3, .int .i64 h_4, .int .i64 h_5, .int .i64 h_6, .struct [.int .i64 h_7_0, .arr .u8 16 h_7_1], .struct [.int .i64 h_8_0, .arr .u8 16 h_8_1], .slice h_9, .slice h_10]] w R := by kernel_rfl
  fnVC_sound X_ok (n := a6) (e ▸ hV) (by kernel_rfl) (by kernel_rfl) rfl rfl

end Go.Vc.Stop
end

section
namespace Go.Vc
set_option linter.unusedVariables false
set_option linter.unusedSimpArgs false
set_option autoImplicit false

/-! ### IPv4 datagrams, in plain lists -/
structure IpV where
  tos : Int
  id : Int
  df : Bool
  mf : Bool
  off : Int
  ttl : Int
  proto : Int
  sv : Int
  sa : Nat → Int
  dv : Int
  da : Nat → Int
  opts : List Opt
  data : List Int
def ipZ : IpV := ⟨0, 0, false, false, 0, 0, 0, 0, fun _ => 0, 0, fun _ => 0, [], []⟩
def frag (mf : Bool) (off n : Int) : Prop := (mf = true ∧ (n = 0 ∨ n % 8 ≠ 0)) ∨ 65515 < off + n
instance (mf : Bool) (off n : Int) : Decidable (frag mf off n) := by unfold frag; infer_instance
/-! ### written -/
def four (v : Int) (a : Nat → Int) : Prop := v = 4 ∧ ∀ i, 4 ≤ i → i < 16 → a i = 0
def outN (n hi : Int) : Prop := n < 0 ∨ hi < n
instance (n hi : Int) : Decidable (outN n hi) := by unfold outN; infer_instance
def badF (v : IpV) : Prop := outN v.tos 255 ∨ outN v.id 65535 ∨ outN v.off 65528 ∨ v.off % 8 ≠ 0 ∨ outN v.ttl 255 ∨ outN v.proto 255 ∨ ¬ four v.sv v.sa ∨ ¬ four v.dv v.da
open Classical in
/-- may these values be a datagram? -/
noncomputable def ipChk (v : IpV) : Int :=
  if badF v then 68 else if ¬ putOk v.opts then 65 else if 65535 < 20 + (putO v.opts).length + v.data.length then 63
  else if frag v.mf v.off v.data.length then 66 else 0
def ipWord (v : IpV) : Int := (if v.df then 16384 else 0) + (if v.mf then 8192 else 0) + v.off / 8
def hdL (v : IpV) : Nat := 20 + (putO v.opts).length
/-- the header, with this checksum -/
def ipHd (v : IpV) (c : Int) : List Int :=
  (64 + (hdL v : Int) / 4) :: v.tos :: (((hdL v : Int) + v.data.length) / 256 % 256) :: (((hdL v : Int) + v.data.length) % 256) :: (v.id / 256 % 256) :: (v.id % 256) ::
  (ipWord v / 256 % 256) :: (ipWord v % 256) :: v.ttl :: v.proto :: (c / 256 % 256) :: (c % 256) ::
  v.sa 0 :: v.sa 1 :: v.sa 2 :: v.sa 3 :: v.da 0 :: v.da 1 :: v.da 2 :: v.da 3 :: putO v.opts
def ipCk (v : IpV) : Int := 65535 - sumOf (ipHd v 0)
def ipSer (v : IpV) : List Int := ipHd v (ipCk v) ++ v.data
structure Fit (v : IpV) : Prop where
  sa : ∀ i, i < 16 → 0 ≤ v.sa i ∧ v.sa i < 256
  da : ∀ i, i < 16 → 0 ≤ v.da i ∧ v.da i < 256
  opts : ∀ o ∈ v.opts, Byt o.data
  data : Byt v.data

section
variable {v : IpV}
theorem ipChk_ok (h : ipChk v = 0) : (0 ≤ v.tos ∧ v.tos ≤ 255) ∧ (0 ≤ v.id ∧ v.id ≤ 65535) ∧ (0 ≤ v.off ∧ v.off ≤ 65528 ∧ v.off % 8 = 0) ∧ (0 ≤ v.ttl ∧ v.ttl ≤ 255) ∧ (0 ≤ v.proto ∧ v.proto ≤ 255) ∧ four v.sv v.sa ∧ four v.dv v.da ∧
    putOk v.opts ∧ hdL v + v.data.length ≤ 65535 ∧ ¬ frag v.mf v.off v.data.length := by
  unfold ipChk at h
  split at h; · cases h
  split at h; · cases h
  split at h; · cases h
  split at h; · cases h
  rename_i h1 h2 h3 h4
  unfold badF outN at h1
  have f1 : four v.sv v.sa := Classical.byContradiction fun h => h1 (by simp [h])
  have f2 : four v.dv v.da := Classical.byContradiction fun h => h1 (by simp [h])
  refine ⟨by omega, by omega, by omega, by omega, by omega, f1, f2, Classical.not_not.1 h2, by unfold hdL; omega, h4⟩
theorem ipHd_len (v : IpV) (c : Int) : (ipHd v c).length = hdL v := by simp [ipHd, hdL]; omega
theorem hdL_r (h : putOk v.opts) : 20 ≤ hdL v ∧ hdL v ≤ 60 ∧ hdL v % 4 = 0 := by
  have := putO_len h
  unfold hdL; omega
theorem ipWord_r (h : ipChk v = 0) : 0 ≤ ipWord v ∧ ipWord v < 32768 := by
  have := (ipChk_ok h).2.2.1
  unfold ipWord
  split <;> split <;> omega
theorem ipHd_byt (h : ipChk v = 0) (f : Fit v) (c : Int) : Byt (ipHd v c) := by
  obtain ⟨h1, h2, h3, h4, h5, h6, h7, h8, h9, h10⟩ := ipChk_ok h
  have := hdL_r h8
  have hp := putO_byt f.opts
  have s0 := f.sa 0 (by omega); have s1 := f.sa 1 (by omega); have s2 := f.sa 2 (by omega); have s3 := f.sa 3 (by omega)
  have d0 := f.da 0 (by omega); have d1 := f.da 1 (by omega); have d2 := f.da 2 (by omega); have d3 := f.da 3 (by omega)
  intro x hx
  simp only [ipHd, List.mem_cons] at hx
  rcases hx with rfl | rfl | rfl | rfl | rfl | rfl | rfl | rfl | rfl | rfl | rfl | rfl | rfl | rfl | rfl | rfl | rfl | rfl | rfl | rfl | hx
  all_goals first | omega | exact hp x hx
theorem ws_hd (v : IpV) {c : Int} (h0 : 0 ≤ c) (h1 : c ≤ 65535) : ws true (ipHd v c) = ws true (ipHd v 0) + c := by
  simp only [ipHd, ws]
  simp
  omega
theorem ipCk_r (h : ipChk v = 0) (f : Fit v) : 0 ≤ ipCk v ∧ ipCk v ≤ 65534 ∧ sumOf (ipHd v (ipCk v)) = 65535 := by
  have hb := ipHd_byt h f 0
  have hw := ws_nonneg true hb
  have hpos : 0 < ws true (ipHd v 0) := by
    have h1 : ws true (ipHd v 0) ≠ 0 := fun e => by
      have := (ws_zero true hb).1 e (64 + (hdL v : Int) / 4) (by simp [ipHd])
      omega
    omega
  have hr := fd_range hw.1
  have hz : fd (ws true (ipHd v 0)) ≠ 0 := fun e => by have := (fd_zero hw.1).1 e; omega
  have e1 : ipCk v = 65535 - fd (ws true (ipHd v 0)) := rfl
  refine ⟨by omega, by omega, ?_⟩
  unfold sumOf
  rw [ws_hd v (by omega) (by omega), fd_most (by omega), e1]
  unfold fd
  split <;> omega

end

end Go.Vc
end

section
namespace Go.Vc
set_option linter.unusedVariables false
set_option linter.unusedSimpArgs false
set_option autoImplicit false

section
variable {v : IpV}
end

section
variable {l : List Int}
/-! ### one hop -/
end
end Go.Vc
end

section
namespace Go.Vc
set_option linter.unusedVariables false
set_option linter.unusedSimpArgs false
set_option autoImplicit false
/-- what an append takes beyond what it needs -/
theorem growBy_le (n : Nat) : ∀ (r c : Nat), c ≤ n + n / 4 + 512 → Builtin.growBy n r c ≤ n + n / 4 + 512
  | 0, c, h => h
  | r + 1, c, h => by
    unfold Builtin.growBy
    split
    · exact h
    · exact growBy_le n r _ (by omega)
theorem nsc_le {need cap : Nat} (h : cap < need) : Builtin.nextslicecap need cap ≤ need + need / 4 + 512 := by
  unfold Builtin.nextslicecap
  split
  · omega
  · split
    · omega
    · exact growBy_le need 4 cap (by omega)
theorem nsc_fits {need cap by_ : Nat} (h : cap < need) (hby : by_ ≤ 1024) (hb : need * by_ ≤ 224000000000000) : Builtin.nextslicecap need cap * by_ ≤ 281474976710656 := by
  have h1 : Builtin.nextslicecap need cap * by_ ≤ (need + need / 4 + 512) * by_ := Nat.mul_le_mul_right _ (nsc_le h)
  have h2 : need / 4 * by_ ≤ need * by_ / 4 := by
    rw [Nat.le_div_iff_mul_le (by decide), Nat.mul_right_comm]
    exact Nat.mul_le_mul_right _ (Nat.div_mul_le_self need 4)
  have h3 : 512 * by_ ≤ 512 * 1024 := Nat.mul_le_mul_left _ hby
  rw [Nat.add_mul, Nat.add_mul] at h1
  omega
section
variable {α : Type} {c : Cod α} {w w1 : World} {s : Sl} {l : List α}
theorem appendN_big {N e by_ n : Nat} {new : List α} {bs : List Nat} {F : Sl → World → Prop} (h : Sees c w s l) (o : Own N c.sz w s) (hN : N ≤ w.heap.size) (hn : n = new.length)
    (hbs : ∀ b ∈ s.blk, b ∉ bs) (hpos : 0 < by_) (hby : by_ ≤ 1024) (hb : (l.length + new.length) * by_ ≤ 224000000000000)
    (k : ∀ r w1, Sees c w1 r (l ++ new) → Own N c.sz w1 r → Upd s.blk [] w w1 → (∀ b ∈ r.blk, b ∈ s.blk ∨ w.heap.size ≤ b) → F r w1) : AppendN e c.sz by_ s n (c.cells new) bs w F := by
  subst hn
  have hlen := h.len
  refine ⟨fun hfit => ?_, fun hgrow => ⟨?_, ?_, c.cells l, h.rowAt, fun cap b cs w1 hcap u hb1 htake hsize => ?_⟩⟩
  · cases hp : s.ptr with
    | none =>
      have h0 := o.nil hp
      have e1 : new = [] := by cases new with | nil => rfl | cons => simp at hfit; omega
      subst e1
      have el : (⟨none, s.len + ([] : List α).length, s.cap⟩ : Sl) = s := by cases s; simp at hp; subst hp; rfl
      show F ⟨none, s.len + ([] : List α).length, s.cap⟩ w
      rw [el]
      exact k s w (by simpa using h) o ((Upd.refl w).wide (by simp)) (fun b hb => .inl hb)
    | some a =>
      obtain ⟨hs, hc⟩ := o.cell a hp
      have hmul : (s.len + new.length) * c.sz ≤ s.cap * c.sz := Nat.mul_le_mul_right _ hfit
      rw [Nat.add_mul] at hmul
      have hlc := c.cells_length new
      have hll := c.cells_length l
      have hrow := h.row
      rw [hp] at hrow
      refine ⟨fun i hi => ?_, ?_, ?_⟩
      · rw [add_add]
        exact hc _ (by omega)
      · simp only [add_block]
        exact hbs _ (by simp [blk_some hp])
      · show F _ (w.setCells (a.add (s.len * c.sz)).block (a.add (s.len * c.sz)).off (c.cells new))
        rw [off_add hs, add_block]
        refine k _ _ ⟨by simp [hlen], ?_⟩ ?_ ((Upd.setCells w a.block _ _).wide (by simp [blk_some hp])) (fun b hb => .inl (by simp [blk_some hp]; simpa [Sl.blk] using hb))
        · rw [c.cells_append]
          refine Cells.mk ?_ ?_
          · have := cells_apart (vs := c.cells new) hs (s.len * c.sz) 0 (by simpa using hrow) (.inl (by rw [hll, hlen]; omega))
            simpa using this
          · rw [hll, ← hlen]
            exact cells_write hs _ (fun i hi => (hc _ (by omega)).1)
        · have := (o.setCells a.block (a.off + s.len * c.sz) (c.cells new))
          exact ⟨by simp; omega, by simp, by simpa [Sl.blk, hp] using this.blk, fun a' ha' => by simp at ha'; subst ha'; exact this.cell a hp⟩
  · have : l.length + new.length ≤ (l.length + new.length) * by_ := Nat.le_mul_of_pos_right _ hpos
    omega
  · rw [hlen]
    rw [hlen] at hgrow
    exact nsc_fits hgrow hby hb
  · have hll := c.cells_length l
    have hln := c.cells_length new
    have hmul : (s.len + new.length) * c.sz + (cap - (s.len + new.length)) * c.sz = cap * c.sz := by rw [← Nat.add_mul]; congr 1; omega
    rw [Nat.add_mul] at hmul
    have hsz : cs.size = cap * c.sz := by rw [hsize, hll, hln, hlen] at *; omega
    have hget : ∀ i (hi : i < (c.cells l ++ c.cells new).length), cs[i]? = some (c.cells l ++ c.cells new)[i] := by
      intro i hi
      have e1 : (cs.toList.take ((c.cells l).length + (c.cells new).length))[i]? = some (c.cells l ++ c.cells new)[i] := by rw [htake]; exact List.getElem?_eq_getElem hi
      rw [List.getElem?_take, if_pos (by simpa using hi)] at e1
      simpa using e1
    have hbn := u.new (b := b) (by simp)
    refine k _ _ ⟨by simp [hlen], ?_⟩ ?_ ((u.mono (m' := s.blk) (n' := []) (by simp) (by simp))) (fun b' hb' => by simp [Sl.blk] at hb'; subst hb'; exact .inr hbn.1)
    · rw [c.cells_append]
      intro i hi
      rw [add_none, Nat.zero_add, cell_of_block hb1]
      exact hget i hi
    · refine ⟨by simpa using hcap, by simp, fun b' hb' => ?_, fun a ha => ?_⟩
      · simp [Sl.blk] at hb'
        subst hb'
        exact ⟨Nat.le_trans hN hbn.1, hbn.2⟩
      · simp at ha
        subst ha
        refine ⟨rfl, fun i hi => ?_⟩
        rw [add_none, cell_of_block hb1, frozen_of_block hb1]
        simp at hi
        simp [hsz, hi]
theorem append_big {N e by_ : Nat} {x : Sl} {new : List α} {bs : List Nat} {F : Sl → World → Prop} (h : Sees c w s l) (o : Own N c.sz w s) (hx : Sees c w x new) (hN : N ≤ w.heap.size)
    (hbs : ∀ b ∈ s.blk, b ∉ bs) (hpos : 0 < by_) (hby : by_ ≤ 1024) (hb : (l.length + new.length) * by_ ≤ 224000000000000)
    (k : ∀ r w1, Sees c w1 r (l ++ new) → Own N c.sz w1 r → Upd s.blk [] w w1 → (∀ b ∈ r.blk, b ∈ s.blk ∨ w.heap.size ≤ b) → F r w1) : Append e c.sz by_ s x bs w F :=
  ⟨c.cells new, hx.rowAt, appendN_big h o hN hx.len hbs hpos hby hb k⟩end
end Go.Vc
end

section
open Go Go.Vc Go.Proofs
set_option linter.unusedVariables false
set_option linter.unusedSimpArgs false
set_option autoImplicit false
namespace Go.Vc.Stop

/-- what PutOptions answers -/
def putL (l : List Opt) : List Int := if putOk l then putO l else []
def putE (l : List Opt) : Int := if putOk l then 0 else 65
theorem putL_len (l : List Opt) : (putL l).length ≤ 40 := by
  unfold putL
  split
  · rename_i h; exact (putO_len h).1
  · simp
theorem flatMap_snoc {l : List Opt} {q : Nat} (h : q < l.length) : (l.take (q + 1)).flatMap optB = (l.take q).flatMap optB ++ optB l[q] := by rw [take_snoc h, List.flatMap_append]; simp [List.flatMap_cons]
theorem flatMap_le (l : List Opt) (q : Nat) : ((l.take q).flatMap optB).length ≤ (l.flatMap optB).length := by
  have := congrArg List.length (congrArg (fun x => x.flatMap optB) (List.take_append_drop q l))
  simp only [List.flatMap_append, List.length_append] at this
  omega

/-- the zeros behind -/
theorem pad_loop {w w0 : World} {s : Sl} {l : List Int} {e e' : Nat} {K : Sl → World → Prop} {D : Sl → Bool} {C : (Sl → World → Prop) → (Sl → World → Nat) → Sl → World → Sl → World → Prop}
    (u : Upd [] [] w0 w) (h : SeesB w s l) (o : Own w0.heap.size 1 w s) (hl : l.length ≤ 200000000000000)
    (hD : ∀ s, D s = decide (s.len % 4 ≠ 0))
    (hC : ∀ (I : Sl → World → Prop) (M : Sl → World → Nat) s w r w', I r w' → M r w' < M s w → C I M s w r w')
    (k : ∀ s w1, Upd [] [] w0 w1 → SeesB w1 s (pad4 l) → Own w0.heap.size 1 w1 s → K s w1) :
    ∃ (I : Sl → World → Prop), ∃ (M : Sl → World → Nat), I s w ∧ ∀ (s : Sl) (w1 : World), I s w1 →
      Br (D s) (∀ (b : Nat) (w2 : World), Upd [] [b] w1 w2 → w2.heap[b]? = some (.cells (SV.struct [.int .u8 0]).cells.toArray e (0, 0)) → Append e' 1 1 s ⟨some ⟨b, 0, none⟩, 1, 1⟩ [] w2 fun r w3 => C I M s w1 r w3) (K s w1) := by
  refine ⟨fun s w1 => Upd [] [] w0 w1 ∧ Own w0.heap.size 1 w1 s ∧ ∃ n : Nat, n ≤ (4 - l.length % 4) % 4 ∧ SeesB w1 s (l ++ List.replicate n 0), fun s _ => (4 - s.len % 4) % 4, ⟨u, o, 0, by omega, by simpa using h⟩, ?_⟩
  rintro s w1 ⟨u, o, n, hn, hs⟩
  have hlen := hs.len
  rw [List.length_append, List.length_replicate] at hlen
  rw [hD]
  refine brd (fun hne => ?_) (fun he => ?_)
  · intro b w2 u2 hr2
    have o2 := o.old u2
    have v2 := u.then u2
    refine append_big (c := cU8) (new := [0]) (hs.old u2) o2 (rowB hr2 _ rfl rfl) v2.size (by simp) (by decide) (by decide) (by simp; omega) fun r w3 hr3 ho3 u3 _ => ?_
    have hrl := hr3.len
    simp at hrl
    refine hC _ _ _ _ _ _ ⟨v2.step0 u3 (fun x hx => (o2.blk x hx).1), ho3, n + 1, by omega, ?_⟩ (by (try dsimp only); omega)
    rw [List.replicate_succ', ← List.append_assoc]
    exact hr3
  · have : n = (4 - l.length % 4) % 4 := by
      have : s.len % 4 = 0 := by omega
      omega
    subst this
    exact k s w1 u hs o

/-- options written -/
theorem c45 {a : Sl} {l : List Opt} {os : List (Int × Sl)} {w : World} {R : SV → World → Prop} (h : Opts w a l os) (hl : l.length < 9223372036854775807) (hd : ∀ o ∈ l, o.data.length ≤ 140737488355328)
    (k : ∀ s w1, Upd [] [] w w1 → SeesB w1 s (putL l) → Own w.heap.size 1 w1 s → R (.tuple [.slice s, .int .i64 (putE l)]) w1) : Ret Try.prog 45 [.slice a] w R := by
  refine f45_of _ _ _ ?_
  unfold vc45
  have hal := h.slen
  have bad : ¬ putOk l → ∀ w1, Upd [] [] w w1 → R (.tuple [.slice ⟨none, 0, 0⟩, .int .i64 65]) w1 := fun hn w1 u => by
    have := k ⟨none, 0, 0⟩ w1 u (by unfold putL; rw [if_neg hn]; exact Sees.nil _ _ _ _) (Own.none _ _ _)
    unfold putE at this
    rwa [if_neg hn] at this
  refine ⟨fun s i w1 => Upd [] [] w w1 ∧ Own w.heap.size 1 w1 s ∧ ∃ q : Nat, i = q ∧ q ≤ l.length ∧ SeesB w1 s ((l.take q).flatMap optB) ∧ ((l.take q).flatMap optB).length ≤ 40 ∧ ∀ j (h : j < l.length), j < q → okO l[j], fun _ i _ => (l.length - i).toNat,
    ⟨Upd.refl w, Own.none _ _ _, 0, rfl, by omega, Sees.nil _ _ _ _, by simp, fun j _ h => by omega⟩, ?_⟩
  rintro s i w1 ⟨u, o, q, rfl, hq, hs, h40, hj⟩
  have h1 := h.old u
  have hsl := hs.len
  refine brd (fun hlt => ?_) (fun hge => ?_)
  · have hq2 : q < l.length := by omega
    obtain ⟨g1, g2, g3, g4⟩ := h1.get q hq2
    have gl := g3.len
    have gd := hd _ (List.getElem_mem hq2)
    refine needO h1 (by omega) (by omega) ⟨_, (by rw [Int.toNat_natCast]; exact g1), _, (by rw [Int.toNat_natCast]; exact g2), ?_⟩
    intro b J hJ
    have fs := flatMap_snoc hq2
    have fl := flatMap_le l (q + 1)
    rw [fs, List.length_append, optB_len] at fl
    have nk : ¬ okO l[q] → ¬ putOk l := fun hn hp => hn (hp.1 _ (List.getElem_mem hq2))
    refine brd (fun g => fun w2 u2 => bad (nk (by unfold okO; omega)) _ (u.then u2)) (fun n1 => brd (fun g => fun w2 u2 => bad (nk (by unfold okO; omega)) _ (u.then u2)) (fun n2 => brd (fun g => fun w2 u2 => bad (nk (by unfold okO; omega)) _ (u.then u2)) (fun n3 => ?_)))
    rw [wr_i64 (x := (s.len : Int) + 2) (by omega) (by omega), wr_i64 (by omega) (by omega)]
    refine brd (fun g => fun w2 u2 => bad (fun hp => by have := hp.2; omega) _ (u.then u2)) (fun n4 => fun w2 u2 => ⟨rfl, hJ _ ?_⟩)
    clear hJ
    intro b1 w3 u3 hr3
    have hbn := u2.new (b := b) (by simp)
    have o3 := (o.old u2).old u3
    have v3 := (u.then u2).then u3
    have hs3 := (hs.old u2).old u3
    rw [wr_i64 (x := 2 + ((os[q]'(by rw [h.len]; exact hq2)).2.len : Int)) (by omega) (by omega), wr_u8, wr_u8] at hr3
    refine append_own (c := cU8) (new := [l[q].kind % 256, ((2 + l[q].data.length : Nat) : Int) % 256]) hs3 o3 (rowB hr3 _ (by rw [gl]; rfl) rfl) v3.size (fun x hx hm => by have := (o.blk x hx).2; simp at hm; omega) (by decide) (by simp only [List.length_cons, List.length_nil]; omega) fun r w4 hr ho4 u4 hn4 => ?_
    have hw0 : ∀ x ∈ s.blk, w.heap.size ≤ x := fun x hx => (o.blk x hx).1
    have v4 := v3.step0 u4 hw0
    refine append_own (c := cU8) hr ho4 (h.each q hq2 |>.old v4) v4.size (fun x hx hm => by
      rcases hn4 x hx with h' | h'
      · have := (o.blk x h').2; simp at hm; omega
      · have := u3.size; simp at hm; omega) (by decide) (by simp only [List.length_append, List.length_cons, List.length_nil]; omega) fun r5 w5 hr5 ho5 u5 _ => ?_
    refine ⟨⟨v4.step0 u5 (fun x hx => (ho4.blk x hx).1), ho5, q + 1, wr_succ (by omega), by omega, ?_, ?_, fun j hj1 hj2 => ?_⟩, by rw [wr_succ (q := q) (by omega)]; (try dsimp only); omega⟩
    · rw [fs]
      unfold optB
      rw [← List.append_assoc]
      exact hr5
    · rw [fs, List.length_append, optB_len]; omega
    · by_cases e : j = q
      · subst e; unfold okO; omega
      · exact hj j hj1 (by omega)
  · have hqe : q = l.length := by omega
    subst hqe
    rw [List.take_length] at hs h40
    have hok : putOk l := ⟨fun x hx => by
      obtain ⟨j, hj1, rfl⟩ := List.getElem_of_mem hx
      exact hj j hj1 (by omega), h40⟩
    refine pad_loop u hs o (by omega) (fun s => ?_) (fun I M s w r w' h1 h2 => ⟨h1, h2⟩) (fun s w2 u2 hs2 ho2 => ?_)
    · rw [tmod_pos (by omega)]
      rw [decide_eq_decide]
      omega
    · have := k s w2 u2 (by unfold putL; rw [if_pos hok]; exact hs2) ho2
      unfold putE at this
      rwa [if_pos hok] at this

theorem c21 {a : Sl} {l : List Opt} {os : List (Int × Sl)} {w : World} {R : SV → World → Prop} (h : Opts w a l os) (hl : l.length ≤ 4398046511104) (hd : ∀ o ∈ l, o.data.length ≤ 140737488355328)
    (k : ∀ s w1, Upd [] [] w w1 → SeesB w1 s (putL l) → Own w.heap.size 1 w1 s → R (.tuple [.slice s, .int .i64 (putE l)]) w1) : Ret Try.prog 21 [.slice a] w R := by
  refine f21_of _ _ _ ?_
  unfold vc21
  have hal := h.slen
  have bad : ¬ putOk l → ∀ w1, Upd [] [] w w1 → R (.tuple [.slice ⟨none, 0, 0⟩, .int .i64 65]) w1 := fun hn w1 u => by
    have := k ⟨none, 0, 0⟩ w1 u (by unfold putL; rw [if_neg hn]; exact Sees.nil _ _ _ _) (Own.none _ _ _)
    unfold putE at this
    rwa [if_neg hn] at this
  refine ⟨fun s i w1 => Upd [] [] w w1 ∧ Own w.heap.size 1 w1 s ∧ ∃ q : Nat, i = q ∧ q ≤ l.length ∧ SeesB w1 s ((l.take q).flatMap optB) ∧ ((l.take q).flatMap optB).length ≤ 40 * q ∧ ∀ j (h : j < l.length), j < q → okO l[j], fun _ i _ => (l.length - i).toNat,
    ⟨Upd.refl w, Own.none _ _ _, 0, rfl, by omega, Sees.nil _ _ _ _, by simp, fun j _ h => by omega⟩, ?_⟩
  rintro s i w1 ⟨u, o, q, rfl, hq, hs, h40, hj⟩
  have h1 := h.old u
  have hsl := hs.len
  refine brd (fun hlt => ?_) (fun hge => ?_)
  · have hq2 : q < l.length := by omega
    obtain ⟨g1, g2, g3, g4⟩ := h1.get q hq2
    have gl := g3.len
    have gd := hd _ (List.getElem_mem hq2)
    intro J hJ
    refine needO h1 (by omega) (by omega) ⟨_, (by rw [Int.toNat_natCast]; exact g2), ?_⟩
    have fs := flatMap_snoc hq2
    have nk : ¬ okO l[q] → ¬ putOk l := fun hn hp => hn (hp.1 _ (List.getElem_mem hq2))
    intro J1 hJ1
    have good : okO l[q] → J1 w1 := fun hk => by
      refine hJ1 _ ?_
      refine needO h1 (by omega) (by omega) ⟨_, (by rw [Int.toNat_natCast]; exact g1), ?_⟩
      intro b1 w3 u3 hr3
      obtain ⟨k1, k2, k3⟩ := hk
      have o3 := o.old u3
      have v3 := u.then u3
      have hs3 := hs.old u3
      rw [wr_i64 (x := ((os[q]'(by rw [h.len]; exact hq2)).2.len : Int) + 2) (by omega) (by omega), wr_u8, wr_u8] at hr3
      refine append_big (c := cU8) (new := [l[q].kind % 256, ((2 + l[q].data.length : Nat) : Int) % 256]) hs3 o3 (rowB hr3 _ (by rw [gl, Nat.add_comm 2]; rfl) rfl) v3.size (by simp) (by decide) (by decide) (by simp only [List.length_cons, List.length_nil]; omega) fun r w4 hr ho4 u4 hn4 => ?_
      have hw0 : ∀ x ∈ s.blk, w.heap.size ≤ x := fun x hx => (o.blk x hx).1
      have v4 := v3.step0 u4 hw0
      obtain ⟨_, g2', g3', _⟩ := (h.old v4).get q hq2
      refine needO (h.old v4) (by omega) (by omega) ⟨_, (by rw [Int.toNat_natCast]; exact g2'), ?_⟩
      refine append_big (c := cU8) hr ho4 g3' v4.size (by simp) (by decide) (by decide) (by simp only [List.length_append, List.length_cons, List.length_nil]; omega) fun r5 w5 hr5 ho5 u5 _ => ?_
      refine hJ _ _ ⟨⟨v4.step0 u5 (fun x hx => (ho4.blk x hx).1), ho5, q + 1, wr_succ (by omega), by omega, ?_, ?_, fun j hj1 hj2 => ?_⟩, by rw [wr_succ (q := q) (by omega)]; (try dsimp only); omega⟩
      · rw [fs]
        unfold optB
        rw [← List.append_assoc]
        exact hr5
      · rw [fs, List.length_append, optB_len]; omega
      · by_cases e : j = q
        · subst e; exact ⟨k1, k2, k3⟩
        · exact hj j hj1 (by omega)
    refine needO h1 (by omega) (by omega) ⟨_, (by rw [Int.toNat_natCast]; exact g1), ?_⟩
    refine brd (fun g => bad (nk (by unfold okO; omega)) _ u) (fun n1 => needO h1 (by omega) (by omega) ⟨_, (by rw [Int.toNat_natCast]; exact g1), brd (fun g => bad (nk (by unfold okO; omega)) _ u) (fun n2 => brd (fun g => bad (nk (by unfold okO; omega)) _ u) (fun n3 => good (by unfold okO; omega)))⟩)
  · have hqe : q = l.length := by omega
    subst hqe
    rw [List.take_length] at hs h40
    have hall : ∀ x ∈ l, okO x := fun x hx => by
      obtain ⟨j, hj1, rfl⟩ := List.getElem_of_mem hx
      exact hj j hj1 (by omega)
    refine pad_loop u hs o (by omega) (fun s => ?_) (fun I M s w r w' h1 h2 => ⟨h1, h2⟩) (fun s w2 u2 hs2 ho2 => ?_)
    · rw [tmod_pos (by omega)]
      rw [Bool.eq_iff_iff, bne_iff_ne, decide_eq_true_iff]
      omega
    · have hpl := pad4_len (l.flatMap optB)
      have hsl2 := hs2.len
      refine brd (fun g => bad (fun hp => ?_) _ u2) (fun g => ?_)
      · have := hp.2; omega
      · have hok : putOk l := ⟨hall, by omega⟩
        have := k s w2 u2 (by unfold putL; rw [if_pos hok]; exact hs2) ho2
        unfold putE at this
        rwa [if_pos hok] at this

end Go.Vc.Stop
end

section
namespace Go.Vc
set_option linter.unusedVariables false
set_option linter.unusedSimpArgs false
set_option autoImplicit false
/-- bytes copied into the middle of a row -/
theorem copy_mid {w : World} {b e n cap o : Nat} {pre mid post cs : List Value} {d x : Sl} {m : List Int} {bs : List Nat} {F : World → Prop} (h : w.heap[b]? = some (.cells cs.toArray e (0, 0))) (hcs : cs = pre ++ mid ++ post) (hx : SeesB w x m)
    (hd : d = ⟨some ⟨b, o, none⟩, n, cap⟩) (ho : o = pre.length) (hn : n ≤ m.length) (hm : mid.length = n) (hbs : b ∉ bs)
    (k : ∀ w1, w1.heap[b]? = some (.cells (pre ++ cU8.cells (m.take n) ++ post).toArray e (0, 0)) → Upd [b] [] w w1 → F w1) : Copy 1 d x bs w F := by
  subst hd hcs ho
  have hxl := hx.len
  have hl : (cU8.cells (m.take n)).length = n := by rw [Cod.cells_length, List.length_take]; simp [cU8]; omega
  refine ⟨cU8.cells (m.take n), ?_, ?_⟩
  · have := (hx.take (n := n) hn 0).rowAt
    rw [show Nat.min x.len n * 1 = n * cU8.sz by rw [show cU8.sz = 1 from rfl, hxl]; simp [Nat.min_def]; omega]
    exact this
  · refine ⟨fun i hi => ?_, hbs, ?_⟩
    · rw [add_none, cell_of_block h, frozen_of_block h]
      refine ⟨?_, rfl⟩
      simp; omega
    · refine k _ ?_ ((Upd.setCells w b _ _).wide (by simp))
      exact setCells_at b e (0, 0) _ pre mid post w h (by omega)
theorem u8cells (l : List Int) : cU8.cells l = l.map fun n => Value.int .u8 n := Cod.cells_map1 (fun _ => rfl) l
/-- a piece of a slice that is all but its own pointer -/
theorem sub_lit {b o n cap h m : Nat} (hm : m ≠ 0) : Sl.sub ⟨some ⟨b, o, none⟩, n, cap⟩ 1 0 h m = ⟨some ⟨b, o, none⟩, h, m⟩ := by
  unfold Sl.sub
  rw [if_neg hm]
  simp
end Go.Vc
end

section
namespace Go.Vc
set_option linter.unusedVariables false
set_option linter.unusedSimpArgs false
set_option autoImplicit false
set_option maxRecDepth 10000
end Go.Vc
end

section
open Go Go.Vc Go.Proofs
set_option linter.unusedVariables false
set_option linter.unusedSimpArgs false
set_option autoImplicit false
namespace Go.Vc.Stop

theorem c43 {n hi : Int} {w : World} {R : SV → World → Prop} (k : R (.bool (decide (outN n hi))) w) : Ret Try.prog 43 [.int .i64 n, .int .i64 hi] w R := by
  refine f43_of _ _ _ _ ?_
  unfold vc43
  refine brd (fun h => ?_) (fun h => ?_)
  · rw [decide_eq_true (show outN n hi by unfold outN; omega)] at k; exact k
  · rw [show decide (outN n hi) = decide (n > hi) by rw [decide_eq_decide]; unfold outN; omega] at k; exact k
theorem c19 {n hi : Int} {w : World} {R : SV → World → Prop} (k : R (.bool (decide (outN n hi))) w) : Ret Try.prog 19 [.int .i64 n, .int .i64 hi] w R := by
  refine f19_of _ _ _ _ ?_
  unfold vc19
  refine brd (fun h => ?_) (fun h => ?_)
  · rw [decide_eq_true (show outN n hi by unfold outN; omega)] at k; exact k
  · rw [show decide (outN n hi) = decide (n > hi) by rw [decide_eq_decide]; unfold outN; omega] at k; exact k
theorem frag_t {off n : Int} (h : n = 0 ∨ n % 8 ≠ 0 ∨ 65515 < off + n) : frag true off n := by unfold frag; simp; omega
theorem frag_n {mf : Bool} {off n : Int} (h : ¬ 65515 < off + n) (h2 : mf = true → n ≠ 0 ∧ n % 8 = 0) : ¬ frag mf off n := by
  unfold frag
  rintro (⟨h3, h4⟩ | h3)
  · have := h2 h3; omega
  · exact h h3
theorem c46 {mf : Bool} {off n : Int} {w : World} {R : SV → World → Prop} (h0 : -9223372036854775808 ≤ off + n) (h1 : off + n ≤ 9223372036854775807) (hn : 0 ≤ n) (k : R (.int .i64 (if frag mf off n then 66 else 0)) w) : Ret Try.prog 46 [.bool mf, .int .i64 off, .int .i64 n] w R := by
  refine f46_of _ _ _ _ _ ?_
  unfold vc46
  rw [wr_i64 h0 h1, tmod_pos hn]
  have y : frag mf off n → R (.int .i64 66) w := fun h => by rw [if_pos h] at k; exact k
  have z : ¬ frag mf off n → R (.int .i64 0) w := fun h => by rw [if_neg h] at k; exact k
  cases mf
  · refine brf rfl (brd (fun g => y (.inr g)) (fun g => z (frag_n (by omega) (by simp))))
  · refine brt rfl (bre (fun g => y (frag_t (.inl g))) (fun g1 => bre' (fun g => y (frag_t (.inr (.inl g)))) (fun g2 => brd (fun g => y (.inr g)) (fun g => z (frag_n (by omega) (fun _ => ⟨g1, g2⟩))))))
theorem c22 {mf : Bool} {off n : Int} {w : World} {R : SV → World → Prop} (h0 : -9223372036854775808 ≤ off + n) (h1 : off + n ≤ 9223372036854775807) (hn : 0 ≤ n) (k : R (.bool (decide (frag mf off n))) w) : Ret Try.prog 22 [.bool mf, .int .i64 off, .int .i64 n] w R := by
  refine f22_of _ _ _ _ _ ?_
  unfold vc22
  rw [wr_i64 h0 h1, tmod_pos hn]
  have y : frag mf off n → R (.bool true) w := fun h => by rw [decide_eq_true h] at k; exact k
  have z : decide (frag mf off n) = decide (off + n > 65515) → R (.bool (decide (off + n > 65515))) w := fun h => by rw [h] at k; exact k
  cases mf
  · refine brf rfl (z (by rw [decide_eq_decide]; unfold frag; simp))
  · refine brt rfl (bre (fun g => y (frag_t (.inl g))) (fun g1 => bre' (fun g => y (frag_t (.inr (.inl g)))) (fun g2 => z (by rw [decide_eq_decide]; unfold frag; simp; omega))))

def fourB (v : Int) (a : Nat → Int) : Bool := v == 4 && (List.range 12).all fun i => a (i + 4) == 0
theorem fourB_iff {v : Int} {a : Nat → Int} : fourB v a = true ↔ four v a := by
  unfold fourB four
  simp only [Bool.and_eq_true, beq_iff_eq, List.all_eq_true, List.mem_range]
  refine and_congr Iff.rfl ⟨fun h i h1 h2 => ?_, fun h i hi => h _ (by omega) (by omega)⟩
  have := h (i - 4) (by omega)
  rwa [show i - 4 + 4 = i by omega] at this
theorem c44 {v : Int} {a : Nat → Int} {w : World} {R : SV → World → Prop} (k : ∀ w1, Upd [] [] w w1 → R (.bool (fourB v a)) w1) : Ret Try.prog 44 [.struct [.int .i64 v, .arr .u8 16 a]] w R := by
  refine f44_of _ _ _ _ ?_
  unfold vc44
  intro b b1 w1 u1 hr1 hoff hr
  have n1 := u1.new (b := b1) (by simp)
  have hne : b ≠ b1 := fun e => hoff (by simp [e])
  have hblt := (Array.getElem?_eq_some_iff.1 hr).1
  have main : ∀ w2, Upd [] [] w1 w2 → Copy 1 (Sl.sub ⟨some ⟨b1, 0, none⟩, 16, 16⟩ 1 0 4 16) (Sl.sub { ptr := some (Addr.add ⟨b, 0, none⟩ 1), len := 16, cap := 16 } 1 0 4 16) [] w2 fun (w : World) =>
      ∃ (n : Int), World.cell? w ⟨b, 0, none⟩ = some (Value.int .i64 n) ∧
        Br (n == 4) (∃ (f : Nat → Int), (∀ (i : Nat), i < 16 → World.cell? w (Addr.add (Addr.add ⟨b, 0, none⟩ 1) (0 + i)) = some (Value.int .u8 (f i))) ∧ ∃ (f_1 : Nat → Int), (∀ (i : Nat), i < 16 → World.cell? w (Addr.add ⟨b1, 0, none⟩ (0 + i)) = some (Value.int .u8 (f_1 i))) ∧ R (.bool (eqArr 16 f f_1)) w) (R (.bool false) w) := by
    intro w2 u2
    have hr1' := u2.keep b1 (by omega) (by simp)
    rw [hr1] at hr1'
    have hr' := u2.keep b hblt (by simp)
    rw [hr] at hr'
    have hx : SeesB w2 (Sl.sub { ptr := some (Addr.add ⟨b, 0, none⟩ 1), len := 16, cap := 16 } 1 0 4 16) (arrL 4 a) := by
      rw [add_none, sub_lit (by omega)]
      exact rowMid hr' [.int .i64 v] ((List.range 12).map fun i => Value.int .u8 (a (i + 4))) (arrL 4 a) rfl rfl (by rw [arrL_len])
    refine copy_mid (pre := []) (mid := (List.range 4).map fun i => Value.int .u8 0) (post := (List.range 12).map fun i => Value.int .u8 0) hr1' rfl hx (sub_lit (by omega)) rfl (by rw [arrL_len]; omega) (by simp) (by simp) fun w3 hr3 u3 => ?_
    have hr3' := u3.keep b (by have := u2.size; omega) (by simpa using hne)
    rw [hr'] at hr3'
    refine ⟨v, by rw [cell_of_block hr3']; rfl, ?_⟩
    have v3 := (u1.then u2).step0 u3 (by simp; omega)
    have fin : ∀ x, fourB v a = x → R (.bool x) w3 := fun x hx => hx ▸ k w3 v3
    refine bre (fun hv => ⟨a, fun i hi => ?_, fun i => if i < 4 then a i else 0, fun i hi => ?_, fin _ ?_⟩) (fun hv => fin _ ?_)
    · rw [add_none, add_none, cell_of_block hr3']
      simp [SV.cells, SV.cellsL, hi, Nat.add_comm 1]
    · rw [add_none, cell_of_block hr3, u8cells, List.take_of_length_le (by rw [arrL_len]; omega)]
      simp only [List.getElem?_toArray, List.nil_append, Nat.zero_add, arrL, List.map_map]
      by_cases hi4 : i < 4
      · rw [if_pos hi4, List.getElem?_append_left (by simp; omega)]
        simp [hi4]
      · rw [if_neg hi4, List.getElem?_append_right (by simp; omega)]
        rw [List.getElem?_eq_getElem (by simp; omega)]
        simp
    · subst hv
      rw [Bool.eq_iff_iff, eqArr_iff, fourB_iff]
      unfold four
      constructor
      · rintro ⟨_, h⟩ i hi
        by_cases hi4 : i < 4
        · rw [if_pos hi4]
        · rw [if_neg hi4]; exact h i (by omega) hi
      · exact fun h => ⟨rfl, fun i h1 h2 => by have := h i h2; rwa [if_neg (by omega)] at this⟩
    · rw [Bool.eq_false_iff]
      intro h
      exact hv (fourB_iff.1 h).1
  exact ⟨main, main⟩

theorem c20 {v : Int} {a : Nat → Int} {w : World} {R : SV → World → Prop} (k : ∀ w1, Upd [] [] w w1 → R (.bool (fourB v a)) w1) : Ret Try.prog 20 [.struct [.int .i64 v, .arr .u8 16 a]] w R := by
  refine f20_of _ _ _ _ ?_
  unfold vc20
  intro b
  have fin : ∀ x w1, Upd [] [] w w1 → fourB v a = x → R (.bool x) w1 := fun x w1 u hx => hx ▸ k w1 u
  refine ⟨fun (i : Int) (w1 : World) => Upd [] [] w w1 ∧ 4 ≤ i ∧ i ≤ 16 ∧ ∀ j : Nat, 4 ≤ j → (j : Int) < i → a j = 0, fun i _ => (16 - i).toNat, fun w1 u => ⟨u.forget, by omega, by omega, fun j h1 h2 => by omega⟩, ?_⟩
  rintro i w1 ⟨u, h4, h16, hj⟩
  refine brd (fun hlt => needIx2 (by omega) hlt ?_) (fun hge => ?_)
  · refine bre' (fun hne => fin _ _ u ?_) (fun he => ?_)
    · rw [Bool.eq_false_iff]
      intro h
      exact hne ((fourB_iff.1 h).2 i.toNat (by omega) (by omega))
    · rw [wr_i64 (by omega) (by omega)]
      refine ⟨rfl, ⟨u, by omega, by omega, fun j h1 h2 => ?_⟩, by (try dsimp only); omega⟩
      by_cases e : (j : Int) = i
      · have : i.toNat = j := by omega
        rw [this] at he; exact he
      · exact hj j h1 (by omega)
  · refine fin _ _ u ?_
    rw [Bool.eq_iff_iff, fourB_iff, beq_iff_eq]
    exact ⟨fun h => h.1, fun h => ⟨h, fun j h1 h2 => hj j h1 (by omega)⟩⟩
end Go.Vc.Stop
end

section
open Go Go.Vc Go.Proofs
set_option linter.unusedVariables false
set_option linter.unusedSimpArgs false
set_option autoImplicit false
namespace Go.Vc.Stop

abbrev ipSV (v : IpV) (s d : Sl) : SV := .struct [.int .i64 v.tos, .int .i64 v.id, .bool v.df, .bool v.mf, .int .i64 v.off, .int .i64 v.ttl, .int .i64 v.proto, .struct [.int .i64 v.sv, .arr .u8 16 v.sa], .struct [.int .i64 v.dv, .arr .u8 16 v.da], .slice s, .slice d]

section
variable {v : IpV} {s d : Sl} {os : List (Int × Sl)} {w : World} {R : SV → World → Prop}
theorem bad68 (h : badF v) : ipChk v = 68 := by unfold ipChk; rw [if_pos h]
theorem chk65 (h : ¬ badF v) (h2 : ¬ putOk v.opts) : ipChk v = 65 := by unfold ipChk; rw [if_neg h, if_pos h2]
theorem chk63 (h : ¬ badF v) (h2 : putOk v.opts) (h3 : 65535 < 20 + (putO v.opts).length + v.data.length) : ipChk v = 63 := by unfold ipChk; rw [if_neg h, if_neg (Classical.not_not.2 h2), if_pos h3]
theorem chk66 (h : ¬ badF v) (h2 : putOk v.opts) (h3 : ¬ 65535 < 20 + (putO v.opts).length + v.data.length) : ipChk v = if frag v.mf v.off v.data.length then 66 else 0 := by unfold ipChk; rw [if_neg h, if_neg (Classical.not_not.2 h2), if_neg h3]

set_option maxRecDepth 10000 in
theorem c23 (hO : Opts w s v.opts os) (hl : v.opts.length < 9223372036854775807) (hod : ∀ o ∈ v.opts, o.data.length ≤ 140737488355328) (hd : d.len = v.data.length) (hdl : v.data.length ≤ 140737488355328)
    (k : ∀ w1, Upd [] [] w w1 → R (.int .i64 (ipChk v)) w1) : Ret Try.prog 23 [ipSV v s d] w R := by
  refine f23_of _ _ _ _ _ _ _ _ _ _ _ _ _ _ _ ?_
  unfold vc23
  intro b J hJ w1 u1
  have k1 : ∀ e w2, Upd [] [] w w2 → ipChk v = e → R (.int .i64 e) w2 := fun e w2 u he => he ▸ k w2 u
  have bad : badF v → ∀ w2, Upd [] [] w w2 → R (.int .i64 68) w2 := fun h w2 u => k1 _ _ u (bad68 h)
  refine c43 ⟨_, rfl, kp (Upd.refl _), brd (fun h => bad (.inl h) _ u1.forget) (fun h0 => ?_)⟩
  refine c43 ⟨_, rfl, kp (Upd.refl _), brd (fun h => bad (.inr (.inl h)) _ u1.forget) (fun h1 => ?_)⟩
  refine c43 ⟨_, rfl, kp (Upd.refl _), brd (fun h => bad (.inr (.inr (.inl h))) _ u1.forget) (fun h2 => ?_)⟩
  have h2' : 0 ≤ v.off ∧ v.off ≤ 65528 := by unfold outN at h2; omega
  rw [tmod_pos h2'.1]
  refine bre' (fun h => bad (.inr (.inr (.inr (.inl h)))) _ u1.forget) (fun h3 => ?_)
  refine c43 ⟨_, rfl, kp (Upd.refl _), brd (fun h => bad (.inr (.inr (.inr (.inr (.inl h))))) _ u1.forget) (fun h4 => ?_)⟩
  refine c43 ⟨_, rfl, kp (Upd.refl _), brd (fun h => bad (.inr (.inr (.inr (.inr (.inr (.inl h)))))) _ u1.forget) (fun h5 => ?_)⟩
  refine c44 fun w2 u2 => ⟨_, rfl, kp u2, brn (fun h => bad (.inr (.inr (.inr (.inr (.inr (.inr (.inl (fun hf => by rw [fourB_iff.2 hf] at h; cases h)))))))) _ (u1.then u2)) (fun h6 => ?_)⟩
  refine c44 fun w3 u3 => ⟨_, rfl, kp u3, brn (fun h => bad (.inr (.inr (.inr (.inr (.inr (.inr (.inr (fun hf => by rw [fourB_iff.2 hf] at h; cases h)))))))) _ ((u1.then u2).then u3)) (fun h7 => ?_)⟩
  have good : ¬ badF v := by
    rintro (x | x | x | x | x | x | x | x)
    · exact h0 x
    · exact h1 x
    · exact h2 x
    · exact x h3
    · exact h4 x
    · exact h5 x
    · exact x (fourB_iff.1 h6)
    · exact x (fourB_iff.1 h7)
  refine ⟨rfl, hJ _ ?_⟩
  have v3 := (u1.then u2).then u3
  have hO3 := hO.old v3
  refine c45 hO3 hl hod fun r w4 u4 hr ho => ⟨_, _, rfl, kp u4, ?_⟩
  have v4 := v3.then u4
  have hrl := hr.len
  by_cases hp : putOk v.opts
  · unfold putE
    unfold putL at hrl
    rw [if_pos hp] at hrl ⊢
    have hpl := putO_len hp
    rw [wr_i64 (x := 20 + (r.len : Int)) (by omega) (by omega), wr_i64 (by omega) (by omega)]
    refine brf (by simp) (brd (fun h => k1 _ _ v4 (chk63 good hp (by omega))) (fun h => ?_))
    refine c46 (by omega) (by omega) (by omega) ⟨_, rfl, kp (Upd.refl _), k1 _ _ v4 ?_⟩
    rw [chk66 good hp (by omega), hd]
  · unfold putE
    rw [if_neg hp]
    exact brt (by simp) (k1 _ _ v4 (chk65 good hp))

set_option maxRecDepth 10000 in
theorem c6 (hO : Opts w s v.opts os) (hl : v.opts.length ≤ 4398046511104) (hod : ∀ o ∈ v.opts, o.data.length ≤ 140737488355328) (hd : d.len = v.data.length) (hdl : v.data.length ≤ 140737488355328)
    (k : ∀ w1, Upd [] [] w w1 → R (.int .i64 (ipChk v)) w1) : Ret Try.prog 6 [ipSV v s d] w R := by
  refine f6_of _ _ _ _ _ _ _ _ _ _ _ _ _ _ _ ?_
  unfold vc6
  intro b J hJ w1 u1
  have k1 : ∀ e w2, Upd [] [] w w2 → ipChk v = e → R (.int .i64 e) w2 := fun e w2 u he => he ▸ k w2 u
  have bad : badF v → ∀ w2, Upd [] [] w w2 → R (.int .i64 68) w2 := fun h w2 u => k1 _ _ u (bad68 h)
  refine c19 ⟨_, rfl, kp (Upd.refl _), brd (fun h => bad (.inl h) _ u1.forget) (fun h0 => ?_)⟩
  refine c19 ⟨_, rfl, kp (Upd.refl _), brd (fun h => bad (.inr (.inl h)) _ u1.forget) (fun h1 => ?_)⟩
  refine c19 ⟨_, rfl, kp (Upd.refl _), brd (fun h => bad (.inr (.inr (.inl h))) _ u1.forget) (fun h2 => ?_)⟩
  have h2' : 0 ≤ v.off ∧ v.off ≤ 65528 := by unfold outN at h2; omega
  rw [tmod_pos h2'.1]
  refine bre' (fun h => bad (.inr (.inr (.inr (.inl h)))) _ u1.forget) (fun h3 => ?_)
  refine c19 ⟨_, rfl, kp (Upd.refl _), brd (fun h => bad (.inr (.inr (.inr (.inr (.inl h))))) _ u1.forget) (fun h4 => ?_)⟩
  refine c19 ⟨_, rfl, kp (Upd.refl _), brd (fun h => bad (.inr (.inr (.inr (.inr (.inr (.inl h)))))) _ u1.forget) (fun h5 => ?_)⟩
  refine c20 fun w2 u2 => ⟨_, rfl, kp u2, brn (fun h => bad (.inr (.inr (.inr (.inr (.inr (.inr (.inl (fun hf => by rw [fourB_iff.2 hf] at h; cases h)))))))) _ (u1.then u2)) (fun h6 => ?_)⟩
  refine c20 fun w3 u3 => ⟨_, rfl, kp u3, brn (fun h => bad (.inr (.inr (.inr (.inr (.inr (.inr (.inr (fun hf => by rw [fourB_iff.2 hf] at h; cases h)))))))) _ ((u1.then u2).then u3)) (fun h7 => ?_)⟩
  have good : ¬ badF v := by
    rintro (x | x | x | x | x | x | x | x)
    · exact h0 x
    · exact h1 x
    · exact h2 x
    · exact x h3
    · exact h4 x
    · exact h5 x
    · exact x (fourB_iff.1 h6)
    · exact x (fourB_iff.1 h7)
  refine ⟨rfl, hJ _ ?_⟩
  have v3 := (u1.then u2).then u3
  have hO3 := hO.old v3
  refine c21 hO3 hl hod fun r w4 u4 hr ho => ⟨_, _, rfl, kp u4, ?_⟩
  have v4 := v3.then u4
  have hrl := hr.len
  by_cases hp : putOk v.opts
  · unfold putE
    unfold putL at hrl
    rw [if_pos hp] at hrl ⊢
    have hpl := putO_len hp
    rw [wr_i64 (x := 20 + (r.len : Int)) (by omega) (by omega), wr_i64 (by omega) (by omega)]
    refine brf (by simp) (brd (fun h => k1 _ _ v4 (chk63 good hp (by omega))) (fun h => ?_))
    refine c22 (by omega) (by omega) (by omega) ⟨_, rfl, kp (Upd.refl _), ?_⟩
    have e := chk66 (v := v) good hp (by omega)
    rw [hd]
    refine brd (fun hf => k1 _ _ v4 (by rw [e, if_pos hf])) (fun hf => k1 _ _ v4 (by rw [e, if_neg hf]))
  · unfold putE
    rw [if_neg hp]
    exact brt (by simp) (k1 _ _ v4 (chk65 good hp))
end
end Go.Vc.Stop
end

section
namespace Go.Vc
set_option linter.unusedVariables false
set_option linter.unusedSimpArgs false
set_option autoImplicit false
/-- a block of cells, as a list -/
structure Blk (w : World) (p : Nat) (L : List Value) : Prop where
  lt : p < w.heap.size
  cell : ∀ i (h : i < L.length), w.cell? ⟨p, i, none⟩ = some L[i]
  fro : ∀ i, i < L.length → w.frozen? ⟨p, i, none⟩ = false
section
variable {w w1 : World} {p : Nat} {L : List Value}
theorem cell_keep {b i : Nat} (h : w1.heap[b]? = w.heap[b]?) : w1.cell? ⟨b, i, none⟩ = w.cell? ⟨b, i, none⟩ := by simp [World.cell?, h]
theorem frozen_keep {b i : Nat} (h : w1.heap[b]? = w.heap[b]?) : w1.frozen? ⟨b, i, none⟩ = w.frozen? ⟨b, i, none⟩ := by simp [World.frozen?, h]
theorem Blk.upd {m n : List Nat} (h : Blk w p L) (u : Upd m n w w1) (hm : p ∉ m) : Blk w1 p L :=
  have k := u.keep p h.lt hm
  ⟨Nat.lt_of_lt_of_le h.lt u.size, fun i hi => by rw [cell_keep k]; exact h.cell i hi, fun i hi => by rw [frozen_keep k]; exact h.fro i hi⟩
theorem Blk.old {n : List Nat} (h : Blk w p L) (u : Upd [] n w w1) : Blk w1 p L := h.upd u (by simp)
theorem Blk.at_ (h : Blk w p L) (i : Nat) {v : Value} (hv : L[i]? = some v) : w.cell? ((⟨p, 0, none⟩ : Addr).add i) = some v := by
  obtain ⟨hi, e⟩ := List.getElem?_eq_some_iff.1 hv
  rw [add_none, Nat.zero_add, h.cell i hi, e]
theorem Blk.at0 (h : Blk w p L) {v : Value} (hv : L[0]? = some v) : w.cell? ⟨p, 0, none⟩ = some v := by
  have := h.at_ 0 hv
  rwa [add_zero] at this
theorem Blk.row {e : Nat} (h : w.heap[p]? = some (.cells L.toArray e (0, 0))) : Blk w p L :=
  ⟨(Array.getElem?_eq_some_iff.1 h).1, fun i hi => by rw [cell_of_block h]; simp [hi], fun i hi => frozen_of_block h i⟩
/-- a part is written over -/
theorem Blk.store {o : Nat} {vs : List Value} {bs : List Nat} {F : World → Prop} (h : Blk w p L) (ho : o + vs.length ≤ L.length) (hb : p ∉ bs) (k : ∀ w1, Blk w1 p (L.take o ++ vs ++ L.drop (o + vs.length)) → Upd [p] [] w w1 → F w1) :
    Store w ((⟨p, 0, none⟩ : Addr).add o) vs bs F := by
  have ha : ((⟨p, 0, none⟩ : Addr).add o) = ⟨p, o, none⟩ := by rw [add_none, Nat.zero_add]
  rw [ha]
  have ex : ∀ j, j < vs.length → (w.cell? ⟨p, o + j, none⟩).isSome = true := fun j hj => by rw [h.cell (o + j) (by omega)]; rfl
  refine ⟨fun i hi => ?_, hb, ?_⟩
  · rw [add_none]
    exact ⟨ex i hi, h.fro _ (by omega)⟩
  · have u := Upd.setCells w p o vs
    have len : (L.take o ++ vs ++ L.drop (o + vs.length)).length = L.length := by simp; omega
    refine k _ ⟨Nat.lt_of_lt_of_le h.lt u.size, fun i hi => ?_, fun i hi => ?_⟩ u
    · rw [len] at hi
      by_cases h1 : i < o
      · rw [World.cell?_setCells_out p vs o w _ (fun _ _ => .inl h1), h.cell i hi]
        congr 1
        rw [List.getElem_append_left (by simp; omega), List.getElem_append_left (by simp; omega), List.getElem_take]
      · by_cases h2 : i < o + vs.length
        · have e := World.cell?_setCells_in p vs o w ex (i - o) (by omega)
          rw [show o + (i - o) = i by omega] at e
          rw [e]
          congr 1
          rw [List.getElem_append_left (by simp; omega), List.getElem_append_right (by simp; omega)]
          congr 1
          simp; omega
        · rw [World.cell?_setCells_out p vs o w _ (fun _ _ => .inr (by show o + vs.length ≤ i; omega)), h.cell i hi]
          congr 1
          rw [List.getElem_append_right (by simp; omega), List.getElem_drop]
          congr 1
          simp; omega
    · rw [len] at hi
      rw [World.frozen?_setCells p vs o w _]
      exact h.fro i hi
end
end Go.Vc
end
