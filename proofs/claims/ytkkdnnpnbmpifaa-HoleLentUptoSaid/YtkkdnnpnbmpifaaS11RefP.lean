import Derived.Test.YtkkdnnpnbmpifaaS11RefD
open Go Go.Vc Go.Proofs
set_option linter.unusedVariables false
set_option linter.unusedSimpArgs false
set_option autoImplicit false
namespace Go.Vc.S11
section
variable {N h : Nat} {w0 w w1 : World} {W : Wh} {A D P : Sl} {R : SV → World → Prop} {S : Hs}
/-- the document's Put on its way: w0: where it began, W': as it stands -/
structure Mid (N : Nat) (w0 w : World) (nb h : Nat) (A D P : Sl) (W' : Wh) (A' D' P' : Sl) (data : Sl) (l : List Int) : Prop where
  H : Whl N w h W' A' D' P'
  u : Upd (wblk h A D P) [] w0 w
  nw : ∀ x ∈ wblk h A' D' P', x ∈ wblk h A D P ∨ nb ≤ x
  d : SeesB w data l
  od : ∀ x ∈ wblk h A D P, x < w0.heap.size
  nb : w0.heap.size ≤ nb ∧ nb ≤ w.heap.size
  dd : ∀ x ∈ data.blk, x < w0.heap.size ∧ x ∉ wblk h A D P
section
variable {nb : Nat} {W' : Wh} {A' D' P' data : Sl} {l : List Int}
theorem Mid.dis (m : Mid N w0 w nb h A D P W' A' D' P' data l) : ∀ x ∈ data.blk, x ∉ wblk h A' D' P' := fun x hx hm => by
  have := m.dd x hx
  have := m.nb
  rcases m.nw x hm with q | q
  · exact (m.dd x hx).2 q
  · omega
theorem Mid.upd {ms ns : List Nat} (m : Mid N w0 w nb h A D P W' A' D' P' data l) (u : Upd ms ns w w1) (hm : ∀ x ∈ ms, w0.heap.size ≤ x ∧ x ∉ wblk h A' D' P') : Mid N w0 w1 nb h A D P W' A' D' P' data l :=
  ⟨m.H.upd u (fun x hx q => (hm x q).2 hx), m.u.step u (fun x hx => .inl (hm x hx).1), m.nw, m.d.upd u (fun x hx q => by have := (m.dd x hx).1; have := (hm x q).1; omega), m.od, ⟨m.nb.1, by have := u.size; have := m.nb.2; omega⟩, m.dd⟩
theorem Mid.old {ns : List Nat} (m : Mid N w0 w nb h A D P W' A' D' P' data l) (u : Upd [] ns w w1) : Mid N w0 w1 nb h A D P W' A' D' P' data l := m.upd u (by simp)
/-- a block of its own is written, or new memory is taken for it -/
theorem Mid.put {W2 : Wh} {A2 D2 P2 : Sl} {ms ns : List Nat} (m : Mid N w0 w nb h A D P W' A' D' P' data l) (u : Upd ms ns w w1) (hm : ∀ x ∈ ms, x ∈ wblk h A' D' P') (H2 : Whl N w1 h W2 A2 D2 P2) (nw2 : ∀ x ∈ wblk h A2 D2 P2, x ∈ wblk h A' D' P' ∨ w.heap.size ≤ x) : Mid N w0 w1 nb h A D P W2 A2 D2 P2 data l := by
  have hn := m.nb
  refine ⟨H2, m.u.step u (fun x hx => ?_), fun x hx => ?_, m.d.upd u (fun x hx q => m.dis x hx (hm x q)), m.od, ⟨m.nb.1, by have := u.size; omega⟩, m.dd⟩
  · rcases m.nw x (hm x hx) with q | q
    · exact .inr q
    · exact .inl (by omega)
  · rcases nw2 x hx with q | q
    · exact m.nw x q
    · exact .inr (by omega)
end
/-! its parts written -/
/-- a flag more -/
theorem Whl.appA {b e e' by_ : Nat} {bs : List Nat} {F : World → Prop} (H : Whl N w h W A D P) (hr : w.heap[b]? = some (.cells (SV.cells (.bool false)).toArray e (0, 0))) (hpos : 0 < by_) (hl : (W.has.length + 1) * by_ ≤ 140737488355328) (hbs : ∀ x ∈ wblk h A D P, x ∉ bs)
    (k : ∀ A2 w1, Upd (h :: A.blk) [] w w1 → Whl N w1 h { W with has := W.has ++ [false] } A2 D P → (∀ x ∈ A2.blk, x ∈ A.blk ∨ w.heap.size ≤ x) → F w1) :
    Append e' 1 by_ A ⟨some ⟨b, 0, none⟩, 1, 1⟩ bs w fun r w => Store w ((⟨h, 0, none⟩ : Addr).add 1) (SV.cells (.slice r)) bs F := by
  have lt := H.lt
  refine append_own (c := cBl) (new := [false]) H.has H.ho (sees_row hr [false] rfl rfl) H.base.2 (fun x hx => hbs x (by simp [wblk, hx])) hpos (by simpa using hl) fun r w1 hr ho u nw => ?_
  have z := u.size
  have hh := lt h (by simp [wblk])
  have dr : ∀ x ∈ r.blk, x ≠ h ∧ x ∉ D.blk ∧ x ∉ P.blk := fun x hx => by
    rcases nw x hx with q | q
    · exact ⟨fun e => H.a1.1 (e ▸ q), H.a2.1 x q⟩
    · exact ⟨by omega, fun hm => by have := lt x (by simp [wblk, hm]); omega, fun hm => by have := lt x (by simp [wblk, hm]); omega⟩
  have dA : ∀ x ∈ D.blk, x ∉ A.blk := fun x hx hm => (H.a2.1 x hm).1 hx
  have pA : ∀ x ∈ P.blk, x ∉ A.blk := fun x hx hm => (H.a2.1 x hm).2 hx
  refine (H.box.upd u H.a1.1).set (y := .sl r) 1 (by simp) rfl (hbs h (by simp [wblk])) fun w2 hx u2 => k r w2 ?_ ⟨hx, hr.upd u2 (fun x hx e => by simp at e; exact (dr x hx).1 e), ho.upd u2 (fun x hx e => by simp at e; exact (dr x hx).1 e), (H.data.upd u dA).upd u2 (fun x hx e => by simp at e; exact H.a1.2.1 (e ▸ hx)), (H.d_o.upd u dA).upd u2 (fun x hx e => by simp at e; exact H.a1.2.1 (e ▸ hx)), (H.pcs.upd u pA).upd u2 (fun x hx e => by simp at e; exact H.a1.2.2 (e ▸ hx)), (H.po.upd u pA).upd u2 (fun x hx e => by simp at e; exact H.a1.2.2 (e ▸ hx)), ⟨fun q => (dr h q).1 rfl, H.a1.2⟩, ⟨fun x hx => (dr x hx).2, H.a2.2⟩, ⟨H.base.1, by have := u2.size; have := H.base.2; omega⟩⟩ nw
  exact (u.wide (m' := h :: A.blk) (fun x hx => by simp [hx])).step u2 (fun x hx => .inr (by rw [List.mem_singleton] at hx; simp [hx]))
/-- a byte more -/
theorem Whl.appD {b e e' by_ : Nat} {v : Int} {bs : List Nat} {F : World → Prop} (H : Whl N w h W A D P) (hr : w.heap[b]? = some (.cells (SV.cells (.int .u8 v)).toArray e (0, 0))) (hpos : 0 < by_) (hl : (W.data.length + 1) * by_ ≤ 140737488355328) (hbs : ∀ x ∈ wblk h A D P, x ∉ bs)
    (k : ∀ D2 w1, Upd (h :: D.blk) [] w w1 → Whl N w1 h { W with data := W.data ++ [v] } A D2 P → (∀ x ∈ D2.blk, x ∈ D.blk ∨ w.heap.size ≤ x) → F w1) :
    Append e' 1 by_ D ⟨some ⟨b, 0, none⟩, 1, 1⟩ bs w fun r w => Store w ((⟨h, 0, none⟩ : Addr).add 2) (SV.cells (.slice r)) bs F := by
  have lt := H.lt
  refine append_own (c := cU8) (new := [v]) H.data H.d_o (sees_row hr [v] rfl rfl) H.base.2 (fun x hx => hbs x (by simp [wblk, hx])) hpos (by simpa using hl) fun r w1 hr ho u nw => ?_
  have z := u.size
  have hh := lt h (by simp [wblk])
  have dr : ∀ x ∈ r.blk, x ≠ h ∧ x ∉ A.blk ∧ x ∉ P.blk := fun x hx => by
    rcases nw x hx with q | q
    · exact ⟨fun e => H.a1.2.1 (e ▸ q), fun hm => (H.a2.1 x hm).1 q, H.a2.2 x q⟩
    · exact ⟨by omega, fun hm => by have := lt x (by simp [wblk, hm]); omega, fun hm => by have := lt x (by simp [wblk, hm]); omega⟩
  have aD : ∀ x ∈ A.blk, x ∉ D.blk := fun x hx => (H.a2.1 x hx).1
  have pD : ∀ x ∈ P.blk, x ∉ D.blk := fun x hx hm => H.a2.2 x hm hx
  refine (H.box.upd u H.a1.2.1).set (y := .sl r) 2 (by simp) rfl (hbs h (by simp [wblk])) fun w2 hx u2 => k r w2 ?_ ⟨hx, (H.has.upd u aD).upd u2 (fun x hx e => by simp at e; exact H.a1.1 (e ▸ hx)), (H.ho.upd u aD).upd u2 (fun x hx e => by simp at e; exact H.a1.1 (e ▸ hx)), hr.upd u2 (fun x hx e => by simp at e; exact (dr x hx).1 e), ho.upd u2 (fun x hx e => by simp at e; exact (dr x hx).1 e), (H.pcs.upd u pD).upd u2 (fun x hx e => by simp at e; exact H.a1.2.2 (e ▸ hx)), (H.po.upd u pD).upd u2 (fun x hx e => by simp at e; exact H.a1.2.2 (e ▸ hx)), ⟨H.a1.1, fun q => (dr h q).1 rfl, H.a1.2.2⟩, ⟨fun x hx => ⟨fun q => (dr x q).2.1 hx, (H.a2.1 x hx).2⟩, fun x hx => (dr x hx).2.2⟩, ⟨H.base.1, by have := u2.size; have := H.base.2; omega⟩⟩ nw
  exact (u.wide (m' := h :: D.blk) (fun x hx => by simp [hx])).step u2 (fun x hx => .inr (by rw [List.mem_singleton] at hx; simp [hx]))
/-- a piece more -/
theorem Whl.appP {b e e' by_ : Nat} {p : Int × Int × Bool} {bs : List Nat} {F : World → Prop} (H : Whl N w h W A D P) (hr : w.heap[b]? = some (.cells (cK.enc p).toArray e (0, 0))) (hpos : 0 < by_) (hl : (W.pcs.length + 1) * by_ ≤ 140737488355328) (hbs : ∀ x ∈ wblk h A D P, x ∉ bs)
    (k : ∀ P2 w1, Upd (h :: P.blk) [] w w1 → Whl N w1 h { W with pcs := W.pcs ++ [p] } A D P2 → (∀ x ∈ P2.blk, x ∈ P.blk ∨ w.heap.size ≤ x) → F w1) :
    Append e' 3 by_ P ⟨some ⟨b, 0, none⟩, 1, 1⟩ bs w fun r w => Store w ((⟨h, 0, none⟩ : Addr).add 4) (SV.cells (.slice r)) bs F := by
  have lt := H.lt
  refine append_own (c := cK) (new := [p]) H.pcs H.po (sees_row hr [p] (by simp [Cod.cells]) rfl) H.base.2 (fun x hx => hbs x (by simp [wblk, hx])) hpos (by simpa using hl) fun r w1 hr ho u nw => ?_
  have z := u.size
  have hh := lt h (by simp [wblk])
  have dr : ∀ x ∈ r.blk, x ≠ h ∧ x ∉ A.blk ∧ x ∉ D.blk := fun x hx => by
    rcases nw x hx with q | q
    · exact ⟨fun e => H.a1.2.2 (e ▸ q), fun hm => (H.a2.1 x hm).2 q, fun hm => H.a2.2 x hm q⟩
    · exact ⟨by omega, fun hm => by have := lt x (by simp [wblk, hm]); omega, fun hm => by have := lt x (by simp [wblk, hm]); omega⟩
  have aP : ∀ x ∈ A.blk, x ∉ P.blk := fun x hx => (H.a2.1 x hx).2
  have dP : ∀ x ∈ D.blk, x ∉ P.blk := H.a2.2
  refine (H.box.upd u H.a1.2.2).set (y := .sl r) 4 (by simp) rfl (hbs h (by simp [wblk])) fun w2 hx u2 => k r w2 ?_ ⟨hx, (H.has.upd u aP).upd u2 (fun x hx e => by simp at e; exact H.a1.1 (e ▸ hx)), (H.ho.upd u aP).upd u2 (fun x hx e => by simp at e; exact H.a1.1 (e ▸ hx)), (H.data.upd u dP).upd u2 (fun x hx e => by simp at e; exact H.a1.2.1 (e ▸ hx)), (H.d_o.upd u dP).upd u2 (fun x hx e => by simp at e; exact H.a1.2.1 (e ▸ hx)), hr.upd u2 (fun x hx e => by simp at e; exact (dr x hx).1 e), ho.upd u2 (fun x hx e => by simp at e; exact (dr x hx).1 e), ⟨H.a1.1, H.a1.2.1, fun q => (dr h q).1 rfl⟩, ⟨fun x hx => ⟨(H.a2.1 x hx).1, fun q => (dr x q).2.1 hx⟩, fun x hx q => (dr x q).2.2 hx⟩, ⟨H.base.1, by have := u2.size; have := H.base.2; omega⟩⟩ nw
  exact (u.wide (m' := h :: P.blk) (fun x hx => by simp [hx])).step u2 (fun x hx => .inr (by rw [List.mem_singleton] at hx; simp [hx]))
theorem Whl.setF {bs : List Nat} {f : Int} {F : World → Prop} (H : Whl N w h W A D P) (hbs : h ∉ bs)
    (k : ∀ w1, Upd [h] [] w w1 → Whl N w1 h { W with fin := f } A D P → F w1) : Store w ((⟨h, 0, none⟩ : Addr).add 3) [.int .i64 f] bs F := by
  refine H.box.set (y := .int f) 3 (by simp) rfl hbs fun w1 hx u => k w1 u ⟨hx, H.has.upd u (fun x hx e => by simp at e; exact H.a1.1 (e ▸ hx)), H.ho.upd u (fun x hx e => by simp at e; exact H.a1.1 (e ▸ hx)), H.data.upd u (fun x hx e => by simp at e; exact H.a1.2.1 (e ▸ hx)), H.d_o.upd u (fun x hx e => by simp at e; exact H.a1.2.1 (e ▸ hx)), H.pcs.upd u (fun x hx e => by simp at e; exact H.a1.2.2 (e ▸ hx)), H.po.upd u (fun x hx e => by simp at e; exact H.a1.2.2 (e ▸ hx)), H.a1, H.a2, ⟨H.base.1, by have := u.size; have := H.base.2; omega⟩⟩
/-- one cell of one slice is another -/
theorem Whl.cellA {bs : List Nat} {i : Nat} {F : World → Prop} (H : Whl N w h W A D P) (hi : i < W.has.length) (hbs : ∀ x ∈ A.blk, x ∉ bs) (k : ∀ w1, Upd A.blk [] w w1 → Whl N w1 h { W with has := W.has.set i true } A D P → F w1) : Store w (A.at 1 i) [.bool true] bs F := by
  refine own_set (c := cBl) (x := true) H.has H.ho (by decide) hi rfl hbs fun w1 h1 o1 u => k w1 u ⟨H.box.upd u H.a1.1, h1, o1, H.data.upd u (fun x hx e => (H.a2.1 x e).1 hx), H.d_o.upd u (fun x hx e => (H.a2.1 x e).1 hx), H.pcs.upd u (fun x hx e => (H.a2.1 x e).2 hx), H.po.upd u (fun x hx e => (H.a2.1 x e).2 hx), H.a1, H.a2, ⟨H.base.1, by have := u.size; have := H.base.2; omega⟩⟩
theorem Whl.cellD {bs : List Nat} {i : Nat} {v : Int} {F : World → Prop} (H : Whl N w h W A D P) (hi : i < W.data.length) (hbs : ∀ x ∈ D.blk, x ∉ bs) (k : ∀ w1, Upd D.blk [] w w1 → Whl N w1 h { W with data := W.data.set i v } A D P → F w1) : Store w (D.at 1 i) [.int .u8 v] bs F := by
  refine own_set (c := cU8) (x := v) H.data H.d_o (by decide) hi rfl hbs fun w1 h1 o1 u => k w1 u ⟨H.box.upd u H.a1.2.1, H.has.upd u (fun x hx e => (H.a2.1 x hx).1 e), H.ho.upd u (fun x hx e => (H.a2.1 x hx).1 e), h1, o1, H.pcs.upd u (fun x hx e => H.a2.2 x e hx), H.po.upd u (fun x hx e => H.a2.2 x e hx), H.a1, H.a2, ⟨H.base.1, by have := u.size; have := H.base.2; omega⟩⟩
end
end Go.Vc.S11
