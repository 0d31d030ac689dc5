import Derived.Test.YtkkdnnpnbmpifaaG5
namespace Go.Vc
set_option linter.unusedVariables false
set_option linter.unusedSimpArgs false
set_option autoImplicit false

/-! ### IPv4 datagrams, in plain lists -/
structure IpV where
  tos : Int
  id : Int
  df : Bool
  mf : Bool
  off : Int
  ttl : Int
  proto : Int
  sv : Int
  sa : Nat → Int
  dv : Int
  da : Nat → Int
  opts : List Opt
  data : List Int
def ipZ : IpV := ⟨0, 0, false, false, 0, 0, 0, 0, fun _ => 0, 0, fun _ => 0, [], []⟩
def frag (mf : Bool) (off n : Int) : Prop := (mf = true ∧ (n = 0 ∨ n % 8 ≠ 0)) ∨ 65515 < off + n
instance (mf : Bool) (off n : Int) : Decidable (frag mf off n) := by unfold frag; infer_instance
def ok4 (_ n : Int) : Bool := decide (2 ≤ n)
theorem ok4_two : ∀ k n, ok4 k n = true → 2 ≤ n := fun _ _ h => of_decide_eq_true h

def hdN (l : List Int) : Nat := 4 * (bt l 0 % 16).toNat
def totN (l : List Int) : Nat := (W16 l 2).toNat
def obL (l : List Int) : List Int := (l.take (hdN l)).drop 20
def psOf (l : List Int) : List (Nat × Nat) := (optsP ok4 (obL l)).getD []
def mfOf (l : List Int) : Bool := bt l 6 / 32 % 2 == 1
def dfOf (l : List Int) : Bool := bt l 6 / 64 % 2 == 1
def offOf (l : List Int) : Int := 8 * (bt l 6 % 32 * 256 + bt l 7)
/-- what reading answers -/
def ipErr (l : List Int) : Int :=
  if 65535 < l.length then 2 else if l.length < 20 then 60 else if bt l 0 / 16 ≠ 4 then 61
  else if hdN l < 20 ∨ l.length < hdN l then 62 else if totN l < hdN l ∨ l.length < totN l then 63
  else if sumOf (l.take (hdN l)) ≠ 65535 then 64 else if optsP ok4 (obL l) = none then 65
  else if frag (mfOf l) (offOf l) ((totN l : Int) - hdN l) then 66 else 0
/-- the address at a place -/
def adrAt (l : List Int) (o : Nat) : Nat → Int := fun i => if i < 4 then bt l ((o + i : Nat) : Int) else 0
def ipRaw (l : List Int) : IpV := ⟨bt l 1, W16 l 4, dfOf l, mfOf l, offOf l, bt l 8, bt l 9, 4, adrAt l 12, 4, adrAt l 16, (psOf l).map (optAt (obL l)), (l.take (totN l)).drop (hdN l)⟩
def ipOf (l : List Int) : IpV := if ipErr l = 0 then ipRaw l else ipZ

theorem ipErr_ok {l : List Int} (h : ipErr l = 0) : l.length ≤ 65535 ∧ 20 ≤ l.length ∧ bt l 0 / 16 = 4 ∧ 20 ≤ hdN l ∧ hdN l ≤ l.length ∧ hdN l ≤ totN l ∧ totN l ≤ l.length ∧ sumOf (l.take (hdN l)) = 65535 ∧
    optsP ok4 (obL l) = some (psOf l) ∧ ¬ frag (mfOf l) (offOf l) ((totN l : Int) - hdN l) := by
  unfold ipErr at h
  split at h; · cases h
  split at h; · cases h
  split at h; · cases h
  split at h; · cases h
  split at h; · cases h
  split at h; · cases h
  split at h; · cases h
  split at h; · cases h
  rename_i h1 h2 h3 h4 h5 h6 h7 h8
  refine ⟨by omega, by omega, by omega, by omega, by omega, by omega, by omega, by omega, ?_, h8⟩
  unfold psOf
  cases e : optsP ok4 (obL l) with
  | none => exact absurd e h7
  | some x => rfl
theorem ipErr_mk {l : List Int} (h1 : l.length ≤ 65535) (h2 : 20 ≤ l.length) (h3 : bt l 0 / 16 = 4) (h4 : 20 ≤ hdN l) (h5 : hdN l ≤ l.length) (h6 : hdN l ≤ totN l) (h7 : totN l ≤ l.length) (h8 : sumOf (l.take (hdN l)) = 65535)
    (h9 : optsP ok4 (obL l) ≠ none) (h10 : ¬ frag (mfOf l) (offOf l) ((totN l : Int) - hdN l)) : ipErr l = 0 := by
  unfold ipErr
  rw [if_neg (by omega), if_neg (by omega), if_neg (by omega), if_neg (by omega), if_neg (by omega), if_neg (by omega), if_neg h9, if_neg h10]
theorem obL_byt {l : List Int} (h : Byt l) : Byt (obL l) := (h.take _).drop _
theorem obL_len {l : List Int} (h : hdN l ≤ l.length) : (obL l).length = hdN l - 20 := by simp [obL]; omega
theorem hdN_4 (l : List Int) : hdN l % 4 = 0 := by unfold hdN; omega
theorem hdN_le {l : List Int} : hdN l ≤ 60 := by unfold hdN; omega

/-! ### written -/
def four (v : Int) (a : Nat → Int) : Prop := v = 4 ∧ ∀ i, 4 ≤ i → i < 16 → a i = 0
def outN (n hi : Int) : Prop := n < 0 ∨ hi < n
instance (n hi : Int) : Decidable (outN n hi) := by unfold outN; infer_instance
def badF (v : IpV) : Prop := outN v.tos 255 ∨ outN v.id 65535 ∨ outN v.off 65528 ∨ v.off % 8 ≠ 0 ∨ outN v.ttl 255 ∨ outN v.proto 255 ∨ ¬ four v.sv v.sa ∨ ¬ four v.dv v.da
open Classical in
/-- may these values be a datagram? -/
noncomputable def ipChk (v : IpV) : Int :=
  if badF v then 68 else if ¬ putOk v.opts then 65 else if 65535 < 20 + (putO v.opts).length + v.data.length then 63
  else if frag v.mf v.off v.data.length then 66 else 0
def ipWord (v : IpV) : Int := (if v.df then 16384 else 0) + (if v.mf then 8192 else 0) + v.off / 8
def hdL (v : IpV) : Nat := 20 + (putO v.opts).length
/-- the header, with this checksum -/
def ipHd (v : IpV) (c : Int) : List Int :=
  (64 + (hdL v : Int) / 4) :: v.tos :: (((hdL v : Int) + v.data.length) / 256 % 256) :: (((hdL v : Int) + v.data.length) % 256) :: (v.id / 256 % 256) :: (v.id % 256) ::
  (ipWord v / 256 % 256) :: (ipWord v % 256) :: v.ttl :: v.proto :: (c / 256 % 256) :: (c % 256) ::
  v.sa 0 :: v.sa 1 :: v.sa 2 :: v.sa 3 :: v.da 0 :: v.da 1 :: v.da 2 :: v.da 3 :: putO v.opts
def ipCk (v : IpV) : Int := 65535 - sumOf (ipHd v 0)
def ipSer (v : IpV) : List Int := ipHd v (ipCk v) ++ v.data
structure Fit (v : IpV) : Prop where
  sa : ∀ i, i < 16 → 0 ≤ v.sa i ∧ v.sa i < 256
  da : ∀ i, i < 16 → 0 ≤ v.da i ∧ v.da i < 256
  opts : ∀ o ∈ v.opts, Byt o.data
  data : Byt v.data

section
variable {v : IpV}
theorem ipChk_ok (h : ipChk v = 0) : (0 ≤ v.tos ∧ v.tos ≤ 255) ∧ (0 ≤ v.id ∧ v.id ≤ 65535) ∧ (0 ≤ v.off ∧ v.off ≤ 65528 ∧ v.off % 8 = 0) ∧ (0 ≤ v.ttl ∧ v.ttl ≤ 255) ∧ (0 ≤ v.proto ∧ v.proto ≤ 255) ∧ four v.sv v.sa ∧ four v.dv v.da ∧
    putOk v.opts ∧ hdL v + v.data.length ≤ 65535 ∧ ¬ frag v.mf v.off v.data.length := by
  unfold ipChk at h
  split at h; · cases h
  split at h; · cases h
  split at h; · cases h
  split at h; · cases h
  rename_i h1 h2 h3 h4
  unfold badF outN at h1
  have f1 : four v.sv v.sa := Classical.byContradiction fun h => h1 (by simp [h])
  have f2 : four v.dv v.da := Classical.byContradiction fun h => h1 (by simp [h])
  refine ⟨by omega, by omega, by omega, by omega, by omega, f1, f2, Classical.not_not.1 h2, by unfold hdL; omega, h4⟩
theorem ipChk_mk (h1 : ¬ badF v) (h2 : putOk v.opts) (h3 : hdL v + v.data.length ≤ 65535) (h4 : ¬ frag v.mf v.off v.data.length) : ipChk v = 0 := by
  unfold ipChk hdL at *
  rw [if_neg h1, if_neg (Classical.not_not.2 h2), if_neg (by omega), if_neg h4]
theorem ipHd_len (v : IpV) (c : Int) : (ipHd v c).length = hdL v := by simp [ipHd, hdL]; omega
theorem hdL_r (h : putOk v.opts) : 20 ≤ hdL v ∧ hdL v ≤ 60 ∧ hdL v % 4 = 0 := by
  have := putO_len h
  unfold hdL; omega
theorem ipWord_r (h : ipChk v = 0) : 0 ≤ ipWord v ∧ ipWord v < 32768 := by
  have := (ipChk_ok h).2.2.1
  unfold ipWord
  split <;> split <;> omega
theorem ipHd_byt (h : ipChk v = 0) (f : Fit v) (c : Int) : Byt (ipHd v c) := by
  obtain ⟨h1, h2, h3, h4, h5, h6, h7, h8, h9, h10⟩ := ipChk_ok h
  have := hdL_r h8
  have hp := putO_byt f.opts
  have s0 := f.sa 0 (by omega); have s1 := f.sa 1 (by omega); have s2 := f.sa 2 (by omega); have s3 := f.sa 3 (by omega)
  have d0 := f.da 0 (by omega); have d1 := f.da 1 (by omega); have d2 := f.da 2 (by omega); have d3 := f.da 3 (by omega)
  intro x hx
  simp only [ipHd, List.mem_cons] at hx
  rcases hx with rfl | rfl | rfl | rfl | rfl | rfl | rfl | rfl | rfl | rfl | rfl | rfl | rfl | rfl | rfl | rfl | rfl | rfl | rfl | rfl | hx
  all_goals first | omega | exact hp x hx
theorem ws_hd (v : IpV) {c : Int} (h0 : 0 ≤ c) (h1 : c ≤ 65535) : ws true (ipHd v c) = ws true (ipHd v 0) + c := by
  simp only [ipHd, ws]
  simp
  omega
theorem ipCk_r (h : ipChk v = 0) (f : Fit v) : 0 ≤ ipCk v ∧ ipCk v ≤ 65534 ∧ sumOf (ipHd v (ipCk v)) = 65535 := by
  have hb := ipHd_byt h f 0
  have hw := ws_nonneg true hb
  have hpos : 0 < ws true (ipHd v 0) := by
    have h1 : ws true (ipHd v 0) ≠ 0 := fun e => by
      have := (ws_zero true hb).1 e (64 + (hdL v : Int) / 4) (by simp [ipHd])
      omega
    omega
  have hr := fd_range hw.1
  have hz : fd (ws true (ipHd v 0)) ≠ 0 := fun e => by have := (fd_zero hw.1).1 e; omega
  have e1 : ipCk v = 65535 - fd (ws true (ipHd v 0)) := rfl
  refine ⟨by omega, by omega, ?_⟩
  unfold sumOf
  rw [ws_hd v (by omega) (by omega), fd_most (by omega), e1]
  unfold fd
  split <;> omega

/-- what the bytes of a header are -/
theorem hd_bts (v : IpV) (c : Int) (d : List Int) (l : List Int) (hl : l = ipHd v c ++ d) :
    bt l 0 = 64 + (hdL v : Int) / 4 ∧ bt l 1 = v.tos ∧ bt l 2 = ((hdL v : Int) + v.data.length) / 256 % 256 ∧ bt l 3 = ((hdL v : Int) + v.data.length) % 256 ∧ bt l 4 = v.id / 256 % 256 ∧ bt l 5 = v.id % 256 ∧
    bt l 6 = ipWord v / 256 % 256 ∧ bt l 7 = ipWord v % 256 ∧ bt l 8 = v.ttl ∧ bt l 9 = v.proto ∧ bt l 10 = c / 256 % 256 ∧ bt l 11 = c % 256 ∧
    bt l 12 = v.sa 0 ∧ bt l 13 = v.sa 1 ∧ bt l 14 = v.sa 2 ∧ bt l 15 = v.sa 3 ∧ bt l 16 = v.da 0 ∧ bt l 17 = v.da 1 ∧ bt l 18 = v.da 2 ∧ bt l 19 = v.da 3 := by
  subst hl
  refine ⟨rfl, rfl, rfl, rfl, rfl, rfl, rfl, rfl, rfl, rfl, rfl, rfl, rfl, rfl, rfl, rfl, rfl, rfl, rfl, rfl⟩
end

/-- the same datagrams -/
structure IpEq (a b : IpV) : Prop where
  tos : a.tos = b.tos
  id : a.id = b.id
  df : a.df = b.df
  mf : a.mf = b.mf
  off : a.off = b.off
  ttl : a.ttl = b.ttl
  proto : a.proto = b.proto
  sv : a.sv = b.sv
  sa : ∀ i, i < 16 → a.sa i = b.sa i
  dv : a.dv = b.dv
  da : ∀ i, i < 16 → a.da i = b.da i
  opts : a.opts = b.opts
  data : a.data = b.data
theorem IpEq.refl (a : IpV) : IpEq a a := ⟨rfl, rfl, rfl, rfl, rfl, rfl, rfl, rfl, fun _ _ => rfl, rfl, fun _ _ => rfl, rfl, rfl⟩
theorem IpEq.symm {a b : IpV} (h : IpEq a b) : IpEq b a := ⟨h.tos.symm, h.id.symm, h.df.symm, h.mf.symm, h.off.symm, h.ttl.symm, h.proto.symm, h.sv.symm, fun i hi => (h.sa i hi).symm, h.dv.symm, fun i hi => (h.da i hi).symm, h.opts.symm, h.data.symm⟩
theorem IpEq.trans {a b c : IpV} (h : IpEq a b) (k : IpEq b c) : IpEq a c := ⟨h.tos.trans k.tos, h.id.trans k.id, h.df.trans k.df, h.mf.trans k.mf, h.off.trans k.off, h.ttl.trans k.ttl, h.proto.trans k.proto, h.sv.trans k.sv, fun i hi => (h.sa i hi).trans (k.sa i hi), h.dv.trans k.dv, fun i hi => (h.da i hi).trans (k.da i hi), h.opts.trans k.opts, h.data.trans k.data⟩
theorem four_congr {v : Int} {a b : Nat → Int} (h : ∀ i, i < 16 → a i = b i) : four v a = four v b := by
  unfold four
  apply propext
  constructor
  · rintro ⟨h1, h2⟩; exact ⟨h1, fun i h3 h4 => by rw [← h i h4]; exact h2 i h3 h4⟩
  · rintro ⟨h1, h2⟩; exact ⟨h1, fun i h3 h4 => by rw [h i h4]; exact h2 i h3 h4⟩
theorem IpEq.chk {a b : IpV} (h : IpEq a b) : ipChk a = ipChk b := by
  have e1 : badF a = badF b := by
    unfold badF
    rw [h.tos, h.id, h.off, h.ttl, h.proto, h.sv, h.dv, four_congr h.sa, four_congr h.da]
  unfold ipChk
  rw [e1, h.opts, h.data, h.mf, h.off]
theorem IpEq.hd {a b : IpV} (h : IpEq a b) (c : Int) : ipHd a c = ipHd b c := by
  unfold ipHd hdL ipWord
  rw [h.tos, h.id, h.off, h.ttl, h.proto, h.df, h.mf, h.opts, h.data, h.sa 0 (by omega), h.sa 1 (by omega), h.sa 2 (by omega), h.sa 3 (by omega), h.da 0 (by omega), h.da 1 (by omega), h.da 2 (by omega), h.da 3 (by omega)]
theorem IpEq.ser {a b : IpV} (h : IpEq a b) : ipSer a = ipSer b := by
  unfold ipSer ipCk
  rw [h.hd, h.hd, h.data]
end Go.Vc
