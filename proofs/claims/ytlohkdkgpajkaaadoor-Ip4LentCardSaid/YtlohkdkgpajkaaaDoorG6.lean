import Derived.Test.YtlohkdkgpajkaaaDoorG5
import Derived.Test.YtlohkdkgpajkaaaDoorG4
import Derived.Test.YtlohkdkgpajkaaaDoorG3
import Derived.Test.YtlohkdkgpajkaaaDoorG2
import Derived.KernelRfl
section
namespace Go.Vc
set_option linter.unusedVariables false
set_option linter.unusedSimpArgs false
set_option autoImplicit false
/-- bytes as a string -/
def baOf (l : List Int) : ByteArray := ⟨(l.map fun x => UInt8.ofNat x.toNat).toArray⟩
theorem baOf_list (l : List Int) : (baOf l).data.toList = l.map fun x => UInt8.ofNat x.toNat := rfl
theorem strOf {w : World} {s : Sl} {l : List Int} {F : ByteArray → Prop} (h : SeesB w s l) (hb : Byt l) (k : F (baOf l)) : BytesStr w s F := by
  refine ⟨(l.map fun (x : Int) => UInt8.ofNat x.toNat), by rw [List.length_map, h.len], fun hn => ?_, fun i hi => ?_, k⟩
  · by_cases hl : 0 < l.length
    · have := h.isSome (by decide) hl
      rw [hn] at this; cases this
    · rw [List.length_eq_zero_iff.1 (show l.length = 0 by omega)]; rfl
  · rw [List.length_map] at hi
    rw [byteC h i hi, bt_nat hi, List.getElem_map]
    have := hb l[i] (List.getElem_mem hi)
    congr 2
    rw [UInt8.toNat_ofNat', Nat.mod_eq_of_lt (by omega)]
    omega
theorem baOf_back {l : List Int} (hb : Byt l) : (baOf l).data.toList.map (fun u => ((u.toNat : Nat) : Int)) = l := by
  simp only [baOf, List.map_map]
  refine (List.map_congr_left fun x hx => ?_).trans (List.map_id l)
  have := hb x hx
  simp only [Function.comp, UInt8.toNat_ofNat', id]
  rw [Nat.mod_eq_of_lt (by omega)]
  omega
theorem baOf_eq {l m : List Int} (hl : Byt l) (hm : Byt m) : (baOf l == baOf m) = decide (l = m) := by
  by_cases h : l = m
  · subst h
    rw [decide_eq_true rfl]
    show (baOf l).data == (baOf l).data
    simp
  · have eb : ∀ a b : ByteArray, (a == b) = (a.data == b.data) := fun a b => by cases a; cases b; rfl
    rw [decide_eq_false h, eb, beq_eq_false_iff_ne]
    intro e
    apply h
    rw [← baOf_back hl, ← baOf_back hm, e]
theorem alike {w : World} {a b : Sl} {la lb : List Int} {R : Bool → Prop} (ha : SeesB w a la) (hb : SeesB w b lb) (ba : Byt la) (bb : Byt lb) (k : R (decide (la = lb))) :
    BytesStr w a fun x => BytesStr w b fun y => R (x == y) := by
  refine strOf ha ba (strOf hb bb ?_)
  rw [baOf_eq ba bb]
  exact k
end Go.Vc
end

section
namespace Go.Vc
set_option autoImplicit false
set_option linter.unusedVariables false

/-- a number folded -/
def fd (n : Int) : Int := if n = 0 then 0 else (n - 1) % 65535 + 1
theorem fd_range {n : Int} (h : 0 ≤ n) : 0 ≤ fd n ∧ fd n ≤ 65535 := by unfold fd; split <;> omega
theorem fd_id {n : Int} (h : 0 ≤ n) (h1 : n ≤ 65535) : fd n = n := by unfold fd; split <;> omega
theorem fd_step {n : Int} (h : 65535 < n) : fd (n % 65536 + n / 65536) = fd n := by unfold fd; split <;> split <;> omega
theorem fd_add {a b : Int} (ha : 0 ≤ a) (hb : 0 ≤ b) : fd (a + fd b) = fd (a + b) := by unfold fd; repeat' split <;> omega
theorem fd_add' {a b : Int} (ha : 0 ≤ a) (hb : 0 ≤ b) : fd (fd a + b) = fd (a + b) := by rw [Int.add_comm, fd_add hb ha, Int.add_comm]
theorem fd_eq {a b : Int} (ha : 0 ≤ a) (hb : 0 ≤ b) (h : a % 65535 = b % 65535) (hz : a = 0 ↔ b = 0) : fd a = fd b := by unfold fd; split <;> split <;> omega
theorem fd_most {a : Int} (ha : 0 ≤ a) : fd a = 65535 ↔ a ≠ 0 ∧ a % 65535 = 0 := by unfold fd; split <;> omega
theorem fd_zero {a : Int} (ha : 0 ≤ a) : fd a = 0 ↔ a = 0 := by unfold fd; split <;> omega

/-- the weighted sum of bytes; h: the first one is a word's higher half -/
def ws : Bool → List Int → Int
  | _, [] => 0
  | h, b :: r => (if h then b * 256 else b) + ws (!h) r
def par (h : Bool) (n : Nat) : Bool := if n % 2 = 0 then h else !h
theorem par_succ (h : Bool) (n : Nat) : par (!h) n = par h (n + 1) := by
  unfold par
  cases h <;> (split <;> split <;> first | rfl | omega)
theorem par_par (h : Bool) (n m : Nat) : par (par h n) m = par h (n + m) := by
  simp only [par]
  cases h <;> by_cases h1 : n % 2 = 0 <;> by_cases h2 : m % 2 = 0 <;> by_cases h3 : (n + m) % 2 = 0 <;> simp [h1, h2, h3] <;> omega
theorem ws_app : ∀ (a b : List Int) (h : Bool), ws h (a ++ b) = ws h a + ws (par h a.length) b
  | [], b, h => by simp [ws, par]
  | x :: a, b, h => by
    simp only [List.cons_append, ws, ws_app a b (!h), List.length_cons, par_succ]
    omega
theorem ws_snoc (a : List Int) (x : Int) (h : Bool) : ws h (a ++ [x]) = ws h a + (if par h a.length then x * 256 else x) := by
  rw [ws_app]; simp [ws]
theorem ws_nonneg : ∀ {l : List Int} (h : Bool), (∀ x ∈ l, 0 ≤ x ∧ x < 256) → 0 ≤ ws h l ∧ ws h l ≤ 65280 * l.length
  | [], h, _ => by simp [ws]
  | x :: l, h, hb => by
    have ih := ws_nonneg (l := l) (!h) (fun y hy => hb y (by simp [hy]))
    have hx := hb x (by simp)
    simp only [ws, List.length_cons]
    split <;> omega
theorem ws_zero : ∀ {l : List Int} (h : Bool), (∀ x ∈ l, 0 ≤ x ∧ x < 256) → (ws h l = 0 ↔ ∀ x ∈ l, x = 0)
  | [], h, _ => by simp [ws]
  | x :: l, h, hb => by
    have ih := ws_zero (l := l) (!h) (fun y hy => hb y (by simp [hy]))
    have ih2 := ws_nonneg (l := l) (!h) (fun y hy => hb y (by simp [hy]))
    have hx := hb x (by simp)
    simp only [ws, List.mem_cons, forall_eq_or_imp]
    rw [← ih]
    split <;> omega
/-- the document's sum -/
def sumOf (l : List Int) : Int := fd (ws true l)
/-- what a byte weighs -/
def wt (h : Bool) (i : Nat) (x : Int) : Int := if par h i then x * 256 else x
theorem wt_even {q : Nat} (h : q % 2 = 0) (x : Int) : wt true q x = x * 256 := by
  have : par true q = true := by unfold par; rw [if_pos h]
  unfold wt; rw [if_pos this]
theorem wt_odd {q : Nat} (h : q % 2 = 1) (x : Int) : wt true q x = x := by
  have : par true q = false := by unfold par; rw [if_neg (by omega)]; rfl
  unfold wt; rw [if_neg (by rw [this]; decide)]
theorem ws_set : ∀ (l : List Int) (i : Nat) (v : Int) (h : Bool) (hi : i < l.length), ws h (l.set i v) = ws h l - wt h i l[i] + wt h i v
  | x :: l, 0, v, h, _ => by
    simp only [List.set_cons_zero, ws, List.getElem_cons_zero, wt, par]
    cases h <;> simp <;> omega
  | x :: l, i + 1, v, h, hi => by
    have ih := ws_set l i v (!h) (by simpa using hi)
    simp only [List.set_cons_succ, ws, List.getElem_cons_succ, ih]
    simp only [wt, par_succ]
    omega
theorem xor_bit : ∀ b : Fin 256, ∀ k : Fin 8, (b.val ^^^ 2 ^ k.val = b.val + 2 ^ k.val) ∨ (b.val ^^^ 2 ^ k.val) + 2 ^ k.val = b.val := by decide +kernel
/-- no power of two below 2^16 is a multiple of 65535 -/
theorem pow_mod : ∀ k : Fin 8, (2 ^ k.val % 65535 ≠ 0) ∧ (2 ^ k.val * 256 % 65535 ≠ 0) := by decide
end Go.Vc
end

section
namespace Go.Vc
set_option linter.unusedVariables false
set_option linter.unusedSimpArgs false
set_option autoImplicit false
theorem sum_flip {l : List Int} {q k : Nat} (hb : Byt l) (hq : q < l.length) (hk : k < 8) (h : sumOf l = 65535) :
    sumOf (l.set q ((l[q].toNat ^^^ 2 ^ k : Nat) : Int)) ≠ 65535 := by
  have hx := hb _ (List.getElem_mem hq)
  have hb1 : Byt (l.set q ((l[q].toNat ^^^ 2 ^ k : Nat) : Int)) := hb.set _ ⟨by omega, by
    have : l[q].toNat ^^^ 2 ^ k < 2 ^ 8 := Nat.xor_lt_two_pow (by omega) (Nat.pow_lt_pow_right (by omega) hk)
    omega⟩
  have hw := ws_nonneg true hb
  have hw1 := ws_nonneg true hb1
  have e := ws_set l q ((l[q].toNat ^^^ 2 ^ k : Nat) : Int) true hq
  have hx2 := xor_bit ⟨l[q].toNat, by omega⟩ ⟨k, hk⟩
  have hp := pow_mod ⟨k, hk⟩
  simp only at hx2 hp
  unfold sumOf at h ⊢
  rw [fd_most hw.1] at h
  intro h2
  rw [fd_most hw1.1] at h2
  generalize hv : l[q].toNat ^^^ 2 ^ k = v at *
  generalize hy : (2 : Nat) ^ k = y at *
  unfold wt at e
  split at e <;> rcases hx2 with hx2 | hx2 <;> omega
theorem sumOf_r {l : List Int} (hb : Byt l) : 0 ≤ sumOf l ∧ sumOf l ≤ 65535 := fd_range (ws_nonneg true hb).1
/-- a number of two bytes -/
def W16 (l : List Int) (i : Nat) : Int := bt l (i : Int) * 256 + bt l ((i + 1 : Nat) : Int)
theorem W16_r {l : List Int} (h : Byt l) (i : Nat) : 0 ≤ W16 l i ∧ W16 l i ≤ 65535 := by
  have := h.bt (i : Int)
  have := h.bt ((i + 1 : Nat) : Int)
  unfold W16; omega
theorem bt_out {l : List Int} {i : Nat} (h : l.length ≤ i) : bt l (i : Int) = 0 := by
  simp only [bt, Int.toNat_natCast, List.getD_eq_getElem?_getD]
  rw [List.getElem?_eq_none h]; rfl
theorem bt_take {l : List Int} {n i : Nat} (h : i < n) : bt (l.take n) (i : Int) = bt l (i : Int) := by
  simp only [bt, Int.toNat_natCast, List.getD_eq_getElem?_getD]
  rw [List.getElem?_take_of_lt h]
theorem bt_drop (l : List Int) (n i : Nat) : bt (l.drop n) (i : Int) = bt l ((n + i : Nat) : Int) := by
  simp only [bt, Int.toNat_natCast, List.getD_eq_getElem?_getD]
  rw [List.getElem?_drop]
theorem bt_set {l : List Int} {n i : Nat} {v : Int} (h : n < l.length) : bt (l.set n v) (i : Int) = if i = n then v else bt l (i : Int) := by
  simp only [bt, Int.toNat_natCast, List.getD_eq_getElem?_getD]
  by_cases e : i = n
  · subst e; rw [if_pos rfl, List.getElem?_set_self h]; rfl
  · rw [if_neg e, List.getElem?_set_ne (by omega)]
theorem bt_ext {a b : List Int} (hl : a.length = b.length) (h : ∀ i, i < a.length → bt a (i : Int) = bt b (i : Int)) : a = b :=
  List.ext_getElem hl fun i h1 h2 => by have := h i h1; rwa [bt_nat h1, bt_nat h2] at this
end Go.Vc
end

section
namespace Go.Vc
set_option linter.unusedVariables false
set_option linter.unusedSimpArgs false
set_option autoImplicit false

/-! ### IPv4 datagrams, in plain lists -/
structure IpV where
  tos : Int
  id : Int
  df : Bool
  mf : Bool
  off : Int
  ttl : Int
  proto : Int
  sv : Int
  sa : Nat → Int
  dv : Int
  da : Nat → Int
  opts : List Opt
  data : List Int
def ipZ : IpV := ⟨0, 0, false, false, 0, 0, 0, 0, fun _ => 0, 0, fun _ => 0, [], []⟩
def frag (mf : Bool) (off n : Int) : Prop := (mf = true ∧ (n = 0 ∨ n % 8 ≠ 0)) ∨ 65515 < off + n
instance (mf : Bool) (off n : Int) : Decidable (frag mf off n) := by unfold frag; infer_instance
def ok4 (_ n : Int) : Bool := decide (2 ≤ n)
theorem ok4_two : ∀ k n, ok4 k n = true → 2 ≤ n := fun _ _ h => of_decide_eq_true h

def hdN (l : List Int) : Nat := 4 * (bt l 0 % 16).toNat
def totN (l : List Int) : Nat := (W16 l 2).toNat
def obL (l : List Int) : List Int := (l.take (hdN l)).drop 20
def psOf (l : List Int) : List (Nat × Nat) := (optsP ok4 (obL l)).getD []
def mfOf (l : List Int) : Bool := bt l 6 / 32 % 2 == 1
def dfOf (l : List Int) : Bool := bt l 6 / 64 % 2 == 1
def offOf (l : List Int) : Int := 8 * (bt l 6 % 32 * 256 + bt l 7)
/-- what reading answers -/
def ipErr (l : List Int) : Int :=
  if 65535 < l.length then 2 else if l.length < 20 then 60 else if bt l 0 / 16 ≠ 4 then 61
  else if hdN l < 20 ∨ l.length < hdN l then 62 else if totN l < hdN l ∨ l.length < totN l then 63
  else if sumOf (l.take (hdN l)) ≠ 65535 then 64 else if optsP ok4 (obL l) = none then 65
  else if frag (mfOf l) (offOf l) ((totN l : Int) - hdN l) then 66 else 0
/-- the address at a place -/
def adrAt (l : List Int) (o : Nat) : Nat → Int := fun i => if i < 4 then bt l ((o + i : Nat) : Int) else 0
def ipRaw (l : List Int) : IpV := ⟨bt l 1, W16 l 4, dfOf l, mfOf l, offOf l, bt l 8, bt l 9, 4, adrAt l 12, 4, adrAt l 16, (psOf l).map (optAt (obL l)), (l.take (totN l)).drop (hdN l)⟩
def ipOf (l : List Int) : IpV := if ipErr l = 0 then ipRaw l else ipZ

theorem ipErr_ok {l : List Int} (h : ipErr l = 0) : l.length ≤ 65535 ∧ 20 ≤ l.length ∧ bt l 0 / 16 = 4 ∧ 20 ≤ hdN l ∧ hdN l ≤ l.length ∧ hdN l ≤ totN l ∧ totN l ≤ l.length ∧ sumOf (l.take (hdN l)) = 65535 ∧
    optsP ok4 (obL l) = some (psOf l) ∧ ¬ frag (mfOf l) (offOf l) ((totN l : Int) - hdN l) := by
  unfold ipErr at h
  split at h; · cases h
  split at h; · cases h
  split at h; · cases h
  split at h; · cases h
  split at h; · cases h
  split at h; · cases h
  split at h; · cases h
  split at h; · cases h
  rename_i h1 h2 h3 h4 h5 h6 h7 h8
  refine ⟨by omega, by omega, by omega, by omega, by omega, by omega, by omega, by omega, ?_, h8⟩
  unfold psOf
  cases e : optsP ok4 (obL l) with
  | none => exact absurd e h7
  | some x => rfl
theorem ipErr_mk {l : List Int} (h1 : l.length ≤ 65535) (h2 : 20 ≤ l.length) (h3 : bt l 0 / 16 = 4) (h4 : 20 ≤ hdN l) (h5 : hdN l ≤ l.length) (h6 : hdN l ≤ totN l) (h7 : totN l ≤ l.length) (h8 : sumOf (l.take (hdN l)) = 65535)
    (h9 : optsP ok4 (obL l) ≠ none) (h10 : ¬ frag (mfOf l) (offOf l) ((totN l : Int) - hdN l)) : ipErr l = 0 := by
  unfold ipErr
  rw [if_neg (by omega), if_neg (by omega), if_neg (by omega), if_neg (by omega), if_neg (by omega), if_neg (by omega), if_neg h9, if_neg h10]
theorem obL_byt {l : List Int} (h : Byt l) : Byt (obL l) := (h.take _).drop _
theorem obL_len {l : List Int} (h : hdN l ≤ l.length) : (obL l).length = hdN l - 20 := by simp [obL]; omega
theorem hdN_4 (l : List Int) : hdN l % 4 = 0 := by unfold hdN; omega
theorem hdN_le {l : List Int} : hdN l ≤ 60 := by unfold hdN; omega

/-! ### written -/
def four (v : Int) (a : Nat → Int) : Prop := v = 4 ∧ ∀ i, 4 ≤ i → i < 16 → a i = 0
def outN (n hi : Int) : Prop := n < 0 ∨ hi < n
instance (n hi : Int) : Decidable (outN n hi) := by unfold outN; infer_instance
def badF (v : IpV) : Prop := outN v.tos 255 ∨ outN v.id 65535 ∨ outN v.off 65528 ∨ v.off % 8 ≠ 0 ∨ outN v.ttl 255 ∨ outN v.proto 255 ∨ ¬ four v.sv v.sa ∨ ¬ four v.dv v.da
open Classical in
/-- may these values be a datagram? -/
noncomputable def ipChk (v : IpV) : Int :=
  if badF v then 68 else if ¬ putOk v.opts then 65 else if 65535 < 20 + (putO v.opts).length + v.data.length then 63
  else if frag v.mf v.off v.data.length then 66 else 0
def ipWord (v : IpV) : Int := (if v.df then 16384 else 0) + (if v.mf then 8192 else 0) + v.off / 8
def hdL (v : IpV) : Nat := 20 + (putO v.opts).length
/-- the header, with this checksum -/
def ipHd (v : IpV) (c : Int) : List Int :=
  (64 + (hdL v : Int) / 4) :: v.tos :: (((hdL v : Int) + v.data.length) / 256 % 256) :: (((hdL v : Int) + v.data.length) % 256) :: (v.id / 256 % 256) :: (v.id % 256) ::
  (ipWord v / 256 % 256) :: (ipWord v % 256) :: v.ttl :: v.proto :: (c / 256 % 256) :: (c % 256) ::
  v.sa 0 :: v.sa 1 :: v.sa 2 :: v.sa 3 :: v.da 0 :: v.da 1 :: v.da 2 :: v.da 3 :: putO v.opts
def ipCk (v : IpV) : Int := 65535 - sumOf (ipHd v 0)
def ipSer (v : IpV) : List Int := ipHd v (ipCk v) ++ v.data
structure Fit (v : IpV) : Prop where
  sa : ∀ i, i < 16 → 0 ≤ v.sa i ∧ v.sa i < 256
  da : ∀ i, i < 16 → 0 ≤ v.da i ∧ v.da i < 256
  opts : ∀ o ∈ v.opts, Byt o.data
  data : Byt v.data

section
variable {v : IpV}
theorem ipChk_ok (h : ipChk v = 0) : (0 ≤ v.tos ∧ v.tos ≤ 255) ∧ (0 ≤ v.id ∧ v.id ≤ 65535) ∧ (0 ≤ v.off ∧ v.off ≤ 65528 ∧ v.off % 8 = 0) ∧ (0 ≤ v.ttl ∧ v.ttl ≤ 255) ∧ (0 ≤ v.proto ∧ v.proto ≤ 255) ∧ four v.sv v.sa ∧ four v.dv v.da ∧
    putOk v.opts ∧ hdL v + v.data.length ≤ 65535 ∧ ¬ frag v.mf v.off v.data.length := by
  unfold ipChk at h
  split at h; · cases h
  split at h; · cases h
  split at h; · cases h
  split at h; · cases h
  rename_i h1 h2 h3 h4
  unfold badF outN at h1
  have f1 : four v.sv v.sa := Classical.byContradiction fun h => h1 (by simp [h])
  have f2 : four v.dv v.da := Classical.byContradiction fun h => h1 (by simp [h])
  refine ⟨by omega, by omega, by omega, by omega, by omega, f1, f2, Classical.not_not.1 h2, by unfold hdL; omega, h4⟩
theorem ipChk_mk (h1 : ¬ badF v) (h2 : putOk v.opts) (h3 : hdL v + v.data.length ≤ 65535) (h4 : ¬ frag v.mf v.off v.data.length) : ipChk v = 0 := by
  unfold ipChk hdL at *
  rw [if_neg h1, if_neg (Classical.not_not.2 h2), if_neg (by omega), if_neg h4]
theorem ipHd_len (v : IpV) (c : Int) : (ipHd v c).length = hdL v := by simp [ipHd, hdL]; omega
theorem hdL_r (h : putOk v.opts) : 20 ≤ hdL v ∧ hdL v ≤ 60 ∧ hdL v % 4 = 0 := by
  have := putO_len h
  unfold hdL; omega
theorem ipWord_r (h : ipChk v = 0) : 0 ≤ ipWord v ∧ ipWord v < 32768 := by
  have := (ipChk_ok h).2.2.1
  unfold ipWord
  split <;> split <;> omega
theorem ipHd_byt (h : ipChk v = 0) (f : Fit v) (c : Int) : Byt (ipHd v c) := by
  obtain ⟨h1, h2, h3, h4, h5, h6, h7, h8, h9, h10⟩ := ipChk_ok h
  have := hdL_r h8
  have hp := putO_byt f.opts
  have s0 := f.sa 0 (by omega); have s1 := f.sa 1 (by omega); have s2 := f.sa 2 (by omega); have s3 := f.sa 3 (by omega)
  have d0 := f.da 0 (by omega); have d1 := f.da 1 (by omega); have d2 := f.da 2 (by omega); have d3 := f.da 3 (by omega)
  intro x hx
  simp only [ipHd, List.mem_cons] at hx
  rcases hx with rfl | rfl | rfl | rfl | rfl | rfl | rfl | rfl | rfl | rfl | rfl | rfl | rfl | rfl | rfl | rfl | rfl | rfl | rfl | rfl | hx
  all_goals first | omega | exact hp x hx
theorem ws_hd (v : IpV) {c : Int} (h0 : 0 ≤ c) (h1 : c ≤ 65535) : ws true (ipHd v c) = ws true (ipHd v 0) + c := by
  simp only [ipHd, ws]
  simp
  omega
theorem ipCk_r (h : ipChk v = 0) (f : Fit v) : 0 ≤ ipCk v ∧ ipCk v ≤ 65534 ∧ sumOf (ipHd v (ipCk v)) = 65535 := by
  have hb := ipHd_byt h f 0
  have hw := ws_nonneg true hb
  have hpos : 0 < ws true (ipHd v 0) := by
    have h1 : ws true (ipHd v 0) ≠ 0 := fun e => by
      have := (ws_zero true hb).1 e (64 + (hdL v : Int) / 4) (by simp [ipHd])
      omega
    omega
  have hr := fd_range hw.1
  have hz : fd (ws true (ipHd v 0)) ≠ 0 := fun e => by have := (fd_zero hw.1).1 e; omega
  have e1 : ipCk v = 65535 - fd (ws true (ipHd v 0)) := rfl
  refine ⟨by omega, by omega, ?_⟩
  unfold sumOf
  rw [ws_hd v (by omega) (by omega), fd_most (by omega), e1]
  unfold fd
  split <;> omega

/-- what the bytes of a header are -/
theorem hd_bts (v : IpV) (c : Int) (d : List Int) (l : List Int) (hl : l = ipHd v c ++ d) :
    bt l 0 = 64 + (hdL v : Int) / 4 ∧ bt l 1 = v.tos ∧ bt l 2 = ((hdL v : Int) + v.data.length) / 256 % 256 ∧ bt l 3 = ((hdL v : Int) + v.data.length) % 256 ∧ bt l 4 = v.id / 256 % 256 ∧ bt l 5 = v.id % 256 ∧
    bt l 6 = ipWord v / 256 % 256 ∧ bt l 7 = ipWord v % 256 ∧ bt l 8 = v.ttl ∧ bt l 9 = v.proto ∧ bt l 10 = c / 256 % 256 ∧ bt l 11 = c % 256 ∧
    bt l 12 = v.sa 0 ∧ bt l 13 = v.sa 1 ∧ bt l 14 = v.sa 2 ∧ bt l 15 = v.sa 3 ∧ bt l 16 = v.da 0 ∧ bt l 17 = v.da 1 ∧ bt l 18 = v.da 2 ∧ bt l 19 = v.da 3 := by
  subst hl
  refine ⟨rfl, rfl, rfl, rfl, rfl, rfl, rfl, rfl, rfl, rfl, rfl, rfl, rfl, rfl, rfl, rfl, rfl, rfl, rfl, rfl⟩
end

/-- the same datagrams -/
structure IpEq (a b : IpV) : Prop where
  tos : a.tos = b.tos
  id : a.id = b.id
  df : a.df = b.df
  mf : a.mf = b.mf
  off : a.off = b.off
  ttl : a.ttl = b.ttl
  proto : a.proto = b.proto
  sv : a.sv = b.sv
  sa : ∀ i, i < 16 → a.sa i = b.sa i
  dv : a.dv = b.dv
  da : ∀ i, i < 16 → a.da i = b.da i
  opts : a.opts = b.opts
  data : a.data = b.data
theorem IpEq.refl (a : IpV) : IpEq a a := ⟨rfl, rfl, rfl, rfl, rfl, rfl, rfl, rfl, fun _ _ => rfl, rfl, fun _ _ => rfl, rfl, rfl⟩
theorem IpEq.symm {a b : IpV} (h : IpEq a b) : IpEq b a := ⟨h.tos.symm, h.id.symm, h.df.symm, h.mf.symm, h.off.symm, h.ttl.symm, h.proto.symm, h.sv.symm, fun i hi => (h.sa i hi).symm, h.dv.symm, fun i hi => (h.da i hi).symm, h.opts.symm, h.data.symm⟩
theorem IpEq.trans {a b c : IpV} (h : IpEq a b) (k : IpEq b c) : IpEq a c := ⟨h.tos.trans k.tos, h.id.trans k.id, h.df.trans k.df, h.mf.trans k.mf, h.off.trans k.off, h.ttl.trans k.ttl, h.proto.trans k.proto, h.sv.trans k.sv, fun i hi => (h.sa i hi).trans (k.sa i hi), h.dv.trans k.dv, fun i hi => (h.da i hi).trans (k.da i hi), h.opts.trans k.opts, h.data.trans k.data⟩
theorem four_congr {v : Int} {a b : Nat → Int} (h : ∀ i, i < 16 → a i = b i) : four v a = four v b := by
  unfold four
  apply propext
  constructor
  · rintro ⟨h1, h2⟩; exact ⟨h1, fun i h3 h4 => by rw [← h i h4]; exact h2 i h3 h4⟩
  · rintro ⟨h1, h2⟩; exact ⟨h1, fun i h3 h4 => by rw [h i h4]; exact h2 i h3 h4⟩
theorem IpEq.chk {a b : IpV} (h : IpEq a b) : ipChk a = ipChk b := by
  have e1 : badF a = badF b := by
    unfold badF
    rw [h.tos, h.id, h.off, h.ttl, h.proto, h.sv, h.dv, four_congr h.sa, four_congr h.da]
  unfold ipChk
  rw [e1, h.opts, h.data, h.mf, h.off]
theorem IpEq.hd {a b : IpV} (h : IpEq a b) (c : Int) : ipHd a c = ipHd b c := by
  unfold ipHd hdL ipWord
  rw [h.tos, h.id, h.off, h.ttl, h.proto, h.df, h.mf, h.opts, h.data, h.sa 0 (by omega), h.sa 1 (by omega), h.sa 2 (by omega), h.sa 3 (by omega), h.da 0 (by omega), h.da 1 (by omega), h.da 2 (by omega), h.da 3 (by omega)]
theorem IpEq.ser {a b : IpV} (h : IpEq a b) : ipSer a = ipSer b := by
  unfold ipSer ipCk
  rw [h.hd, h.hd, h.data]
end Go.Vc
end

section
namespace Go.Vc
set_option linter.unusedVariables false
set_option linter.unusedSimpArgs false
set_option autoImplicit false

section
variable {v : IpV}
theorem ser_len (v : IpV) : (ipSer v).length = hdL v + v.data.length := by unfold ipSer; rw [List.length_append, ipHd_len]
theorem ser_hdN (h : ipChk v = 0) : hdN (ipSer v) = hdL v ∧ totN (ipSer v) = hdL v + v.data.length := by
  obtain ⟨_, _, _, _, _, _, _, h8, h9, _⟩ := ipChk_ok h
  have hr := hdL_r h8
  obtain ⟨b0, b1, b2, b3, _⟩ := hd_bts v (ipCk v) v.data (ipSer v) rfl
  unfold hdN totN W16
  rw [b0]
  rw [show ((2 : Nat) : Int) = 2 from rfl, show ((2 + 1 : Nat) : Int) = 3 from rfl, b2, b3]
  omega
theorem ser_take (h : ipChk v = 0) : (ipSer v).take (hdL v) = ipHd v (ipCk v) ∧ (ipSer v).drop (hdL v) = v.data ∧ obL (ipSer v) = putO v.opts := by
  have e1 : (ipSer v).take (hdL v) = ipHd v (ipCk v) := by unfold ipSer; rw [← ipHd_len v (ipCk v), List.take_left]
  refine ⟨e1, by unfold ipSer; rw [← ipHd_len v (ipCk v), List.drop_left], ?_⟩
  unfold obL
  rw [(ser_hdN h).1, e1]
  rfl
theorem ser_parts (h : ipChk v = 0) : dfOf (ipSer v) = v.df ∧ mfOf (ipSer v) = v.mf ∧ offOf (ipSer v) = v.off := by
  obtain ⟨_, _, h3, _⟩ := ipChk_ok h
  obtain ⟨_, _, _, _, _, _, b6, b7, _⟩ := hd_bts v (ipCk v) v.data (ipSer v) rfl
  unfold dfOf mfOf offOf
  rw [b6, b7]
  unfold ipWord
  cases v.df <;> cases v.mf <;> simp <;> omega
theorem ser_err (h : ipChk v = 0) (f : Fit v) : ipErr (ipSer v) = 0 := by
  obtain ⟨_, _, _, _, _, _, _, h8, h9, h10⟩ := ipChk_ok h
  have hr := hdL_r h8
  obtain ⟨e1, e2⟩ := ser_hdN h
  obtain ⟨t1, t2, t3⟩ := ser_take h
  obtain ⟨p1, p2, p3⟩ := ser_parts h
  obtain ⟨b0, _⟩ := hd_bts v (ipCk v) v.data (ipSer v) rfl
  have hl := ser_len v
  refine ipErr_mk (by omega) (by omega) (by rw [b0]; omega) (by omega) (by omega) (by omega) (by omega) ?_ ?_ ?_
  · rw [e1, t1]; exact (ipCk_r h f).2.2
  · rw [t3]
    obtain ⟨ps, q1, _⟩ := optsP_put (ok := ok4) h8 (fun o _ => decide_eq_true (by omega))
    rw [q1]; simp
  · rw [p2, p3, e1, e2]
    rw [show ((hdL v + v.data.length : Nat) : Int) - (hdL v : Int) = (v.data.length : Int) by omega]
    exact h10
/-- what is written is read as it was -/
theorem ser_eq (h : ipChk v = 0) (f : Fit v) : IpEq (ipOf (ipSer v)) v := by
  obtain ⟨h1, h2, h3, h4, h5, h6, h7, h8, h9, h10⟩ := ipChk_ok h
  obtain ⟨e1, e2⟩ := ser_hdN h
  obtain ⟨t1, t2, t3⟩ := ser_take h
  obtain ⟨p1, p2, p3⟩ := ser_parts h
  obtain ⟨b0, b1, b2, b3, b4, b5, b6, b7, b8, b9, b10, b11, b12, b13, b14, b15, b16, b17, b18, b19⟩ := hd_bts v (ipCk v) v.data (ipSer v) rfl
  obtain ⟨ps, q1, q2⟩ := optsP_put (ok := ok4) h8 (fun o _ => decide_eq_true (by omega))
  unfold ipOf
  rw [if_pos (ser_err h f)]
  unfold ipRaw
  refine ⟨b1, ?_, p1, p2, p3, b8, b9, h6.1.symm, ?_, h7.1.symm, ?_, ?_, ?_⟩
  · show W16 (ipSer v) 4 = v.id
    unfold W16
    rw [show ((4 : Nat) : Int) = 4 from rfl, show ((4 + 1 : Nat) : Int) = 5 from rfl, b4, b5]
    omega
  · intro i hi
    show adrAt (ipSer v) 12 i = v.sa i
    unfold adrAt
    split
    · rcases (by omega : i = 0 ∨ i = 1 ∨ i = 2 ∨ i = 3) with rfl | rfl | rfl | rfl
      · exact b12
      · exact b13
      · exact b14
      · exact b15
    · exact (h6.2 i (by omega) hi).symm
  · intro i hi
    show adrAt (ipSer v) 16 i = v.da i
    unfold adrAt
    split
    · rcases (by omega : i = 0 ∨ i = 1 ∨ i = 2 ∨ i = 3) with rfl | rfl | rfl | rfl
      · exact b16
      · exact b17
      · exact b18
      · exact b19
    · exact (h7.2 i (by omega) hi).symm
  · show (psOf (ipSer v)).map (optAt (obL (ipSer v))) = v.opts
    unfold psOf
    rw [t3, q1]
    exact q2
  · show ((ipSer v).take (totN (ipSer v))).drop (hdN (ipSer v)) = v.data
    rw [e1, e2, ← ser_len v, List.take_length, t2]
end

section
variable {l : List Int}
theorem ipOf_fit (hb : Byt l) : Fit (ipOf l) := by
  unfold ipOf
  split
  · refine ⟨fun i hi => ?_, fun i hi => ?_, fun o ho => ?_, (hb.take _).drop _⟩
    · show 0 ≤ adrAt l 12 i ∧ adrAt l 12 i < 256
      unfold adrAt
      split
      · exact hb.bt _
      · omega
    · show 0 ≤ adrAt l 16 i ∧ adrAt l 16 i < 256
      unfold adrAt
      split
      · exact hb.bt _
      · omega
    · obtain ⟨p, _, rfl⟩ := List.mem_map.1 ho
      exact ((obL_byt hb).take _).drop _
  · exact ⟨by simp [ipZ], by simp [ipZ], by simp [ipZ], by simp [ipZ, Byt]⟩
theorem ipOf_ok (h : ipErr l = 0) : ipOf l = ipRaw l := by unfold ipOf; rw [if_pos h]
/-- what is read may be written -/
theorem parse_chk (hb : Byt l) (h : ipErr l = 0) : ipChk (ipOf l) = 0 ∧ hdL (ipOf l) ≤ hdN l ∧ (ipOf l).data.length = totN l - hdN l := by
  obtain ⟨h1, h2, h3, h4, h5, h6, h7, h8, h9, h10⟩ := ipErr_ok h
  obtain ⟨o1, o2⟩ := optsP_ok ok4_two (obL_byt hb) h9
  have hol := obL_len h5
  have h4' := hdN_4 l
  have o3 := putO_le ok4_two (obL_byt hb) (by omega) h9
  have hd : ((l.take (totN l)).drop (hdN l)).length = totN l - hdN l := by simp; omega
  have b1 := hb.bt 1; have b6 := hb.bt 6; have b7 := hb.bt 7; have b8 := hb.bt 8; have b9 := hb.bt 9
  have w4 := W16_r hb 4
  have hhd : hdL (ipRaw l) ≤ hdN l := by
    show 20 + (putO ((psOf l).map (optAt (obL l)))).length ≤ hdN l
    omega
  rw [ipOf_ok h]
  refine ⟨ipChk_mk ?_ o1 ?_ ?_, hhd, hd⟩
  · unfold badF outN four ipRaw offOf
    simp only
    have fa : ∀ o i : Nat, 4 ≤ i → i < 16 → adrAt l o i = 0 := fun o i h _ => by unfold adrAt; rw [if_neg (by omega)]
    rintro (x | x | x | x | x | x | x | x)
    · omega
    · omega
    · omega
    · omega
    · omega
    · omega
    · exact x ⟨trivial, fa 12⟩
    · exact x ⟨trivial, fa 16⟩
  · show hdL (ipRaw l) + ((l.take (totN l)).drop (hdN l)).length ≤ 65535
    omega
  · show ¬ frag (mfOf l) (offOf l) (((l.take (totN l)).drop (hdN l)).length : Nat)
    rw [hd]
    rw [show ((totN l - hdN l : Nat) : Int) = (totN l : Int) - hdN l by omega]
    exact h10
/-- written again it is no longer -/
theorem parse_len (hb : Byt l) (h : ipErr l = 0) : (ipSer (ipOf l)).length ≤ l.length := by
  obtain ⟨_, h2, h3⟩ := parse_chk hb h
  obtain ⟨_, _, _, _, _, h6, h7, _⟩ := ipErr_ok h
  rw [ser_len, h3]; omega
/-- is it what is written? -/
def ipCan (l : List Int) : Prop := ipErr l = 0 ∧ l = ipSer (ipOf l)
theorem can_ser {v : IpV} (h : ipChk v = 0) (f : Fit v) : ipCan (ipSer v) := ⟨ser_err h f, (ser_eq h f).ser.symm⟩

/-! ### one hop -/
def hopCk (l : List Int) : Int := 65535 - fd (130814 - W16 l 10)
def ipHop (l : List Int) : List Int := ((l.set 8 (bt l 8 - 1)).set 10 (hopCk l / 256)).set 11 (hopCk l % 256)
theorem hopCk_r (hb : Byt l) : 0 ≤ hopCk l ∧ hopCk l ≤ 65535 := by
  have := W16_r hb 10
  have := fd_range (n := 130814 - W16 l 10) (by omega)
  unfold hopCk; omega
theorem hop_len (l : List Int) : (ipHop l).length = l.length := by simp [ipHop]
theorem hop_byt (hb : Byt l) (ht : 2 ≤ bt l 8) : Byt (ipHop l) := by
  have := hopCk_r hb
  have := hb.bt 8
  exact ((hb.set _ (by omega)).set _ (by omega)).set _ (by omega)
theorem hop_bt (h : 20 ≤ l.length) (i : Nat) : bt (ipHop l) (i : Int) = if i = 11 then hopCk l % 256 else if i = 10 then hopCk l / 256 else if i = 8 then bt l 8 - 1 else bt l (i : Int) := by
  unfold ipHop
  rw [bt_set (by simp; omega), bt_set (by simp; omega), bt_set (by omega)]
theorem hop_bt' (h : 20 ≤ l.length) (i : Nat) (h1 : i ≠ 11) (h2 : i ≠ 10) (h3 : i ≠ 8) : bt (ipHop l) (i : Int) = bt l (i : Int) := by
  rw [hop_bt h, if_neg h1, if_neg h2, if_neg h3]
theorem set_take_drop {l : List Int} {n a b : Nat} {v : Int} (h : n < b) : ((l.set n v).take a).drop b = (l.take a).drop b := by
  rw [List.take_set, List.drop_set_of_lt h]
theorem hop_cut {a b : Nat} (h : 11 < b) : ((ipHop l).take a).drop b = (l.take a).drop b := by
  unfold ipHop
  rw [set_take_drop (by omega), set_take_drop (by omega), set_take_drop (by omega)]
theorem hop_take {a : Nat} : (ipHop l).take a = (((l.take a).set 8 (bt l 8 - 1)).set 10 (hopCk l / 256)).set 11 (hopCk l % 256) := by
  unfold ipHop
  rw [List.take_set, List.take_set, List.take_set]
theorem hop_ws (hb : Byt l) {n : Nat} (hn : 12 ≤ n) (h : n ≤ l.length) : ws true ((ipHop l).take n) = ws true (l.take n) - 256 - W16 l 10 + hopCk l := by
  have e8 : (l.take n)[8]'(by simp; omega) = bt l ((8 : Nat) : Int) := by rw [bt_nat (by omega)]; simp
  have e10 : (l.take n)[10]'(by simp; omega) = bt l ((10 : Nat) : Int) := by rw [bt_nat (by omega)]; simp
  have e11 : (l.take n)[11]'(by simp; omega) = bt l ((11 : Nat) : Int) := by rw [bt_nat (by omega)]; simp
  rw [hop_take, ws_set _ _ _ _ (by simp; omega), ws_set _ _ _ _ (by simp; omega), ws_set _ _ _ _ (by simp; omega)]
  rw [List.getElem_set_ne (by omega), List.getElem_set_ne (by omega), List.getElem_set_ne (by omega)]
  rw [e8, e10, e11]
  rw [wt_even (by omega), wt_even (by omega), wt_even (by omega), wt_even (by omega), wt_odd (by omega), wt_odd (by omega)]
  have := hopCk_r hb
  unfold W16
  rw [show ((8 : Nat) : Int) = 8 from rfl, show ((10 + 1 : Nat) : Int) = ((11 : Nat) : Int) from rfl]
  omega
/-- the document's sum, reckoned anew, is the same -/
theorem hop_anew (hb : Byt l) (h : ipErr l = 0) (ht : 2 ≤ bt l 8) : 65535 - sumOf ((l.set 8 (bt l 8 - 1)).take 10 ++ ((l.set 8 (bt l 8 - 1)).take (hdN l)).drop 12) = hopCk l ∧ sumOf ((ipHop l).take (hdN l)) = 65535 := by
  obtain ⟨_, _, h3, h4, h5, _, _, h8, _⟩ := ipErr_ok h
  have b8 := hb.bt 8
  have w10 := W16_r hb 10
  have b0 := hb.bt 0
  -- the bytes without the sum
  generalize hc : l.set 8 (bt l 8 - 1) = c
  have hcb : Byt c := by rw [← hc]; exact hb.set _ (by omega)
  have hcl : c.length = l.length := by rw [← hc]; simp
  have hcw : ws true (c.take (hdN l)) = ws true (l.take (hdN l)) - 256 := by
    rw [← hc, List.take_set, ws_set _ _ _ _ (by simp; omega)]
    have e8 : (l.take (hdN l))[8]'(by simp; omega) = bt l ((8 : Nat) : Int) := by rw [bt_nat (by omega)]; simp
    rw [e8, wt_even (by omega), wt_even (by omega), show ((8 : Nat) : Int) = 8 from rfl]
    omega
  have split3 : ws true (c.take (hdN l)) = ws true (c.take 10) + W16 c 10 + ws true ((c.take (hdN l)).drop 12) := by
    have e : c.take (hdN l) = c.take 10 ++ (((c.take (hdN l)).drop 10).take 2 ++ (c.take (hdN l)).drop 12) := by
      have e1 : (c.take (hdN l)).drop 12 = ((c.take (hdN l)).drop 10).drop 2 := by rw [List.drop_drop]
      rw [e1, List.take_append_drop]
      have e2 : c.take 10 = (c.take (hdN l)).take 10 := by rw [List.take_take]; congr 1; omega
      rw [e2, List.take_append_drop]
    have e2 : ((c.take (hdN l)).drop 10).take 2 = [bt c ((10 : Nat) : Int), bt c ((11 : Nat) : Int)] := by
      refine List.ext_getElem (by simp; omega) fun i h1 h2 => ?_
      simp at h2
      rcases (by omega : i = 0 ∨ i = 1) with rfl | rfl
      · simp only [List.getElem_take, List.getElem_drop, List.getElem_cons_zero]
        rw [bt_nat (by omega)]
      · simp only [List.getElem_take, List.getElem_drop, List.getElem_cons_succ, List.getElem_cons_zero]
        rw [bt_nat (by omega)]
    rw [e, ws_app, ws_app, e2]
    have p1 : par true (c.take 10).length = true := by unfold par; rw [if_pos (by simp; omega)]
    rw [p1]
    have e5 : (c.take 10 ++ ([bt c ((10 : Nat) : Int), bt c ((11 : Nat) : Int)] ++ (c.take (hdN l)).drop 12)).drop 12 = (c.take (hdN l)).drop 12 := by
      have hl10 : (c.take 10).length = 10 := by simp; omega
      rw [List.drop_append, List.drop_of_length_le (by omega), hl10]
      simp
    rw [e5]
    simp [ws, par, W16]
    omega
  have hcW : W16 c 10 = W16 l 10 := by
    unfold W16
    rw [← hc, bt_set (by omega), bt_set (by omega), if_neg (by omega), if_neg (by omega)]
  have hA : Byt (c.take 10 ++ (c.take (hdN l)).drop 12) := (hcb.take _).app ((hcb.take _).drop _)
  have hwA : ws true (c.take 10 ++ (c.take (hdN l)).drop 12) = ws true (c.take 10) + ws true ((c.take (hdN l)).drop 12) := by
    rw [ws_app]
    have p1 : par true (c.take 10).length = true := by unfold par; rw [if_pos (by simp; omega)]
    rw [p1]
  have hwl := ws_nonneg true (hb.take (hdN l))
  have hwA0 := ws_nonneg true hA
  -- not all are 0
  have hpos : ws true (c.take 10 ++ (c.take (hdN l)).drop 12) ≠ 0 := fun e => by
    have := (ws_zero true hA).1 e (bt l 0) (by
      refine List.mem_append.2 (.inl ?_)
      have : (c.take 10)[0]'(by simp; omega) = bt l ((0 : Nat) : Int) := by
        rw [List.getElem_take, ← bt_nat (by omega), ← hc, bt_set (by omega), if_neg (by omega)]
      have h2 := List.getElem_mem (l := c.take 10) (n := 0) (by simp; omega)
      rw [this] at h2
      exact h2)
    omega
  unfold sumOf at h8
  rw [fd_most hwl.1] at h8
  have hck : fd (130814 - W16 l 10) = fd (ws true (c.take 10 ++ (c.take (hdN l)).drop 12)) := by
    refine fd_eq (by omega) hwA0.1 ?_ (by omega)
    omega
  have hr := fd_range hwA0.1
  have e1 : 65535 - sumOf (c.take 10 ++ (c.take (hdN l)).drop 12) = hopCk l := by
    unfold sumOf hopCk
    rw [hck]
  refine ⟨e1, ?_⟩
  have hw2 := hop_ws hb (n := hdN l) (by omega) h5
  have hkr := hopCk_r hb
  unfold sumOf
  rw [hw2, fd_most (by omega)]
  unfold hopCk at *
  rw [hck]
  unfold fd
  split <;> omega
/-- one hop, and it reads as it was, but for the hops -/
theorem hop_ok (hb : Byt l) (h : ipErr l = 0) (ht : 2 ≤ bt l 8) : ipErr (ipHop l) = 0 ∧ ipOf (ipHop l) = { ipOf l with ttl := (ipOf l).ttl - 1 } := by
  obtain ⟨h1, h2, h3, h4, h5, h6, h7, h8, h9, h10⟩ := ipErr_ok h
  have hl := hop_len l
  have g : ∀ i : Nat, i ≠ 11 → i ≠ 10 → i ≠ 8 → bt (ipHop l) (i : Int) = bt l (i : Int) := fun i => hop_bt' h2 i
  have g0 : bt (ipHop l) 0 = bt l 0 := g 0 (by omega) (by omega) (by omega)
  have e1 : hdN (ipHop l) = hdN l := by unfold hdN; rw [g0]
  have e2 : totN (ipHop l) = totN l := by unfold totN W16; rw [g 2 (by omega) (by omega) (by omega), g 3 (by omega) (by omega) (by omega)]
  have g6 : bt (ipHop l) 6 = bt l 6 := g 6 (by omega) (by omega) (by omega)
  have g7 : bt (ipHop l) 7 = bt l 7 := g 7 (by omega) (by omega) (by omega)
  have e3 : mfOf (ipHop l) = mfOf l := by unfold mfOf; rw [g6]
  have e4 : offOf (ipHop l) = offOf l := by unfold offOf; rw [g6, g7]
  have e5 : dfOf (ipHop l) = dfOf l := by unfold dfOf; rw [g6]
  have e6 : obL (ipHop l) = obL l := by unfold obL; rw [e1]; exact hop_cut (by omega)
  have e7 : psOf (ipHop l) = psOf l := by unfold psOf; rw [e6]
  have k : ipErr (ipHop l) = 0 := ipErr_mk (by omega) (by omega) (by rw [g0]; omega) (by omega) (by omega) (by omega) (by omega) (by rw [e1]; exact (hop_anew hb h ht).2) (by rw [e6, h9]; simp) (by rw [e3, e4, e1, e2]; exact h10)
  refine ⟨k, ?_⟩
  rw [ipOf_ok h, ipOf_ok k]
  unfold ipRaw
  rw [e3, e4, e5, e6, e7, e1, e2, hop_cut (by omega)]
  have ga : ∀ o, 12 ≤ o → adrAt (ipHop l) o = adrAt l o := fun o ho => by
    funext i
    unfold adrAt
    split
    · exact g _ (by omega) (by omega) (by omega)
    · rfl
  have g8 := hop_bt h2 8
  have g9 : bt (ipHop l) 9 = bt l 9 := g 9 (by omega) (by omega) (by omega)
  have g1 : bt (ipHop l) 1 = bt l 1 := g 1 (by omega) (by omega) (by omega)
  have gw : W16 (ipHop l) 4 = W16 l 4 := by unfold W16; rw [g 4 (by omega) (by omega) (by omega), g 5 (by omega) (by omega) (by omega)]
  rw [if_neg (by omega), if_neg (by omega), if_pos rfl] at g8
  have g8' : bt (ipHop l) 8 = bt l 8 - 1 := g8
  rw [ga 12 (by omega), ga 16 (by omega), g9, g1, gw, g8']
end
end Go.Vc
end

section
open Go Go.Vc Go.Proofs
set_option linter.unusedVariables false
set_option linter.unusedSimpArgs false
set_option autoImplicit false
namespace Go.Vc.S6

theorem c24 {a b : Sl} {la lb : List Int} {w : World} {R : SV → World → Prop} (ha : SeesB w a la) (hb : SeesB w b lb) (ba : Byt la) (bb : Byt lb) (k : R (.bool (decide (la = lb))) w) : Ret Tryd.prog 24 [.slice a, .slice b] w R := by
  refine f24_of _ _ _ _ ?_
  unfold vc24
  exact alike (R := fun x => R (.bool x) w) ha hb ba bb k

theorem c23 {b : Sl} {l : List Int} {w : World} {R : SV → World → Prop} (h : SeesB w b l) (hl : l.length ≤ 140737488355328) (k : ∀ s w1, Upd [] [] w w1 → SeesB w1 s l → Own w.heap.size 1 w1 s → R (.slice s) w1) : Ret Tryd.prog 23 [.slice b] w R := by
  refine f23_of _ _ _ ?_
  unfold vc23
  refine append_own (c := cU8) (l := []) (Sees.nil _ _ _ _) (Own.none w.heap.size _ _) h (Nat.le_refl _) (by simp) (by decide) (by simpa using hl) fun r w1 hr ho u _ => ?_
  exact k r w1 (by simpa [Sl.blk] using u) (by simpa using hr) ho

/-- are they the same options? -/
theorem c51 {a b : Sl} {la lb : List Opt} {oa ob : List (Int × Sl)} {w : World} {R : SV → World → Prop} (ha : Opts w a la oa) (hb : Opts w b lb ob) (ba : ∀ o ∈ la, Byt o.data) (bb : ∀ o ∈ lb, Byt o.data) (hl : la.length < 9223372036854775807)
    (k : ∀ w1, Upd [] [] w w1 → R (.bool (decide (la = lb))) w1) : Ret Tryd.prog 51 [.slice a, .slice b] w R := by
  refine f51_of _ _ _ _ ?_
  unfold vc51
  have hal := ha.slen
  have hbl := hb.slen
  refine bre' (fun hne => ?_) (fun heq => ?_)
  · have : la ≠ lb := fun e => hne (by rw [hal, hbl, e])
    rw [decide_eq_false this] at k
    exact k _ (Upd.refl w)
  · have hll : la.length = lb.length := by omega
    refine ⟨fun i w1 => Upd [] [] w w1 ∧ ∃ q : Nat, i = q ∧ q ≤ la.length ∧ ∀ j (h : j < q) (h1 : j < la.length) (h2 : j < lb.length), la[j] = lb[j], fun i _ => (la.length - i).toNat, ⟨Upd.refl w, 0, rfl, by omega, fun j h => by omega⟩, ?_⟩
    rintro i w1 ⟨u, q, rfl, hq, he⟩
    have ha1 := ha.old u
    have hb1 := hb.old u
    refine brd (fun hlt => ?_) (fun hge => ?_)
    · intro J hJ
      have g1 : q < la.length := by omega
      have g2 : q < lb.length := by omega
      obtain ⟨a1, a2, a3, a4⟩ := ha1.get q g1
      obtain ⟨b1, b2, b3, b4⟩ := hb1.get q g2
      refine needO ha1 (by omega) (by omega) ⟨_, (by rw [Int.toNat_natCast]; exact a2), needO hb1 (by omega) (by omega) ⟨_, (by rw [Int.toNat_natCast]; exact b2), fun w2 u2 => ?_⟩⟩
      refine c24 (a3.old u2) (b3.old u2) (ba _ (List.getElem_mem g1)) (bb _ (List.getElem_mem g2)) ⟨_, rfl, ?_⟩
      have a1' := ((ha1.old u2).get q g1).1
      have b1' := ((hb1.old u2).get q g2).1
      have v2 := u.then u2
      refine needO (ha1.old u2) (by omega) (by omega) ⟨_, (by rw [Int.toNat_natCast]; exact a1'), needO (hb1.old u2) (by omega) (by omega) ⟨_, (by rw [Int.toNat_natCast]; exact b1'), ?_⟩⟩
      have bad : la[q] ≠ lb[q] → ∀ w3, Upd [] [] w2 w3 → R (.bool false) w3 := fun hne w3 u3 => by
        have : la ≠ lb := fun e => hne (by subst e; rfl)
        rw [decide_eq_false this] at k
        exact k _ (v2.then u3)
      refine bre' (fun hk => bad (fun e => hk (by rw [e]))) (fun hk => brn (fun hd => bad (fun e => by rw [e] at hd; simp at hd)) (fun hd => fun w3 u3 => hJ _ ⟨⟨v2.then u3, q + 1, wr_succ (by omega), by omega, fun j h h1 h2 => ?_⟩, by rw [wr_succ (q := q) (by omega)]; (try dsimp only); omega⟩))
      by_cases e : j = q
      · subst e
        have hd' : la[j].data = lb[j].data := of_decide_eq_true hd
        have e1 : la[j] = ⟨la[j].kind, la[j].data⟩ := rfl
        rw [e1, hk, hd']
      · exact he j (by omega) h1 h2
    · have : la = lb := List.ext_getElem hll fun j h1 h2 => he j (by omega) h1 h2
      rw [decide_eq_true this] at k
      exact k _ u

theorem optRow {w : World} {b e n cap : Nat} {f : Nat × Nat} {cs : List Value} {x : Int} {s : Sl} (h : w.heap[b]? = some (.cells cs.toArray e f)) (hc : cs = [.int .i64 x, s.val]) (hn : n = 1) : Sees cOpt w ⟨some ⟨b, 0, none⟩, n, cap⟩ [(x, s)] :=
  sees_row h [(x, s)] hc hn

/-- options in new memory -/
theorem c65 {a : Sl} {l : List Opt} {os : List (Int × Sl)} {w : World} {R : SV → World → Prop} (h : Opts w a l os) (hl : l.length ≤ 4398046511104) (hd : ∀ o ∈ l, o.data.length ≤ 140737488355328)
    (k : ∀ s os w1, Upd [] [] w w1 → Opts w1 s l os → Own w.heap.size 2 w1 s → (∀ x ∈ os, Own w.heap.size 1 w1 x.2) → R (.slice s) w1) : Ret Tryd.prog 65 [.slice a] w R := by
  refine f65_of _ _ _ ?_
  unfold vc65
  have hal := h.slen
  refine ⟨fun s i w1 => Upd [] [] w w1 ∧ Own w.heap.size 2 w1 s ∧ ∃ (q : Nat) (os : List (Int × Sl)), i = q ∧ q ≤ l.length ∧ Opts w1 s (l.take q) os ∧ (∀ x ∈ os, Own w.heap.size 1 w1 x.2) ∧ (∀ x ∈ os, ∀ b ∈ x.2.blk, b ∉ s.blk), fun _ i _ => (l.length - i).toNat,
    ⟨Upd.refl w, Own.none _ _ _, 0, [], rfl, by omega, Opts.nil _ _ _, by simp, by simp⟩, ?_⟩
  rintro s i w1 ⟨u, o, q, os', rfl, hq, ho, hos, hap⟩
  have h1 := h.old u
  refine brd (fun hlt => ?_) (fun hge => ?_)
  · have hq2 : q < l.length := by omega
    obtain ⟨g1, g2, g3, g4⟩ := h1.get q hq2
    refine needO h1 (by omega) (by omega) ⟨_, (by rw [Int.toNat_natCast]; exact g1), needO h1 (by omega) (by omega) ⟨_, (by rw [Int.toNat_natCast]; exact g2), fun w2 u2 => ?_⟩⟩
    refine c23 (g3.old u2) (hd _ (List.getElem_mem hq2)) fun d w3 u3 hs3 ho3 => ⟨_, rfl, u2.then u3, ?_⟩
    have v3 := (u.then u2).then u3
    intro b w4 u4 hr4
    have v4 := v3.then u4
    have y2 := u2.size; have y3 := u3.size; have y4 := u4.size
    have o4 := ((o.old u2).old u3).old u4
    have hO4 := ((ho.old u2).old u3).old u4
    refine append_own (c := cOpt) (new := [(l[q].kind, d)]) hO4.row o4 (optRow hr4 rfl rfl) v4.size (by simp) (by decide) (by simp [hO4.len]; omega) fun r w5 hr ho5 u5 hn => ?_
    have dis : ∀ x ∈ d.blk, x ∉ s.blk := fun x hx hm => by have := (ho3.blk x hx).1; have := (o.blk x hm).2; omega
    have hd5 := (hs3.old u4).upd u5 dis
    have hOs := Opts.snoc (o := l[q]) hO4 hr hd5 (fun j h2 => (hO4.each j h2).upd u5 (hap _ (List.getElem_mem _)))
    refine ⟨⟨v4.step0 u5 (fun x hx => (o.blk x hx).1), ho5, q + 1, os' ++ [(l[q].kind, d)], wr_succ (by omega), by omega, by rw [take_snoc hq2]; exact hOs, ?_, ?_⟩, by rw [wr_succ (q := q) (by omega)]; (try dsimp only); omega⟩
    · intro x hx
      rcases List.mem_append.1 hx with hx | hx
      · exact ((((hos x hx).old u2).old u3).old u4).upd u5 (hap x hx)
      · rw [List.mem_singleton] at hx
        subst hx
        exact ((ho3.old u4).upd u5 dis).mono (by have := u.size; omega)
    · intro x hx b' hb' hm
      rcases List.mem_append.1 hx with hx | hx
      · rcases hn b' hm with h' | h'
        · exact hap x hx b' hb' h'
        · have := ((hos x hx).blk b' hb').2; omega
      · rw [List.mem_singleton] at hx
        subst hx
        rcases hn b' hm with h' | h'
        · exact dis b' hb' h'
        · have := (ho3.blk b' hb').2; omega
  · have : q = l.length := by omega
    subst this
    rw [List.take_length] at ho
    exact k s os' w1 u ho o hos

/-- what PutOptions answers -/
def putL (l : List Opt) : List Int := if putOk l then putO l else []
def putE (l : List Opt) : Int := if putOk l then 0 else 65
theorem putL_len (l : List Opt) : (putL l).length ≤ 40 := by
  unfold putL
  split
  · rename_i h; exact (putO_len h).1
  · simp
theorem flatMap_snoc {l : List Opt} {q : Nat} (h : q < l.length) : (l.take (q + 1)).flatMap optB = (l.take q).flatMap optB ++ optB l[q] := by rw [take_snoc h, List.flatMap_append]; simp [List.flatMap_cons]
theorem flatMap_le (l : List Opt) (q : Nat) : ((l.take q).flatMap optB).length ≤ (l.flatMap optB).length := by
  have := congrArg List.length (congrArg (fun x => x.flatMap optB) (List.take_append_drop q l))
  simp only [List.flatMap_append, List.length_append] at this
  omega

/-- the zeros behind -/
theorem pad_loop {w w0 : World} {s : Sl} {l : List Int} {e e' : Nat} {K : Sl → World → Prop} {D : Sl → Bool} {C : (Sl → World → Prop) → (Sl → World → Nat) → Sl → World → Sl → World → Prop}
    (u : Upd [] [] w0 w) (h : SeesB w s l) (o : Own w0.heap.size 1 w s) (hl : l.length ≤ 200000000000000)
    (hD : ∀ s, D s = decide (s.len % 4 ≠ 0))
    (hC : ∀ (I : Sl → World → Prop) (M : Sl → World → Nat) s w r w', I r w' → M r w' < M s w → C I M s w r w')
    (k : ∀ s w1, Upd [] [] w0 w1 → SeesB w1 s (pad4 l) → Own w0.heap.size 1 w1 s → K s w1) :
    ∃ (I : Sl → World → Prop), ∃ (M : Sl → World → Nat), I s w ∧ ∀ (s : Sl) (w1 : World), I s w1 →
      Br (D s) (∀ (b : Nat) (w2 : World), Upd [] [b] w1 w2 → w2.heap[b]? = some (.cells (SV.struct [.int .u8 0]).cells.toArray e (0, 0)) → Append e' 1 1 s ⟨some ⟨b, 0, none⟩, 1, 1⟩ [] w2 fun r w3 => C I M s w1 r w3) (K s w1) := by
  refine ⟨fun s w1 => Upd [] [] w0 w1 ∧ Own w0.heap.size 1 w1 s ∧ ∃ n : Nat, n ≤ (4 - l.length % 4) % 4 ∧ SeesB w1 s (l ++ List.replicate n 0), fun s _ => (4 - s.len % 4) % 4, ⟨u, o, 0, by omega, by simpa using h⟩, ?_⟩
  rintro s w1 ⟨u, o, n, hn, hs⟩
  have hlen := hs.len
  rw [List.length_append, List.length_replicate] at hlen
  rw [hD]
  refine brd (fun hne => ?_) (fun he => ?_)
  · intro b w2 u2 hr2
    have o2 := o.old u2
    have v2 := u.then u2
    refine append_big (c := cU8) (new := [0]) (hs.old u2) o2 (rowB hr2 _ rfl rfl) v2.size (by simp) (by decide) (by decide) (by simp; omega) fun r w3 hr3 ho3 u3 _ => ?_
    have hrl := hr3.len
    simp at hrl
    refine hC _ _ _ _ _ _ ⟨v2.step0 u3 (fun x hx => (o2.blk x hx).1), ho3, n + 1, by omega, ?_⟩ (by (try dsimp only); omega)
    rw [List.replicate_succ', ← List.append_assoc]
    exact hr3
  · have : n = (4 - l.length % 4) % 4 := by
      have : s.len % 4 = 0 := by omega
      omega
    subst this
    exact k s w1 u hs o

/-- options written -/
theorem c27 {a : Sl} {l : List Opt} {os : List (Int × Sl)} {w : World} {R : SV → World → Prop} (h : Opts w a l os) (hl : l.length < 9223372036854775807) (hd : ∀ o ∈ l, o.data.length ≤ 140737488355328)
    (k : ∀ s w1, Upd [] [] w w1 → SeesB w1 s (putL l) → Own w.heap.size 1 w1 s → R (.tuple [.slice s, .int .i64 (putE l)]) w1) : Ret Tryd.prog 27 [.slice a] w R := by
  refine f27_of _ _ _ ?_
  unfold vc27
  have hal := h.slen
  have bad : ¬ putOk l → ∀ w1, Upd [] [] w w1 → R (.tuple [.slice ⟨none, 0, 0⟩, .int .i64 65]) w1 := fun hn w1 u => by
    have := k ⟨none, 0, 0⟩ w1 u (by unfold putL; rw [if_neg hn]; exact Sees.nil _ _ _ _) (Own.none _ _ _)
    unfold putE at this
    rwa [if_neg hn] at this
  refine ⟨fun s i w1 => Upd [] [] w w1 ∧ Own w.heap.size 1 w1 s ∧ ∃ q : Nat, i = q ∧ q ≤ l.length ∧ SeesB w1 s ((l.take q).flatMap optB) ∧ ((l.take q).flatMap optB).length ≤ 40 ∧ ∀ j (h : j < l.length), j < q → okO l[j], fun _ i _ => (l.length - i).toNat,
    ⟨Upd.refl w, Own.none _ _ _, 0, rfl, by omega, Sees.nil _ _ _ _, by simp, fun j _ h => by omega⟩, ?_⟩
  rintro s i w1 ⟨u, o, q, rfl, hq, hs, h40, hj⟩
  have h1 := h.old u
  have hsl := hs.len
  refine brd (fun hlt => ?_) (fun hge => ?_)
  · have hq2 : q < l.length := by omega
    obtain ⟨g1, g2, g3, g4⟩ := h1.get q hq2
    have gl := g3.len
    have gd := hd _ (List.getElem_mem hq2)
    refine needO h1 (by omega) (by omega) ⟨_, (by rw [Int.toNat_natCast]; exact g1), _, (by rw [Int.toNat_natCast]; exact g2), ?_⟩
    intro b J hJ
    have fs := flatMap_snoc hq2
    have fl := flatMap_le l (q + 1)
    rw [fs, List.length_append, optB_len] at fl
    have nk : ¬ okO l[q] → ¬ putOk l := fun hn hp => hn (hp.1 _ (List.getElem_mem hq2))
    refine brd (fun g => fun w2 u2 => bad (nk (by unfold okO; omega)) _ (u.then u2)) (fun n1 => brd (fun g => fun w2 u2 => bad (nk (by unfold okO; omega)) _ (u.then u2)) (fun n2 => brd (fun g => fun w2 u2 => bad (nk (by unfold okO; omega)) _ (u.then u2)) (fun n3 => ?_)))
    rw [wr_i64 (x := (s.len : Int) + 2) (by omega) (by omega), wr_i64 (by omega) (by omega)]
    refine brd (fun g => fun w2 u2 => bad (fun hp => by have := hp.2; omega) _ (u.then u2)) (fun n4 => fun w2 u2 => ⟨rfl, hJ _ ?_⟩)
    clear hJ
    intro b1 w3 u3 hr3
    have hbn := u2.new (b := b) (by simp)
    have o3 := (o.old u2).old u3
    have v3 := (u.then u2).then u3
    have hs3 := (hs.old u2).old u3
    rw [wr_i64 (x := 2 + ((os[q]'(by rw [h.len]; exact hq2)).2.len : Int)) (by omega) (by omega), wr_u8, wr_u8] at hr3
    refine append_own (c := cU8) (new := [l[q].kind % 256, ((2 + l[q].data.length : Nat) : Int) % 256]) hs3 o3 (rowB hr3 _ (by rw [gl]; rfl) rfl) v3.size (fun x hx hm => by have := (o.blk x hx).2; simp at hm; omega) (by decide) (by simp only [List.length_cons, List.length_nil]; omega) fun r w4 hr ho4 u4 hn4 => ?_
    have hw0 : ∀ x ∈ s.blk, w.heap.size ≤ x := fun x hx => (o.blk x hx).1
    have v4 := v3.step0 u4 hw0
    refine append_own (c := cU8) hr ho4 (h.each q hq2 |>.old v4) v4.size (fun x hx hm => by
      rcases hn4 x hx with h' | h'
      · have := (o.blk x h').2; simp at hm; omega
      · have := u3.size; simp at hm; omega) (by decide) (by simp only [List.length_append, List.length_cons, List.length_nil]; omega) fun r5 w5 hr5 ho5 u5 _ => ?_
    refine ⟨⟨v4.step0 u5 (fun x hx => (ho4.blk x hx).1), ho5, q + 1, wr_succ (by omega), by omega, ?_, ?_, fun j hj1 hj2 => ?_⟩, by rw [wr_succ (q := q) (by omega)]; (try dsimp only); omega⟩
    · rw [fs]
      unfold optB
      rw [← List.append_assoc]
      exact hr5
    · rw [fs, List.length_append, optB_len]; omega
    · by_cases e : j = q
      · subst e; unfold okO; omega
      · exact hj j hj1 (by omega)
  · have hqe : q = l.length := by omega
    subst hqe
    rw [List.take_length] at hs h40
    have hok : putOk l := ⟨fun x hx => by
      obtain ⟨j, hj1, rfl⟩ := List.getElem_of_mem hx
      exact hj j hj1 (by omega), h40⟩
    refine pad_loop u hs o (by omega) (fun s => ?_) (fun I M s w r w' h1 h2 => ⟨h1, h2⟩) (fun s w2 u2 hs2 ho2 => ?_)
    · rw [tmod_pos (by omega)]
      rw [decide_eq_decide]
      omega
    · have := k s w2 u2 (by unfold putL; rw [if_pos hok]; exact hs2) ho2
      unfold putE at this
      rwa [if_pos hok] at this

theorem c35 {a : Sl} {l : List Opt} {os : List (Int × Sl)} {w : World} {R : SV → World → Prop} (h : Opts w a l os) (hl : l.length ≤ 4398046511104) (hd : ∀ o ∈ l, o.data.length ≤ 140737488355328)
    (k : ∀ s w1, Upd [] [] w w1 → SeesB w1 s (putL l) → Own w.heap.size 1 w1 s → R (.tuple [.slice s, .int .i64 (putE l)]) w1) : Ret Tryd.prog 35 [.slice a] w R := by
  refine f35_of _ _ _ ?_
  unfold vc35
  have hal := h.slen
  have bad : ¬ putOk l → ∀ w1, Upd [] [] w w1 → R (.tuple [.slice ⟨none, 0, 0⟩, .int .i64 65]) w1 := fun hn w1 u => by
    have := k ⟨none, 0, 0⟩ w1 u (by unfold putL; rw [if_neg hn]; exact Sees.nil _ _ _ _) (Own.none _ _ _)
    unfold putE at this
    rwa [if_neg hn] at this
  refine ⟨fun s i w1 => Upd [] [] w w1 ∧ Own w.heap.size 1 w1 s ∧ ∃ q : Nat, i = q ∧ q ≤ l.length ∧ SeesB w1 s ((l.take q).flatMap optB) ∧ ((l.take q).flatMap optB).length ≤ 40 * q ∧ ∀ j (h : j < l.length), j < q → okO l[j], fun _ i _ => (l.length - i).toNat,
    ⟨Upd.refl w, Own.none _ _ _, 0, rfl, by omega, Sees.nil _ _ _ _, by simp, fun j _ h => by omega⟩, ?_⟩
  rintro s i w1 ⟨u, o, q, rfl, hq, hs, h40, hj⟩
  have h1 := h.old u
  have hsl := hs.len
  refine brd (fun hlt => ?_) (fun hge => ?_)
  · have hq2 : q < l.length := by omega
    obtain ⟨g1, g2, g3, g4⟩ := h1.get q hq2
    have gl := g3.len
    have gd := hd _ (List.getElem_mem hq2)
    intro J hJ
    refine needO h1 (by omega) (by omega) ⟨_, (by rw [Int.toNat_natCast]; exact g2), ?_⟩
    have fs := flatMap_snoc hq2
    have nk : ¬ okO l[q] → ¬ putOk l := fun hn hp => hn (hp.1 _ (List.getElem_mem hq2))
    intro J1 hJ1
    have good : okO l[q] → J1 w1 := fun hk => by
      refine hJ1 _ ?_
      refine needO h1 (by omega) (by omega) ⟨_, (by rw [Int.toNat_natCast]; exact g1), ?_⟩
      intro b1 w3 u3 hr3
      obtain ⟨k1, k2, k3⟩ := hk
      have o3 := o.old u3
      have v3 := u.then u3
      have hs3 := hs.old u3
      rw [wr_i64 (x := ((os[q]'(by rw [h.len]; exact hq2)).2.len : Int) + 2) (by omega) (by omega), wr_u8, wr_u8] at hr3
      refine append_big (c := cU8) (new := [l[q].kind % 256, ((2 + l[q].data.length : Nat) : Int) % 256]) hs3 o3 (rowB hr3 _ (by rw [gl, Nat.add_comm 2]; rfl) rfl) v3.size (by simp) (by decide) (by decide) (by simp only [List.length_cons, List.length_nil]; omega) fun r w4 hr ho4 u4 hn4 => ?_
      have hw0 : ∀ x ∈ s.blk, w.heap.size ≤ x := fun x hx => (o.blk x hx).1
      have v4 := v3.step0 u4 hw0
      obtain ⟨_, g2', g3', _⟩ := (h.old v4).get q hq2
      refine needO (h.old v4) (by omega) (by omega) ⟨_, (by rw [Int.toNat_natCast]; exact g2'), ?_⟩
      refine append_big (c := cU8) hr ho4 g3' v4.size (by simp) (by decide) (by decide) (by simp only [List.length_append, List.length_cons, List.length_nil]; omega) fun r5 w5 hr5 ho5 u5 _ => ?_
      refine hJ _ _ ⟨⟨v4.step0 u5 (fun x hx => (ho4.blk x hx).1), ho5, q + 1, wr_succ (by omega), by omega, ?_, ?_, fun j hj1 hj2 => ?_⟩, by rw [wr_succ (q := q) (by omega)]; (try dsimp only); omega⟩
      · rw [fs]
        unfold optB
        rw [← List.append_assoc]
        exact hr5
      · rw [fs, List.length_append, optB_len]; omega
      · by_cases e : j = q
        · subst e; exact ⟨k1, k2, k3⟩
        · exact hj j hj1 (by omega)
    refine needO h1 (by omega) (by omega) ⟨_, (by rw [Int.toNat_natCast]; exact g1), ?_⟩
    refine brd (fun g => bad (nk (by unfold okO; omega)) _ u) (fun n1 => needO h1 (by omega) (by omega) ⟨_, (by rw [Int.toNat_natCast]; exact g1), brd (fun g => bad (nk (by unfold okO; omega)) _ u) (fun n2 => brd (fun g => bad (nk (by unfold okO; omega)) _ u) (fun n3 => good (by unfold okO; omega)))⟩)
  · have hqe : q = l.length := by omega
    subst hqe
    rw [List.take_length] at hs h40
    have hall : ∀ x ∈ l, okO x := fun x hx => by
      obtain ⟨j, hj1, rfl⟩ := List.getElem_of_mem hx
      exact hj j hj1 (by omega)
    refine pad_loop u hs o (by omega) (fun s => ?_) (fun I M s w r w' h1 h2 => ⟨h1, h2⟩) (fun s w2 u2 hs2 ho2 => ?_)
    · rw [tmod_pos (by omega)]
      rw [Bool.eq_iff_iff, bne_iff_ne, decide_eq_true_iff]
      omega
    · have hpl := pad4_len (l.flatMap optB)
      have hsl2 := hs2.len
      refine brd (fun g => bad (fun hp => ?_) _ u2) (fun g => ?_)
      · have := hp.2; omega
      · have hok : putOk l := ⟨hall, by omega⟩
        have := k s w2 u2 (by unfold putL; rw [if_pos hok]; exact hs2) ho2
        unfold putE at this
        rwa [if_pos hok] at this

end Go.Vc.S6
end

section
open Go Go.Vc Go.Proofs
set_option linter.unusedVariables false
set_option linter.unusedSimpArgs false
set_option autoImplicit false
namespace Go.Vc.S6

theorem sees_new {w w1 : World} {s : Sl} {l : List (Int × Sl)} {b e : Nat} {cs : List Value} (x : Int × Sl) (h : w1.heap[b]? = some (.cells cs.toArray e (0, 0))) (hc : cs = [.int .i64 x.1, x.2.val]) : Sees cOpt w1 ⟨some ⟨b, 0, none⟩, 1, 1⟩ [x] :=
  sees_row h [x] hc rfl

/-- options read: windows -/
theorem c49 {b : Sl} {l : List Int} {w : World} {R : SV → World → Prop} (h : SeesB w b l) (hb : Byt l) (hc : b.len ≤ b.cap) (hl : l.length < 9223372036854775807)
    (ke : ∀ w1, Upd [] [] w w1 → optsP ok4 l = none → R (.tuple [.slice ⟨none, 0, 0⟩, .int .i64 65]) w1)
    (ko : ∀ ps s w1, optsP ok4 l = some ps → Upd [] [] w w1 → Sees cOpt w1 s (ps.map (osAt b l)) → Own w.heap.size 2 w1 s → R (.tuple [.slice s, .int .i64 0]) w1) : Ret Tryd.prog 49 [.slice b] w R := by
  refine f49_of _ _ _ ?_
  unfold vc49
  have hlen := h.len
  unfold optsP at ke ko
  refine brd (fun hg => ke _ (Upd.refl w) (by rw [if_pos (by omega)])) (fun hg => ?_)
  rw [if_neg (by omega)] at ke ko
  generalize hG : opos ok4 l (l.length + 1) 0 [] = G at ke ko
  refine ⟨fun s n w1 => Upd [] [] w w1 ∧ Own w.heap.size 2 w1 s ∧ ∃ (t f : Nat) (acc : List (Nat × Nat)), n = t ∧ t ≤ l.length ∧ l.length + 1 ≤ f + t ∧ acc.length ≤ t ∧ Sees cOpt w1 s (acc.map (osAt b l)) ∧ opos ok4 l f t acc = G,
    fun _ n _ => (l.length - n).toNat, ⟨Upd.refl w, Own.none _ _ _, 0, l.length + 1, [], rfl, by omega, by omega, by simp, Sees.nil _ _ _ _, hG⟩, ?_⟩
  rintro s n w1 ⟨u, o, t, f, acc, rfl, ht, hf, ha, hs, hp⟩
  have h1 := h.old u
  obtain ⟨f, rfl⟩ : ∃ g, f = g + 1 := ⟨f - 1, by omega⟩
  unfold opos at hp
  refine brd (fun hlt => ?_) (fun hge => ?_)
  · have b0 := hb.bt (t : Int)
    rw [if_neg (by omega)] at hp
    refine needB h1 (by omega) (by omega) ⟨_, h1.byte (by omega) (by omega), ?_⟩
    refine bre (fun e => ?_) (fun ne0 => ?_)
    · rw [if_pos e] at hp
      exact ko acc s w1 hp.symm u hs o
    rw [if_neg ne0] at hp
    refine bre (fun e => ?_) (fun ne1 => ?_)
    · rw [if_pos e] at hp
      exact ⟨⟨u, o, t + 1, f, acc, wr_succ (by omega), by omega, by omega, by omega, hs, hp⟩, by rw [wr_succ (q := t) (by omega)]; (try dsimp only); omega⟩
    rw [if_neg ne1] at hp
    rw [wr_succ (q := t) (by omega)]
    refine bre (fun e => ke _ u (by rw [← hp, if_pos (by omega)])) (fun ne2 => ?_)
    rw [if_neg (by omega)] at hp
    have b1 := hb.bt ((t + 1 : Nat) : Int)
    refine needB h1 (by omega) (by omega) ⟨_, h1.byte (by omega) (by omega), fun J hJ => ?_⟩
    rw [wr_i64 (x := bt l ((t + 1 : Nat) : Int)) (by omega) (by omega), wr_i64 (x := (t : Int) + bt l ((t + 1 : Nat) : Int)) (by omega) (by omega)]
    refine brd (fun hg => ke _ u (by rw [← hp, if_pos (show ok4 (bt l (t : Int)) (bt l ((t + 1 : Nat) : Int)) = false from decide_eq_false (by omega))])) (fun n2 => ?_)
    rw [if_neg (show ¬ (ok4 (bt l (t : Int)) (bt l ((t + 1 : Nat) : Int)) = false) by rw [show ok4 (bt l (t : Int)) (bt l ((t + 1 : Nat) : Int)) = true from decide_eq_true (by omega)]; decide)] at hp
    refine brd (fun hg => ke _ u (by rw [← hp, if_pos (by omega)])) (fun n3 => hJ _ ?_)
    rw [if_neg (by omega)] at hp
    clear hJ
    generalize hm : bt l ((t + 1 : Nat) : Int) = m at *
    have em : m = (m.toNat : Int) := by omega
    rw [wr_i64 (x := m) (by omega) (by omega), wr_i64 (x := (t : Int) + m) (by omega) (by omega), wr_i64 (x := (t : Int) + 2) (by omega) (by omega)]
    refine needB h1 (by omega) (by omega) ⟨_, h1.byte (by omega) (by omega), need (by simp; omega) ?_⟩
    intro b2 w2 u2 hr2
    rw [wr_i64 (x := bt l (t : Int)) (by omega) (by omega), show ((t : Int) + m).toNat = t + m.toNat by omega, show ((t : Int) + 2).toNat = t + 2 by omega] at hr2
    rw [show (t : Int) + m = ((t + m.toNat : Nat) : Int) by omega]
    have o2 := o.old u2
    have v2 := u.then u2
    refine append_own (c := cOpt) (new := [osAt b l (t, t + m.toNat)]) (hs.old u2) o2 (sees_row hr2 _ rfl rfl) v2.size (by simp) (by decide) (by simp; omega) fun r w3 hr ho3 u3 _ => ?_
    refine ⟨⟨v2.step0 u3 (fun x hx => (o2.blk x hx).1), ho3, t + m.toNat, f, acc ++ [(t, t + m.toNat)], rfl, by omega, by omega, by simp; omega, by simpa using hr, hp⟩, by (try dsimp only); omega⟩
  · rw [if_pos (by omega)] at hp
    exact ko acc s w1 hp.symm u hs o

/-- options read: in new memory -/
theorem c50 {b : Sl} {l : List Int} {w : World} {R : SV → World → Prop} (h : SeesB w b l) (hb : Byt l) (hc : b.len ≤ b.cap) (hl : l.length < 9223372036854775807)
    (ke : ∀ w1, Upd [] [] w w1 → optsP ok4 l = none → R (.tuple [.slice ⟨none, 0, 0⟩, .int .i64 65]) w1)
    (ko : ∀ ps s os w1, optsP ok4 l = some ps → Upd [] [] w w1 → Opts w1 s (ps.map (optAt l)) os → Own w.heap.size 2 w1 s → (∀ x ∈ os, Own w.heap.size 1 w1 x.2) → R (.tuple [.slice s, .int .i64 0]) w1) : Ret Tryd.prog 50 [.slice b] w R := by
  refine f50_of _ _ _ ?_
  unfold vc50
  have hlen := h.len
  unfold optsP at ke ko
  refine brd (fun hg => ke _ (Upd.refl w) (by rw [if_pos (by omega)])) (fun hg => ?_)
  rw [if_neg (by omega)] at ke ko
  generalize hG : opos ok4 l (l.length + 1) 0 [] = G at ke ko
  intro J0 hJ0
  refine ⟨fun s n w1 => Upd [] [] w w1 ∧ Own w.heap.size 2 w1 s ∧ ∃ (t f : Nat) (acc : List (Nat × Nat)) (os : List (Int × Sl)), n = t ∧ t ≤ l.length ∧ l.length + 1 ≤ f + t ∧ acc.length ≤ t ∧ Opts w1 s (acc.map (optAt l)) os ∧ (∀ x ∈ os, Own w.heap.size 1 w1 x.2) ∧ (∀ x ∈ os, ∀ b ∈ x.2.blk, b ∉ s.blk) ∧ opos ok4 l f t acc = G,
    fun _ n _ => (l.length - n).toNat, ⟨Upd.refl w, Own.none _ _ _, 0, l.length + 1, [], [], rfl, by omega, by omega, by simp, Opts.nil _ _ _, by simp, by simp, hG⟩, ?_⟩
  rintro s n w1 ⟨u, o, t, f, acc, os, rfl, ht, hf, ha, hs, hos, hap, hp⟩
  have h1 := h.old u
  obtain ⟨f, rfl⟩ : ∃ g, f = g + 1 := ⟨f - 1, by omega⟩
  unfold opos at hp
  intro J1 hJ1
  refine brd (fun hlt => ?_) (fun hge => ?_)
  · have b0 := hb.bt (t : Int)
    rw [if_neg (by omega)] at hp
    refine needB h1 (by omega) (by omega) ⟨_, h1.byte (by omega) (by omega), ?_⟩
    refine bre' (fun ne0 => ?_) (fun e => ?_)
    rotate_left
    · rw [if_pos e] at hp
      exact hJ0 _ _ (ko acc s os w1 hp.symm u hs o hos)
    rw [if_neg ne0] at hp
    refine hJ1 _ ?_
    clear hJ1
    refine needB h1 (by omega) (by omega) ⟨_, h1.byte (by omega) (by omega), ?_⟩
    refine bre (fun e => ?_) (fun ne1 => ?_)
    · rw [if_pos e] at hp
      exact ⟨⟨u, o, t + 1, f, acc, os, wr_succ (by omega), by omega, by omega, by omega, hs, hos, hap, hp⟩, by rw [wr_succ (q := t) (by omega)]; (try dsimp only); omega⟩
    rw [if_neg ne1] at hp
    rw [wr_succ (q := t) (by omega)]
    intro J2 hJ2
    refine brd (fun e => ke _ u (by rw [← hp, if_pos (by omega)])) (fun ne2 => ?_)
    rw [if_neg (by omega)] at hp
    have b1 := hb.bt ((t + 1 : Nat) : Int)
    refine needB h1 (by omega) (by omega) ⟨_, h1.byte (by omega) (by omega), ?_⟩
    refine brd (fun hg => ke _ u (by rw [← hp, if_pos (show ok4 (bt l (t : Int)) (bt l ((t + 1 : Nat) : Int)) = false from decide_eq_false (by omega))])) (fun n2 => ?_)
    rw [if_neg (show ¬ (ok4 (bt l (t : Int)) (bt l ((t + 1 : Nat) : Int)) = false) by rw [show ok4 (bt l (t : Int)) (bt l ((t + 1 : Nat) : Int)) = true from decide_eq_true (by omega)]; decide)] at hp
    refine needB h1 (by omega) (by omega) ⟨_, h1.byte (by omega) (by omega), ?_⟩
    rw [wr_i64 (x := bt l ((t + 1 : Nat) : Int)) (by omega) (by omega), wr_i64 (x := (t : Int) + bt l ((t + 1 : Nat) : Int)) (by omega) (by omega)]
    refine brd (fun hg => ke _ u (by rw [← hp, if_pos (by omega)])) (fun n3 => hJ2 _ ?_)
    rw [if_neg (by omega)] at hp
    clear hJ2
    refine needB h1 (by omega) (by omega) ⟨_, h1.byte (by omega) (by omega), ?_⟩
    refine needB h1 (by omega) (by omega) ⟨_, h1.byte (by omega) (by omega), ?_⟩
    generalize hm : bt l ((t + 1 : Nat) : Int) = m at *
    have em : m = (m.toNat : Int) := by omega
    rw [wr_i64 (x := m) (by omega) (by omega), wr_i64 (x := (t : Int) + m) (by omega) (by omega), wr_i64 (x := (t : Int) + 2) (by omega) (by omega), wr_i64 (x := bt l (t : Int)) (by omega) (by omega)]
    refine need (by simp; omega) fun w2 u2 => ?_
    rw [show ((t : Int) + m).toNat = t + m.toNat by omega, show ((t : Int) + 2).toNat = t + 2 by omega]
    have hsub := (h1.old u2).subB (lo := t + 2) (hi := t + m.toNat) (mx := b.cap) (by omega) (by omega) (by omega)
    refine c23 hsub (by simp; omega) fun d w3 u3 hs3 ho3 => ⟨_, rfl, u2.then u3, ?_⟩
    have v3 := (u.then u2).then u3
    intro b4 w4 u4 hr4
    rw [show (t : Int) + m = ((t + m.toNat : Nat) : Int) by omega]
    have v4 := v3.then u4
    have y2 := u2.size; have y3 := u3.size; have y4 := u4.size
    have o4 := ((o.old u2).old u3).old u4
    have hO4 := ((hs.old u2).old u3).old u4
    have hol := hs.len
    rw [List.length_map] at hol
    refine append_own (c := cOpt) (new := [((optAt l (t, t + m.toNat)).kind, d)]) hO4.row o4 (optRow hr4 rfl rfl) v4.size (by simp) (by decide) (by simp; omega) fun r w5 hr ho5 u5 hn => ?_
    have dis : ∀ x ∈ d.blk, x ∉ s.blk := fun x hx hm => by have := (ho3.blk x hx).1; have := (o.blk x hm).2; omega
    have hd5 := (hs3.old u4).upd u5 dis
    have hOs := Opts.snoc (o := optAt l (t, t + m.toNat)) hO4 hr hd5 (fun j h2 => (hO4.each j h2).upd u5 (hap _ (List.getElem_mem _)))
    refine ⟨⟨v4.step0 u5 (fun x hx => (o.blk x hx).1), ho5, t + m.toNat, f, acc ++ [(t, t + m.toNat)], os ++ [((optAt l (t, t + m.toNat)).kind, d)], rfl, by omega, by omega, by simp; omega, by simpa using hOs, ?_, ?_, hp⟩, by (try dsimp only); omega⟩
    · intro x hx
      rcases List.mem_append.1 hx with hx | hx
      · exact ((((hos x hx).old u2).old u3).old u4).upd u5 (hap x hx)
      · rw [List.mem_singleton] at hx
        subst hx
        exact ((ho3.old u4).upd u5 dis).mono (by have := u.size; omega)
    · intro x hx b' hb' hm
      rcases List.mem_append.1 hx with hx | hx
      · rcases hn b' hm with h' | h'
        · exact hap x hx b' hb' h'
        · have := ((hos x hx).blk b' hb').2; omega
      · rw [List.mem_singleton] at hx
        subst hx
        rcases hn b' hm with h' | h'
        · exact dis b' hb' h'
        · have := (ho3.blk b' hb').2; omega
  · rw [if_pos (by omega)] at hp
    exact hJ0 _ _ (ko acc s os w1 hp.symm u hs o hos)
end Go.Vc.S6
end

section
open Go Go.Vc Go.Vc.S6 Go.Proofs
set_option maxRecDepth 100000
set_option linter.unusedVariables false
namespace Go.Vc.S6
def vc92 (n : Int) (w : World) (R : SV → World → Prop) : Prop :=
  ∃ (I : Int → World → Prop),
    ∃ (M : Int → World → Nat),
      I n w ∧
        ∀ (n : Int) (w1 : World),
          I n w1 →
            Br (decide (n > 65535))
              (I (wr IntKind.i64 (iand IntKind.i64 n 65535 + gshr IntKind.i64 n 16)) w1 ∧ M (wr IntKind.i64 (iand IntKind.i64 n 65535 + gshr IntKind.i64 n 16)) w1 < M n w1)
              (R (SV.int IntKind.i64 n) w1)
theorem f92_of (n : Int) (w : World) (R : SV → World → Prop) (h : vc92 n w R) : Ret Tryd.prog 92 [.int .i64 n] w R :=
  have e : vc92 n w R = fnVC X Tryd.f92 a92 [.int .i64 n] w R := by kernel_rfl
  fnVC_sound X_ok (n := a92) (e ▸ h) (by kernel_rfl) (by kernel_rfl) rfl rfl

def vc78 (parts : Sl) (w : World) (R : SV → World → Prop) : Prop :=
  ∃ (I : Int → Bool → Int → World → Prop),
    ∃ (M : Int → Bool → Int → World → Nat),
      I 0 true 0 w ∧
        ∀ (n : Int) (b : Bool) (n_1 : Int) (w1 : World),
          I n b n_1 w1 →
            Br (decide (n_1 < (↑parts.2 : Int)))
              (Need (decide (0 ≤ n_1) && decide (n_1 < (↑parts.2 : Int)) && Option.isSome parts.1)
                (∃ (s : Sl),
                  World.cell? w1 (Sl.at parts 1 (Int.toNat n_1)) = some (Sl.val s) ∧
                    ∃ (I_1 : Int → Bool → Int → World → Prop),
                      ∃ (M_1 : Int → Bool → Int → World → Nat),
                        I_1 n b 0 w1 ∧
                          ∀ (n_2 : Int) (b_1 : Bool) (n_3 : Int) (w1_1 : World),
                            I_1 n_2 b_1 n_3 w1_1 →
                              Br (decide (n_3 < (↑s.2 : Int)))
                                (Need (decide (0 ≤ n_3) && decide (n_3 < (↑s.2 : Int)) && Option.isSome s.1)
                                  (∃ (n : Int),
                                    World.cell? w1_1 (Sl.at s 1 (Int.toNat n_3)) = some (Value.int IntKind.u8 n) ∧
                                      ∀ (J : Int → World → Prop),
                                        (∀ (n : Int) (w1 : World),
                                            I_1 n (!b_1) (wr IntKind.i64 (n_3 + 1)) w1 ∧ M_1 n (!b_1) (wr IntKind.i64 (n_3 + 1)) w1 < M_1 n_2 b_1 n_3 w1_1 → J n w1) →
                                          Br b_1 (J (wr IntKind.i64 (n_2 + gshl IntKind.i64 (wr IntKind.i64 n) 8)) w1_1) (J (wr IntKind.i64 (n_2 + wr IntKind.i64 n)) w1_1)))
                                (Ret Tryd.prog 92 [SV.int IntKind.i64 n_2] w1_1 fun (r : SV) (w1_2 : World) =>
                                  ∃ (n_4 : Int), r = SV.int IntKind.i64 n_4 ∧ I n_4 b_1 (wr IntKind.i64 (n_1 + 1)) w1_2 ∧ M n_4 b_1 (wr IntKind.i64 (n_1 + 1)) w1_2 < M n b n_1 w1)))
              (R (SV.int IntKind.i64 n) w1)
theorem f78_of (parts : Sl) (w : World) (R : SV → World → Prop) (h : vc78 parts w R) : Ret Tryd.prog 78 [.slice parts] w R :=
  have e : vc78 parts w R = fnVC X Tryd.f78 a78 [.slice parts] w R := by kernel_rfl
  fnVC_sound X_ok (n := a78) (e ▸ h) (by kernel_rfl) (by kernel_rfl) rfl rfl

def vc64 (parts : Sl) (w : World) (R : SV → World → Prop) : Prop :=
  Ret Tryd.prog 78 [SV.slice parts] w fun (r : SV) (w1 : World) => ∃ (n : Int), r = SV.int IntKind.i64 n ∧ R (SV.int IntKind.i64 (wr IntKind.i64 (65535 - n))) w1
theorem f64_of (parts : Sl) (w : World) (R : SV → World → Prop) (h : vc64 parts w R) : Ret Tryd.prog 64 [.slice parts] w R :=
  have e : vc64 parts w R = fnVC X Tryd.f64 a64 [.slice parts] w R := by kernel_rfl
  fnVC_sound X_ok (n := a64) (e ▸ h) (by kernel_rfl) (by kernel_rfl) rfl rfl

def vc44 (parts : Sl) (w : World) (R : SV → World → Prop) : Prop :=
  Ret Tryd.prog 78 [SV.slice parts] w fun (r : SV) (w1 : World) => ∃ (n : Int), r = SV.int IntKind.i64 n ∧ R (SV.bool (n == 65535)) w1
theorem f44_of (parts : Sl) (w : World) (R : SV → World → Prop) (h : vc44 parts w R) : Ret Tryd.prog 44 [.slice parts] w R :=
  have e : vc44 parts w R = fnVC X Tryd.f44 a44 [.slice parts] w R := by kernel_rfl
  fnVC_sound X_ok (n := a44) (e ▸ h) (by kernel_rfl) (by kernel_rfl) rfl rfl

def vc95 (n : Int) (w : World) (R : SV → World → Prop) : Prop :=
  Br (n == 0) (R (SV.int IntKind.i64 0) w) (R (SV.int IntKind.i64 (wr IntKind.i64 (Int.tmod (wr IntKind.i64 (n - 1)) 65535 + 1))) w)
theorem f95_of (n : Int) (w : World) (R : SV → World → Prop) (h : vc95 n w R) : Ret Tryd.prog 95 [.int .i64 n] w R :=
  have e : vc95 n w R = fnVC X Tryd.f95 a95 [.int .i64 n] w R := by kernel_rfl
  fnVC_sound X_ok (n := a95) (e ▸ h) (by kernel_rfl) (by kernel_rfl) rfl rfl

def vc91 (parts : Sl) (w : World) (R : SV → World → Prop) : Prop :=
  ∃ (I : Int → Int → Int → World → Prop),
    ∃ (M : Int → Int → Int → World → Nat),
      I 0 0 0 w ∧
        ∀ (n n_1 n_2 : Int) (w1 : World),
          I n n_1 n_2 w1 →
            Br (decide (n_2 < (↑parts.2 : Int)))
              (∃ (I_1 : Int → Int → Int → World → Prop),
                ∃ (M_1 : Int → Int → Int → World → Nat),
                  I_1 n n_1 0 w1 ∧
                    ∀ (n_3 n_4 n_5 : Int) (w1_1 : World),
                      I_1 n_3 n_4 n_5 w1_1 →
                        Need (decide (0 ≤ n_2) && decide (n_2 < (↑parts.2 : Int)) && Option.isSome parts.1)
                          (∃ (s : Sl),
                            World.cell? w1_1 (Sl.at parts 1 (Int.toNat n_2)) = some (Sl.val s) ∧
                              Br (decide (n_5 < (↑s.2 : Int)))
                                (∀ (J : Int → Int → World → Prop),
                                  (∀ (n n_6 : Int) (w1 : World),
                                      I_1 n n_6 (wr IntKind.i64 (n_5 + 1)) w1 ∧ M_1 n n_6 (wr IntKind.i64 (n_5 + 1)) w1 < M_1 n_3 n_4 n_5 w1_1 → J n n_6 w1) →
                                    Need (decide (0 ≤ n_2) && decide (n_2 < (↑parts.2 : Int)) && Option.isSome parts.1)
                                      (∃ (s : Sl),
                                        World.cell? w1_1 (Sl.at parts 1 (Int.toNat n_2)) = some (Sl.val s) ∧
                                          Need (decide (0 ≤ n_5) && decide (n_5 < (↑s.2 : Int)) && Option.isSome s.1)
                                            (∃ (n : Int),
                                              World.cell? w1_1 (Sl.at s 1 (Int.toNat n_5)) = some (Value.int IntKind.u8 n) ∧
                                                ∀ (J_1 : Int → World → Prop),
                                                  (∀ (n : Int) (w1 : World), J (wr IntKind.i64 (n_3 + 1)) (wr IntKind.i64 (n_4 + n)) w1 → J_1 n w1) →
                                                    Br (Int.tmod n_3 2 == 0) (J_1 (wr IntKind.i64 (wr IntKind.i64 n * 256)) w1_1) (J_1 (wr IntKind.i64 n) w1_1))))
                                (I n_3 n_4 (wr IntKind.i64 (n_2 + 1)) w1_1 ∧ M n_3 n_4 (wr IntKind.i64 (n_2 + 1)) w1_1 < M n n_1 n_2 w1)))
              (Ret Tryd.prog 95 [SV.int IntKind.i64 n_1] w1 fun (r : SV) (w1 : World) => ∃ (n : Int), r = SV.int IntKind.i64 n ∧ R (SV.int IntKind.i64 n) w1)
theorem f91_of (parts : Sl) (w : World) (R : SV → World → Prop) (h : vc91 parts w R) : Ret Tryd.prog 91 [.slice parts] w R :=
  have e : vc91 parts w R = fnVC X Tryd.f91 a91 [.slice parts] w R := by kernel_rfl
  fnVC_sound X_ok (n := a91) (e ▸ h) (by kernel_rfl) (by kernel_rfl) rfl rfl

def vc71 (parts : Sl) (w : World) (R : SV → World → Prop) : Prop :=
  Ret Tryd.prog 91 [SV.slice parts] w fun (r : SV) (w1 : World) => ∃ (n : Int), r = SV.int IntKind.i64 n ∧ R (SV.int IntKind.i64 (wr IntKind.i64 (65535 - n))) w1
theorem f71_of (parts : Sl) (w : World) (R : SV → World → Prop) (h : vc71 parts w R) : Ret Tryd.prog 71 [.slice parts] w R :=
  have e : vc71 parts w R = fnVC X Tryd.f71 a71 [.slice parts] w R := by kernel_rfl
  fnVC_sound X_ok (n := a71) (e ▸ h) (by kernel_rfl) (by kernel_rfl) rfl rfl

def vc84 (parts : Sl) (w : World) (R : SV → World → Prop) : Prop :=
  Ret Tryd.prog 91 [SV.slice parts] w fun (r : SV) (w1 : World) => ∃ (n : Int), r = SV.int IntKind.i64 n ∧ R (SV.bool (n == 65535)) w1
theorem f84_of (parts : Sl) (w : World) (R : SV → World → Prop) (h : vc84 parts w R) : Ret Tryd.prog 84 [.slice parts] w R :=
  have e : vc84 parts w R = fnVC X Tryd.f84 a84 [.slice parts] w R := by kernel_rfl
  fnVC_sound X_ok (n := a84) (e ▸ h) (by kernel_rfl) (by kernel_rfl) rfl rfl

def vc82 (check : Int) (old : Int) (now : Int) (w : World) (R : SV → World → Prop) : Prop :=
  ∃ (I : Int → World → Prop),
    ∃ (M : Int → World → Nat),
      I 0 w ∧
        ∀ (n : Int) (w1 : World),
          I n w1 →
            Br (decide (n < 3))
              (Need (decide (0 ≤ n) && decide (n < 3))
                (Br (decide (fset (fset (fset (fun (x : Nat) => 0) 0 check) 1 old) 2 now (Int.toNat n) < 0)) (R (SV.tuple [SV.int IntKind.i64 0, SV.int IntKind.i64 21]) w1)
                  (Br (decide (fset (fset (fset (fun (x : Nat) => 0) 0 check) 1 old) 2 now (Int.toNat n) > 65535)) (R (SV.tuple [SV.int IntKind.i64 0, SV.int IntKind.i64 21]) w1)
                    (I (wr IntKind.i64 (n + 1)) w1 ∧ M (wr IntKind.i64 (n + 1)) w1 < M n w1))))
              (Ret Tryd.prog 92 [SV.int IntKind.i64 (wr IntKind.i64 (wr IntKind.i64 (wr IntKind.i64 (wr IntKind.i64 (65535 - check) + 65535) - old) + now))] w1
                fun (r : SV) (w1 : World) => ∃ (n : Int), r = SV.int IntKind.i64 n ∧ R (SV.tuple [SV.int IntKind.i64 (wr IntKind.i64 (65535 - n)), SV.int IntKind.i64 0]) w1)
theorem f82_of (check : Int) (old : Int) (now : Int) (w : World) (R : SV → World → Prop) (h : vc82 check old now w R) : Ret Tryd.prog 82 [.int .i64 check, .int .i64 old, .int .i64 now] w R :=
  have e : vc82 check old now w R = fnVC X Tryd.f82 a82 [.int .i64 check, .int .i64 old, .int .i64 now] w R := by kernel_rfl
  fnVC_sound X_ok (n := a82) (e ▸ h) (by kernel_rfl) (by kernel_rfl) rfl rfl

def vc87 (widths : Sl) (w : World) (R : SV → World → Prop) : Prop :=
  Br (decide ((↑widths.2 : Int) > 64)) (R (SV.tuple [SV.int IntKind.i64 0, SV.int IntKind.i64 11]) w)
    (∃ (I : Int → Int → World → Prop),
      ∃ (M : Int → Int → World → Nat),
        I 0 0 w ∧
          ∀ (n n_1 : Int) (w1 : World),
            I n n_1 w1 →
              Br (decide (n_1 < (↑widths.2 : Int)))
                (Need (decide (0 ≤ n_1) && decide (n_1 < (↑widths.2 : Int)) && Option.isSome widths.1)
                  (∃ (n_2 : Int),
                    World.cell? w1 (Sl.at widths 1 (Int.toNat n_1)) = some (Value.int IntKind.i64 n_2) ∧
                      ∀ (J : World → Prop),
                        (∀ (w1_1 : World),
                            I (wr IntKind.i64 (n + n_2)) (wr IntKind.i64 (n_1 + 1)) w1_1 ∧ M (wr IntKind.i64 (n + n_2)) (wr IntKind.i64 (n_1 + 1)) w1_1 < M n n_1 w1 → J w1_1) →
                          Br (decide (n_2 < 1)) (R (SV.tuple [SV.int IntKind.i64 0, SV.int IntKind.i64 11]) w1)
                            (Br (decide (n_2 > 32)) (R (SV.tuple [SV.int IntKind.i64 0, SV.int IntKind.i64 11]) w1) (J w1))))
                (Br (Int.tmod n 8 != 0) (R (SV.tuple [SV.int IntKind.i64 0, SV.int IntKind.i64 11]) w1)
                  (R (SV.tuple [SV.int IntKind.i64 (wr IntKind.i64 (Int.tdiv n 8)), SV.int IntKind.i64 0]) w1)))
theorem f87_of (widths : Sl) (w : World) (R : SV → World → Prop) (h : vc87 widths w R) : Ret Tryd.prog 87 [.slice widths] w R :=
  have e : vc87 widths w R = fnVC X Tryd.f87 a87 [.slice widths] w R := by kernel_rfl
  fnVC_sound X_ok (n := a87) (e ▸ h) (by kernel_rfl) (by kernel_rfl) rfl rfl

def vc90 (b : Sl) (i : Int) (w : World) (R : SV → World → Prop) : Prop :=
  ∀ (J : World → Prop),
    (∀ (w1 : World),
        Need (decide (0 ≤ i) && decide (i < (↑b.2 : Int)) && Option.isSome b.1)
            (∃ (n : Int), World.cell? w1 (Sl.at b 1 (Int.toNat i)) = some (Value.int IntKind.u8 n) ∧ R (SV.int IntKind.u8 n) w1) →
          J w1) →
      Br (decide (i < 0)) False (Br (decide (i ≥ (↑b.2 : Int))) False (J w))
theorem f90_of (b : Sl) (i : Int) (w : World) (R : SV → World → Prop) (h : vc90 b i w R) : Ret Tryd.prog 90 [.slice b, .int .i64 i] w R :=
  have e : vc90 b i w R = fnVC X Tryd.f90 a90 [.slice b, .int .i64 i] w R := by kernel_rfl
  fnVC_sound X_ok (n := a90) (e ▸ h) (by kernel_rfl) (by kernel_rfl) rfl rfl

def vc89 (b : Sl) (p1 : Int) (n : Int) (w : World) (R : SV → World → Prop) : Prop :=
  ∀ (J : World → Prop),
    (∀ (w1 : World),
        Need
            (decide (0 ≤ wr IntKind.i64 (p1 + n)) && decide (wr IntKind.i64 (p1 + n) ≤ (↑b.3 : Int)) &&
                (decide (0 ≤ wr IntKind.i64 (p1 + n)) && decide (wr IntKind.i64 (p1 + n) ≤ (↑(Int.toNat (wr IntKind.i64 (p1 + n))) : Int))) &&
              (decide (0 ≤ p1) && decide (p1 ≤ (↑(Int.toNat (wr IntKind.i64 (p1 + n))) : Int))))
            (R (SV.slice (Sl.sub b 1 (Int.toNat p1) (Int.toNat (wr IntKind.i64 (p1 + n))) (Int.toNat (wr IntKind.i64 (p1 + n))))) w1) →
          J w1) →
      Br (decide (p1 < 0)) False (Br (decide (p1 > (↑b.2 : Int))) False (Br (decide (n > wr IntKind.i64 ((↑b.2 : Int) - p1))) False (J w)))
theorem f89_of (b : Sl) (p1 : Int) (n : Int) (w : World) (R : SV → World → Prop) (h : vc89 b p1 n w R) : Ret Tryd.prog 89 [.slice b, .int .i64 p1, .int .i64 n] w R :=
  have e : vc89 b p1 n w R = fnVC X Tryd.f89 a89 [.slice b, .int .i64 p1, .int .i64 n] w R := by kernel_rfl
  fnVC_sound X_ok (n := a89) (e ▸ h) (by kernel_rfl) (by kernel_rfl) rfl rfl

def vc62 (widths : Sl) (values : Sl) (w : World) (R : SV → World → Prop) : Prop :=
  Ret Tryd.prog 87 [SV.slice widths] w fun (r : SV) (w1 : World) =>
    ∃ (n : Int),
      ∃ (n_1 : Int),
        r = SV.tuple [SV.int IntKind.i64 n, SV.int IntKind.i64 n_1] ∧
          Br (n_1 != 0) (R (SV.tuple [SV.slice { ptr := none, len := 0, cap := 0 }, SV.int IntKind.i64 n_1]) w1)
            (Br ((↑values.2 : Int) != (↑widths.2 : Int)) (R (SV.tuple [SV.slice { ptr := none, len := 0, cap := 0 }, SV.int IntKind.i64 1]) w1)
              (Need (decide (0 ≤ n) && decide (n ≤ n) && decide (n ≤ 281474976710656) && decide (1 * n ≤ 281474976710656))
                (∀ (b : Nat) (w1_1 : World),
                  Upd [] [b] w1 w1_1 →
                    (World.heap w1_1)[b]? = some (Obj.cells { toList := zerosOf (Ty.int IntKind.u8) (Int.toNat n) } 5) →
                      ∃ (I : Int → Int → World → Prop),
                        ∃ (M : Int → Int → World → Nat),
                          I 0 0 w1_1 ∧
                            ∀ (n_2 n_3 : Int) (w1 : World),
                              I n_2 n_3 w1 →
                                Br (decide (n_3 < (↑widths.2 : Int)))
                                  (Need (decide (0 ≤ n_3) && decide (n_3 < (↑widths.2 : Int)) && Option.isSome widths.1)
                                    (∃ (n_4 : Int),
                                      World.cell? w1 (Sl.at widths 1 (Int.toNat n_3)) = some (Value.int IntKind.i64 n_4) ∧
                                        Need (decide (0 ≤ n_3) && decide (n_3 < (↑values.2 : Int)) && Option.isSome values.1)
                                          (∃ (n_5 : Int),
                                            World.cell? w1 (Sl.at values 1 (Int.toNat n_3)) = some (Value.int IntKind.i64 n_5) ∧
                                              ∀ (J : World → Prop),
                                                (∀ (w1_2 : World),
                                                    (∃ (I_1 : Int → Int → World → Prop),
                                                        ∃ (M_1 : Int → Int → World → Nat),
                                                          I_1 n_2 (wr IntKind.i64 (n_4 - 1)) w1_2 ∧
                                                            ∀ (n_6 n_7 : Int) (w1_3 : World),
                                                              I_1 n_6 n_7 w1_3 →
                                                                Br (decide (n_7 ≥ 0))
                                                                  (Need
                                                                    (decide (0 ≤ wr IntKind.i64 (Int.tdiv n_6 8)) &&
                                                                        decide (wr IntKind.i64 (Int.tdiv n_6 8) < (↑(Int.toNat n) : Int)) &&
                                                                      true)
                                                                    (∃ (n_8 : Int),
                                                                      World.cell? w1_3
                                                                            (Sl.at { ptr := some { block := b, off := 0 }, len := Int.toNat n, cap := Int.toNat n } 1
                                                                              (Int.toNat (wr IntKind.i64 (Int.tdiv n_6 8)))) =
                                                                          some (Value.int IntKind.u8 n_8) ∧
                                                                        Need (decide (0 ≤ wr IntKind.u64 n_7))
                                                                          (Need (decide (0 ≤ wr IntKind.u64 (7 - wr IntKind.u64 (Int.tmod n_6 8))))
                                                                            (Need
                                                                              (decide (0 ≤ wr IntKind.i64 (Int.tdiv n_6 8)) &&
                                                                                  decide (wr IntKind.i64 (Int.tdiv n_6 8) < (↑(Int.toNat n) : Int)) &&
                                                                                true)
                                                                              (Store w1_3
                                                                                (Sl.at { ptr := some { block := b, off := 0 }, len := Int.toNat n, cap := Int.toNat n } 1
                                                                                  (Int.toNat (wr IntKind.i64 (Int.tdiv n_6 8))))
                                                                                (SV.cells
                                                                                  (SV.int IntKind.u8
                                                                                    (ior IntKind.u8 n_8
                                                                                      (gshl IntKind.u8
                                                                                        (wr IntKind.u8 (iand IntKind.i64 (gshr IntKind.i64 n_5 (wr IntKind.u64 n_7)) 1))
                                                                                        (wr IntKind.u64 (7 - wr IntKind.u64 (Int.tmod n_6 8)))))))
                                                                                [] fun (w1 : World) =>
                                                                                I_1 (wr IntKind.i64 (n_6 + 1)) (wr IntKind.i64 (n_7 - 1)) w1 ∧
                                                                                  M_1 (wr IntKind.i64 (n_6 + 1)) (wr IntKind.i64 (n_7 - 1)) w1 < M_1 n_6 n_7 w1_3)))))
                                                                  (I n_6 (wr IntKind.i64 (n_3 + 1)) w1_3 ∧ M n_6 (wr IntKind.i64 (n_3 + 1)) w1_3 < M n_2 n_3 w1)) →
                                                      J w1_2) →
                                                  Br (decide (n_5 < 0)) (R (SV.tuple [SV.slice { ptr := none, len := 0, cap := 0 }, SV.int IntKind.i64 12]) w1)
                                                    (Need (decide (0 ≤ wr IntKind.u64 n_4))
                                                      (Br (gshr IntKind.i64 n_5 (wr IntKind.u64 n_4) != 0)
                                                        (R (SV.tuple [SV.slice { ptr := none, len := 0, cap := 0 }, SV.int IntKind.i64 12]) w1) (J w1))))))
                                  (R (SV.tuple [SV.slice { ptr := some { block := b, off := 0 }, len := Int.toNat n, cap := Int.toNat n }, SV.int IntKind.i64 0]) w1))))
theorem f62_of (widths : Sl) (values : Sl) (w : World) (R : SV → World → Prop) (h : vc62 widths values w R) : Ret Tryd.prog 62 [.slice widths, .slice values] w R :=
  have e : vc62 widths values w R = fnVC X Tryd.f62 a62 [.slice widths, .slice values] w R := by kernel_rfl
  fnVC_sound X_ok (n := a62) (e ▸ h) (by kernel_rfl) (by kernel_rfl) rfl rfl

def vc58 (b : Sl) (p1 : Int) (widths : Sl) (w : World) (R : SV → World → Prop) : Prop :=
  ∀ (b_1 b_2 b_3 : Nat) (w1 : World),
    Upd [] [b_3, b_2, b_1] w w1 →
      Ret Tryd.prog 87 [SV.slice widths] w1 fun (r : SV) (w1_1 : World) =>
        ∃ (n : Int),
          ∃ (n_1 : Int),
            r = SV.tuple [SV.int IntKind.i64 n, SV.int IntKind.i64 n_1] ∧
              Keeps [b_1, b_2, b_3] w1 w1_1 ∧
                Br (n_1 != 0) (∀ (w1 : World), Upd [b_3] [] w1_1 w1 → ∃ (bs : List Nat), (∀ (b : Nat), b ∈ bs → b < List.length (World.heap w1).1) ∧ False)
                  (∀ (w1 : World),
                    Upd [b_3] [] w1_1 w1 →
                      (World.heap w1)[b_1]? = some (Obj.cells { toList := SV.cells (SV.slice { ptr := none, len := 0, cap := 0 }) } 96) →
                        Off b_1 [b_2, b_3] →
                          (World.heap w1)[b_2]? = some (Obj.cells { toList := SV.cells (SV.int IntKind.i64 0) } 3) →
                            Off b_2 [b_3] →
                              (World.heap w1)[b_3]? = some (Obj.cells { toList := SV.cells (SV.int IntKind.i64 n_1) } 31) →
                                Ret Tryd.prog 89 [SV.slice b, SV.int IntKind.i64 p1, SV.int IntKind.i64 n] w1 fun (r : SV) (w1 : World) =>
                                  ∃ (s : Sl),
                                    r = SV.slice s ∧
                                      ∃ (I : Int → Int → World → Prop),
                                        ∃ (M : Int → Int → World → Nat),
                                          I 0 0 w1 ∧
                                            ∀ (n_2 n_3 : Int) (w1 : World),
                                              I n_2 n_3 w1 →
                                                Br (decide (n_3 < (↑widths.2 : Int)))
                                                  (Need (decide (0 ≤ n_3) && decide (n_3 < (↑widths.2 : Int)) && Option.isSome widths.1)
                                                    (∃ (n : Int),
                                                      World.cell? w1 (Sl.at widths 1 (Int.toNat n_3)) = some (Value.int IntKind.i64 n) ∧
                                                        ∃ (I_1 : Int → Int → Int → World → Prop),
                                                          ∃ (M_1 : Int → Int → Int → World → Nat),
                                                            I_1 n_2 0 0 w1 ∧
                                                              ∀ (n_4 n_5 n_6 : Int) (w1_2 : World),
                                                                I_1 n_4 n_5 n_6 w1_2 →
                                                                  Br (decide (n_6 < n))
                                                                    (Ret Tryd.prog 90 [SV.slice s, SV.int IntKind.i64 (wr IntKind.i64 (Int.tdiv n_4 8))] w1_2
                                                                      fun (r : SV) (w1 : World) =>
                                                                      ∃ (n : Int),
                                                                        r = SV.int IntKind.u8 n ∧
                                                                          Need (decide (0 ≤ wr IntKind.u64 (7 - wr IntKind.u64 (Int.tmod n_4 8))))
                                                                            (I_1 (wr IntKind.i64 (n_4 + 1))
                                                                                (ior IntKind.i64 (gshl IntKind.i64 n_5 1)
                                                                                  (wr IntKind.i64
                                                                                    (iand IntKind.u8 (gshr IntKind.u8 n (wr IntKind.u64 (7 - wr IntKind.u64 (Int.tmod n_4 8)))) 1)))
                                                                                (wr IntKind.i64 (n_6 + 1)) w1 ∧
                                                                              M_1 (wr IntKind.i64 (n_4 + 1))
                                                                                  (ior IntKind.i64 (gshl IntKind.i64 n_5 1)
                                                                                    (wr IntKind.i64
                                                                                      (iand IntKind.u8 (gshr IntKind.u8 n (wr IntKind.u64 (7 - wr IntKind.u64 (Int.tmod n_4 8)))) 1)))
                                                                                  (wr IntKind.i64 (n_6 + 1)) w1 <
                                                                                M_1 n_4 n_5 n_6 w1_2))
                                                                    (∃ (s : Sl),
                                                                      World.cell? w1_2 { block := b_1, off := 0 } = some (Sl.val s) ∧
                                                                        ∀ (b : Nat) (w1_3 : World),
                                                                          Upd [] [b] w1_2 w1_3 →
                                                                            (World.heap w1_3)[b]? = some (Obj.cells { toList := SV.cells (SV.struct [SV.int IntKind.i64 n_5]) } 3) →
                                                                              Vc.Append 3 1 8 s { ptr := some { block := b, off := 0 }, len := 1, cap := 1 } [] w1_3
                                                                                fun (r : Sl) (w : World) =>
                                                                                Store w { block := b_1, off := 0 } (SV.cells (SV.slice r)) [] fun (w1_4 : World) =>
                                                                                  I n_4 (wr IntKind.i64 (n_3 + 1)) w1_4 ∧ M n_4 (wr IntKind.i64 (n_3 + 1)) w1_4 < M n_2 n_3 w1)))
                                                  (∃ (s : Sl),
                                                    World.cell? w1 { block := b_1, off := 0 } = some (Sl.val s) ∧
                                                      Store w1 { block := b_1, off := 0 } (SV.cells (SV.slice s)) [] fun (w1 : World) =>
                                                        Store w1 { block := b_2, off := 0 } (SV.cells (SV.int IntKind.i64 (wr IntKind.i64 (p1 + n)))) [] fun (w1 : World) =>
                                                          Store w1 { block := b_3, off := 0 } (SV.cells (SV.int IntKind.i64 0)) [] fun (w1 : World) =>
                                                            RetD Tryd.prog 88
                                                              [SV.ptr (some { block := b_1, off := 0 }), SV.ptr (some { block := b_2, off := 0 }),
                                                                SV.ptr (some { block := b_3, off := 0 })]
                                                              w1 fun (w1 : World) =>
                                                              ∃ (s : Sl),
                                                                World.cell? w1 { block := b_1, off := 0 } = some (Sl.val s) ∧
                                                                  ∃ (n : Int),
                                                                    World.cell? w1 { block := b_2, off := 0 } = some (Value.int IntKind.i64 n) ∧
                                                                      ∃ (n_4 : Int),
                                                                        World.cell? w1 { block := b_3, off := 0 } = some (Value.int IntKind.i64 n_4) ∧
                                                                          R (SV.tuple [SV.slice s, SV.int IntKind.i64 n, SV.int IntKind.i64 n_4]) w1))
theorem f58_of (b : Sl) (p1 : Int) (widths : Sl) (w : World) (R : SV → World → Prop) (h : vc58 b p1 widths w R) : Ret Tryd.prog 58 [.slice b, .int .i64 p1, .slice widths] w R :=
  have e : vc58 b p1 widths w R = fnVCD X Tryd.f58 a58 [.slice b, .int .i64 p1, .slice widths] w R := by kernel_rfl
  fnVCD_sound X_ok (n := a58) (e ▸ h) (by kernel_rfl) (by kernel_rfl) rfl rfl

def vc21 (e : Int) (w : World) (R : SV → World → Prop) : Prop :=
  R (SV.int IntKind.i64 e) w
theorem f21_of (e : Int) (w : World) (R : SV → World → Prop) (h : vc21 e w R) : Ret Tryd.prog 21 [.int .i64 e] w R :=
  have e : vc21 e w R = fnVC X Tryd.f21 a21 [.int .i64 e] w R := by kernel_rfl
  fnVC_sound X_ok (n := a21) (e ▸ h) (by kernel_rfl) (by kernel_rfl) rfl rfl

def vc60 (n : Int) (w : World) (R : SV → World → Prop) : Prop :=
  R (SV.bool (n == 1)) w
theorem f60_of (n : Int) (w : World) (R : SV → World → Prop) (h : vc60 n w R) : Ret Tryd.prog 60 [.int .i64 n] w R :=
  have e : vc60 n w R = fnVC X Tryd.f60 a60 [.int .i64 n] w R := by kernel_rfl
  fnVC_sound X_ok (n := a60) (e ▸ h) (by kernel_rfl) (by kernel_rfl) rfl rfl

def vc61 (b : Sl) (w : World) (R : SV → World → Prop) : Prop :=
  ∀ (b_1 b_2 : Nat) (w1 : World),
    Upd [] [b_2, b_1] w w1 →
      (World.heap w1)[b_2]? = some (Obj.cells { toList := SV.cells (SV.struct [SV.int IntKind.i64 4, SV.arr IntKind.u8 16 fun (x : Nat) => 0]) } 27) →
        Off b_2 [b_1] →
          Copy 1 (Sl.sub { ptr := some { block := b_2, off := 1 }, len := 16, cap := 16 } 1 0 4 16) b [b_1] w1 fun (w : World) =>
            ∃ (n : Int),
              World.cell? w { block := b_2, off := 0 } = some (Value.int IntKind.i64 n) ∧
                ∃ (f : Nat → Int),
                  (∀ (i : Nat), i < 16 → World.cell? w (Addr.add { block := b_2, off := 0 } (1 + i)) = some (Value.int IntKind.u8 (f i))) ∧
                    ∀ (w1 : World), Upd [b_1] [] w w1 → R (SV.struct [SV.int IntKind.i64 n, SV.arr IntKind.u8 16 f]) w1
theorem f61_of (b : Sl) (w : World) (R : SV → World → Prop) (h : vc61 b w R) : Ret Tryd.prog 61 [.slice b] w R :=
  have e : vc61 b w R = fnVC X Tryd.f61 a61 [.slice b] w R := by kernel_rfl
  fnVC_sound X_ok (n := a61) (e ▸ h) (by kernel_rfl) (by kernel_rfl) rfl rfl

def vc63 (b : Bool) (w : World) (R : SV → World → Prop) : Prop :=
  Br b (R (SV.int IntKind.i64 1) w) (R (SV.int IntKind.i64 0) w)
theorem f63_of (b : Bool) (w : World) (R : SV → World → Prop) (h : vc63 b w R) : Ret Tryd.prog 63 [.bool b] w R :=
  have e : vc63 b w R = fnVC X Tryd.f63 a63 [.bool b] w R := by kernel_rfl
  fnVC_sound X_ok (n := a63) (e ▸ h) (by kernel_rfl) (by kernel_rfl) rfl rfl

def vc59 (mf : Bool) (off : Int) (n : Int) (w : World) (R : SV → World → Prop) : Prop :=
  Br mf
    (Br (n == 0) (R (SV.int IntKind.i64 66) w)
      (Br (Int.tmod n 8 != 0) (R (SV.int IntKind.i64 66) w) (Br (decide (wr IntKind.i64 (off + n) > 65515)) (R (SV.int IntKind.i64 66) w) (R (SV.int IntKind.i64 0) w))))
    (Br (decide (wr IntKind.i64 (off + n) > 65515)) (R (SV.int IntKind.i64 66) w) (R (SV.int IntKind.i64 0) w))
theorem f59_of (mf : Bool) (off : Int) (n : Int) (w : World) (R : SV → World → Prop) (h : vc59 mf off n w R) : Ret Tryd.prog 59 [.bool mf, .int .i64 off, .int .i64 n] w R :=
  have e : vc59 mf off n w R = fnVC X Tryd.f59 a59 [.bool mf, .int .i64 off, .int .i64 n] w R := by kernel_rfl
  fnVC_sound X_ok (n := a59) (e ▸ h) (by kernel_rfl) (by kernel_rfl) rfl rfl

def vc68 (n : Int) (hi : Int) (w : World) (R : SV → World → Prop) : Prop :=
  Br (decide (n < 0)) (R (SV.bool true) w) (R (SV.bool (decide (n > hi))) w)
theorem f68_of (n : Int) (hi : Int) (w : World) (R : SV → World → Prop) (h : vc68 n hi w R) : Ret Tryd.prog 68 [.int .i64 n, .int .i64 hi] w R :=
  have e : vc68 n hi w R = fnVC X Tryd.f68 a68 [.int .i64 n, .int .i64 hi] w R := by kernel_rfl
  fnVC_sound X_ok (n := a68) (e ▸ h) (by kernel_rfl) (by kernel_rfl) rfl rfl

def vc69 (ip_0 : Int) (ip_1 : Nat → Int) (w : World) (R : SV → World → Prop) : Prop :=
  ∀ (b b_1 : Nat) (w1 : World),
    Upd [] [b_1, b] w w1 →
      (World.heap w1)[b_1]? = some (Obj.cells { toList := SV.cells (SV.arr IntKind.u8 16 fun (x : Nat) => 0) } 25) →
        Off b_1 [b] →
          (World.heap w1)[b]? = some (Obj.cells { toList := SV.cells (SV.struct [SV.int IntKind.i64 ip_0, SV.arr IntKind.u8 16 ip_1]) } 27) →
            (∀ (w1_1 : World),
                Upd [] [] w1 w1_1 →
                  Copy 1 (Sl.sub { ptr := some { block := b_1, off := 0 }, len := 16, cap := 16 } 1 0 4 16)
                    (Sl.sub { ptr := some (Addr.add { block := b, off := 0 } 1), len := 16, cap := 16 } 1 0 4 16) [] w1_1 fun (w : World) =>
                    ∃ (n : Int),
                      World.cell? w { block := b, off := 0 } = some (Value.int IntKind.i64 n) ∧
                        Br (n == 4)
                          (∃ (f : Nat → Int),
                            (∀ (i : Nat), i < 16 → World.cell? w (Addr.add (Addr.add { block := b, off := 0 } 1) (0 + i)) = some (Value.int IntKind.u8 (f i))) ∧
                              ∃ (f_1 : Nat → Int),
                                (∀ (i : Nat), i < 16 → World.cell? w (Addr.add { block := b_1, off := 0 } (0 + i)) = some (Value.int IntKind.u8 (f_1 i))) ∧
                                  R (SV.bool (eqArr 16 f f_1)) w)
                          (R (SV.bool false) w)) ∧
              ∀ (w1_1 : World),
                Upd [] [] w1 w1_1 →
                  Copy 1 (Sl.sub { ptr := some { block := b_1, off := 0 }, len := 16, cap := 16 } 1 0 4 16)
                    (Sl.sub { ptr := some (Addr.add { block := b, off := 0 } 1), len := 16, cap := 16 } 1 0 4 16) [] w1_1 fun (w : World) =>
                    ∃ (n : Int),
                      World.cell? w { block := b, off := 0 } = some (Value.int IntKind.i64 n) ∧
                        Br (n == 4)
                          (∃ (f : Nat → Int),
                            (∀ (i : Nat), i < 16 → World.cell? w (Addr.add (Addr.add { block := b, off := 0 } 1) (0 + i)) = some (Value.int IntKind.u8 (f i))) ∧
                              ∃ (f_1 : Nat → Int),
                                (∀ (i : Nat), i < 16 → World.cell? w (Addr.add { block := b_1, off := 0 } (0 + i)) = some (Value.int IntKind.u8 (f_1 i))) ∧
                                  R (SV.bool (eqArr 16 f f_1)) w)
                          (R (SV.bool false) w)
theorem f69_of (ip_0 : Int) (ip_1 : Nat → Int) (w : World) (R : SV → World → Prop) (h : vc69 ip_0 ip_1 w R) : Ret Tryd.prog 69 [.struct [.int .i64 ip_0, .arr .u8 16 ip_1]] w R :=
  have e : vc69 ip_0 ip_1 w R = fnVC X Tryd.f69 a69 [.struct [.int .i64 ip_0, .arr .u8 16 ip_1]] w R := by kernel_rfl
  fnVC_sound X_ok (n := a69) (e ▸ h) (by kernel_rfl) (by kernel_rfl) rfl rfl

def vc83 (b : Sl) (p1 : Int) (w : World) (R : SV → World → Prop) : Prop :=
  Need (decide (0 ≤ p1) && decide (p1 < (↑b.2 : Int)) && Option.isSome b.1)
    (∃ (n : Int),
      World.cell? w (Sl.at b 1 (Int.toNat p1)) = some (Value.int IntKind.u8 n) ∧
        Need (decide (0 ≤ wr IntKind.i64 (p1 + 1)) && decide (wr IntKind.i64 (p1 + 1) < (↑b.2 : Int)) && Option.isSome b.1)
          (∃ (n_1 : Int),
            World.cell? w (Sl.at b 1 (Int.toNat (wr IntKind.i64 (p1 + 1)))) = some (Value.int IntKind.u8 n_1) ∧
              ∀ (w1 : World), Upd [] [] w w1 → R (SV.int IntKind.i64 (wr IntKind.i64 (wr IntKind.i64 (256 * wr IntKind.i64 n) + wr IntKind.i64 n_1))) w1))
theorem f83_of (b : Sl) (p1 : Int) (w : World) (R : SV → World → Prop) (h : vc83 b p1 w R) : Ret Tryd.prog 83 [.slice b, .int .i64 p1] w R :=
  have e : vc83 b p1 w R = fnVC X Tryd.f83 a83 [.slice b, .int .i64 p1] w R := by kernel_rfl
  fnVC_sound X_ok (n := a83) (e ▸ h) (by kernel_rfl) (by kernel_rfl) rfl rfl

def vc70 (b : Sl) (n : Int) (w : World) (R : SV → World → Prop) : Prop :=
  ∀ (b_1 : Nat) (w1 : World),
    Upd [] [b_1] w w1 →
      (World.heap w1)[b_1]? =
          some
            (Obj.cells { toList := SV.cells (SV.struct [SV.int IntKind.u8 (wr IntKind.u8 (wr IntKind.i64 (Int.tdiv n 256))), SV.int IntKind.u8 (wr IntKind.u8 (Int.tmod n 256))]) }
              5) →
        Vc.Append 5 1 1 b { ptr := some { block := b_1, off := 0 }, len := 2, cap := 2 } [] w1 fun (r : Sl) (w : World) => R (SV.slice r) w
theorem f70_of (b : Sl) (n : Int) (w : World) (R : SV → World → Prop) (h : vc70 b n w R) : Ret Tryd.prog 70 [.slice b, .int .i64 n] w R :=
  have e : vc70 b n w R = fnVC X Tryd.f70 a70 [.slice b, .int .i64 n] w R := by kernel_rfl
  fnVC_sound X_ok (n := a70) (e ▸ h) (by kernel_rfl) (by kernel_rfl) rfl rfl

def vc72 (n : Int) (hi : Int) (w : World) (R : SV → World → Prop) : Prop :=
  Br (decide (n < 0)) (R (SV.bool true) w) (R (SV.bool (decide (n > hi))) w)
theorem f72_of (n : Int) (hi : Int) (w : World) (R : SV → World → Prop) (h : vc72 n hi w R) : Ret Tryd.prog 72 [.int .i64 n, .int .i64 hi] w R :=
  have e : vc72 n hi w R = fnVC X Tryd.f72 a72 [.int .i64 n, .int .i64 hi] w R := by kernel_rfl
  fnVC_sound X_ok (n := a72) (e ▸ h) (by kernel_rfl) (by kernel_rfl) rfl rfl

def vc73 (ip_0 : Int) (ip_1 : Nat → Int) (w : World) (R : SV → World → Prop) : Prop :=
  ∀ (b : Nat),
    ∃ (I : Int → World → Prop),
      ∃ (M : Int → World → Nat),
        (∀ (w1 : World), Upd [] [b] w w1 → I 4 w1) ∧
          ∀ (n : Int) (w1 : World),
            I n w1 →
              Br (decide (n < 16))
                (Need (decide (0 ≤ n) && decide (n < 16))
                  (Br (ip_1 (Int.toNat n) != 0) (R (SV.bool false) w1)
                    (some (SV.box b 27 (SV.struct [SV.int IntKind.i64 ip_0, SV.arr IntKind.u8 16 ip_1])) =
                        some (SV.box b 27 (SV.struct [SV.int IntKind.i64 ip_0, SV.arr IntKind.u8 16 ip_1])) ∧
                      I (wr IntKind.i64 (n + 1)) w1 ∧ M (wr IntKind.i64 (n + 1)) w1 < M n w1)))
                (R (SV.bool (ip_0 == 4)) w1)
theorem f73_of (ip_0 : Int) (ip_1 : Nat → Int) (w : World) (R : SV → World → Prop) (h : vc73 ip_0 ip_1 w R) : Ret Tryd.prog 73 [.struct [.int .i64 ip_0, .arr .u8 16 ip_1]] w R :=
  have e : vc73 ip_0 ip_1 w R = fnVC X Tryd.f73 a73 [.struct [.int .i64 ip_0, .arr .u8 16 ip_1]] w R := by kernel_rfl
  fnVC_sound X_ok (n := a73) (e ▸ h) (by kernel_rfl) (by kernel_rfl) rfl rfl

def vc74 (mf : Bool) (off : Int) (n : Int) (w : World) (R : SV → World → Prop) : Prop :=
  Br mf (Br (n == 0) (R (SV.bool true) w) (Br (Int.tmod n 8 != 0) (R (SV.bool true) w) (R (SV.bool (decide (wr IntKind.i64 (off + n) > 65515))) w)))
    (R (SV.bool (decide (wr IntKind.i64 (off + n) > 65515))) w)
theorem f74_of (mf : Bool) (off : Int) (n : Int) (w : World) (R : SV → World → Prop) (h : vc74 mf off n w R) : Ret Tryd.prog 74 [.bool mf, .int .i64 off, .int .i64 n] w R :=
  have e : vc74 mf off n w R = fnVC X Tryd.f74 a74 [.bool mf, .int .i64 off, .int .i64 n] w R := by kernel_rfl
  fnVC_sound X_ok (n := a74) (e ▸ h) (by kernel_rfl) (by kernel_rfl) rfl rfl

end Go.Vc.S6
end
