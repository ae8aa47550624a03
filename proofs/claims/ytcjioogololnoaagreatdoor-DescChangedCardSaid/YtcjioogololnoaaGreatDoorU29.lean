/- The checksum of bech32, in plain Lean: what is written with it is read as its constant. | The checksum of descriptors, in plain Lean: of two texts that differ in one letter it differs. | A text is cut at its mark; one letter changed ahead of the mark: the sum behind it isn't the letters' any more. Plain. -/
import Derived.Test.YtcjioogololnoaaGreatDoorU24
import Derived.Lib.IndexMore

/-! The checksum of bech32, in plain Lean: what is written with it is read as its constant. -/
namespace Go.Proofs.YtcjioogololnoaaGreatDoor

def bAdd : List (BitVec 64) := [0x3b6a57b2, 0x26508e6d, 0x1ea119fa, 0x3d4233dd, 0x2a1462b3]
def bAddTo (b c : BitVec 64) : Nat → BitVec 64
  | 0 => c
  | i + 1 => if (b >>> i) &&& 1 = 1 then bAddTo b c i ^^^ bAdd.getD i 0 else bAddTo b c i
def v64 (v : UInt8) : BitVec 64 := v.toBitVec.setWidth 64
def bStep (c : BitVec 64) (v : UInt8) : BitVec 64 := bAddTo (c >>> 25) (((c &&& 0x1ffffff) <<< 5) ^^^ v64 v) 5
def bech (l : List UInt8) : BitVec 64 := l.foldl bStep 1
def lets6 (c : BitVec 64) (k : Nat) : List UInt8 := (List.range k).map fun i => UInt8.ofNat (c.toNat / 2 ^ (5 * (5 - i)) % 32)

def lin (c : BitVec 64) : BitVec 64 := bAddTo (c >>> 25) ((c &&& 0x1ffffff) <<< 5) 5

theorem bAddTo_xor (b c d : BitVec 64) : ∀ n, bAddTo b (c ^^^ d) n = bAddTo b c n ^^^ d
  | 0 => rfl
  | n + 1 => by
    simp only [bAddTo, bAddTo_xor b c d n]
    split
    · rw [BitVec.xor_assoc, BitVec.xor_assoc, BitVec.xor_comm d]
    · rfl
theorem bStep_lin (c : BitVec 64) (v : UInt8) : bStep c v = lin c ^^^ v64 v := bAddTo_xor _ _ _ 5
theorem bit01 (b : BitVec 64) (i : Nat) : (b >>> i) &&& 1 = 0 ∨ (b >>> i) &&& 1 = 1 := by
  have h : ((b >>> i) &&& 1).toNat < 2 := by
    rw [BitVec.toNat_and]
    exact Nat.lt_of_le_of_lt Nat.and_le_right (by decide)
  rcases (show ((b >>> i) &&& 1).toNat = 0 ∨ ((b >>> i) &&& 1).toNat = 1 by omega) with h | h
  · left; exact BitVec.eq_of_toNat_eq h
  · right; exact BitVec.eq_of_toNat_eq h
theorem bAddTo_two (b b' c c' : BitVec 64) : ∀ n, bAddTo (b ^^^ b') (c ^^^ c') n = bAddTo b c n ^^^ bAddTo b' c' n
  | 0 => rfl
  | n + 1 => by
    simp only [bAddTo, bAddTo_two b b' c c' n]
    have hx : ((b ^^^ b') >>> n) &&& 1 = ((b >>> n) &&& 1) ^^^ ((b' >>> n) &&& 1) := by
      apply BitVec.eq_of_getLsbD_eq
      intro i hi
      simp [BitVec.getLsbD_and, BitVec.getLsbD_xor, Bool.and_xor_distrib_right]
    rw [hx]
    generalize bAddTo b c n = x
    generalize bAddTo b' c' n = y
    generalize bAdd.getD n 0 = a
    have h01 : ¬ ((0 : BitVec 64) = 1) := by decide
    rcases bit01 b n with h | h <;> rcases bit01 b' n with h' | h' <;> rw [h, h']
    · rw [if_neg (by decide), if_neg (by decide), if_neg (by decide)]
    · rw [if_pos (by decide), if_neg (by decide), if_pos (by decide), BitVec.xor_assoc]
    · rw [if_pos (by decide), if_pos (by decide), if_neg (by decide), BitVec.xor_assoc, BitVec.xor_assoc, BitVec.xor_comm y a]
    · rw [if_neg (by decide), if_pos (by decide), if_pos (by decide)]
      apply BitVec.eq_of_getLsbD_eq
      intro i hi
      simp only [BitVec.getLsbD_xor]
      cases x.getLsbD i <;> cases y.getLsbD i <;> cases a.getLsbD i <;> rfl
theorem lin_xor (a b : BitVec 64) : lin (a ^^^ b) = lin a ^^^ lin b := by
  unfold lin
  rw [← bAddTo_two]
  congr 1
  · apply BitVec.eq_of_getLsbD_eq
    intro i hi
    simp [BitVec.getLsbD_xor]
  · apply BitVec.eq_of_getLsbD_eq
    intro i hi
    simp only [BitVec.getLsbD_shiftLeft, BitVec.getLsbD_and, BitVec.getLsbD_xor]
    cases a.getLsbD (i - 5) <;> cases b.getLsbD (i - 5) <;> simp
theorem bAddTo_zero (c : BitVec 64) : ∀ n, bAddTo 0 c n = c
  | 0 => rfl
  | n + 1 => by
    have h : ((0 : BitVec 64) >>> n) &&& 1 = 0 := by simp
    rw [bAddTo, h, if_neg (by decide), bAddTo_zero c n]
theorem lin_small (a : BitVec 64) (h : a.toNat < 2 ^ 25) : lin a = a <<< 5 := by
  have h1 : a >>> 25 = 0 := by
    apply BitVec.eq_of_toNat_eq
    rw [BitVec.toNat_ushiftRight, Nat.shiftRight_eq_div_pow, Nat.div_eq_of_lt h]; rfl
  have h2 : a &&& 0x1ffffff = a := by
    apply BitVec.eq_of_toNat_eq
    rw [BitVec.toNat_and, show (0x1ffffff : BitVec 64).toNat = 2 ^ 25 - 1 from rfl, Nat.and_two_pow_sub_one_eq_mod, Nat.mod_eq_of_lt h]
  rw [lin, h1, h2, bAddTo_zero]
theorem bAddTo_lt (b c : BitVec 64) (h : c.toNat < 2 ^ 30) : ∀ n, (bAddTo b c n).toNat < 2 ^ 30
  | 0 => h
  | n + 1 => by
    have ih := bAddTo_lt b c h n
    rw [bAddTo]
    split
    · rw [BitVec.toNat_xor]
      refine Nat.xor_lt_two_pow ih ?_
      match n with
      | 0 => decide
      | 1 => decide
      | 2 => decide
      | 3 => decide
      | 4 => decide
      | n + 5 => simp [bAdd]
    · exact ih
theorem lin_lt (c : BitVec 64) : (lin c).toNat < 2 ^ 30 := by
  refine bAddTo_lt _ _ ?_ 5
  have h : (c &&& 0x1ffffff).toNat < 2 ^ 25 := by
    rw [BitVec.toNat_and]; exact Nat.and_lt_two_pow _ (by decide)
  rw [BitVec.toNat_shiftLeft, Nat.shiftLeft_eq]
  refine Nat.lt_of_le_of_lt (Nat.mod_le _ _) ?_
  omega
theorem low5 (P : BitVec 64) (s : Nat) : ((P >>> (s + 5)) <<< 5) ^^^ ((P >>> s) &&& (31 : BitVec 64)) = P >>> s := by
  have h31 : ∀ i, i < 64 → (31 : BitVec 64).getLsbD i = decide (i < 5) := by decide
  apply BitVec.eq_of_getLsbD_eq
  intro i hi
  rw [BitVec.getLsbD_xor, BitVec.getLsbD_shiftLeft, BitVec.getLsbD_and, BitVec.getLsbD_ushiftRight, BitVec.getLsbD_ushiftRight, h31 i hi]
  by_cases h : i < 5
  · simp [h]
  · simp [h, hi, show s + 5 + (i - 5) = s + i by omega]
theorem lin_step (x P : BitVec 64) (s : Nat) (hP : P.toNat < 2 ^ 30) : lin (x ^^^ (P >>> (s + 5))) ^^^ ((P >>> s) &&& (31 : BitVec 64)) = lin x ^^^ (P >>> s) := by
  have h : (P >>> (s + 5)).toNat < 2 ^ 25 := by
    rw [BitVec.toNat_ushiftRight, Nat.shiftRight_eq_div_pow, Nat.pow_add, ← Nat.div_div_eq_div_mul]
    have h1 : P.toNat / 2 ^ s ≤ P.toNat := Nat.div_le_self _ _
    omega
  rw [lin_xor, lin_small _ h, BitVec.xor_assoc, low5]
theorem v64_let (P : BitVec 64) (s : Nat) : v64 (UInt8.ofNat (P.toNat / 2 ^ s % 32)) = (P >>> s) &&& 31 := by
  apply BitVec.eq_of_toNat_eq
  rw [v64, BitVec.toNat_setWidth, UInt8.toNat_toBitVec, UInt8.toNat_ofNat', BitVec.toNat_and, BitVec.toNat_ushiftRight, Nat.shiftRight_eq_div_pow, show (31 : BitVec 64).toNat = 2 ^ 5 - 1 from rfl, Nat.and_two_pow_sub_one_eq_mod]
  omega
theorem xor0 (x : BitVec 64) : x ^^^ 0 = x := by simp
theorem v64_zero (x : BitVec 64) : lin x ^^^ v64 0 = lin x := by
  rw [show v64 0 = 0 from rfl, xor0]
theorem bech_zero (all : List UInt8) : bech (all ++ List.replicate 6 0) = lin (lin (lin (lin (lin (lin (bech all)))))) := by
  rw [bech, List.foldl_append]
  simp only [List.replicate, List.foldl, bStep_lin, v64_zero]
  rfl
theorem bech_lt (all : List UInt8) : (bech (all ++ List.replicate 6 0)).toNat < 2 ^ 30 := by rw [bech_zero]; exact lin_lt _
theorem bech_closes (all : List UInt8) (K : BitVec 64) (hK : K.toNat < 2 ^ 30) : bech (all ++ lets6 (bech (all ++ List.replicate 6 0) ^^^ K) 6) = K := by
  have hP : (bech (all ++ List.replicate 6 0) ^^^ K).toNat < 2 ^ 30 := by
    rw [BitVec.toNat_xor]; exact Nat.xor_lt_two_pow (bech_lt all) hK
  obtain ⟨P, hPe⟩ : ∃ P, P = bech (all ++ List.replicate 6 0) ^^^ K := ⟨_, rfl⟩
  rw [← hPe] at hP ⊢
  have h30 : P >>> 30 = 0 := by
    apply BitVec.eq_of_toNat_eq
    rw [BitVec.toNat_ushiftRight, Nat.shiftRight_eq_div_pow, Nat.div_eq_of_lt hP]; rfl
  have hL : lets6 P 6 = [UInt8.ofNat (P.toNat / 2 ^ 25 % 32), UInt8.ofNat (P.toNat / 2 ^ 20 % 32), UInt8.ofNat (P.toNat / 2 ^ 15 % 32), UInt8.ofNat (P.toNat / 2 ^ 10 % 32), UInt8.ofNat (P.toNat / 2 ^ 5 % 32), UInt8.ofNat (P.toNat / 2 ^ 0 % 32)] := rfl
  have h0 : lin (bech all) ^^^ ((P >>> 25) &&& (31 : BitVec 64)) = lin (bech all) ^^^ (P >>> 25) := by
    have := lin_step (bech all) P 25 hP
    rwa [show 25 + 5 = 30 from rfl, h30, xor0] at this
  rw [hL, bech, List.foldl_append]
  simp only [List.foldl, bStep_lin, v64_let]
  rw [show List.foldl bStep 1 all = bech all from rfl, h0, lin_step _ P 20 hP, lin_step _ P 15 hP, lin_step _ P 10 hP, lin_step _ P 5 hP, lin_step _ P 0 hP]
  rw [BitVec.ushiftRight_zero, hPe, bech_zero, ← BitVec.xor_assoc, BitVec.xor_self, BitVec.zero_xor]
end Go.Proofs.YtcjioogololnoaaGreatDoor

/-! The checksum of descriptors, in plain Lean: of two texts that differ in one letter it differs. -/
namespace Go.Proofs.YtcjioogololnoaaGreatDoor

def plin (c : BitVec 64) : BitVec 64 := polyAdd (c >>> 35) ((c &&& 0x7ffffffff) <<< 5) 5
theorem polyAdd_xor (b c d : BitVec 64) : ∀ n, polyAdd b (c ^^^ d) n = polyAdd b c n ^^^ d
  | 0 => rfl
  | n + 1 => by
    simp only [polyAdd, polyAdd_xor b c d n]
    split
    · rw [BitVec.xor_assoc, BitVec.xor_assoc, BitVec.xor_comm d]
    · rfl
theorem polyStep_lin (c : BitVec 64) (v : UInt8) : polyStep c v = plin c ^^^ v64 v := polyAdd_xor _ _ _ 5
theorem polyAdd_two (b b' c c' : BitVec 64) : ∀ n, polyAdd (b ^^^ b') (c ^^^ c') n = polyAdd b c n ^^^ polyAdd b' c' n
  | 0 => rfl
  | n + 1 => by
    simp only [polyAdd, polyAdd_two b b' c c' n]
    have hx : ((b ^^^ b') >>> n) &&& 1 = ((b >>> n) &&& 1) ^^^ ((b' >>> n) &&& 1) := by
      apply BitVec.eq_of_getLsbD_eq
      intro i hi
      simp [BitVec.getLsbD_and, BitVec.getLsbD_xor, Bool.and_xor_distrib_right]
    rw [hx]
    generalize polyAdd b c n = x
    generalize polyAdd b' c' n = y
    generalize dAdd.getD n 0 = a
    rcases bit01 b n with h | h <;> rcases bit01 b' n with h' | h' <;> rw [h, h']
    · rw [if_neg (by decide), if_neg (by decide), if_neg (by decide)]
    · rw [if_pos (by decide), if_neg (by decide), if_pos (by decide), BitVec.xor_assoc]
    · rw [if_pos (by decide), if_pos (by decide), if_neg (by decide), BitVec.xor_assoc, BitVec.xor_assoc, BitVec.xor_comm y a]
    · rw [if_neg (by decide), if_pos (by decide), if_pos (by decide)]
      apply BitVec.eq_of_getLsbD_eq
      intro i hi
      simp only [BitVec.getLsbD_xor]
      cases x.getLsbD i <;> cases y.getLsbD i <;> cases a.getLsbD i <;> rfl
theorem plin_xor (a b : BitVec 64) : plin (a ^^^ b) = plin a ^^^ plin b := by
  unfold plin
  rw [← polyAdd_two]
  congr 1
  · apply BitVec.eq_of_getLsbD_eq
    intro i hi
    simp [BitVec.getLsbD_xor]
  · apply BitVec.eq_of_getLsbD_eq
    intro i hi
    simp only [BitVec.getLsbD_shiftLeft, BitVec.getLsbD_and, BitVec.getLsbD_xor]
    cases a.getLsbD (i - 5) <;> cases b.getLsbD (i - 5) <;> simp
theorem polyAdd_zero (c : BitVec 64) : ∀ n, polyAdd 0 c n = c
  | 0 => rfl
  | n + 1 => by
    have h : ((0 : BitVec 64) >>> n) &&& 1 = 0 := by simp
    rw [polyAdd, h, if_neg (by decide), polyAdd_zero c n]
theorem and_m35 (a : BitVec 64) : (a &&& 0x7ffffffff).toNat = a.toNat % 2 ^ 35 := by
  rw [BitVec.toNat_and, show (0x7ffffffff : BitVec 64).toNat = 2 ^ 35 - 1 from rfl, Nat.and_two_pow_sub_one_eq_mod]
theorem plin_small (a : BitVec 64) (h : a.toNat < 2 ^ 35) : plin a = a <<< 5 := by
  have h1 : a >>> 35 = 0 := by
    apply BitVec.eq_of_toNat_eq
    rw [BitVec.toNat_ushiftRight, Nat.shiftRight_eq_div_pow, Nat.div_eq_of_lt h]; rfl
  have h2 : a &&& 0x7ffffffff = a := by
    apply BitVec.eq_of_toNat_eq
    rw [and_m35, Nat.mod_eq_of_lt h]
  rw [plin, h1, h2, polyAdd_zero]
theorem polyAdd_lt (b c : BitVec 64) (h : c.toNat < 2 ^ 40) : ∀ n, (polyAdd b c n).toNat < 2 ^ 40
  | 0 => h
  | n + 1 => by
    have ih := polyAdd_lt b c h n
    rw [polyAdd]
    split
    · rw [BitVec.toNat_xor]
      refine Nat.xor_lt_two_pow ih ?_
      match n with
      | 0 => decide
      | 1 => decide
      | 2 => decide
      | 3 => decide
      | 4 => decide
      | n + 5 => simp [dAdd]
    · exact ih
theorem shl5_lt (c : BitVec 64) : ((c &&& 0x7ffffffff) <<< 5).toNat < 2 ^ 40 := by
  have h := and_m35 c
  rw [BitVec.toNat_shiftLeft, Nat.shiftLeft_eq]
  refine Nat.lt_of_le_of_lt (Nat.mod_le _ _) ?_
  have : c.toNat % 2 ^ 35 < 2 ^ 35 := Nat.mod_lt _ (by decide)
  omega
theorem plin_lt (c : BitVec 64) : (plin c).toNat < 2 ^ 40 := polyAdd_lt _ _ (shl5_lt c) 5
theorem v64_nat (v : UInt8) : (v64 v).toNat = v.toNat := by
  rw [v64, BitVec.toNat_setWidth, UInt8.toNat_toBitVec, Nat.mod_eq_of_lt (by have := v.toNat_lt; omega)]
theorem polyStep_lt (c : BitVec 64) (v : UInt8) : (polyStep c v).toNat < 2 ^ 40 := by
  rw [polyStep_lin, BitVec.toNat_xor]
  exact Nat.xor_lt_two_pow (plin_lt c) (by rw [v64_nat]; have := v.toNat_lt; omega)
theorem combo_low : ∀ b : Fin 32, (polyAdd (BitVec.ofNat 64 b.val) 0 5) &&& 31 = 0 → b.val = 0 := by decide +kernel
theorem low_shl (e u : BitVec 64) (hu : u.toNat < 32) (h : (e <<< 5) ^^^ u = 0) : e <<< 5 = 0 ∧ u = 0 := by
  have hn := congrArg BitVec.toNat h
  rw [BitVec.toNat_xor] at hn
  have h1 : ((e <<< 5).toNat ^^^ u.toNat) % 2 ^ 5 = (e <<< 5).toNat % 2 ^ 5 ^^^ u.toNat % 2 ^ 5 := Nat.xor_mod_two_pow
  have h2 : (e <<< 5).toNat % 2 ^ 5 = 0 := by
    rw [BitVec.toNat_shiftLeft, Nat.shiftLeft_eq]
    omega
  rw [h2, hn, Nat.zero_xor] at h1
  have hu0 : u = 0 := BitVec.eq_of_toNat_eq (by
    have : u.toNat % 2 ^ 5 = u.toNat := Nat.mod_eq_of_lt hu
    have h0 : (0 : BitVec 64).toNat % 2 ^ 5 = 0 := by decide
    rw [h0] at h1
    show u.toNat = 0
    omega)
  subst hu0
  exact ⟨by simpa using h, rfl⟩
theorem shl_zero (e : BitVec 64) (h : e.toNat < 2 ^ 40) (h0 : e <<< 5 = 0) : e = 0 := by
  have hn := congrArg BitVec.toNat h0
  rw [BitVec.toNat_shiftLeft, Nat.shiftLeft_eq, Nat.mod_eq_of_lt (by omega)] at hn
  have : (0 : BitVec 64).toNat = 0 := rfl
  exact BitVec.eq_of_toNat_eq (by omega)
theorem xor_ne {a b : BitVec 64} : a ^^^ b = 0 ↔ a = b := by
  constructor
  · intro h
    apply BitVec.eq_of_getLsbD_eq
    intro i hi
    have := congrArg (fun x => x.getLsbD i) h
    simp only [BitVec.getLsbD_xor] at this
    revert this
    cases a.getLsbD i <;> cases b.getLsbD i <;> simp
  · rintro rfl; exact BitVec.xor_self
theorem plin_zero (d : BitVec 64) (h : d.toNat < 2 ^ 40) (h0 : plin d = 0) : d = 0 := by
  have hb : (d >>> 35).toNat < 32 := by
    rw [BitVec.toNat_ushiftRight, Nat.shiftRight_eq_div_pow]; omega
  obtain ⟨b, hbe⟩ : ∃ b, b = d >>> 35 := ⟨_, rfl⟩
  have he : plin d = ((d &&& 0x7ffffffff) <<< 5) ^^^ polyAdd b 0 5 := by
    have := polyAdd_xor b 0 ((d &&& 0x7ffffffff) <<< 5) 5
    rw [show (0 : BitVec 64) ^^^ ((d &&& 0x7ffffffff) <<< 5) = (d &&& 0x7ffffffff) <<< 5 from BitVec.zero_xor] at this
    rw [plin, ← hbe, this, BitVec.xor_comm]
  rw [← hbe] at hb
  rw [he] at h0
  have hc := combo_low ⟨b.toNat, hb⟩
  rw [show BitVec.ofNat 64 b.toNat = b by simp] at hc
  have hlow : polyAdd b 0 5 &&& 31 = 0 := by
    have h1 : polyAdd b 0 5 = (d &&& 0x7ffffffff) <<< 5 := by
      exact (xor_ne.1 h0).symm
    rw [h1]
    apply BitVec.eq_of_toNat_eq
    rw [BitVec.toNat_and, show (31 : BitVec 64).toNat = 2 ^ 5 - 1 from rfl, Nat.and_two_pow_sub_one_eq_mod, BitVec.toNat_shiftLeft, Nat.shiftLeft_eq]
    show _ = 0
    omega
  have hb0 : b = 0 := BitVec.eq_of_toNat_eq (hc hlow)
  rw [hb0, polyAdd_zero] at h0
  have h35 : d.toNat < 2 ^ 35 := by
    have := congrArg BitVec.toNat (hbe.symm.trans hb0)
    rw [BitVec.toNat_ushiftRight, Nat.shiftRight_eq_div_pow] at this
    have h00 : (0 : BitVec 64).toNat = 0 := rfl
    omega
  have hm : d &&& 0x7ffffffff = d := BitVec.eq_of_toNat_eq (by rw [and_m35, Nat.mod_eq_of_lt h35])
  rw [hm] at h0
  exact shl_zero d h (by simpa using h0)
theorem step_xor (a b : BitVec 64) (u v : UInt8) : polyStep a u ^^^ polyStep b v = plin (a ^^^ b) ^^^ (v64 u ^^^ v64 v) := by
  rw [polyStep_lin, polyStep_lin, plin_xor]
  apply BitVec.eq_of_getLsbD_eq
  intro i hi
  simp only [BitVec.getLsbD_xor]
  cases (plin a).getLsbD i <;> cases (plin b).getLsbD i <;> cases (v64 u).getLsbD i <;> cases (v64 v).getLsbD i <;> rfl
theorem step_inj {a b : BitVec 64} (u : UInt8) (ha : a.toNat < 2 ^ 40) (hb : b.toNat < 2 ^ 40) (h : polyStep a u = polyStep b u) : a = b := by
  have h1 := xor_ne.2 h
  rw [step_xor, BitVec.xor_self] at h1
  refine xor_ne.1 (plin_zero _ ?_ (by simpa using h1))
  rw [BitVec.toNat_xor]
  exact Nat.xor_lt_two_pow ha hb

/-- The machine that reads a text's letters: the sum so far, and the groups that wait. -/
def mStep (s : BitVec 64 × List UInt8) (c : UInt8) : BitVec 64 × List UInt8 :=
  match s.2 with
  | [g0, g1] => (polyStep (polyStep s.1 (UInt8.ofNat (posD c % 32))) (UInt8.ofNat (9 * g0.toNat + 3 * g1.toNat + posD c / 32)), [])
  | g => (polyStep s.1 (UInt8.ofNat (posD c % 32)), g ++ [UInt8.ofNat (posD c / 32)])
def mEnd : BitVec 64 × List UInt8 → BitVec 64
  | (v, [g]) => polyStep v g
  | (v, [g, h]) => polyStep v (UInt8.ofNat (3 * g.toNat + h.toNat))
  | (v, _) => v
theorem poly_snoc (l : List UInt8) (v : UInt8) : poly (l ++ [v]) = polyStep (poly l) v := by simp [poly]
theorem m_run (s : List UInt8) : ∀ v g, (poly (s.foldl csStep (v, g)).1, (s.foldl csStep (v, g)).2) = s.foldl mStep (poly v, g) := by
  induction s with
  | nil => intro v g; rfl
  | cons c s ih =>
    intro v g
    rw [List.foldl_cons, List.foldl_cons]
    have hs : (poly (csStep (v, g) c).1, (csStep (v, g) c).2) = mStep (poly v, g) c := by
      match g with
      | [] => simp only [csStep, mStep, poly_snoc]
      | [a] => simp only [csStep, mStep, poly_snoc]
      | [a, b] => simp only [csStep, mStep, poly_snoc]
      | a :: b :: d :: r => simp only [csStep, mStep, poly_snoc]
    rw [← hs, ← ih]
theorem m_end (s : List UInt8) : poly (csEnd (csVals s)) = mEnd (s.foldl mStep (1, [])) := by
  have h := m_run s [] []
  rw [show poly [] = 1 from rfl] at h
  rw [← h, csVals]
  generalize s.foldl csStep ([], []) = q
  obtain ⟨v, g⟩ := q
  match g with
  | [] => rfl
  | [a] => simp only [csEnd, mEnd, poly_snoc]
  | [a, b] => simp only [csEnd, mEnd, poly_snoc]
  | a :: b :: c :: r => rfl
def dval (g : List UInt8) : Nat := g.foldl (fun a x => 3 * a + x.toNat) 0
def Fine (a : BitVec 64 × List UInt8) : Prop := a.1.toNat < 2 ^ 40 ∧ a.2.length ≤ 2 ∧ ∀ x ∈ a.2, x.toNat < 3
def Apart (a b : BitVec 64 × List UInt8) : Prop := Fine a ∧ Fine b ∧ a.2.length = b.2.length ∧
  ((a.2 = b.2 ∧ a.1 ≠ b.1) ∨ (0 < a.2.length ∧ (a.1 ^^^ b.1).toNat < 2 ^ (5 * a.2.length) ∧ (a.1 ≠ b.1 ∨ dval a.2 ≠ dval b.2)))
theorem hi_lt {c : UInt8} (h : posD c < 96) : (UInt8.ofNat (posD c / 32)).toNat < 3 := by rw [UInt8.toNat_ofNat']; omega
theorem fine_step {a : BitVec 64 × List UInt8} (h : Fine a) {c : UInt8} (hc : posD c < 96) : Fine (mStep a c) := by
  obtain ⟨v, g⟩ := a
  obtain ⟨h1, h2, h3⟩ := h
  match g, h2, h3 with
  | [], _, _ => exact ⟨polyStep_lt _ _, by simp [mStep], by simp only [mStep, List.nil_append, List.mem_singleton]; rintro x rfl; exact hi_lt hc⟩
  | [p], _, h3 => exact ⟨polyStep_lt _ _, by simp [mStep], by
      simp only [mStep, List.cons_append, List.nil_append, List.mem_cons, List.not_mem_nil, or_false]
      rintro x (rfl | rfl)
      · exact h3 _ (by simp)
      · exact hi_lt hc⟩
  | [p, q], _, _ => exact ⟨polyStep_lt _ _, by simp [mStep], by simp [mStep]⟩
theorem v64_xlt (u v : UInt8) (hu : u.toNat < 32) (hv : v.toNat < 32) : (v64 u ^^^ v64 v).toNat < 32 := by
  rw [BitVec.toNat_xor]
  exact Nat.xor_lt_two_pow (n := 5) (by rw [v64_nat]; exact hu) (by rw [v64_nat]; exact hv)
theorem v64_inj {u v : UInt8} (h : v64 u = v64 v) : u = v := by
  have := congrArg BitVec.toNat h
  rw [v64_nat, v64_nat] at this
  exact UInt8.toNat_inj.1 this
theorem shl_lt (e : BitVec 64) (n : Nat) (h : e.toNat < 2 ^ n) (hn : n ≤ 50) : (e <<< 5).toNat < 2 ^ (n + 5) := by
  rw [BitVec.toNat_shiftLeft, Nat.shiftLeft_eq]
  refine Nat.lt_of_le_of_lt (Nat.mod_le _ _) ?_
  rw [Nat.pow_add]
  exact Nat.mul_lt_mul_of_pos_right h (by decide)
theorem small_step {a b : BitVec 64} (u v : UInt8) (n : Nat) (hn : n ≤ 15) (h : (a ^^^ b).toNat < 2 ^ n) : polyStep a u ^^^ polyStep b v = ((a ^^^ b) <<< 5) ^^^ (v64 u ^^^ v64 v) := by
  rw [step_xor, plin_small]
  exact Nat.lt_of_lt_of_le h (Nat.pow_le_pow_right (by decide) (by omega))
theorem small_ne {a b : BitVec 64} (u v : UInt8) (n : Nat) (hn : n ≤ 15) (h : (a ^^^ b).toNat < 2 ^ n) (hu : u.toNat < 32) (hv : v.toNat < 32) (hd : a ≠ b ∨ u ≠ v) : polyStep a u ≠ polyStep b v := by
  intro he
  have h1 := xor_ne.2 he
  rw [small_step u v n hn h] at h1
  obtain ⟨h2, h3⟩ := low_shl _ _ (v64_xlt u v hu hv) h1
  rcases hd with hd | hd
  · refine hd (xor_ne.1 (shl_zero _ ?_ h2))
    exact Nat.lt_of_lt_of_le h (Nat.pow_le_pow_right (by decide) (by omega))
  · exact hd (v64_inj (xor_ne.1 h3))
theorem lo_lt (c : UInt8) : (UInt8.ofNat (posD c % 32)).toNat < 32 := by rw [UInt8.toNat_ofNat']; omega
theorem u8_small (n : Nat) (h : n < 32) : (UInt8.ofNat n).toNat < 32 := by rw [UInt8.toNat_ofNat', Nat.mod_eq_of_lt (by omega)]; exact h
theorem u8_ne {m n : Nat} (hm : m < 256) (hn : n < 256) (h : m ≠ n) : UInt8.ofNat m ≠ UInt8.ofNat n := fun he => by
  have := congrArg UInt8.toNat he
  rw [UInt8.toNat_ofNat', UInt8.toNat_ofNat', Nat.mod_eq_of_lt (by omega), Nat.mod_eq_of_lt (by omega)] at this
  exact h this
theorem apart_same {a b : BitVec 64 × List UInt8} (h : Apart a b) {c : UInt8} (hc : posD c < 96) : Apart (mStep a c) (mStep b c) := by
  obtain ⟨ha, hb, hl, hr⟩ := h
  refine ⟨fine_step ha hc, fine_step hb hc, ?_⟩
  obtain ⟨v, g⟩ := a
  obtain ⟨w, k⟩ := b
  have hL := lo_lt c
  have hH := hi_lt hc
  obtain ⟨L, hLe⟩ : ∃ L, L = UInt8.ofNat (posD c % 32) := ⟨_, rfl⟩
  obtain ⟨H, hHe⟩ : ∃ H, H = UInt8.ofNat (posD c / 32) := ⟨_, rfl⟩
  have hH3 : posD c / 32 = H.toNat := by rw [hHe, UInt8.toNat_ofNat']; omega
  rcases hr with ⟨hg, hne⟩ | ⟨h0, hx, hd⟩
  · simp only at hg hne
    subst hg
    have hn1 : polyStep v L ≠ polyStep w L := fun he => hne (step_inj _ ha.1 hb.1 he)
    match g, ha with
    | [], _ => simp only [mStep, ← hLe]; exact ⟨by simp, .inl ⟨by simp, hn1⟩⟩
    | [p], _ => simp only [mStep, ← hLe]; exact ⟨by simp, .inl ⟨by simp, hn1⟩⟩
    | [p, q], _ =>
      simp only [mStep, ← hLe]
      exact ⟨by simp, .inl ⟨by simp, fun he => hn1 (step_inj _ (polyStep_lt _ _) (polyStep_lt _ _) he)⟩⟩
    | _ :: _ :: _ :: _, ha => exact absurd ha.2.1 (by simp)
  · simp only at hl h0 hx hd
    match g, k, ha, hb with
    | [p], [q], ha, hb =>
      simp only [mStep, ← hLe, ← hHe]
      have hs := small_step (a := v) (b := w) L L 5 (by omega) (by simpa using hx)
      rw [BitVec.xor_self] at hs
      refine ⟨rfl, .inr ⟨by simp, ?_, ?_⟩⟩
      · rw [hs]
        have := shl_lt (v ^^^ w) 5 (by simpa using hx) (by omega)
        simpa using this
      · rcases hd with hd | hd
        · left; exact small_ne L L 5 (by omega) (by simpa using hx) (by rw [hLe]; exact hL) (by rw [hLe]; exact hL) (.inl hd)
        · right
          simp [dval] at hd ⊢
          omega
    | [p, p'], [q, q'], ha, hb =>
      have hp := ha.2.2
      have hq := hb.2.2
      have e1 := hp p (by simp)
      have e2 := hp p' (by simp)
      have e3 := hq q (by simp)
      have e4 := hq q' (by simp)
      simp only [mStep, ← hLe, hH3]
      have hs := small_step (a := v) (b := w) L L 10 (by omega) (by simpa using hx)
      rw [BitVec.xor_self] at hs
      have hlt : (polyStep v L ^^^ polyStep w L).toNat < 2 ^ 15 := by
        rw [hs]
        have := shl_lt (v ^^^ w) 10 (by simpa using hx) (by omega)
        simpa using this
      have hH' : H.toNat < 3 := by rw [hHe]; exact hH
      refine ⟨by simp, .inl ⟨by simp, ?_⟩⟩
      refine small_ne _ _ 15 (by omega) hlt (u8_small _ (by omega)) (u8_small _ (by omega)) ?_
      rcases hd with hd | hd
      · left; exact small_ne L L 10 (by omega) (by simpa using hx) (by rw [hLe]; exact hL) (by rw [hLe]; exact hL) (.inl hd)
      · right
        simp [dval] at hd
        exact u8_ne (by omega) (by omega) (by omega)
    | [], _, _, _ => simp at h0
    | [_], [], _, _ => simp at hl
    | [_], _ :: _ :: _, _, _ => simp at hl
    | [_, _], [], _, _ => simp at hl
    | [_, _], [_], _, _ => simp at hl
    | [_, _], _ :: _ :: _ :: _, _, _ => simp at hl
    | _ :: _ :: _ :: _, _, ha, _ => exact absurd ha.2.1 (by simp)
theorem apart_newM {a : BitVec 64 × List UInt8} (h : Fine a) {c d : UInt8} (hc : posD c < 96) (hd : posD d < 96) (hne : posD c ≠ posD d) : Apart (mStep a c) (mStep a d) := by
  refine ⟨fine_step h hc, fine_step h hd, ?_⟩
  obtain ⟨v, g⟩ := a
  have hL := lo_lt c
  have hK := lo_lt d
  have hx0 : (v ^^^ v).toNat < 2 ^ 0 := by rw [BitVec.xor_self]; decide
  have hlt : (polyStep v (UInt8.ofNat (posD c % 32)) ^^^ polyStep v (UInt8.ofNat (posD d % 32))).toNat < 2 ^ 5 := by
    rw [small_step _ _ 0 (by omega) hx0, BitVec.xor_self, show (0#64) <<< 5 = 0#64 from rfl, BitVec.zero_xor]
    exact v64_xlt _ _ hL hK
  have hstep : posD c % 32 ≠ posD d % 32 → polyStep v (UInt8.ofNat (posD c % 32)) ≠ polyStep v (UInt8.ofNat (posD d % 32)) := fun hh =>
    small_ne _ _ 0 (by omega) hx0 hL hK (.inr (u8_ne (by omega) (by omega) hh))
  have hcase : posD c % 32 ≠ posD d % 32 ∨ posD c / 32 ≠ posD d / 32 := by omega
  match g, h with
  | [], _ =>
    simp only [mStep]
    refine ⟨by simp, .inr ⟨by simp, by simpa using hlt, ?_⟩⟩
    rcases hcase with hh | hh
    · exact .inl (hstep hh)
    · right; simp [dval]; omega
  | [p], h =>
    simp only [mStep]
    refine ⟨by simp, .inr ⟨by simp, Nat.lt_of_lt_of_le hlt (by simp), ?_⟩⟩
    rcases hcase with hh | hh
    · exact .inl (hstep hh)
    · right; simp [dval]; omega
  | [p, q], h =>
    have e1 := h.2.2 p (by simp)
    have e2 := h.2.2 q (by simp)
    simp only [mStep]
    refine ⟨by simp, .inl ⟨by simp, ?_⟩⟩
    refine small_ne _ _ 5 (by omega) hlt (u8_small _ (by omega)) (u8_small _ (by omega)) ?_
    rcases hcase with hh | hh
    · exact .inl (hstep hh)
    · right; exact u8_ne (by omega) (by omega) (by omega)
  | _ :: _ :: _ :: _, h => exact absurd h.2.1 (by simp)
theorem apart_end {a b : BitVec 64 × List UInt8} (h : Apart a b) : mEnd a ≠ mEnd b := by
  obtain ⟨ha, hb, hl, hr⟩ := h
  obtain ⟨v, g⟩ := a
  obtain ⟨w, k⟩ := b
  rcases hr with ⟨hg, hne⟩ | ⟨h0, hx, hd⟩
  · simp only at hg hne
    subst hg
    match g, ha with
    | [], _ => exact hne
    | [p], _ => exact fun he => hne (step_inj _ ha.1 hb.1 he)
    | [p, q], _ => exact fun he => hne (step_inj _ ha.1 hb.1 he)
    | _ :: _ :: _ :: _, ha => exact absurd ha.2.1 (by simp)
  · simp only at hl h0 hx hd
    match g, k, ha, hb with
    | [p], [q], ha, hb =>
      have e1 := ha.2.2 p (by simp)
      have e2 := hb.2.2 q (by simp)
      refine small_ne p q 5 (by omega) (by simpa using hx) (by omega) (by omega) ?_
      rcases hd with hd | hd
      · exact .inl hd
      · right; rintro rfl; exact hd rfl
    | [p, p'], [q, q'], ha, hb =>
      have e1 := ha.2.2 p (by simp)
      have e2 := ha.2.2 p' (by simp)
      have e3 := hb.2.2 q (by simp)
      have e4 := hb.2.2 q' (by simp)
      refine small_ne _ _ 10 (by omega) (by simpa using hx) (u8_small _ (by omega)) (u8_small _ (by omega)) ?_
      rcases hd with hd | hd
      · exact .inl hd
      · right
        simp [dval] at hd
        exact u8_ne (by omega) (by omega) (by omega)
    | [], _, _, _ => simp at h0
    | [_], [], _, _ => simp at hl
    | [_], _ :: _ :: _, _, _ => simp at hl
    | [_, _], [], _, _ => simp at hl
    | [_, _], [_], _, _ => simp at hl
    | [_, _], _ :: _ :: _ :: _, _, _ => simp at hl
    | _ :: _ :: _ :: _, _, ha, _ => exact absurd ha.2.1 (by simp)
theorem posD_lt {c : UInt8} (h : c ∈ inD) : posD c < 96 := Nat.lt_trans (List.idxOf_lt_length_of_mem h) (by decide)
theorem posD_inj {c d : UInt8} (h : c ∈ inD) (h' : d ∈ inD) (he : posD c = posD d) : c = d := by
  have h1 : inD[posD c]'(List.idxOf_lt_length_of_mem h) = c := List.getElem_idxOf _
  have h2 : inD[posD d]'(List.idxOf_lt_length_of_mem h') = d := List.getElem_idxOf _
  rw [← h1, ← h2]
  congr 1
theorem fine_run (s : List UInt8) : ∀ a, Fine a → (∀ c ∈ s, c ∈ inD) → Fine (s.foldl mStep a) := by
  induction s with
  | nil => intro a h _; exact h
  | cons c s ih => intro a h hs; exact ih _ (fine_step h (posD_lt (hs c (by simp)))) (fun x hx => hs x (by simp [hx]))
theorem apart_run (s : List UInt8) : ∀ a b, Apart a b → (∀ c ∈ s, c ∈ inD) → Apart (s.foldl mStep a) (s.foldl mStep b) := by
  induction s with
  | nil => intro a b h _; exact h
  | cons c s ih => intro a b h hs; exact ih _ _ (apart_same h (posD_lt (hs c (by simp)))) (fun x hx => hs x (by simp [hx]))
theorem fine_lt {a : BitVec 64 × List UInt8} (h : Fine a) : (mEnd a).toNat < 2 ^ 40 := by
  obtain ⟨v, g⟩ := a
  match g, h with
  | [], h => exact h.1
  | [p], _ => exact polyStep_lt _ _
  | [p, q], _ => exact polyStep_lt _ _
  | _ :: _ :: _ :: _, h => exact absurd h.2.1 (by simp)
theorem zeros_inj (n : Nat) : ∀ a b : BitVec 64, a.toNat < 2 ^ 40 → b.toNat < 2 ^ 40 → (List.replicate n (0 : UInt8)).foldl polyStep a = (List.replicate n (0 : UInt8)).foldl polyStep b → a = b := by
  induction n with
  | zero => intro a b _ _ h; exact h
  | succ n ih => intro a b ha hb h; exact step_inj 0 ha hb (ih _ _ (polyStep_lt _ _) (polyStep_lt _ _) h)
theorem zeros_lt (n : Nat) : ∀ a : BitVec 64, a.toNat < 2 ^ 40 → ((List.replicate n (0 : UInt8)).foldl polyStep a).toNat < 2 ^ 40 := by
  induction n with
  | zero => intro a h; exact h
  | succ n ih => intro a _; exact ih _ (polyStep_lt _ _)
theorem let32_inj : ∀ x y : Fin 32, let32 (UInt8.ofNat x.val) = let32 (UInt8.ofNat y.val) → x = y := by decide +kernel
theorem letters_inj {p q : BitVec 64} (hp : p.toNat < 2 ^ 40) (hq : q.toNat < 2 ^ 40) (h : (lettersL p 8).map let32 = (lettersL q 8).map let32) : p = q := by
  have hat : ∀ j, j < 8 → p.toNat / 2 ^ (5 * j) % 32 = q.toNat / 2 ^ (5 * j) % 32 := by
    intro j hj
    have h1 := congrArg (fun l => l[7 - j]?) h
    simp only [lettersL, List.map_map, List.getElem?_map, List.getElem?_range (show 7 - j < 8 by omega), Option.map_some, Function.comp] at h1
    rw [show 7 - (7 - j) = j by omega] at h1
    have h2 := let32_inj ⟨p.toNat / 2 ^ (5 * j) % 32, Nat.mod_lt _ (by decide)⟩ ⟨q.toNat / 2 ^ (5 * j) % 32, Nat.mod_lt _ (by decide)⟩ (Option.some.inj h1)
    exact Fin.mk.inj h2
  apply BitVec.eq_of_toNat_eq
  have h0 := hat 0 (by omega)
  have h1 := hat 1 (by omega)
  have h2 := hat 2 (by omega)
  have h3 := hat 3 (by omega)
  have h4 := hat 4 (by omega)
  have h5 := hat 5 (by omega)
  have h6 := hat 6 (by omega)
  have h7 := hat 7 (by omega)
  simp only [show 5 * 0 = 0 from rfl, show 5 * 1 = 5 from rfl, show 5 * 2 = 10 from rfl, show 5 * 3 = 15 from rfl, show 5 * 4 = 20 from rfl, show 5 * 5 = 25 from rfl, show 5 * 6 = 30 from rfl, show 5 * 7 = 35 from rfl] at h0 h1 h2 h3 h4 h5 h6 h7
  omega
/-- ONE LETTER CHANGED: another checksum. -/
theorem checksum_changed (u v : List UInt8) (c d : UInt8) (hu : ∀ x ∈ u, x ∈ inD) (hv : ∀ x ∈ v, x ∈ inD) (hc : c ∈ inD) (hd : d ∈ inD) (hne : c ≠ d) :
    checksum (u ++ c :: v) ≠ checksum (u ++ d :: v) := by
  intro he
  unfold checksum at he
  have hz : ∀ l : List UInt8, poly (l ++ List.replicate 8 0) = (List.replicate 8 (0 : UInt8)).foldl polyStep (poly l) := fun l => by rw [poly, List.foldl_append]; rfl
  rw [hz, hz, m_end, m_end, List.foldl_append, List.foldl_append, List.foldl_cons, List.foldl_cons] at he
  have hf0 : Fine ((1 : BitVec 64), ([] : List UInt8)) := ⟨by decide, by simp, by simp⟩
  have hfu := fine_run u _ hf0 hu
  have hap := apart_run v _ _ (apart_newM hfu (posD_lt hc) (posD_lt hd) (fun hh => hne (posD_inj hc hd hh))) hv
  have l1 := zeros_lt 8 _ (fine_lt hap.1)
  have l2 := zeros_lt 8 _ (fine_lt hap.2.1)
  have h1 : ∀ x : BitVec 64, x.toNat < 2 ^ 40 → (x ^^^ 1).toNat < 2 ^ 40 := fun x hx => by rw [BitVec.toNat_xor]; exact Nat.xor_lt_two_pow hx (by decide)
  have h2 := letters_inj (h1 _ l1) (h1 _ l2) he
  have h3 := congrArg (fun x => x ^^^ (1 : BitVec 64)) h2
  simp only [BitVec.xor_assoc, BitVec.xor_self] at h3
  exact apart_end hap (zeros_inj 8 _ _ (fine_lt hap.1) (fine_lt hap.2.1) (by simpa using h3))
end Go.Proofs.YtcjioogololnoaaGreatDoor

/-! A text is cut at its mark; one letter changed ahead of the mark: the sum behind it isn't the letters' any more. Plain. -/
namespace Go.Proofs.YtcjioogololnoaaGreatDoor

theorem occ_one (s : List UInt8) (c : UInt8) (j : Nat) (h : s[j]? = some c) : Lib.occAt s [c] j = true := by
  obtain ⟨hj, he⟩ := List.getElem?_eq_some_iff.1 h
  rw [Lib.occAt_iff_take s [c] j (by simp; omega)]
  rw [List.drop_eq_getElem_cons hj, he]
  simp
theorem occ_not (s : List UInt8) (c : UInt8) (j : Nat) (h : s[j]? ≠ some c) : Lib.occAt s [c] j = false := by
  cases ho : Lib.occAt s [c] j with
  | false => rfl
  | true => exact absurd (Lib.occAt_head rfl ho) h
theorem cut_at (B S : List UInt8) (c : UInt8) (h : ∀ x ∈ B, x ≠ c) : Lib.cut (B ++ c :: S) [c] = (B, S, true) := by
  have hi : Lib.index (B ++ c :: S) [c] = (B.length : Nat) := Lib.index_first (by simp) (occ_one _ _ _ (by simp)) (fun j hj => occ_not _ _ _ (by
    rw [List.getElem?_append_left hj, List.getElem?_eq_getElem hj]
    exact fun e => h B[j] (List.getElem_mem _) (Option.some.inj e)))
  rw [Lib.cut, hi, if_pos (by omega)]
  simp
theorem cut_none (B : List UInt8) (c : UInt8) (h : ∀ x ∈ B, x ≠ c) : Lib.cut B [c] = (B, [], false) := by
  have hi : Lib.index B [c] = -1 := Lib.index_none (fun j _ => occ_not _ _ _ (fun e => by
    obtain ⟨hj, he⟩ := List.getElem?_eq_some_iff.1 e
    exact h B[j] (List.getElem_mem _) he))
  rw [Lib.cut, hi, if_neg (by decide)]
/-- ONE LETTER OF A TEXT WITH ITS SUM IS CHANGED: what stands ahead of the mark has another sum, or none. -/
theorem changed_refused (B : List UInt8) (hB : ∀ x ∈ B, x ∈ inD) (hM : ∀ x ∈ B, x ≠ 35) (k : Nat) (hk : k < B.length) (c : UInt8) (hc : B[k] ≠ c) (hm : c ≠ 35) :
    Lib.cut ((B ++ 35 :: checksum B).set k c) [35] = (B.set k c, checksum B, true) ∧ ((∃ x ∈ B.set k c, x ∉ inD) ∨ checksum (B.set k c) ≠ checksum B) := by
  refine ⟨?_, ?_⟩
  · rw [List.set_append_left _ _ hk]
    refine cut_at _ _ _ (fun x hx => ?_)
    rcases List.mem_or_eq_of_mem_set hx with h | h
    · exact hM x h
    · exact h ▸ hm
  · by_cases hi : c ∈ inD
    · right
      have e1 : B = B.take k ++ B[k] :: B.drop (k + 1) := by rw [← List.drop_eq_getElem_cons hk, List.take_append_drop]
      have e2 : B.set k c = B.take k ++ c :: B.drop (k + 1) := by rw [List.set_eq_take_append_cons_drop, if_pos hk]
      rw [e2]
      intro h
      refine checksum_changed (B.take k) (B.drop (k + 1)) c B[k] (fun x hx => hB x (List.mem_of_mem_take hx)) (fun x hx => hB x (List.mem_of_mem_drop hx)) hi (hB _ (List.getElem_mem _)) (fun e => hc e.symm) ?_
      rw [h, ← e1]
    · exact .inl ⟨c, List.mem_set hk _, hi⟩
end Go.Proofs.YtcjioogololnoaaGreatDoor
