/- Plain facts on 32-bit words as the walk spells them. -/
import Derived.WalkKit
namespace Go.Proofs.YtmfligfcejhjaaaDoor
open Go

theorem bits_or32 (a b : Nat) (ha : a < 4294967296) (hb : b < 4294967296) : bits .or .u32 (a : Int) (b : Int) = ((a ||| b : Nat) : Int) := u32_or_nat a b ha hb

theorem rotl_spell (x : BitVec 32) (n : Nat) (h0 : 0 < n) (h1 : n < 32) :
    bits .or .u32 ((x.toNat : Int) * 2 ^ n % 4294967296) ((x.toNat : Int) / 2 ^ (32 - n)) = ((x.rotateLeft n).toNat : Int) := by
  have hx := x.isLt
  have e1 : ((x.toNat : Int) * 2 ^ n % 4294967296) = ((x.toNat * 2 ^ n % 4294967296 : Nat) : Int) := by simp
  have e2 : ((x.toNat : Int) / 2 ^ (32 - n)) = ((x.toNat / 2 ^ (32 - n) : Nat) : Int) := by simp
  rw [e1, e2, bits_or32 _ _ (Nat.mod_lt _ (by omega)) (Nat.lt_of_le_of_lt (Nat.div_le_self _ _) hx)]
  congr 1
  rw [BitVec.rotateLeft_def, BitVec.toNat_or, BitVec.toNat_shiftLeft, BitVec.toNat_ushiftRight, Nat.mod_eq_of_lt h1, Nat.shiftLeft_eq, Nat.shiftRight_eq_div_pow]

theorem rotr_rotl (x : BitVec 32) (n : Nat) (h0 : 0 < n) (h1 : n < 32) : x.rotateLeft (32 - n) = x.rotateRight n := by
  rw [BitVec.rotateLeft_def, BitVec.rotateRight_def, Nat.mod_eq_of_lt h1, Nat.mod_eq_of_lt (by omega), show 32 - (32 - n) = n by omega, BitVec.or_comm]

theorem wrapu64_neg (n : Nat) (h0 : 0 < n) (h1 : n < 32) : bits .and .u64 (IntKind.u64.wrap (-(n : Int))) 31 = ((32 - n : Nat) : Int) := by
  have : ∀ n : Fin 32, 0 < n.val → bits .and .u64 (IntKind.u64.wrap (-(n.val : Int))) 31 = ((32 - n.val : Nat) : Int) := by decide
  exact this ⟨n, h1⟩ h0
end Go.Proofs.YtmfligfcejhjaaaDoor
