/- SHA-256: plain words, and the words as the walk spells them. | Rotations. -/
import Derived.WalkKit
import Derived.Test.YtcjioogololnoaaGreatDoorU5
import Derived.Test.YtcjioogololnoaaGreatDoorU1
import Derived.Test.YtcjioogololnoaaGreatDoorRows
import Derived.WalkSpells
import Derived.WalkLawsBesides
import Derived.Lib.Hide

/-! SHA-256: plain words, and the words as the walk spells them. -/
namespace Go.Proofs.YtcjioogololnoaaGreatDoor
open Go

def W32 (xs : List (BitVec 32)) : List Value := xs.map fun x => .int .u32 (x.toNat : Int)
@[simp] theorem W32_length (xs : List (BitVec 32)) : (W32 xs).length = xs.length := by simp [W32]
theorem W32_get? (xs : List (BitVec 32)) (k : Nat) : (W32 xs)[k]? = xs[k]?.map fun x => .int .u32 (x.toNat : Int) := by simp [W32]

def sig0 (x : BitVec 32) : BitVec 32 := x.rotateRight 7 ^^^ x.rotateRight 18 ^^^ (x >>> 3)
def sig1 (x : BitVec 32) : BitVec 32 := x.rotateRight 17 ^^^ x.rotateRight 19 ^^^ (x >>> 10)
def Sig0 (x : BitVec 32) : BitVec 32 := x.rotateRight 2 ^^^ x.rotateRight 13 ^^^ x.rotateRight 22
def Sig1 (x : BitVec 32) : BitVec 32 := x.rotateRight 6 ^^^ x.rotateRight 11 ^^^ x.rotateRight 25
def word (b : List UInt8) (i : Nat) : BitVec 32 :=
  (b.getD (4 * i) 0).toBitVec.setWidth 32 <<< 24 ||| (b.getD (4 * i + 1) 0).toBitVec.setWidth 32 <<< 16 ||| (b.getD (4 * i + 2) 0).toBitVec.setWidth 32 <<< 8 ||| (b.getD (4 * i + 3) 0).toBitVec.setWidth 32
def wd (b : List UInt8) (k : Nat) : BitVec 32 :=
  if k < 16 then word b k else wd b (k - 16) + wd b (k - 7) + sig0 (wd b (k - 15)) + sig1 (wd b (k - 2))
termination_by k
decreasing_by all_goals omega
theorem wd_lo (b : List UInt8) (k : Nat) (h : k < 16) : wd b k = word b k := by rw [wd, if_pos h]
theorem wd_hi (b : List UInt8) (k : Nat) (h : ¬ k < 16) : wd b k = wd b (k - 16) + wd b (k - 7) + sig0 (wd b (k - 15)) + sig1 (wd b (k - 2)) := by rw [wd, if_neg h]
def wds (b : List UInt8) : List (BitVec 32) := (List.range 64).map (wd b)
theorem wds_get? (b : List UInt8) (k : Nat) (h : k < 64) : (W32 (wds b))[k]? = some (.int .u32 ((wd b k).toNat : Int)) := by rw [W32_get?]; simp [wds, h]
theorem wds_length (b : List UInt8) : (wds b).length = 64 := by simp [wds]

def ch (e f g : BitVec 32) : BitVec 32 := (e &&& f) ^^^ (~~~e &&& g)
def maj (a b c : BitVec 32) : BitVec 32 := ((a &&& b) ^^^ (a &&& c)) ^^^ (b &&& c)
def rnd (k x : BitVec 32) : List (BitVec 32) → List (BitVec 32)
  | [a, b, c, d, e, f, g, h] => [h + Sig1 e + ch e f g + k + x + (Sig0 a + maj a b c), a, b, c, d + (h + Sig1 e + ch e f g + k + x), e, f, g]
  | l => l
def rnds (ks : List (BitVec 32)) (bs : List UInt8) (st : List (BitVec 32)) : Nat → List (BitVec 32)
  | 0 => st
  | k + 1 => rnd (ks.getD k 0) (wd bs k) (rnds ks bs st k)
def stepW (ks : List (BitVec 32)) (bs : List UInt8) (st : List (BitVec 32)) : List (BitVec 32) := List.zipWith (· + ·) st (rnds ks bs st 64)

theorem sp_add (x y : BitVec 32) : ((x.toNat : Int) + (y.toNat : Int)) % 4294967296 = ((x + y).toNat : Int) := by simp [BitVec.toNat_add]
theorem sp_xor (x y : BitVec 32) : bits .xor .u32 (x.toNat : Int) (y.toNat : Int) = ((x ^^^ y).toNat : Int) := by rw [u32_xor_nat _ _ x.isLt y.isLt, BitVec.toNat_xor]
theorem sp_and (x y : BitVec 32) : bits .and .u32 (x.toNat : Int) (y.toNat : Int) = ((x &&& y).toNat : Int) := by rw [u32_and_nat _ _ x.isLt y.isLt, BitVec.toNat_and]
theorem sp_or (x y : BitVec 32) : bits .or .u32 (x.toNat : Int) (y.toNat : Int) = ((x ||| y).toNat : Int) := by rw [u32_or_nat _ _ x.isLt y.isLt, BitVec.toNat_or]
theorem sp_shr (x : BitVec 32) (n : Nat) : (x.toNat : Int) / 2 ^ n = ((x >>> n).toNat : Int) := by simp [BitVec.toNat_ushiftRight, Nat.shiftRight_eq_div_pow]
theorem sp_shl (x : BitVec 32) (n : Nat) : (x.toNat : Int) * 2 ^ n % 4294967296 = ((x <<< n).toNat : Int) := by simp [BitVec.toNat_shiftLeft, Nat.shiftLeft_eq]
theorem sp_byte (x : UInt8) : (x.toNat : Int) = ((x.toBitVec.setWidth 32).toNat : Int) := by
  have h := x.toNat_lt
  rw [BitVec.toNat_setWidth, UInt8.toNat_toBitVec, Nat.mod_eq_of_lt (by omega)]
theorem sp_s0 (x r1 r2 : BitVec 32) : bits .xor .u32 (bits .xor .u32 (r1.toNat : Int) (r2.toNat : Int)) ((x.toNat : Int) / 8) = ((r1 ^^^ r2 ^^^ (x >>> 3)).toNat : Int) := by
  rw [sp_xor, show (8 : Int) = 2 ^ 3 from rfl, sp_shr, sp_xor]
theorem sp_s1 (x r1 r2 : BitVec 32) : bits .xor .u32 (bits .xor .u32 (r1.toNat : Int) (r2.toNat : Int)) ((x.toNat : Int) / 1024) = ((r1 ^^^ r2 ^^^ (x >>> 10)).toNat : Int) := by
  rw [sp_xor, show (1024 : Int) = 2 ^ 10 from rfl, sp_shr, sp_xor]
theorem sp_S (r1 r2 r3 : BitVec 32) : bits .xor .u32 (bits .xor .u32 (r1.toNat : Int) (r2.toNat : Int)) (r3.toNat : Int) = ((r1 ^^^ r2 ^^^ r3).toNat : Int) := by
  rw [sp_xor, sp_xor]
theorem sp_add4 (a b c d : BitVec 32) : ((a.toNat : Int) + (b.toNat : Int) + (c.toNat : Int) + (d.toNat : Int)) % 4294967296 = ((a + b + c + d).toNat : Int) := by
  simp [BitVec.toNat_add]
theorem sp_add5 (a b c d e : BitVec 32) : ((a.toNat : Int) + (b.toNat : Int) + (c.toNat : Int) + (d.toNat : Int) + (e.toNat : Int)) % 4294967296 = ((a + b + c + d + e).toNat : Int) := by
  simp [BitVec.toNat_add]
theorem sp_not (x : BitVec 32) : bits .xor .u32 IntKind.u32.max (x.toNat : Int) = ((~~~x).toNat : Int) := by
  have h : IntKind.u32.max = (((BitVec.allOnes 32).toNat : Nat) : Int) := by decide
  rw [h, sp_xor, BitVec.allOnes_xor]
theorem sp_t (h e f g k x r1 r2 r3 : BitVec 32) :
    ((h.toNat : Int) + bits .xor .u32 (bits .xor .u32 (r1.toNat : Int) (r2.toNat : Int)) (r3.toNat : Int) + bits .xor .u32 (bits .and .u32 (e.toNat : Int) (f.toNat : Int)) (bits .and .u32 (bits .xor .u32 IntKind.u32.max (e.toNat : Int)) (g.toNat : Int)) + (k.toNat : Int) + (x.toNat : Int)) % 4294967296
      = ((h + (r1 ^^^ r2 ^^^ r3) + ch e f g + k + x).toNat : Int) := by
  rw [sp_S, sp_not, sp_and, sp_and, sp_xor, sp_add5]; rfl
theorem sp_u (a b c r1 r2 r3 : BitVec 32) :
    (bits .xor .u32 (bits .xor .u32 (r1.toNat : Int) (r2.toNat : Int)) (r3.toNat : Int) + bits .xor .u32 (bits .xor .u32 (bits .and .u32 (a.toNat : Int) (b.toNat : Int)) (bits .and .u32 (a.toNat : Int) (c.toNat : Int))) (bits .and .u32 (b.toNat : Int) (c.toNat : Int))) % 4294967296
      = (((r1 ^^^ r2 ^^^ r3) + maj a b c).toNat : Int) := by
  rw [sp_S, sp_and, sp_and, sp_and, sp_xor, sp_xor, sp_add]; rfl
def mixed (ss vs : List (BitVec 32)) (k : Nat) : List (BitVec 32) := (List.zipWith (· + ·) ss vs).take k ++ ss.drop k
theorem mixed_zero (ss vs : List (BitVec 32)) : mixed ss vs 0 = ss := by simp [mixed]
theorem mixed_end (ss vs : List (BitVec 32)) (h1 : ss.length = 8) (h2 : vs.length = 8) : mixed ss vs 8 = List.zipWith (· + ·) ss vs := by
  rw [mixed, List.take_of_length_le (by simp [h1, h2]), List.drop_eq_nil_of_le (by omega), List.append_nil]
theorem mixed_length (ss vs : List (BitVec 32)) (h1 : ss.length = 8) (h2 : vs.length = 8) (k : Nat) (hk : k ≤ 8) : (mixed ss vs k).length = 8 := by simp [mixed, h1, h2]; omega
theorem mixed_at (ss vs : List (BitVec 32)) (h1 : ss.length = 8) (h2 : vs.length = 8) (rest : List Value) (k : Nat) (hk : k < 8) :
    (W32 (mixed ss vs k) ++ rest).toArray[k]? = some (.int .u32 ((ss.getD k 0).toNat : Int)) := by
  have hl := mixed_length ss vs h1 h2 k (by omega)
  rw [List.getElem?_toArray, List.getElem?_append_left (by simp [hl, hk]), W32_get?, mixed, List.getElem?_append_right (by simp; omega)]
  simp [h1, h2, show min k 8 = k by omega, hk]
theorem mixed_set (ss vs : List (BitVec 32)) (h1 : ss.length = 8) (h2 : vs.length = 8) (rest : List Value) (k : Nat) (hk : k < 8) :
    (W32 (mixed ss vs k) ++ rest).toArray.setIfInBounds k (.int .u32 ((ss.getD k 0 + vs.getD k 0).toNat : Int)) = (W32 (mixed ss vs (k + 1)) ++ rest).toArray := by
  match ss, h1, vs, h2 with
  | [s0, s1, s2, s3, s4, s5, s6, s7], _, [a0, a1, a2, a3, a4, a5, a6, a7], _ =>
  match k, hk with
  | 0, _ => simp [mixed, W32]
  | 1, _ => simp [mixed, W32]
  | 2, _ => simp [mixed, W32]
  | 3, _ => simp [mixed, W32]
  | 4, _ => simp [mixed, W32]
  | 5, _ => simp [mixed, W32]
  | 6, _ => simp [mixed, W32]
  | 7, _ => simp [mixed, W32]
theorem elW : El Tryz.prog 60 55 (.int .u32 0) 4 := ⟨by kernel_rfl, by kernel_rfl, rfl⟩
theorem run_index_u32 {P : Program} (t e : TypeId) (n : Nat) (cs : Array Value) (kk : IntKind) (k : Nat) (v : Value) (h : P.underlying t = some (.array n e)) (he : P.underlying e = some (.int .u32)) (hs : (P.info? e).map (·.size) = some 1) (hk : k < n) (hv : cs[k]? = some v) (w : World) :
    (Instr.index t (.agg cs) (.int kk (k : Int))).run P w = .ok v w := by
  have hsz : (sizeOf e).run P w = .ok 1 w := by
    cases hq : P.info? e with
    | none => simp [hq] at hs
    | some i => simp [hq] at hs; simp [sizeOf, typeInfo, hq, hs]
  have hag : (isAgg e).run P w = .ok false w := by
    unfold isAgg
    rw [Sem.run_bind, run_underlying he w]
    rfl
  simp [Instr.index, asIntOf, run_underlying h, hsz, part, hag, hv, hk, go_sem]
end Go.Proofs.YtcjioogololnoaaGreatDoor

/-! Rotations. -/
namespace Go.Proofs.YtcjioogololnoaaGreatDoor
open Go.RowKit

set_option maxHeartbeats 400000 in
theorem rot_any (x : BitVec 32) (n : Nat) (h0 : 0 < n) (h1 : n < 32) (w : World) :
    Calls Tryz.prog 200 #[.int .u32 (x.toNat : Int), .int .i64 n] w fun e w' => e = .returned (.int .u32 ((x.rotateLeft n).toNat : Int)) ∧ w = w' := by
  go_enter Tryz.func200, Tryz.ntmps200
  go_wp2
  go_ret
  exact ⟨by rw [← rotl_spell x n h0 h1]; rfl, rfl⟩
set_option maxHeartbeats 400000 in
theorem rotateLeft32_any (x : BitVec 32) (n : Nat) (h0 : 0 < n) (h1 : n < 32) (w : World) :
    Calls Tryz.prog 215 #[.int .u32 (x.toNat : Int), .int .i64 (-(n : Int))] w fun e w' => e = .returned (.int .u32 ((x.rotateRight n).toNat : Int)) ∧ w = w' := by
  obtain ⟨m, hm⟩ : ∃ m, m = 32 - n := ⟨_, rfl⟩
  have hb : bits .and .u64 (IntKind.u64.wrap (-(n : Int))) 31 = (m : Int) := by rw [hm]; exact wrapu64_neg n h0 h1
  have h2 : 0 < m := by omega
  have h3 : m < 32 := by omega
  rw [← rotr_rotl x n h0 h1, ← hm]
  clear hm h0 h1
  go_enter Tryz.func215, Tryz.ntmps215
  go_wp2
  go_ret
  exact ⟨by rw [← rotl_spell x m h2 h3]; rfl, rfl⟩
set_option maxHeartbeats 400000 in
theorem right_any (x : BitVec 32) (n : Nat) (h0 : 0 < n) (h1 : n < 32) (w : World) :
    Calls Tryz.prog 208 #[.int .u32 (x.toNat : Int), .int .i64 n] w fun e w' => e = .returned (.int .u32 ((x.rotateRight n).toNat : Int)) ∧ w = w' := by
  go_enter Tryz.func208, Tryz.ntmps208
  go_wp2_with (go_at_call 215; refine (rotateLeft32_any x n h0 h1 _).mono ?_; rintro e w' ⟨rfl, rfl⟩)
  go_ret
  exact ⟨rfl, rfl⟩
end Go.Proofs.YtcjioogololnoaaGreatDoor
