/- text.letters; text.Checksum. -/
import Derived.Test.YtmfligfcejhjaaaDoorK1
import Derived.Test.YtmfligfcejhjaaaDoorT1
import Derived.Test.YtmfligfcejhjaaaDoorN2
namespace Go.Proofs.YtmfligfcejhjaaaDoor
open Go.RowKit Go.Shelf

def lettersL (c : BitVec 64) (k : Nat) : List UInt8 := (List.range k).map fun i => UInt8.ofNat (c.toNat / 2 ^ (5 * (7 - i)) % 32)
theorem lettersL_length (c : BitVec 64) (k : Nat) : (lettersL c k).length = k := by simp [lettersL]
theorem lettersL_succ (c : BitVec 64) (k : Nat) : lettersL c (k + 1) = lettersL c k ++ [UInt8.ofNat (c.toNat / 2 ^ (5 * (7 - k)) % 32)] := by simp [lettersL, List.range_succ]
theorem sp_31 (c : BitVec 64) (q : Nat) : bits .and .u64 ((c.toNat : Int) / 2 ^ q) 31 = ((c.toNat / 2 ^ q % 32 : Nat) : Int) := by
  have h1 : (c.toNat : Int) / 2 ^ q = ((c.toNat / 2 ^ q : Nat) : Int) := by rw [Int.natCast_ediv, Int.natCast_pow]; rfl
  have hc := c.isLt
  have h2 : c.toNat / 2 ^ q ≤ c.toNat := Nat.div_le_self _ _
  have h3 := u64_and_nat (c.toNat / 2 ^ q) 31 (by omega) (by omega)
  rw [h1]
  refine h3.trans ?_
  rw [show (31 : Nat) = 2 ^ 5 - 1 from rfl, Nat.and_two_pow_sub_one_eq_mod]

set_option maxRecDepth 100000 in
set_option maxHeartbeats 4000000 in
theorem letters_any (c : BitVec 64) (w : World) :
    Calls Tryd.prog 31 #[.int .u64 (c.toNat : Int), .int .i64 8] w fun e W' => ∃ v, e = .returned v ∧ Ow W' w.heap.size 5 v (B8 (lettersL c 8)) ∧ Below w.heap.size w W' := by
  have hc64 := c.isLt
  go_enter Tryd.func31, Tryd.ntmps31
  go_wp2_with fail
  go_loopw [5, 8] (fun v i wr => ∃ k : Nat, k ≤ 8 ∧ i = .int .i64 k ∧ Ow wr w.heap.size 5 v (B8 (lettersL c k)) ∧ Below w.heap.size w wr) (fun _ i _ => 8 - (intOf i).toNat)
  case atStart => exact ⟨0, Nat.zero_le _, rfl, Ow.nil_ _ _ _ _, Below.refl _ _⟩
  case round =>
    obtain ⟨k, hk, rfl, ho, hb⟩ := hrel
    obtain ⟨L, hL⟩ : ∃ L, L = lettersL c k := ⟨_, rfl⟩
    have hLl : L.length = k := by rw [hL, lettersL_length]
    rw [← hL] at ho
    obtain ⟨Al, cl, rfl, hcl, hcl'⟩ := own_form ho
    rw [hLl] at ho hcl ⊢
    by_cases hlt : k < 8
    · obtain ⟨sh, hsh⟩ : ∃ sh, sh = 5 * (7 - k) := ⟨_, rfl⟩
      have esh : (5 : Int) * (7 - (k : Int)) = (sh : Int) := by omega
      have hsh35 : sh ≤ 35 := by omega
      obtain ⟨d, hd⟩ : ∃ d, d = c.toNat / 2 ^ sh % 32 := ⟨_, rfl⟩
      have hd32 : d < 32 := by omega
      have h31 := sp_31 c sh
      rw [← hd] at h31
      have HL := Lib.hid hL
      have HLl := Lib.hid hLl
      have Hd := Lib.hid hd
      have Hsh := Lib.hid hsh
      clear hL hLl hd hsh
      go_wp2_with (at_builtin; go_loud (refine wpList_append_Ow (m := 1) (c := 1) (base := w.heap.size) (xs := B8 L) (v := .slice Al k cl) (A := some ⟨wr.heap.size, 0, none⟩) (B := wr.heap.size + 1) (news := [.int .u8 (d : Int)]) elB rfl (.tmp 11) (.tmp 21) rfl rfl (ho.alloc _) rfl (Sl.one wr _ _) rfl (by simp; rfl) (by rw [B8_length, HLl.out]; simp [maxLen]; omega) (by rw [B8_length, HLl.out]; omega) (by have := hb.size; simp; omega) ?_); intro v3 w3 ho3 hg3 hr3)
      rw [b8_snoc L _ (UInt8.ofNat d) (by simp; omega), HL.out, Hd.out, Hsh.out, ← lettersL_succ] at ho3
      exact ⟨⟨k + 1, by omega, rfl, ho3, push_below hb (Nat.le_refl _) ho hg3⟩, by simp [intOf]; omega⟩
    · obtain rfl : k = 8 := by omega
      go_wp2_with fail
      go_ret
      rw [hL] at ho
      exact ⟨_, rfl, ho, hb⟩

def inD : List UInt8 := [48, 49, 50, 51, 52, 53, 54, 55, 56, 57, 40, 41, 91, 93, 44, 39, 47, 42, 97, 98, 99, 100, 101, 102, 103, 104, 64, 58, 36, 37, 123, 125, 73, 74, 75, 76, 77, 78, 79, 80, 81, 82, 83, 84, 85, 86, 87, 88, 89, 90, 38, 43, 45, 46, 59, 60, 61, 62, 63, 33, 94, 95, 124, 126, 105, 106, 107, 108, 109, 110, 111, 112, 113, 114, 115, 116, 117, 118, 119, 120, 121, 122, 65, 66, 67, 68, 69, 70, 71, 72, 96, 35, 34, 92, 32]
def letters32 : List UInt8 := [113, 112, 122, 114, 121, 57, 120, 56, 103, 102, 50, 116, 118, 100, 119, 48, 115, 51, 106, 110, 53, 52, 107, 104, 99, 101, 54, 109, 117, 97, 55, 108]
def posD (c : UInt8) : Nat := inD.idxOf c
def csStep (st : List UInt8 × List UInt8) (c : UInt8) : List UInt8 × List UInt8 :=
  match st.2 with
  | [g0, g1] => (st.1 ++ [UInt8.ofNat (posD c % 32)] ++ [UInt8.ofNat (9 * g0.toNat + 3 * g1.toNat + posD c / 32)], [])
  | g => (st.1 ++ [UInt8.ofNat (posD c % 32)], g ++ [UInt8.ofNat (posD c / 32)])
def csEnd : List UInt8 × List UInt8 → List UInt8
  | (v, [g]) => v ++ [g]
  | (v, [g, h]) => v ++ [UInt8.ofNat (3 * g.toNat + h.toNat)]
  | (v, _) => v
def csVals (s : List UInt8) : List UInt8 × List UInt8 := s.foldl csStep ([], [])
def let32 (d : UInt8) : UInt8 := letters32.getD d.toNat 0
def checksum (s : List UInt8) : List UInt8 := (lettersL (poly (csEnd (csVals s) ++ List.replicate 8 0) ^^^ 1) 8).map let32

theorem checksum_awake : checksum [114, 97, 119, 40, 100, 101, 97, 100, 98, 101, 101, 102, 41] = [56, 57, 102, 56, 115, 112, 120, 109] := by kernel_rfl
end Go.Proofs.YtmfligfcejhjaaaDoor
