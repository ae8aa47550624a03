/- The checksum of bech32, in plain Lean: what is written with it is read as its constant. | text.bech; text.code.run for bech32; text.letters, six; text.constant; text.spread. | text.letters, six of them; text.constant; strings.LastIndexByte; slices.Clip. | text.Checksum. -/
import Derived.Test.YtkiigonikeeikaaGreatDoorU13

/-! The checksum of bech32, in plain Lean: what is written with it is read as its constant. -/
namespace Go.Proofs.YtkiigonikeeikaaGreatDoor

def bAdd : List (BitVec 64) := [0x3b6a57b2, 0x26508e6d, 0x1ea119fa, 0x3d4233dd, 0x2a1462b3]
def bAddTo (b c : BitVec 64) : Nat → BitVec 64
  | 0 => c
  | i + 1 => if (b >>> i) &&& 1 = 1 then bAddTo b c i ^^^ bAdd.getD i 0 else bAddTo b c i
def v64 (v : UInt8) : BitVec 64 := v.toBitVec.setWidth 64
def bStep (c : BitVec 64) (v : UInt8) : BitVec 64 := bAddTo (c >>> 25) (((c &&& 0x1ffffff) <<< 5) ^^^ v64 v) 5
def bech (l : List UInt8) : BitVec 64 := l.foldl bStep 1
def lets6 (c : BitVec 64) (k : Nat) : List UInt8 := (List.range k).map fun i => UInt8.ofNat (c.toNat / 2 ^ (5 * (5 - i)) % 32)

def lin (c : BitVec 64) : BitVec 64 := bAddTo (c >>> 25) ((c &&& 0x1ffffff) <<< 5) 5

theorem bAddTo_xor (b c d : BitVec 64) : ∀ n, bAddTo b (c ^^^ d) n = bAddTo b c n ^^^ d
  | 0 => rfl
  | n + 1 => by
    simp only [bAddTo, bAddTo_xor b c d n]
    split
    · rw [BitVec.xor_assoc, BitVec.xor_assoc, BitVec.xor_comm d]
    · rfl
theorem bStep_lin (c : BitVec 64) (v : UInt8) : bStep c v = lin c ^^^ v64 v := bAddTo_xor _ _ _ 5
theorem bit01 (b : BitVec 64) (i : Nat) : (b >>> i) &&& 1 = 0 ∨ (b >>> i) &&& 1 = 1 := by
  have h : ((b >>> i) &&& 1).toNat < 2 := by
    rw [BitVec.toNat_and]
    exact Nat.lt_of_le_of_lt Nat.and_le_right (by decide)
  rcases (show ((b >>> i) &&& 1).toNat = 0 ∨ ((b >>> i) &&& 1).toNat = 1 by omega) with h | h
  · left; exact BitVec.eq_of_toNat_eq h
  · right; exact BitVec.eq_of_toNat_eq h
theorem bAddTo_two (b b' c c' : BitVec 64) : ∀ n, bAddTo (b ^^^ b') (c ^^^ c') n = bAddTo b c n ^^^ bAddTo b' c' n
  | 0 => rfl
  | n + 1 => by
    simp only [bAddTo, bAddTo_two b b' c c' n]
    have hx : ((b ^^^ b') >>> n) &&& 1 = ((b >>> n) &&& 1) ^^^ ((b' >>> n) &&& 1) := by
      apply BitVec.eq_of_getLsbD_eq
      intro i hi
      simp [BitVec.getLsbD_and, BitVec.getLsbD_xor, Bool.and_xor_distrib_right]
    rw [hx]
    generalize bAddTo b c n = x
    generalize bAddTo b' c' n = y
    generalize bAdd.getD n 0 = a
    have h01 : ¬ ((0 : BitVec 64) = 1) := by decide
    rcases bit01 b n with h | h <;> rcases bit01 b' n with h' | h' <;> rw [h, h']
    · rw [if_neg (by decide), if_neg (by decide), if_neg (by decide)]
    · rw [if_pos (by decide), if_neg (by decide), if_pos (by decide), BitVec.xor_assoc]
    · rw [if_pos (by decide), if_pos (by decide), if_neg (by decide), BitVec.xor_assoc, BitVec.xor_assoc, BitVec.xor_comm y a]
    · rw [if_neg (by decide), if_pos (by decide), if_pos (by decide)]
      apply BitVec.eq_of_getLsbD_eq
      intro i hi
      simp only [BitVec.getLsbD_xor]
      cases x.getLsbD i <;> cases y.getLsbD i <;> cases a.getLsbD i <;> rfl
theorem lin_xor (a b : BitVec 64) : lin (a ^^^ b) = lin a ^^^ lin b := by
  unfold lin
  rw [← bAddTo_two]
  congr 1
  · apply BitVec.eq_of_getLsbD_eq
    intro i hi
    simp [BitVec.getLsbD_xor]
  · apply BitVec.eq_of_getLsbD_eq
    intro i hi
    simp only [BitVec.getLsbD_shiftLeft, BitVec.getLsbD_and, BitVec.getLsbD_xor]
    cases a.getLsbD (i - 5) <;> cases b.getLsbD (i - 5) <;> simp
theorem bAddTo_zero (c : BitVec 64) : ∀ n, bAddTo 0 c n = c
  | 0 => rfl
  | n + 1 => by
    have h : ((0 : BitVec 64) >>> n) &&& 1 = 0 := by simp
    rw [bAddTo, h, if_neg (by decide), bAddTo_zero c n]
theorem lin_small (a : BitVec 64) (h : a.toNat < 2 ^ 25) : lin a = a <<< 5 := by
  have h1 : a >>> 25 = 0 := by
    apply BitVec.eq_of_toNat_eq
    rw [BitVec.toNat_ushiftRight, Nat.shiftRight_eq_div_pow, Nat.div_eq_of_lt h]; rfl
  have h2 : a &&& 0x1ffffff = a := by
    apply BitVec.eq_of_toNat_eq
    rw [BitVec.toNat_and, show (0x1ffffff : BitVec 64).toNat = 2 ^ 25 - 1 from rfl, Nat.and_two_pow_sub_one_eq_mod, Nat.mod_eq_of_lt h]
  rw [lin, h1, h2, bAddTo_zero]
theorem bAddTo_lt (b c : BitVec 64) (h : c.toNat < 2 ^ 30) : ∀ n, (bAddTo b c n).toNat < 2 ^ 30
  | 0 => h
  | n + 1 => by
    have ih := bAddTo_lt b c h n
    rw [bAddTo]
    split
    · rw [BitVec.toNat_xor]
      refine Nat.xor_lt_two_pow ih ?_
      match n with
      | 0 => decide
      | 1 => decide
      | 2 => decide
      | 3 => decide
      | 4 => decide
      | n + 5 => simp [bAdd]
    · exact ih
theorem lin_lt (c : BitVec 64) : (lin c).toNat < 2 ^ 30 := by
  refine bAddTo_lt _ _ ?_ 5
  have h : (c &&& 0x1ffffff).toNat < 2 ^ 25 := by
    rw [BitVec.toNat_and]; exact Nat.and_lt_two_pow _ (by decide)
  rw [BitVec.toNat_shiftLeft, Nat.shiftLeft_eq]
  refine Nat.lt_of_le_of_lt (Nat.mod_le _ _) ?_
  omega
theorem low5 (P : BitVec 64) (s : Nat) : ((P >>> (s + 5)) <<< 5) ^^^ ((P >>> s) &&& (31 : BitVec 64)) = P >>> s := by
  have h31 : ∀ i, i < 64 → (31 : BitVec 64).getLsbD i = decide (i < 5) := by decide
  apply BitVec.eq_of_getLsbD_eq
  intro i hi
  rw [BitVec.getLsbD_xor, BitVec.getLsbD_shiftLeft, BitVec.getLsbD_and, BitVec.getLsbD_ushiftRight, BitVec.getLsbD_ushiftRight, h31 i hi]
  by_cases h : i < 5
  · simp [h]
  · simp [h, hi, show s + 5 + (i - 5) = s + i by omega]
theorem lin_step (x P : BitVec 64) (s : Nat) (hP : P.toNat < 2 ^ 30) : lin (x ^^^ (P >>> (s + 5))) ^^^ ((P >>> s) &&& (31 : BitVec 64)) = lin x ^^^ (P >>> s) := by
  have h : (P >>> (s + 5)).toNat < 2 ^ 25 := by
    rw [BitVec.toNat_ushiftRight, Nat.shiftRight_eq_div_pow, Nat.pow_add, ← Nat.div_div_eq_div_mul]
    have h1 : P.toNat / 2 ^ s ≤ P.toNat := Nat.div_le_self _ _
    omega
  rw [lin_xor, lin_small _ h, BitVec.xor_assoc, low5]
theorem v64_let (P : BitVec 64) (s : Nat) : v64 (UInt8.ofNat (P.toNat / 2 ^ s % 32)) = (P >>> s) &&& 31 := by
  apply BitVec.eq_of_toNat_eq
  rw [v64, BitVec.toNat_setWidth, UInt8.toNat_toBitVec, UInt8.toNat_ofNat', BitVec.toNat_and, BitVec.toNat_ushiftRight, Nat.shiftRight_eq_div_pow, show (31 : BitVec 64).toNat = 2 ^ 5 - 1 from rfl, Nat.and_two_pow_sub_one_eq_mod]
  omega
theorem xor0 (x : BitVec 64) : x ^^^ 0 = x := by simp
theorem v64_zero (x : BitVec 64) : lin x ^^^ v64 0 = lin x := by
  rw [show v64 0 = 0 from rfl, xor0]
theorem bech_zero (all : List UInt8) : bech (all ++ List.replicate 6 0) = lin (lin (lin (lin (lin (lin (bech all)))))) := by
  rw [bech, List.foldl_append]
  simp only [List.replicate, List.foldl, bStep_lin, v64_zero]
  rfl
theorem bech_lt (all : List UInt8) : (bech (all ++ List.replicate 6 0)).toNat < 2 ^ 30 := by rw [bech_zero]; exact lin_lt _
theorem bech_closes (all : List UInt8) (K : BitVec 64) (hK : K.toNat < 2 ^ 30) : bech (all ++ lets6 (bech (all ++ List.replicate 6 0) ^^^ K) 6) = K := by
  have hP : (bech (all ++ List.replicate 6 0) ^^^ K).toNat < 2 ^ 30 := by
    rw [BitVec.toNat_xor]; exact Nat.xor_lt_two_pow (bech_lt all) hK
  obtain ⟨P, hPe⟩ : ∃ P, P = bech (all ++ List.replicate 6 0) ^^^ K := ⟨_, rfl⟩
  rw [← hPe] at hP ⊢
  have h30 : P >>> 30 = 0 := by
    apply BitVec.eq_of_toNat_eq
    rw [BitVec.toNat_ushiftRight, Nat.shiftRight_eq_div_pow, Nat.div_eq_of_lt hP]; rfl
  have hL : lets6 P 6 = [UInt8.ofNat (P.toNat / 2 ^ 25 % 32), UInt8.ofNat (P.toNat / 2 ^ 20 % 32), UInt8.ofNat (P.toNat / 2 ^ 15 % 32), UInt8.ofNat (P.toNat / 2 ^ 10 % 32), UInt8.ofNat (P.toNat / 2 ^ 5 % 32), UInt8.ofNat (P.toNat / 2 ^ 0 % 32)] := rfl
  have h0 : lin (bech all) ^^^ ((P >>> 25) &&& (31 : BitVec 64)) = lin (bech all) ^^^ (P >>> 25) := by
    have := lin_step (bech all) P 25 hP
    rwa [show 25 + 5 = 30 from rfl, h30, xor0] at this
  rw [hL, bech, List.foldl_append]
  simp only [List.foldl, bStep_lin, v64_let]
  rw [show List.foldl bStep 1 all = bech all from rfl, h0, lin_step _ P 20 hP, lin_step _ P 15 hP, lin_step _ P 10 hP, lin_step _ P 5 hP, lin_step _ P 0 hP]
  rw [BitVec.ushiftRight_zero, hPe, bech_zero, ← BitVec.xor_assoc, BitVec.xor_self, BitVec.zero_xor]
end Go.Proofs.YtkiigonikeeikaaGreatDoor

/-! text.bech; text.code.run for bech32; text.letters, six; text.constant; text.spread. -/
namespace Go.Proofs.YtkiigonikeeikaaGreatDoor
open Go.RowKit Go.Shelf

def codeB : Array Value := #[.int .i64 25, .int .u64 996825010, .int .u64 642813549, .int .u64 513874426, .int .u64 1027748829, .int .u64 705979059]
theorem sb_c (x : BitVec 64) (y : UInt8) : bits .xor .u64 (IntKind.u64.wrap (bits .and .u64 (x.toNat : Int) 33554431 * 32)) (y.toNat : Int) = ((((x &&& 0x1ffffff) <<< 5) ^^^ y.toBitVec.setWidth 64).toNat : Int) := by
  have hy := y.toNat_lt
  have hx := x.isLt
  have h1 : bits .and .u64 (x.toNat : Int) 33554431 = ((x &&& 0x1ffffff).toNat : Int) := by
    have := u64_and_nat x.toNat 33554431 hx (by omega)
    rw [BitVec.toNat_and]; exact this
  rw [h1, IntKind.wrap_u64]
  have h2 : (((x &&& 0x1ffffff).toNat : Int) * (32 : Int) % (18446744073709551616 : Int)) = ((((x &&& 0x1ffffff) <<< 5)).toNat : Int) := by
    rw [BitVec.toNat_shiftLeft, Nat.shiftLeft_eq]; simp
  have h3 : (y.toNat : Int) = ((y.toBitVec.setWidth 64).toNat : Int) := by rw [BitVec.toNat_setWidth, UInt8.toNat_toBitVec, Nat.mod_eq_of_lt (by omega)]
  rw [h2, h3, u64_xor_nat _ _ (BitVec.isLt _) (BitVec.isLt _), BitVec.toNat_xor]
theorem sb_b (x : BitVec 64) : (x.toNat : Int) / (33554432 : Int) = ((x >>> 25).toNat : Int) := by rw [BitVec.toNat_ushiftRight, Nat.shiftRight_eq_div_pow]; simp
set_option maxRecDepth 100000 in
set_option maxHeartbeats 2000000 in
theorem bech_any (w : World) : Calls Tryz.prog 50 #[] w fun e w' => e = .returned (.agg codeB) ∧ Below w.heap.size w w' := by
  go_enter Tryz.func50, Tryz.ntmps50
  go_wp2_with fail
  refine bodyPost_ret (v := .agg codeB) ?_ rfl ⟨rfl, (Below.refl _ w).alloc (Nat.le_refl _) _⟩
  exact results_cell_row rfl _ _ w.heap.size 90 codeB (0, 0) _ rfl (heap_alloc_new w _) Tryz.underlying90 rfl (by kernel_rfl)

set_option maxRecDepth 100000 in
set_option maxHeartbeats 4000000 in
theorem brun6_any (A : Option Addr) (c : Nat) (bs : List UInt8) (w : World) (hs : Sl w w.heap.size A (B8 bs)) (hl : bs.length ≤ 4096) (h0 : 0 < bs.length) :
    Calls Tryz.prog 51 #[.agg codeB, .slice A bs.length c, .int .i64 6] w fun e W' => e = .returned (.int .u64 ((bech (bs ++ List.replicate 6 0)).toNat : Int)) ∧ Below w.heap.size w W' := by
  unfold codeB
  go_enter Tryz.func51, Tryz.ntmps51
  go_wp2_with fail
  obtain ⟨wa, hwa⟩ : ∃ wa, wa = w.alloc (.cells codeB 90) := ⟨_, rfl⟩
  have hBa : Below w.heap.size w wa := by rw [hwa]; exact (Below.refl _ _).alloc (Nat.le_refl _) _
  have hga : wa.heap[w.heap.size]? = some (.cells codeB 90 (0, 0)) := by rw [hwa]; exact heap_alloc_new w _
  have hza : wa.heap.size = w.heap.size + 1 := by rw [hwa]; exact World.size_alloc _ _
  obtain ⟨gk, hgk⟩ : ∃ gk, gk = w.heap.size := ⟨_, rfl⟩
  rw [← hgk] at hga
  have hgkl : gk < wa.heap.size := by omega
  refine (show wa = _ from hwa) ▸ ?_
  refine (clone_any A c bs wa ((hs.below hBa).mono (by omega)) (by omega)).mono ?_
  rintro e w1 ⟨v, rfl, ho, hb1⟩
  obtain ⟨A1, c1, rfl, hc1, hc1'⟩ := own_form ho
  have hz1 := hb1.size
  have hzaw : w.heap.size ≤ wa.heap.size := by omega
  have hg1 := (hb1.block gk hgkl).trans hga
  have hBw1 := hBa.trans (hb1.mono hzaw)
  rw [← hgk]
  have Hg1 := Lib.hid hg1
  have Hgk := Lib.hid hgk
  clear hwa hza hga hg1 hgk
  obtain ⟨M, hM⟩ : ∃ M, M = bs ++ List.replicate 6 0 := ⟨_, rfl⟩
  have hMB : B8 bs ++ List.replicate 6 (Value.int IntKind.u8 0) = B8 M := by rw [hM]; simp [B8]
  obtain ⟨N, hN⟩ : ∃ N, N = M.length := ⟨_, rfl⟩
  have hNl : N ≤ 5000 := by rw [hN, hM]; simp; omega
  have hN0 : 0 < N := by rw [hN, hM, List.length_append]; omega
  have HM := Lib.hid hM
  have HMB := Lib.hid hMB
  have HN := Lib.hid hN
  clear hM hMB hN
  go_wp2_with (at_builtin; go_loud (refine wpList_append_zeros (base := wa.heap.size) (ti := 3) (xs := B8 bs) (v := .slice A1 bs.length c1) elB (by kernel_rfl) rfl rfl (.tmp 14) (.tmp 15) rfl rfl ho 6 rfl (by simpa using h0) (by omega) (by rw [B8_length]; simp [maxLen]; omega) (by rw [B8_length]; omega) hz1 ?_); intro v2 w2 ho2 hg2 hr2; rw [HMB.out] at ho2; obtain ⟨A2, c2, rfl, hc2, hc2'⟩ := own_form ho2; rw [← HN.out] at ho2 hc2 ⊢)
  have hgE : w2.heap[gk]? = some (.cells codeB 90 (0, 0)) := by
    rw [hg2.block gk (by omega) (fun e => by have := (ho.row gk e.symm).1; omega)]; exact Hg1.out
  have hBE : Below w.heap.size w w2 := hBw1.grown hg2 (by omega) (fun r hr => by have := (ho.row r hr).1; omega)
  have k0 : w2.cell? ⟨gk, 0, none⟩ = some (.int .i64 25) := by rw [cell_of_row w2 gk 0 _ _ (0, 0) hgE]; rfl
  have k1 : w2.cell? ⟨gk, 1, none⟩ = some (.int .u64 996825010) := by rw [cell_of_row w2 gk 1 _ _ (0, 0) hgE]; rfl
  have k2 : w2.cell? ⟨gk, 2, none⟩ = some (.int .u64 642813549) := by rw [cell_of_row w2 gk 2 _ _ (0, 0) hgE]; rfl
  have k3 : w2.cell? ⟨gk, 3, none⟩ = some (.int .u64 513874426) := by rw [cell_of_row w2 gk 3 _ _ (0, 0) hgE]; rfl
  have k4 : w2.cell? ⟨gk, 4, none⟩ = some (.int .u64 1027748829) := by rw [cell_of_row w2 gk 4 _ _ (0, 0) hgE]; rfl
  have k5 : w2.cell? ⟨gk, 5, none⟩ = some (.int .u64 705979059) := by rw [cell_of_row w2 gk 5 _ _ (0, 0) hgE]; rfl
  obtain ⟨b2, o2, rfl, _, hcl⟩ := ho2.sl (by rw [B8_length, ← HN.out]; exact hN0)
  have Hcl := Lib.hid hcl
  clear hcl hgE hg2 hr2 ho ho2
  go_loopw [7, 18] (fun cv i wr => ∃ j : Nat, wr = w2 ∧ j ≤ N ∧ i = .int .i64 j ∧ cv = .int .u64 ((bech (M.take j)).toNat : Int)) (fun _ i _ => N - (intOf i).toNat)
  case atStart => exact ⟨0, rfl, Nat.zero_le _, rfl, rfl⟩
  case round =>
    obtain ⟨j, rfl, hj, rfl, rfl⟩ := hrel
    obtain ⟨x, hx⟩ : ∃ x, x = bech (M.take j) := ⟨_, rfl⟩
    rw [← hx]
    have hx64 := x.isLt
    by_cases hlt : j < N
    · have hjM : j < M.length := by rw [← HN.out]; exact hlt
      obtain ⟨y, hy⟩ : ∃ y, y = M[j] := ⟨_, rfl⟩
      have hcell : wr.cell? ⟨b2, o2 + j, none⟩ = some (.int .u8 (y.toNat : Int)) := by rw [Hcl.out j (by simpa using hjM), B8_get, hy]
      have hy8 := y.toNat_lt
      have Hx := Lib.hid hx
      have Hy := Lib.hid hy
      clear hx hy
      go_wp2_with fail
      rw [sb_c x y, sb_b x]
      obtain ⟨c0, hc0⟩ : ∃ c0, c0 = ((x &&& 0x1ffffff) <<< 5) ^^^ y.toBitVec.setWidth 64 := ⟨_, rfl⟩
      obtain ⟨b0, hb0⟩ : ∃ b0, b0 = x >>> 25 := ⟨_, rfl⟩
      rw [← hc0, ← hb0]
      have Hc0 := Lib.hid hc0
      have Hb0 := Lib.hid hb0
      obtain ⟨wS, hwS⟩ : ∃ wS, wS = wr := ⟨_, rfl⟩
      subst hwS
      clear hc0 hb0
      have hb64 := b0.isLt
      go_loopw [7, 38] (fun cv i wr => ∃ q : Nat, wr = wS ∧ q ≤ 5 ∧ i = .int .i64 q ∧ cv = .int .u64 ((bAddTo b0 c0 q).toNat : Int)) (fun _ i _ => 5 - (intOf i).toNat)
      case atStart => exact ⟨0, rfl, Nat.zero_le _, rfl, rfl⟩
      case round =>
        obtain ⟨q, rfl, hq, rfl, rfl⟩ := hrel
        obtain ⟨z, hz⟩ : ∃ z, z = bAddTo b0 c0 q := ⟨_, rfl⟩
        rw [← hz]
        have hz64 := z.isLt
        have Hz := Lib.hid hz
        clear hz
        by_cases hlt5 : q < 5
        · obtain ⟨av, hav⟩ : ∃ av, av = bAdd.getD q 0 := ⟨_, rfl⟩
          have hix := run_index_u64 (P := Tryz.prog) 88 59 5 #[.int .u64 996825010, .int .u64 642813549, .int .u64 513874426, .int .u64 1027748829, .int .u64 705979059] .i64 q (.int .u64 (av.toNat : Int)) (by kernel_rfl) (by kernel_rfl) (by kernel_rfl) hlt5 (by
            rw [hav]
            have hq5 : q = 0 ∨ q = 1 ∨ q = 2 ∨ q = 3 ∨ q = 4 := by omega
            rcases hq5 with rfl | rfl | rfl | rfl | rfl <;> rfl)
          have Hav := Lib.hid hav
          clear hav
          go_wp2_with fail
          · rename_i h
            have hb : (b0 >>> q) &&& 1 = 1 := (bit_one b0 q).2 (by simpa using h)
            refine ⟨⟨q + 1, trivial, by omega, rfl, ?_⟩, by simp [intOf]; omega⟩
            rw [bAddTo, if_pos hb, ← Hz.out, ← Hav.out, sp_x]
          · rename_i h
            have hb : ¬ ((b0 >>> q) &&& 1 = 1) := fun e => by
              have := (bit_one b0 q).1 e
              rw [this] at h; simp at h
            refine ⟨⟨q + 1, trivial, by omega, rfl, ?_⟩, by simp [intOf]; omega⟩
            rw [bAddTo, if_neg hb, ← Hz.out]
        · obtain rfl : q = 5 := by omega
          go_wp2_with fail
          refine ⟨⟨j + 1, trivial, by omega, rfl, ?_⟩, by simp [intOf]; omega⟩
          rw [List.take_succ_eq_append_getElem hjM, bech, List.foldl_append]
          show _ = Value.int .u64 ((bStep (bech (M.take j)) M[j]).toNat : Int)
          rw [bStep, v64, ← Hx.out, ← Hy.out, ← Hc0.out, ← Hb0.out, Hz.out]
    · obtain rfl : j = N := by omega
      go_wp2_with fail
      go_ret
      refine ⟨?_, hBE⟩
      rw [← HM.out, ← show M.take j = M from List.take_of_length_le (by rw [← HN.out]; exact Nat.le_refl _), ← hx]; rfl

set_option maxRecDepth 100000 in
set_option maxHeartbeats 4000000 in
theorem brun0_any (A : Option Addr) (c : Nat) (bs : List UInt8) (w : World) (hs : Sl w w.heap.size A (B8 bs)) (hl : bs.length ≤ 4096) (h0 : 0 < bs.length) :
    Calls Tryz.prog 51 #[.agg codeB, .slice A bs.length c, .int .i64 0] w fun e W' => e = .returned (.int .u64 ((bech (bs ++ List.replicate 0 0)).toNat : Int)) ∧ Below w.heap.size w W' := by
  unfold codeB
  go_enter Tryz.func51, Tryz.ntmps51
  go_wp2_with fail
  obtain ⟨wa, hwa⟩ : ∃ wa, wa = w.alloc (.cells codeB 90) := ⟨_, rfl⟩
  have hBa : Below w.heap.size w wa := by rw [hwa]; exact (Below.refl _ _).alloc (Nat.le_refl _) _
  have hga : wa.heap[w.heap.size]? = some (.cells codeB 90 (0, 0)) := by rw [hwa]; exact heap_alloc_new w _
  have hza : wa.heap.size = w.heap.size + 1 := by rw [hwa]; exact World.size_alloc _ _
  obtain ⟨gk, hgk⟩ : ∃ gk, gk = w.heap.size := ⟨_, rfl⟩
  rw [← hgk] at hga
  have hgkl : gk < wa.heap.size := by omega
  refine (show wa = _ from hwa) ▸ ?_
  refine (clone_any A c bs wa ((hs.below hBa).mono (by omega)) (by omega)).mono ?_
  rintro e w1 ⟨v, rfl, ho, hb1⟩
  obtain ⟨A1, c1, rfl, hc1, hc1'⟩ := own_form ho
  have hz1 := hb1.size
  have hzaw : w.heap.size ≤ wa.heap.size := by omega
  have hg1 := (hb1.block gk hgkl).trans hga
  have hBw1 := hBa.trans (hb1.mono hzaw)
  rw [← hgk]
  have Hg1 := Lib.hid hg1
  have Hgk := Lib.hid hgk
  clear hwa hza hga hg1 hgk
  obtain ⟨M, hM⟩ : ∃ M, M = bs ++ List.replicate 0 0 := ⟨_, rfl⟩
  have hMB : B8 bs ++ List.replicate 0 (Value.int IntKind.u8 0) = B8 M := by rw [hM]; simp [B8]
  obtain ⟨N, hN⟩ : ∃ N, N = M.length := ⟨_, rfl⟩
  have hNl : N ≤ 5000 := by rw [hN, hM]; simp; omega
  have hN0 : 0 < N := by rw [hN, hM, List.length_append]; omega
  have HM := Lib.hid hM
  have HMB := Lib.hid hMB
  have HN := Lib.hid hN
  clear hM hMB hN
  have hNb : N = bs.length := by rw [HN.out, HM.out]; simp
  have hMb : B8 bs = B8 M := by rw [HM.out]; simp
  rw [hMb] at ho
  go_wp2_with (at_builtin; go_loud (refine wpList_append_zeros0 (ti := 3) elB (by kernel_rfl) hc1 (by omega) rfl (.tmp 14) (.tmp 15) rfl rfl rfl ?_))
  obtain ⟨w2, rfl⟩ : ∃ w2, w2 = w1 := ⟨_, rfl⟩
  have hgE := Hg1.out
  have hBE := hBw1
  rw [← hNb] at ho ⊢
  have ho2 := ho
  have hg2 := True.intro
  have hr2 := True.intro
  clear hNb hMb
  have k0 : w2.cell? ⟨gk, 0, none⟩ = some (.int .i64 25) := by rw [cell_of_row w2 gk 0 _ _ (0, 0) hgE]; rfl
  have k1 : w2.cell? ⟨gk, 1, none⟩ = some (.int .u64 996825010) := by rw [cell_of_row w2 gk 1 _ _ (0, 0) hgE]; rfl
  have k2 : w2.cell? ⟨gk, 2, none⟩ = some (.int .u64 642813549) := by rw [cell_of_row w2 gk 2 _ _ (0, 0) hgE]; rfl
  have k3 : w2.cell? ⟨gk, 3, none⟩ = some (.int .u64 513874426) := by rw [cell_of_row w2 gk 3 _ _ (0, 0) hgE]; rfl
  have k4 : w2.cell? ⟨gk, 4, none⟩ = some (.int .u64 1027748829) := by rw [cell_of_row w2 gk 4 _ _ (0, 0) hgE]; rfl
  have k5 : w2.cell? ⟨gk, 5, none⟩ = some (.int .u64 705979059) := by rw [cell_of_row w2 gk 5 _ _ (0, 0) hgE]; rfl
  obtain ⟨b2, o2, rfl, _, hcl⟩ := ho2.sl (by rw [B8_length, ← HN.out]; exact hN0)
  have Hcl := Lib.hid hcl
  clear hcl hgE hg2 hr2 ho ho2
  go_loopw [7, 18] (fun cv i wr => ∃ j : Nat, wr = w2 ∧ j ≤ N ∧ i = .int .i64 j ∧ cv = .int .u64 ((bech (M.take j)).toNat : Int)) (fun _ i _ => N - (intOf i).toNat)
  case atStart => exact ⟨0, rfl, Nat.zero_le _, rfl, rfl⟩
  case round =>
    obtain ⟨j, rfl, hj, rfl, rfl⟩ := hrel
    obtain ⟨x, hx⟩ : ∃ x, x = bech (M.take j) := ⟨_, rfl⟩
    rw [← hx]
    have hx64 := x.isLt
    by_cases hlt : j < N
    · have hjM : j < M.length := by rw [← HN.out]; exact hlt
      obtain ⟨y, hy⟩ : ∃ y, y = M[j] := ⟨_, rfl⟩
      have hcell : wr.cell? ⟨b2, o2 + j, none⟩ = some (.int .u8 (y.toNat : Int)) := by rw [Hcl.out j (by simpa using hjM), B8_get, hy]
      have hy8 := y.toNat_lt
      have Hx := Lib.hid hx
      have Hy := Lib.hid hy
      clear hx hy
      go_wp2_with fail
      rw [sb_c x y, sb_b x]
      obtain ⟨c0, hc0⟩ : ∃ c0, c0 = ((x &&& 0x1ffffff) <<< 5) ^^^ y.toBitVec.setWidth 64 := ⟨_, rfl⟩
      obtain ⟨b0, hb0⟩ : ∃ b0, b0 = x >>> 25 := ⟨_, rfl⟩
      rw [← hc0, ← hb0]
      have Hc0 := Lib.hid hc0
      have Hb0 := Lib.hid hb0
      obtain ⟨wS, hwS⟩ : ∃ wS, wS = wr := ⟨_, rfl⟩
      subst hwS
      clear hc0 hb0
      have hb64 := b0.isLt
      go_loopw [7, 38] (fun cv i wr => ∃ q : Nat, wr = wS ∧ q ≤ 5 ∧ i = .int .i64 q ∧ cv = .int .u64 ((bAddTo b0 c0 q).toNat : Int)) (fun _ i _ => 5 - (intOf i).toNat)
      case atStart => exact ⟨0, rfl, Nat.zero_le _, rfl, rfl⟩
      case round =>
        obtain ⟨q, rfl, hq, rfl, rfl⟩ := hrel
        obtain ⟨z, hz⟩ : ∃ z, z = bAddTo b0 c0 q := ⟨_, rfl⟩
        rw [← hz]
        have hz64 := z.isLt
        have Hz := Lib.hid hz
        clear hz
        by_cases hlt5 : q < 5
        · obtain ⟨av, hav⟩ : ∃ av, av = bAdd.getD q 0 := ⟨_, rfl⟩
          have hix := run_index_u64 (P := Tryz.prog) 88 59 5 #[.int .u64 996825010, .int .u64 642813549, .int .u64 513874426, .int .u64 1027748829, .int .u64 705979059] .i64 q (.int .u64 (av.toNat : Int)) (by kernel_rfl) (by kernel_rfl) (by kernel_rfl) hlt5 (by
            rw [hav]
            have hq5 : q = 0 ∨ q = 1 ∨ q = 2 ∨ q = 3 ∨ q = 4 := by omega
            rcases hq5 with rfl | rfl | rfl | rfl | rfl <;> rfl)
          have Hav := Lib.hid hav
          clear hav
          go_wp2_with fail
          · rename_i h
            have hb : (b0 >>> q) &&& 1 = 1 := (bit_one b0 q).2 (by simpa using h)
            refine ⟨⟨q + 1, trivial, by omega, rfl, ?_⟩, by simp [intOf]; omega⟩
            rw [bAddTo, if_pos hb, ← Hz.out, ← Hav.out, sp_x]
          · rename_i h
            have hb : ¬ ((b0 >>> q) &&& 1 = 1) := fun e => by
              have := (bit_one b0 q).1 e
              rw [this] at h; simp at h
            refine ⟨⟨q + 1, trivial, by omega, rfl, ?_⟩, by simp [intOf]; omega⟩
            rw [bAddTo, if_neg hb, ← Hz.out]
        · obtain rfl : q = 5 := by omega
          go_wp2_with fail
          refine ⟨⟨j + 1, trivial, by omega, rfl, ?_⟩, by simp [intOf]; omega⟩
          rw [List.take_succ_eq_append_getElem hjM, bech, List.foldl_append]
          show _ = Value.int .u64 ((bStep (bech (M.take j)) M[j]).toNat : Int)
          rw [bStep, v64, ← Hx.out, ← Hy.out, ← Hc0.out, ← Hb0.out, Hz.out]
    · obtain rfl : j = N := by omega
      go_wp2_with fail
      go_ret
      refine ⟨?_, hBE⟩
      rw [← HM.out, ← show M.take j = M from List.take_of_length_le (by rw [← HN.out]; exact Nat.le_refl _), ← hx]; rfl
end Go.Proofs.YtkiigonikeeikaaGreatDoor

/-! text.letters, six of them; text.constant; strings.LastIndexByte; slices.Clip. -/
namespace Go.Proofs.YtkiigonikeeikaaGreatDoor
open Go.RowKit Go.Shelf

theorem lets6_length (c : BitVec 64) (k : Nat) : (lets6 c k).length = k := by simp [lets6]
theorem lets6_succ (c : BitVec 64) (k : Nat) : lets6 c (k + 1) = lets6 c k ++ [UInt8.ofNat (c.toNat / 2 ^ (5 * (5 - k)) % 32)] := by simp [lets6, List.range_succ]
theorem lets6_lt (c : BitVec 64) (k : Nat) : ∀ d ∈ lets6 c k, d.toNat < 32 := by
  intro d hd
  obtain ⟨i, _, rfl⟩ := List.mem_map.1 hd
  rw [UInt8.toNat_ofNat']; omega

set_option maxRecDepth 100000 in
set_option maxHeartbeats 4000000 in
theorem letters6_any (c : BitVec 64) (w : World) :
    Calls Tryz.prog 49 #[.int .u64 (c.toNat : Int), .int .i64 6] w fun e W' => ∃ v, e = .returned v ∧ Ow W' w.heap.size 5 v (B8 (lets6 c 6)) ∧ Below w.heap.size w W' := by
  have hc64 := c.isLt
  go_enter Tryz.func49, Tryz.ntmps49
  go_wp2_with fail
  go_loopw [5, 8] (fun v i wr => ∃ k : Nat, k ≤ 6 ∧ i = .int .i64 k ∧ Ow wr w.heap.size 5 v (B8 (lets6 c k)) ∧ Below w.heap.size w wr) (fun _ i _ => 6 - (intOf i).toNat)
  case atStart => exact ⟨0, Nat.zero_le _, rfl, Ow.nil_ _ _ _ _, Below.refl _ _⟩
  case round =>
    obtain ⟨k, hk, rfl, ho, hb⟩ := hrel
    obtain ⟨L, hL⟩ : ∃ L, L = lets6 c k := ⟨_, rfl⟩
    have hLl : L.length = k := by rw [hL, lets6_length]
    rw [← hL] at ho
    obtain ⟨Al, cl, rfl, hcl, hcl'⟩ := own_form ho
    rw [hLl] at ho hcl ⊢
    by_cases hlt : k < 6
    · obtain ⟨sh, hsh⟩ : ∃ sh, sh = 5 * (5 - k) := ⟨_, rfl⟩
      have esh : (5 : Int) * (5 - (k : Int)) = (sh : Int) := by omega
      have hsh35 : sh ≤ 25 := by omega
      obtain ⟨d, hd⟩ : ∃ d, d = c.toNat / 2 ^ sh % 32 := ⟨_, rfl⟩
      have hd32 : d < 32 := by omega
      have h31 := sp_31 c sh
      rw [← hd] at h31
      have HL := Lib.hid hL
      have HLl := Lib.hid hLl
      have Hd := Lib.hid hd
      have Hsh := Lib.hid hsh
      clear hL hLl hd hsh
      go_wp2_with (at_builtin; go_loud (refine wpList_append_Ow (m := 1) (c := 1) (base := w.heap.size) (xs := B8 L) (v := .slice Al k cl) (A := some ⟨wr.heap.size, 0, none⟩) (B := wr.heap.size + 1) (news := [.int .u8 (d : Int)]) elB rfl (.tmp 11) (.tmp 21) rfl rfl (ho.alloc _) rfl (Sl.one wr _ _) rfl (by simp; rfl) (by rw [B8_length, HLl.out]; simp [maxLen]; omega) (by rw [B8_length, HLl.out]; omega) (by have := hb.size; simp; omega) ?_); intro v3 w3 ho3 hg3 hr3)
      rw [b8_snoc L _ (UInt8.ofNat d) (by simp; omega), HL.out, Hd.out, Hsh.out, ← lets6_succ] at ho3
      exact ⟨⟨k + 1, by omega, rfl, ho3, push_below hb (Nat.le_refl _) ho hg3⟩, by simp [intOf]; omega⟩
    · obtain rfl : k = 6 := by omega
      go_wp2_with fail
      go_ret
      rw [hL] at ho
      exact ⟨_, rfl, ho, hb⟩


def conK (m : Bool) : BitVec 64 := if m then 0x2bc830a3 else 1
theorem conK_lt (m : Bool) : (conK m).toNat < 2 ^ 30 := by cases m <;> decide
set_option maxHeartbeats 400000 in
theorem constant_any (m : Bool) (w : World) :
    Calls Tryz.prog 52 #[.bool m] w fun e w' => e = .returned (.int .u64 ((conK m).toNat : Int)) ∧ w' = w := by
  cases m
  · go_enter Tryz.func52, Tryz.ntmps52
    go_wp2
    go_ret
    exact ⟨rfl, rfl⟩
  · go_enter Tryz.func52, Tryz.ntmps52
    go_wp2
    go_ret
    exact ⟨rfl, rfl⟩

set_option maxHeartbeats 1000000 in
/-- The last byte c stands at place n, and none behind it. -/
theorem lastIndexS_any (s : ByteArray) (c n : Nat) (hsz : s.size ≤ maxLen) (hn : n < s.size) (hc : s[n].toNat = c) (hb : ∀ (j : Nat) (h : j < s.size), n < j → s[j].toNat ≠ c) (w : World) :
    Calls Tryz.prog 76 #[.string s, .int .u8 c] w fun e w' => e = .returned (.int .i64 n) ∧ w' = w := by
  unfold maxLen at hsz
  have Hb := Lib.hid hb
  have Hc := Lib.hid hc
  clear hb hc
  go_enter Tryz.func76, Tryz.ntmps76
  go_wp2
  go_loop [5] (fun i => ∃ k : Nat, n ≤ k ∧ k < s.size ∧ i = .int .i64 k) (fun i => (intOf i).toNat)
  case atStart => exact ⟨s.size - 1, by omega, by omega, by congr 1; omega⟩
  case round =>
    obtain ⟨k, hk1, hk2, rfl⟩ := hrel
    by_cases he : k = n
    · subst he
      have hc := Hc.out
      have hce : (s[k].toNat : Int) = (c : Int) := by rw [hc]
      have Hce := Lib.hid hc
      clear hc
      go_wp2
      go_ret
      exact ⟨rfl, rfl⟩
    · have hne := Hb.out k hk2 (by omega)
      have hne' : ((s[k].toNat : Int) == (c : Int)) = false := by simp; omega
      have Hne := Lib.hid hne
      have hk1' : n < k := by omega
      clear hne
      go_wp2
      refine ⟨⟨k - 1, by omega, by omega, by congr 1; omega⟩, by simp [intOf]; omega⟩

set_option maxHeartbeats 1000000 in
theorem lastIndex_any (s : ByteArray) (c n : Nat) (hsz : s.size ≤ maxLen) (hn : n < s.size) (hc : s[n].toNat = c) (hb : ∀ (j : Nat) (h : j < s.size), n < j → s[j].toNat ≠ c) (w : World) :
    Calls Tryz.prog 54 #[.string s, .int .u8 c] w fun e w' => e = .returned (.int .i64 n) ∧ w' = w := by
  have h := lastIndexS_any s c n hsz hn hc hb
  have H := Lib.hid h
  clear h hb hc
  go_enter Tryz.func54, Tryz.ntmps54
  go_wp2_with (go_at_call 76; refine (H.out _).mono ?_; rintro e w' ⟨rfl, rfl⟩)
  go_ret
  exact ⟨rfl, rfl⟩

end Go.Proofs.YtkiigonikeeikaaGreatDoor

/-! text.Checksum. -/
namespace Go.Proofs.YtkiigonikeeikaaGreatDoor
open Go.RowKit Go.Shelf

theorem keep_two {w w' : World} {base E : Nat} {v u : Value} {xs ys : List Value} (hv : Ow w base E v xs) (hne : ∀ r, rowOf v = some r → rowOf u ≠ some r) (hg : w.grownBy w' (rowOf u)) : Ow w' base E v xs :=
  hv.kept hg hne
theorem apart_new {w : World} {base E : Nat} {v u u' : Value} {xs : List Value} (hv : Ow w base E v xs) (hne : ∀ r, rowOf v = some r → rowOf u ≠ some r) (hu : rowOf u' = rowOf u ∨ rowOf u' = some w.heap.size) : ∀ r, rowOf v = some r → rowOf u' ≠ some r := by
  intro r hr e
  rcases hu with h | h
  · exact hne r hr (h ▸ e)
  · rw [h] at e; injection e with e
    have := (hv.row r hr).2; omega
theorem apart_grown {v u v' : Value} {r0 : Nat} (h : ∀ r, rowOf v = some r → rowOf u ≠ some r) (hv : rowOf v' = rowOf v ∨ rowOf v' = some r0) (hu : ∀ r, rowOf u = some r → r < r0) : ∀ r, rowOf v' = some r → rowOf u ≠ some r := by
  intro r hr e
  rcases hv with h1 | h1
  · exact h r (h1 ▸ hr) e
  · rw [h1] at hr; injection hr with hr
    have := hu r e; omega
theorem Ow.row_lt {w : World} {base E : Nat} {v : Value} {xs : List Value} (h : Ow w base E v xs) : ∀ r, rowOf v = some r → r < w.heap.size := fun r hr => (h.row r hr).2
theorem apart_symm {v u : Value} (h : ∀ r, rowOf v = some r → rowOf u ≠ some r) : ∀ r, rowOf u = some r → rowOf v ≠ some r := fun r hu hv => h r hv hu

theorem csVals_snoc (s : List UInt8) (c : UInt8) : csVals (s ++ [c]) = csStep (csVals s) c := by simp [csVals]
theorem csStep_short (V G : List UInt8) (c : UInt8) (h : G.length < 2) : csStep (V, G) c = (V ++ [UInt8.ofNat (posD c % 32)], G ++ [UInt8.ofNat (posD c / 32)]) := by
  unfold csStep
  match G, h with
  | [], _ => rfl
  | [g], _ => rfl
theorem csStep_full (V : List UInt8) (g0 g1 : UInt8) (c : UInt8) : csStep (V, [g0, g1]) c = (V ++ [UInt8.ofNat (posD c % 32)] ++ [UInt8.ofNat (9 * g0.toNat + 3 * g1.toNat + posD c / 32)], []) := rfl
theorem and31 (p : Nat) (h : p < 95) : bits .and .i64 (p : Int) 31 = ((p % 32 : Nat) : Int) := by
  have : ∀ p : Fin 95, bits .and .i64 (p.val : Int) 31 = ((p.val % 32 : Nat) : Int) := by decide
  exact this ⟨p, h⟩

theorem lettersL_lt (c : BitVec 64) (k : Nat) : ∀ d ∈ lettersL c k, d.toNat < 32 := by
  intro d hd
  obtain ⟨i, _, rfl⟩ := List.mem_map.1 hd
  rw [UInt8.toNat_ofNat']; omega
theorem letters32_at (d : UInt8) (h : d.toNat < (⟨letters32.toArray⟩ : ByteArray).size) : (⟨letters32.toArray⟩ : ByteArray)[d.toNat] = let32 d := by
  have h' : d.toNat < letters32.length := h
  show letters32.toArray[d.toNat]'(by simpa using h') = _
  simp [let32, h']

end Go.Proofs.YtkiigonikeeikaaGreatDoor
