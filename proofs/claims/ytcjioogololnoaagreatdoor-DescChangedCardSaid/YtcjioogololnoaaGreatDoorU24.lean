/- text.code.run, for descs; text.descs; text.letters. | text.letters; text.Checksum. | Descriptors, plain: steps of a path, keys, what a text is read as, how it is written. -/
import Derived.Test.YtcjioogololnoaaGreatDoorU3
import Derived.Test.YtcjioogololnoaaGreatDoorU23
import Derived.Test.YtcjioogololnoaaGreatDoorU10
import Derived.Test.YtcjioogololnoaaGreatDoorU11
import Derived.Test.YtcjioogololnoaaGreatDoorU22
import Derived.Test.YtcjioogololnoaaGreatDoorU19
import Derived.Lib.AtoiAll
import Derived.Lib.ItoaNum

/-! text.code.run, for descs; text.descs; text.letters. -/
namespace Go.Proofs.YtcjioogololnoaaGreatDoor
open Go.RowKit Go.Shelf

def dAdd : List (BitVec 64) := [0xf5dee51989, 0xa9fdca3312, 0x1bab10e32d, 0x3706b1677a, 0x644d626ffd]
def polyAdd (b c : BitVec 64) : Nat → BitVec 64
  | 0 => c
  | i + 1 => if (b >>> i) &&& 1 = 1 then polyAdd b c i ^^^ dAdd.getD i 0 else polyAdd b c i
def polyStep (c : BitVec 64) (v : UInt8) : BitVec 64 := polyAdd (c >>> 35) (((c &&& 0x7ffffffff) <<< 5) ^^^ v.toBitVec.setWidth 64) 5
def poly (l : List UInt8) : BitVec 64 := l.foldl polyStep 1
def codeV : Array Value := #[.int .i64 35, .int .u64 1056006543753, .int .u64 730107360018, .int .u64 118834127661, .int .u64 236335490938, .int .u64 430795026429]

theorem run_index_u64 {P : Program} (t e : TypeId) (n : Nat) (cs : Array Value) (kk : IntKind) (k : Nat) (v : Value) (h : P.underlying t = some (.array n e)) (he : P.underlying e = some (.int .u64)) (hs : (P.info? e).map (·.size) = some 1) (hk : k < n) (hv : cs[k]? = some v) (w : World) :
    (Instr.index t (.agg cs) (.int kk (k : Int))).run P w = .ok v w := by
  have hsz : (sizeOf e).run P w = .ok 1 w := by
    cases hq : P.info? e with
    | none => simp [hq] at hs
    | some i => simp [hq] at hs; simp [sizeOf, typeInfo, hq, hs]
  have hag : (isAgg e).run P w = .ok false w := by
    unfold isAgg
    rw [Sem.run_bind, run_underlying he w]
    rfl
  simp [Instr.index, asIntOf, run_underlying h, hsz, part, hag, hv, hk, go_sem]
theorem sp_c (x : BitVec 64) (y : UInt8) : bits .xor .u64 (IntKind.u64.wrap (bits .and .u64 (x.toNat : Int) 34359738367 * 32)) (y.toNat : Int) = ((((x &&& 0x7ffffffff) <<< 5) ^^^ y.toBitVec.setWidth 64).toNat : Int) := by
  have hy := y.toNat_lt
  have hx := x.isLt
  have h1 : bits .and .u64 (x.toNat : Int) 34359738367 = ((x &&& 0x7ffffffff).toNat : Int) := by
    have := u64_and_nat x.toNat 34359738367 hx (by omega)
    rw [BitVec.toNat_and]; exact this
  rw [h1, IntKind.wrap_u64]
  have h2 : (((x &&& 0x7ffffffff).toNat : Int) * (32 : Int) % (18446744073709551616 : Int)) = ((((x &&& 0x7ffffffff) <<< 5)).toNat : Int) := by
    rw [BitVec.toNat_shiftLeft, Nat.shiftLeft_eq]; simp
  have h3 : (y.toNat : Int) = ((y.toBitVec.setWidth 64).toNat : Int) := by rw [BitVec.toNat_setWidth, UInt8.toNat_toBitVec, Nat.mod_eq_of_lt (by omega)]
  rw [h2, h3, u64_xor_nat _ _ (BitVec.isLt _) (BitVec.isLt _), BitVec.toNat_xor]
theorem sp_b (x : BitVec 64) : (x.toNat : Int) / (34359738368 : Int) = ((x >>> 35).toNat : Int) := by rw [BitVec.toNat_ushiftRight, Nat.shiftRight_eq_div_pow]; simp
theorem sp_bit (b : BitVec 64) (q : Nat) : bits .and .u64 ((b.toNat : Int) / 2 ^ q) 1 = (((b >>> q) &&& 1).toNat : Int) := by
  have h1 : (b.toNat : Int) / 2 ^ q = ((b >>> q).toNat : Int) := by rw [BitVec.toNat_ushiftRight, Nat.shiftRight_eq_div_pow, Int.natCast_ediv, Int.natCast_pow]; rfl
  rw [h1, BitVec.toNat_and]
  exact u64_and_nat _ 1 (BitVec.isLt _) (by omega)
theorem bit_one (b : BitVec 64) (q : Nat) : (b >>> q) &&& 1 = 1 ↔ bits .and .u64 ((b.toNat : Int) / 2 ^ q) 1 = 1 := by
  rw [sp_bit]
  constructor
  · intro h; rw [h]; rfl
  · intro h; apply BitVec.eq_of_toNat_eq; show _ = 1; omega
theorem sp_x (x y : BitVec 64) : bits .xor .u64 (x.toNat : Int) (y.toNat : Int) = ((x ^^^ y).toNat : Int) := by rw [u64_xor_nat _ _ x.isLt y.isLt, BitVec.toNat_xor]
set_option maxRecDepth 100000 in
set_option maxHeartbeats 2000000 in
theorem descs_any (w : World) : Calls Tryz.prog 34 #[] w fun e w' => e = .returned (.agg codeV) ∧ Below w.heap.size w w' := by
  go_enter Tryz.func34, Tryz.ntmps34
  go_wp2_with fail
  refine bodyPost_ret (v := .agg codeV) ?_ rfl ⟨rfl, (Below.refl _ w).alloc (Nat.le_refl _) _⟩
  exact results_cell_row rfl _ _ w.heap.size 81 codeV (0, 0) _ rfl (heap_alloc_new w _) Tryz.underlying81 rfl (by kernel_rfl)

set_option maxRecDepth 100000 in
set_option maxHeartbeats 4000000 in
theorem run_any (A : Option Addr) (c : Nat) (bs : List UInt8) (w : World) (hs : Sl w w.heap.size A (B8 bs)) (hl : bs.length ≤ 17000) :
    Calls Tryz.prog 35 #[.agg codeV, .slice A bs.length c, .int .i64 8] w fun e W' => e = .returned (.int .u64 ((poly (bs ++ List.replicate 8 0)).toNat : Int)) ∧ Below w.heap.size w W' := by
  unfold codeV
  go_enter Tryz.func35, Tryz.ntmps35
  go_wp2_with fail
  obtain ⟨wa, hwa⟩ : ∃ wa, wa = w.alloc (.cells codeV 81) := ⟨_, rfl⟩
  have hBa : Below w.heap.size w wa := by rw [hwa]; exact (Below.refl _ _).alloc (Nat.le_refl _) _
  have hga : wa.heap[w.heap.size]? = some (.cells codeV 81 (0, 0)) := by rw [hwa]; exact heap_alloc_new w _
  have hza : wa.heap.size = w.heap.size + 1 := by rw [hwa]; exact World.size_alloc _ _
  obtain ⟨gk, hgk⟩ : ∃ gk, gk = w.heap.size := ⟨_, rfl⟩
  rw [← hgk] at hga
  have hgkl : gk < wa.heap.size := by omega
  refine (show wa = _ from hwa) ▸ ?_
  refine (clone_any A c bs wa ((hs.below hBa).mono (by omega)) (by omega)).mono ?_
  rintro e w1 ⟨v, rfl, ho, hb1⟩
  obtain ⟨A1, c1, rfl, hc1, hc1'⟩ := own_form ho
  have hz1 := hb1.size
  have hzaw : w.heap.size ≤ wa.heap.size := by omega
  have hg1 := (hb1.block gk hgkl).trans hga
  have hBw1 := hBa.trans (hb1.mono hzaw)
  rw [← hgk]
  have Hg1 := Lib.hid hg1
  have Hgk := Lib.hid hgk
  clear hwa hza hga hg1 hgk
  obtain ⟨M, hM⟩ : ∃ M, M = bs ++ List.replicate 8 0 := ⟨_, rfl⟩
  have hMB : B8 bs ++ List.replicate 8 (Value.int IntKind.u8 0) = B8 M := by rw [hM]; simp [B8]
  obtain ⟨N, hN⟩ : ∃ N, N = M.length := ⟨_, rfl⟩
  have hNl : N ≤ 18000 := by rw [hN, hM]; simp; omega
  have hN0 : 0 < N := by rw [hN, hM]; simp
  have HM := Lib.hid hM
  have HMB := Lib.hid hMB
  have HN := Lib.hid hN
  clear hM hMB hN
  go_wp2_with (at_builtin; go_loud (refine wpList_append_zeros (base := wa.heap.size) (ti := 3) (xs := B8 bs) (v := .slice A1 bs.length c1) elB (by kernel_rfl) rfl rfl (.tmp 14) (.tmp 15) rfl rfl ho 8 rfl (by omega) (by rw [B8_length]; simp [maxLen]; omega) (by rw [B8_length]; omega) hz1 ?_); intro v2 w2 ho2 hg2 hr2; rw [HMB.out] at ho2; obtain ⟨A2, c2, rfl, hc2, hc2'⟩ := own_form ho2; rw [← HN.out] at ho2 hc2 ⊢)
  have hgE : w2.heap[gk]? = some (.cells codeV 81 (0, 0)) := by
    rw [hg2.block gk (by omega) (fun e => by have := (ho.row gk e.symm).1; omega)]; exact Hg1.out
  have hBE : Below w.heap.size w w2 := hBw1.grown hg2 (by omega) (fun r hr => by have := (ho.row r hr).1; omega)
  have k0 : w2.cell? ⟨gk, 0, none⟩ = some (.int .i64 35) := by rw [cell_of_row w2 gk 0 _ _ (0, 0) hgE]; rfl
  have k1 : w2.cell? ⟨gk, 1, none⟩ = some (.int .u64 1056006543753) := by rw [cell_of_row w2 gk 1 _ _ (0, 0) hgE]; rfl
  have k2 : w2.cell? ⟨gk, 2, none⟩ = some (.int .u64 730107360018) := by rw [cell_of_row w2 gk 2 _ _ (0, 0) hgE]; rfl
  have k3 : w2.cell? ⟨gk, 3, none⟩ = some (.int .u64 118834127661) := by rw [cell_of_row w2 gk 3 _ _ (0, 0) hgE]; rfl
  have k4 : w2.cell? ⟨gk, 4, none⟩ = some (.int .u64 236335490938) := by rw [cell_of_row w2 gk 4 _ _ (0, 0) hgE]; rfl
  have k5 : w2.cell? ⟨gk, 5, none⟩ = some (.int .u64 430795026429) := by rw [cell_of_row w2 gk 5 _ _ (0, 0) hgE]; rfl
  obtain ⟨b2, o2, rfl, _, hcl⟩ := ho2.sl (by rw [B8_length, ← HN.out]; exact hN0)
  have Hcl := Lib.hid hcl
  clear hcl hgE hg2 hr2 ho ho2
  go_loopw [7, 18] (fun cv i wr => ∃ j : Nat, wr = w2 ∧ j ≤ N ∧ i = .int .i64 j ∧ cv = .int .u64 ((poly (M.take j)).toNat : Int)) (fun _ i _ => N - (intOf i).toNat)
  case atStart => exact ⟨0, rfl, Nat.zero_le _, rfl, rfl⟩
  case round =>
    obtain ⟨j, rfl, hj, rfl, rfl⟩ := hrel
    obtain ⟨x, hx⟩ : ∃ x, x = poly (M.take j) := ⟨_, rfl⟩
    rw [← hx]
    have hx64 := x.isLt
    by_cases hlt : j < N
    · have hjM : j < M.length := by rw [← HN.out]; exact hlt
      obtain ⟨y, hy⟩ : ∃ y, y = M[j] := ⟨_, rfl⟩
      have hcell : wr.cell? ⟨b2, o2 + j, none⟩ = some (.int .u8 (y.toNat : Int)) := by rw [Hcl.out j (by simpa using hjM), B8_get, hy]
      have hy8 := y.toNat_lt
      have Hx := Lib.hid hx
      have Hy := Lib.hid hy
      clear hx hy
      go_wp2_with fail
      rw [sp_c x y, sp_b x]
      obtain ⟨c0, hc0⟩ : ∃ c0, c0 = ((x &&& 0x7ffffffff) <<< 5) ^^^ y.toBitVec.setWidth 64 := ⟨_, rfl⟩
      obtain ⟨b0, hb0⟩ : ∃ b0, b0 = x >>> 35 := ⟨_, rfl⟩
      rw [← hc0, ← hb0]
      have Hc0 := Lib.hid hc0
      have Hb0 := Lib.hid hb0
      obtain ⟨wS, hwS⟩ : ∃ wS, wS = wr := ⟨_, rfl⟩
      subst hwS
      clear hc0 hb0
      have hb64 := b0.isLt
      go_loopw [7, 38] (fun cv i wr => ∃ q : Nat, wr = wS ∧ q ≤ 5 ∧ i = .int .i64 q ∧ cv = .int .u64 ((polyAdd b0 c0 q).toNat : Int)) (fun _ i _ => 5 - (intOf i).toNat)
      case atStart => exact ⟨0, rfl, Nat.zero_le _, rfl, rfl⟩
      case round =>
        obtain ⟨q, rfl, hq, rfl, rfl⟩ := hrel
        obtain ⟨z, hz⟩ : ∃ z, z = polyAdd b0 c0 q := ⟨_, rfl⟩
        rw [← hz]
        have hz64 := z.isLt
        have Hz := Lib.hid hz
        clear hz
        by_cases hlt5 : q < 5
        · obtain ⟨av, hav⟩ : ∃ av, av = dAdd.getD q 0 := ⟨_, rfl⟩
          have hix := run_index_u64 (P := Tryz.prog) 79 78 5 #[.int .u64 1056006543753, .int .u64 730107360018, .int .u64 118834127661, .int .u64 236335490938, .int .u64 430795026429] .i64 q (.int .u64 (av.toNat : Int)) (by kernel_rfl) (by kernel_rfl) (by kernel_rfl) hlt5 (by
            rw [hav]
            have hq5 : q = 0 ∨ q = 1 ∨ q = 2 ∨ q = 3 ∨ q = 4 := by omega
            rcases hq5 with rfl | rfl | rfl | rfl | rfl <;> rfl)
          have Hav := Lib.hid hav
          clear hav
          go_wp2_with fail
          · rename_i h
            have hb : (b0 >>> q) &&& 1 = 1 := (bit_one b0 q).2 (by simpa using h)
            refine ⟨⟨q + 1, trivial, by omega, rfl, ?_⟩, by simp [intOf]; omega⟩
            rw [polyAdd, if_pos hb, ← Hz.out, ← Hav.out, sp_x]
          · rename_i h
            have hb : ¬ ((b0 >>> q) &&& 1 = 1) := fun e => by
              have := (bit_one b0 q).1 e
              rw [this] at h; simp at h
            refine ⟨⟨q + 1, trivial, by omega, rfl, ?_⟩, by simp [intOf]; omega⟩
            rw [polyAdd, if_neg hb, ← Hz.out]
        · obtain rfl : q = 5 := by omega
          go_wp2_with fail
          refine ⟨⟨j + 1, trivial, by omega, rfl, ?_⟩, by simp [intOf]; omega⟩
          rw [List.take_succ_eq_append_getElem hjM, poly, List.foldl_append]
          show _ = Value.int .u64 ((polyStep (poly (M.take j)) M[j]).toNat : Int)
          rw [polyStep, ← Hx.out, ← Hy.out, ← Hc0.out, ← Hb0.out, Hz.out]
    · obtain rfl : j = N := by omega
      go_wp2_with fail
      go_ret
      refine ⟨?_, hBE⟩
      rw [← HM.out, ← show M.take j = M from List.take_of_length_le (by rw [← HN.out]; exact Nat.le_refl _), ← hx]; rfl
end Go.Proofs.YtcjioogololnoaaGreatDoor

/-! text.letters; text.Checksum. -/
namespace Go.Proofs.YtcjioogololnoaaGreatDoor
open Go.RowKit Go.Shelf

def lettersL (c : BitVec 64) (k : Nat) : List UInt8 := (List.range k).map fun i => UInt8.ofNat (c.toNat / 2 ^ (5 * (7 - i)) % 32)
theorem lettersL_length (c : BitVec 64) (k : Nat) : (lettersL c k).length = k := by simp [lettersL]
theorem lettersL_succ (c : BitVec 64) (k : Nat) : lettersL c (k + 1) = lettersL c k ++ [UInt8.ofNat (c.toNat / 2 ^ (5 * (7 - k)) % 32)] := by simp [lettersL, List.range_succ]
theorem sp_31 (c : BitVec 64) (q : Nat) : bits .and .u64 ((c.toNat : Int) / 2 ^ q) 31 = ((c.toNat / 2 ^ q % 32 : Nat) : Int) := by
  have h1 : (c.toNat : Int) / 2 ^ q = ((c.toNat / 2 ^ q : Nat) : Int) := by rw [Int.natCast_ediv, Int.natCast_pow]; rfl
  have hc := c.isLt
  have h2 : c.toNat / 2 ^ q ≤ c.toNat := Nat.div_le_self _ _
  have h3 := u64_and_nat (c.toNat / 2 ^ q) 31 (by omega) (by omega)
  rw [h1]
  refine h3.trans ?_
  rw [show (31 : Nat) = 2 ^ 5 - 1 from rfl, Nat.and_two_pow_sub_one_eq_mod]

set_option maxRecDepth 100000 in
set_option maxHeartbeats 4000000 in
theorem letters_any (c : BitVec 64) (w : World) :
    Calls Tryz.prog 33 #[.int .u64 (c.toNat : Int), .int .i64 8] w fun e W' => ∃ v, e = .returned v ∧ Ow W' w.heap.size 5 v (B8 (lettersL c 8)) ∧ Below w.heap.size w W' := by
  have hc64 := c.isLt
  go_enter Tryz.func33, Tryz.ntmps33
  go_wp2_with fail
  go_loopw [5, 8] (fun v i wr => ∃ k : Nat, k ≤ 8 ∧ i = .int .i64 k ∧ Ow wr w.heap.size 5 v (B8 (lettersL c k)) ∧ Below w.heap.size w wr) (fun _ i _ => 8 - (intOf i).toNat)
  case atStart => exact ⟨0, Nat.zero_le _, rfl, Ow.nil_ _ _ _ _, Below.refl _ _⟩
  case round =>
    obtain ⟨k, hk, rfl, ho, hb⟩ := hrel
    obtain ⟨L, hL⟩ : ∃ L, L = lettersL c k := ⟨_, rfl⟩
    have hLl : L.length = k := by rw [hL, lettersL_length]
    rw [← hL] at ho
    obtain ⟨Al, cl, rfl, hcl, hcl'⟩ := own_form ho
    rw [hLl] at ho hcl ⊢
    by_cases hlt : k < 8
    · obtain ⟨sh, hsh⟩ : ∃ sh, sh = 5 * (7 - k) := ⟨_, rfl⟩
      have esh : (5 : Int) * (7 - (k : Int)) = (sh : Int) := by omega
      have hsh35 : sh ≤ 35 := by omega
      obtain ⟨d, hd⟩ : ∃ d, d = c.toNat / 2 ^ sh % 32 := ⟨_, rfl⟩
      have hd32 : d < 32 := by omega
      have h31 := sp_31 c sh
      rw [← hd] at h31
      have HL := Lib.hid hL
      have HLl := Lib.hid hLl
      have Hd := Lib.hid hd
      have Hsh := Lib.hid hsh
      clear hL hLl hd hsh
      go_wp2_with (at_builtin; go_loud (refine wpList_append_Ow (m := 1) (c := 1) (base := w.heap.size) (xs := B8 L) (v := .slice Al k cl) (A := some ⟨wr.heap.size, 0, none⟩) (B := wr.heap.size + 1) (news := [.int .u8 (d : Int)]) elB rfl (.tmp 11) (.tmp 21) rfl rfl (ho.alloc _) rfl (Sl.one wr _ _) rfl (by simp; rfl) (by rw [B8_length, HLl.out]; simp [maxLen]; omega) (by rw [B8_length, HLl.out]; omega) (by have := hb.size; simp; omega) ?_); intro v3 w3 ho3 hg3 hr3)
      rw [b8_snoc L _ (UInt8.ofNat d) (by simp; omega), HL.out, Hd.out, Hsh.out, ← lettersL_succ] at ho3
      exact ⟨⟨k + 1, by omega, rfl, ho3, push_below hb (Nat.le_refl _) ho hg3⟩, by simp [intOf]; omega⟩
    · obtain rfl : k = 8 := by omega
      go_wp2_with fail
      go_ret
      rw [hL] at ho
      exact ⟨_, rfl, ho, hb⟩

def inD : List UInt8 := [48, 49, 50, 51, 52, 53, 54, 55, 56, 57, 40, 41, 91, 93, 44, 39, 47, 42, 97, 98, 99, 100, 101, 102, 103, 104, 64, 58, 36, 37, 123, 125, 73, 74, 75, 76, 77, 78, 79, 80, 81, 82, 83, 84, 85, 86, 87, 88, 89, 90, 38, 43, 45, 46, 59, 60, 61, 62, 63, 33, 94, 95, 124, 126, 105, 106, 107, 108, 109, 110, 111, 112, 113, 114, 115, 116, 117, 118, 119, 120, 121, 122, 65, 66, 67, 68, 69, 70, 71, 72, 96, 35, 34, 92, 32]
def letters32 : List UInt8 := [113, 112, 122, 114, 121, 57, 120, 56, 103, 102, 50, 116, 118, 100, 119, 48, 115, 51, 106, 110, 53, 52, 107, 104, 99, 101, 54, 109, 117, 97, 55, 108]
def posD (c : UInt8) : Nat := inD.idxOf c
def csStep (st : List UInt8 × List UInt8) (c : UInt8) : List UInt8 × List UInt8 :=
  match st.2 with
  | [g0, g1] => (st.1 ++ [UInt8.ofNat (posD c % 32)] ++ [UInt8.ofNat (9 * g0.toNat + 3 * g1.toNat + posD c / 32)], [])
  | g => (st.1 ++ [UInt8.ofNat (posD c % 32)], g ++ [UInt8.ofNat (posD c / 32)])
def csEnd : List UInt8 × List UInt8 → List UInt8
  | (v, [g]) => v ++ [g]
  | (v, [g, h]) => v ++ [UInt8.ofNat (3 * g.toNat + h.toNat)]
  | (v, _) => v
def csVals (s : List UInt8) : List UInt8 × List UInt8 := s.foldl csStep ([], [])
def let32 (d : UInt8) : UInt8 := letters32.getD d.toNat 0
def checksum (s : List UInt8) : List UInt8 := (lettersL (poly (csEnd (csVals s) ++ List.replicate 8 0) ^^^ 1) 8).map let32

theorem checksum_awake : checksum [114, 97, 119, 40, 100, 101, 97, 100, 98, 101, 101, 102, 41] = [56, 57, 102, 56, 115, 112, 120, 109] := by kernel_rfl
end Go.Proofs.YtcjioogololnoaaGreatDoor

/-! Descriptors, plain: steps of a path, keys, what a text is read as, how it is written. -/
namespace Go.Proofs.YtcjioogololnoaaGreatDoor
open Go

/-- A descriptor's key: bytes alone, or a tree's with steps. -/
structure DKey where
  plain : List UInt8
  top : HKey
  steps : List Nat
  ranged : Bool
  hard : Bool
deriving DecidableEq
structure DDesc where
  wraps : List (List UInt8)
  m : Nat
  sorted : Bool
  keys : List DKey
deriving DecidableEq
def lowC (c : UInt8) : UInt8 := if 65 ≤ c.toNat ∧ c.toNat ≤ 70 then UInt8.ofNat (c.toNat + 32) else c
def hexIn (c : UInt8) : Bool := decide (lowC c ∈ hexLetters)
def hexAt (c : UInt8) : Nat := hexLetters.idxOf (lowC c)
def unhex : List UInt8 → Option (List UInt8)
  | [] => some []
  | [_] => none
  | a :: b :: r => if hexIn a && hexIn b then (unhex r).map (UInt8.ofNat (hexAt a * 16 + hexAt b) :: ·) else none
theorem unhex_append : ∀ (xs ys : List UInt8) (u : List UInt8), unhex xs = some u → unhex (xs ++ ys) = (unhex ys).map (u ++ ·)
  | [], ys, u, h => by
    obtain rfl : [] = u := by simpa [unhex] using h
    cases hy : unhex ys <;> simp [hy]
  | [_], _, _, h => by simp [unhex] at h
  | a :: b :: r, ys, u, h => by
    rw [unhex] at h
    split at h
    · next hab =>
      cases hr : unhex r with
      | none => rw [hr] at h; simp at h
      | some v =>
        rw [hr] at h
        simp only [Option.map_some, Option.some.injEq] at h
        subst h
        rw [List.cons_append, List.cons_append, unhex, if_pos hab, unhex_append r ys v hr]
        cases unhex ys <;> simp
    · simp at h
theorem unhex_len : ∀ (xs u : List UInt8), unhex xs = some u → xs.length = 2 * u.length
  | [], u, h => by
    obtain rfl : [] = u := by simpa [unhex] using h
    rfl
  | [_], _, h => by simp [unhex] at h
  | a :: b :: r, u, h => by
    rw [unhex] at h
    split at h
    · cases hr : unhex r with
      | none => rw [hr] at h; simp at h
      | some v =>
        rw [hr] at h
        simp only [Option.map_some, Option.some.injEq] at h
        subst h
        have := unhex_len r v hr
        simp; omega
    · simp at h
/-- What the last piece of a path says: ranged, hard; none: it may not be so. -/
def lastOf (last : List UInt8) : Option (Bool × Bool) :=
  if last.head? = some 42 then (if last = [42] then some (true, false) else if last.length = 2 ∧ isHardC (last.getLastD 0) = true then some (true, true) else none) else some (false, false)
/-- The pieces behind a key: steps, ranged, hard. -/
def tailOf (priv : Bool) (parts : List (List UInt8)) : Option (List Nat × Bool × Bool) :=
  match lastOf (parts.getLastD []) with
  | none => none
  | some (ranged, hard) =>
    let ps := if ranged then parts.dropLast else parts
    if 20 < ps.length then none
    else match stepsOf ps with
      | none => none
      | some ns => if (hard || ns.any (fun n => decide (2147483648 ≤ n))) && !priv then none else some (ns, ranged, hard)
def treeK (s : List UInt8) : Option DKey :=
  let c := Lib.cut s [47]
  if (parseH c.1).1 = 0 then
    (if c.2.2 then (tailOf (parseH c.1).2.priv (pieces 47 c.2.1)).map fun t => ⟨[], (parseH c.1).2, t.1, t.2.1, t.2.2⟩ else some ⟨[], (parseH c.1).2, [], false, false⟩)
  else none
def readK (s : List UInt8) : Option DKey :=
  if s.length = 66 then
    match unhex s with
    | some b => if isPub b && decide (hexL b = s) then some ⟨b, hkZero, [], false, false⟩ else none
    | none => treeK s
  else treeK s
def keysOf : List (List UInt8) → Option (List DKey)
  | [] => some []
  | p :: ps => match readK p with
    | none => none
    | some k => (keysOf ps).map (k :: ·)
def wSh : List UInt8 := [115, 104]
def wWsh : List UInt8 := [119, 115, 104]
def wPkh : List UInt8 := [112, 107, 104]
def wWpkh : List UInt8 := [119, 112, 107, 104]
def wMulti : List UInt8 := [109, 117, 108, 116, 105]
def wSorted : List UInt8 := [115, 111, 114, 116, 101, 100, 109, 117, 108, 116, 105]
/-- The number of keys that are wanted. -/
def mOf (t : List UInt8) : Option Nat :=
  match Lib.atoiAll t with
  | .ok n => if Lib.itoa n = t ∧ 1 ≤ n then some n.toNat else none
  | _ => none
def manyD (wraps : List (List UInt8)) (sorted : Bool) (t : List UInt8) : Option DDesc :=
  match pieces 44 t with
  | [] => none
  | p :: ps => if 1 ≤ ps.length ∧ ps.length ≤ 16 then
      match mOf p with
      | none => none
      | some n => if n ≤ ps.length then (keysOf ps).map fun ks => ⟨wraps, n, sorted, ks⟩ else none
    else none
def innerD (wraps : List (List UInt8)) (wsh : Bool) (s : List UInt8) : Option DDesc :=
  match unwrapL s wPkh with
  | some t => if !wsh && wraps.isEmpty then (readK t).map fun k => ⟨wraps ++ [wPkh], 0, false, [k]⟩ else none
  | none => match unwrapL s wWpkh with
    | some t => if !wsh then (readK t).map fun k => ⟨wraps ++ [wWpkh], 0, false, [k]⟩ else none
    | none => match unwrapL s wSorted with
      | some t => manyD wraps true t
      | none => match unwrapL s wMulti with
        | some t => manyD wraps false t
        | none => none
/-- What a text without its sum is read as. -/
def readD (s : List UInt8) : Option DDesc :=
  match unwrapL s wSh with
  | some t => (match unwrapL t wWsh with
    | some u => innerD [wSh, wWsh] true u
    | none => innerD [wSh] false t)
  | none => (match unwrapL s wWsh with
    | some u => innerD [wWsh] true u
    | none => innerD [] false s)
/-- What a text is read as: an error, and the descriptor. -/
def parseD (s : List UInt8) : Nat × Option DDesc :=
  if 4000 < s.length then (2, none)
  else
    let c := Lib.cut s [35]
    if c.1.all (fun x => decide (x ∈ inD)) then
      (if c.2.2 = true ∧ c.2.1 ≠ checksum c.1 then (5, none)
       else match readD c.1 with
        | none => (3, none)
        | some d => (0, some d))
    else (3, none)
def keyT (k : DKey) : List UInt8 :=
  if k.plain ≠ [] then hexL k.plain else textH k.top ++ (pathT k.steps ++ (if k.hard then [47, 42, 39] else if k.ranged then [47, 42] else []))
def manyW (sorted : Bool) : List UInt8 := if sorted then wSorted else wMulti
def innerT (d : DDesc) : List UInt8 :=
  let s := Lib.join (d.keys.map keyT) [44]
  if 0 < d.m then manyW d.sorted ++ 40 :: (Lib.itoa d.m ++ 44 :: (s ++ [41])) else s
def wrapT : List (List UInt8) → List UInt8 → List UInt8
  | [], s => s
  | w :: ws, s => w ++ 40 :: (wrapT ws s ++ [41])
/-- A descriptor as text, without its sum. -/
def bodyT (d : DDesc) : List UInt8 := wrapT d.wraps (innerT d)
def descT (d : DDesc) : List UInt8 := bodyT d ++ 35 :: checksum (bodyT d)
end Go.Proofs.YtcjioogololnoaaGreatDoor
