/- text.code.run, for descs; text.descs; text.letters. -/
import Derived.Test.YtmfligfcejhjaaaDoorC1
import Derived.Test.YtmfligfcejhjaaaDoorM2
import Derived.Test.YtmfligfcejhjaaaDoorS7
namespace Go.Proofs.YtmfligfcejhjaaaDoor
open Go.RowKit Go.Shelf

def dAdd : List (BitVec 64) := [0xf5dee51989, 0xa9fdca3312, 0x1bab10e32d, 0x3706b1677a, 0x644d626ffd]
def polyAdd (b c : BitVec 64) : Nat → BitVec 64
  | 0 => c
  | i + 1 => if (b >>> i) &&& 1 = 1 then polyAdd b c i ^^^ dAdd.getD i 0 else polyAdd b c i
def polyStep (c : BitVec 64) (v : UInt8) : BitVec 64 := polyAdd (c >>> 35) (((c &&& 0x7ffffffff) <<< 5) ^^^ v.toBitVec.setWidth 64) 5
def poly (l : List UInt8) : BitVec 64 := l.foldl polyStep 1
def codeV : Array Value := #[.int .i64 35, .int .u64 1056006543753, .int .u64 730107360018, .int .u64 118834127661, .int .u64 236335490938, .int .u64 430795026429]

theorem run_index_u64 {P : Program} (t e : TypeId) (n : Nat) (cs : Array Value) (kk : IntKind) (k : Nat) (v : Value) (h : P.underlying t = some (.array n e)) (he : P.underlying e = some (.int .u64)) (hs : (P.info? e).map (·.size) = some 1) (hk : k < n) (hv : cs[k]? = some v) (w : World) :
    (Instr.index t (.agg cs) (.int kk (k : Int))).run P w = .ok v w := by
  have hsz : (sizeOf e).run P w = .ok 1 w := by
    cases hq : P.info? e with
    | none => simp [hq] at hs
    | some i => simp [hq] at hs; simp [sizeOf, typeInfo, hq, hs]
  have hag : (isAgg e).run P w = .ok false w := by
    unfold isAgg
    rw [Sem.run_bind, run_underlying he w]
    rfl
  simp [Instr.index, asIntOf, run_underlying h, hsz, part, hag, hv, hk, go_sem]
theorem sp_c (x : BitVec 64) (y : UInt8) : bits .xor .u64 (IntKind.u64.wrap (bits .and .u64 (x.toNat : Int) 34359738367 * 32)) (y.toNat : Int) = ((((x &&& 0x7ffffffff) <<< 5) ^^^ y.toBitVec.setWidth 64).toNat : Int) := by
  have hy := y.toNat_lt
  have hx := x.isLt
  have h1 : bits .and .u64 (x.toNat : Int) 34359738367 = ((x &&& 0x7ffffffff).toNat : Int) := by
    have := u64_and_nat x.toNat 34359738367 hx (by omega)
    rw [BitVec.toNat_and]; exact this
  rw [h1, IntKind.wrap_u64]
  have h2 : (((x &&& 0x7ffffffff).toNat : Int) * (32 : Int) % (18446744073709551616 : Int)) = ((((x &&& 0x7ffffffff) <<< 5)).toNat : Int) := by
    rw [BitVec.toNat_shiftLeft, Nat.shiftLeft_eq]; simp
  have h3 : (y.toNat : Int) = ((y.toBitVec.setWidth 64).toNat : Int) := by rw [BitVec.toNat_setWidth, UInt8.toNat_toBitVec, Nat.mod_eq_of_lt (by omega)]
  rw [h2, h3, u64_xor_nat _ _ (BitVec.isLt _) (BitVec.isLt _), BitVec.toNat_xor]
theorem sp_b (x : BitVec 64) : (x.toNat : Int) / (34359738368 : Int) = ((x >>> 35).toNat : Int) := by rw [BitVec.toNat_ushiftRight, Nat.shiftRight_eq_div_pow]; simp
theorem sp_bit (b : BitVec 64) (q : Nat) : bits .and .u64 ((b.toNat : Int) / 2 ^ q) 1 = (((b >>> q) &&& 1).toNat : Int) := by
  have h1 : (b.toNat : Int) / 2 ^ q = ((b >>> q).toNat : Int) := by rw [BitVec.toNat_ushiftRight, Nat.shiftRight_eq_div_pow, Int.natCast_ediv, Int.natCast_pow]; rfl
  rw [h1, BitVec.toNat_and]
  exact u64_and_nat _ 1 (BitVec.isLt _) (by omega)
theorem bit_one (b : BitVec 64) (q : Nat) : (b >>> q) &&& 1 = 1 ↔ bits .and .u64 ((b.toNat : Int) / 2 ^ q) 1 = 1 := by
  rw [sp_bit]
  constructor
  · intro h; rw [h]; rfl
  · intro h; apply BitVec.eq_of_toNat_eq; show _ = 1; omega
theorem sp_x (x y : BitVec 64) : bits .xor .u64 (x.toNat : Int) (y.toNat : Int) = ((x ^^^ y).toNat : Int) := by rw [u64_xor_nat _ _ x.isLt y.isLt, BitVec.toNat_xor]
set_option maxRecDepth 100000 in
set_option maxHeartbeats 2000000 in
theorem descs_any (w : World) : Calls Tryd.prog 32 #[] w fun e w' => e = .returned (.agg codeV) ∧ Below w.heap.size w w' := by
  go_enter Tryd.func32, Tryd.ntmps32
  go_wp2_with fail
  refine bodyPost_ret (v := .agg codeV) ?_ rfl ⟨rfl, (Below.refl _ w).alloc (Nat.le_refl _) _⟩
  exact results_cell_row rfl _ _ w.heap.size 53 codeV (0, 0) _ rfl (heap_alloc_new w _) Tryd.underlying53 rfl (by kernel_rfl)

set_option maxRecDepth 100000 in
set_option maxHeartbeats 4000000 in
theorem run_any (A : Option Addr) (c : Nat) (bs : List UInt8) (w : World) (hs : Sl w w.heap.size A (B8 bs)) (hl : bs.length ≤ 4096) (h0 : 0 < bs.length) :
    Calls Tryd.prog 33 #[.agg codeV, .slice A bs.length c, .int .i64 8] w fun e W' => e = .returned (.int .u64 ((poly (bs ++ List.replicate 8 0)).toNat : Int)) ∧ Below w.heap.size w W' := by
  unfold codeV
  go_enter Tryd.func33, Tryd.ntmps33
  go_wp2_with fail
  obtain ⟨wa, hwa⟩ : ∃ wa, wa = w.alloc (.cells codeV 53) := ⟨_, rfl⟩
  have hBa : Below w.heap.size w wa := by rw [hwa]; exact (Below.refl _ _).alloc (Nat.le_refl _) _
  have hga : wa.heap[w.heap.size]? = some (.cells codeV 53 (0, 0)) := by rw [hwa]; exact heap_alloc_new w _
  have hza : wa.heap.size = w.heap.size + 1 := by rw [hwa]; exact World.size_alloc _ _
  obtain ⟨gk, hgk⟩ : ∃ gk, gk = w.heap.size := ⟨_, rfl⟩
  rw [← hgk] at hga
  have hgkl : gk < wa.heap.size := by omega
  refine (show wa = _ from hwa) ▸ ?_
  refine (clone_any A c bs wa ((hs.below hBa).mono (by omega)) (by omega)).mono ?_
  rintro e w1 ⟨v, rfl, ho, hb1⟩
  obtain ⟨A1, c1, rfl, hc1, hc1'⟩ := own_form ho
  have hz1 := hb1.size
  have hzaw : w.heap.size ≤ wa.heap.size := by omega
  have hg1 := (hb1.block gk hgkl).trans hga
  have hBw1 := hBa.trans (hb1.mono hzaw)
  rw [← hgk]
  have Hg1 := Lib.hid hg1
  have Hgk := Lib.hid hgk
  clear hwa hza hga hg1 hgk
  obtain ⟨M, hM⟩ : ∃ M, M = bs ++ List.replicate 8 0 := ⟨_, rfl⟩
  have hMB : B8 bs ++ List.replicate 8 (Value.int IntKind.u8 0) = B8 M := by rw [hM]; simp [B8]
  obtain ⟨N, hN⟩ : ∃ N, N = M.length := ⟨_, rfl⟩
  have hNl : N ≤ 5000 := by rw [hN, hM]; simp; omega
  have hN0 : 0 < N := by rw [hN, hM]; simp
  have HM := Lib.hid hM
  have HMB := Lib.hid hMB
  have HN := Lib.hid hN
  clear hM hMB hN
  go_wp2_with (at_builtin; go_loud (refine wpList_append_zeros (base := wa.heap.size) (ti := 3) (xs := B8 bs) (v := .slice A1 bs.length c1) elB (by kernel_rfl) rfl rfl (.tmp 14) (.tmp 15) rfl rfl ho 8 rfl (by simpa using h0) (by omega) (by rw [B8_length]; simp [maxLen]; omega) (by rw [B8_length]; omega) hz1 ?_); intro v2 w2 ho2 hg2 hr2; rw [HMB.out] at ho2; obtain ⟨A2, c2, rfl, hc2, hc2'⟩ := own_form ho2; rw [← HN.out] at ho2 hc2 ⊢)
  have hgE : w2.heap[gk]? = some (.cells codeV 53 (0, 0)) := by
    rw [hg2.block gk (by omega) (fun e => by have := (ho.row gk e.symm).1; omega)]; exact Hg1.out
  have hBE : Below w.heap.size w w2 := hBw1.grown hg2 (by omega) (fun r hr => by have := (ho.row r hr).1; omega)
  have k0 : w2.cell? ⟨gk, 0, none⟩ = some (.int .i64 35) := by rw [cell_of_row w2 gk 0 _ _ (0, 0) hgE]; rfl
  have k1 : w2.cell? ⟨gk, 1, none⟩ = some (.int .u64 1056006543753) := by rw [cell_of_row w2 gk 1 _ _ (0, 0) hgE]; rfl
  have k2 : w2.cell? ⟨gk, 2, none⟩ = some (.int .u64 730107360018) := by rw [cell_of_row w2 gk 2 _ _ (0, 0) hgE]; rfl
  have k3 : w2.cell? ⟨gk, 3, none⟩ = some (.int .u64 118834127661) := by rw [cell_of_row w2 gk 3 _ _ (0, 0) hgE]; rfl
  have k4 : w2.cell? ⟨gk, 4, none⟩ = some (.int .u64 236335490938) := by rw [cell_of_row w2 gk 4 _ _ (0, 0) hgE]; rfl
  have k5 : w2.cell? ⟨gk, 5, none⟩ = some (.int .u64 430795026429) := by rw [cell_of_row w2 gk 5 _ _ (0, 0) hgE]; rfl
  obtain ⟨b2, o2, rfl, _, hcl⟩ := ho2.sl (by rw [B8_length, ← HN.out]; exact hN0)
  have Hcl := Lib.hid hcl
  clear hcl hgE hg2 hr2 ho ho2
  go_loopw [7, 18] (fun cv i wr => ∃ j : Nat, wr = w2 ∧ j ≤ N ∧ i = .int .i64 j ∧ cv = .int .u64 ((poly (M.take j)).toNat : Int)) (fun _ i _ => N - (intOf i).toNat)
  case atStart => exact ⟨0, rfl, Nat.zero_le _, rfl, rfl⟩
  case round =>
    obtain ⟨j, rfl, hj, rfl, rfl⟩ := hrel
    obtain ⟨x, hx⟩ : ∃ x, x = poly (M.take j) := ⟨_, rfl⟩
    rw [← hx]
    have hx64 := x.isLt
    by_cases hlt : j < N
    · have hjM : j < M.length := by rw [← HN.out]; exact hlt
      obtain ⟨y, hy⟩ : ∃ y, y = M[j] := ⟨_, rfl⟩
      have hcell : wr.cell? ⟨b2, o2 + j, none⟩ = some (.int .u8 (y.toNat : Int)) := by rw [Hcl.out j (by simpa using hjM), B8_get, hy]
      have hy8 := y.toNat_lt
      have Hx := Lib.hid hx
      have Hy := Lib.hid hy
      clear hx hy
      go_wp2_with fail
      rw [sp_c x y, sp_b x]
      obtain ⟨c0, hc0⟩ : ∃ c0, c0 = ((x &&& 0x7ffffffff) <<< 5) ^^^ y.toBitVec.setWidth 64 := ⟨_, rfl⟩
      obtain ⟨b0, hb0⟩ : ∃ b0, b0 = x >>> 35 := ⟨_, rfl⟩
      rw [← hc0, ← hb0]
      have Hc0 := Lib.hid hc0
      have Hb0 := Lib.hid hb0
      obtain ⟨wS, hwS⟩ : ∃ wS, wS = wr := ⟨_, rfl⟩
      subst hwS
      clear hc0 hb0
      have hb64 := b0.isLt
      go_loopw [7, 38] (fun cv i wr => ∃ q : Nat, wr = wS ∧ q ≤ 5 ∧ i = .int .i64 q ∧ cv = .int .u64 ((polyAdd b0 c0 q).toNat : Int)) (fun _ i _ => 5 - (intOf i).toNat)
      case atStart => exact ⟨0, rfl, Nat.zero_le _, rfl, rfl⟩
      case round =>
        obtain ⟨q, rfl, hq, rfl, rfl⟩ := hrel
        obtain ⟨z, hz⟩ : ∃ z, z = polyAdd b0 c0 q := ⟨_, rfl⟩
        rw [← hz]
        have hz64 := z.isLt
        have Hz := Lib.hid hz
        clear hz
        by_cases hlt5 : q < 5
        · obtain ⟨av, hav⟩ : ∃ av, av = dAdd.getD q 0 := ⟨_, rfl⟩
          have hix := run_index_u64 (P := Tryd.prog) 51 50 5 #[.int .u64 1056006543753, .int .u64 730107360018, .int .u64 118834127661, .int .u64 236335490938, .int .u64 430795026429] .i64 q (.int .u64 (av.toNat : Int)) (by kernel_rfl) (by kernel_rfl) (by kernel_rfl) hlt5 (by
            rw [hav]
            have hq5 : q = 0 ∨ q = 1 ∨ q = 2 ∨ q = 3 ∨ q = 4 := by omega
            rcases hq5 with rfl | rfl | rfl | rfl | rfl <;> rfl)
          have Hav := Lib.hid hav
          clear hav
          go_wp2_with fail
          · rename_i h
            have hb : (b0 >>> q) &&& 1 = 1 := (bit_one b0 q).2 (by simpa using h)
            refine ⟨⟨q + 1, trivial, by omega, rfl, ?_⟩, by simp [intOf]; omega⟩
            rw [polyAdd, if_pos hb, ← Hz.out, ← Hav.out, sp_x]
          · rename_i h
            have hb : ¬ ((b0 >>> q) &&& 1 = 1) := fun e => by
              have := (bit_one b0 q).1 e
              rw [this] at h; simp at h
            refine ⟨⟨q + 1, trivial, by omega, rfl, ?_⟩, by simp [intOf]; omega⟩
            rw [polyAdd, if_neg hb, ← Hz.out]
        · obtain rfl : q = 5 := by omega
          go_wp2_with fail
          refine ⟨⟨j + 1, trivial, by omega, rfl, ?_⟩, by simp [intOf]; omega⟩
          rw [List.take_succ_eq_append_getElem hjM, poly, List.foldl_append]
          show _ = Value.int .u64 ((polyStep (poly (M.take j)) M[j]).toNat : Int)
          rw [polyStep, ← Hx.out, ← Hy.out, ← Hc0.out, ← Hb0.out, Hz.out]
    · obtain rfl : j = N := by omega
      go_wp2_with fail
      go_ret
      refine ⟨?_, hBE⟩
      rw [← HM.out, ← show M.take j = M from List.take_of_length_le (by rw [← HN.out]; exact Nat.le_refl _), ← hx]; rfl
end Go.Proofs.YtmfligfcejhjaaaDoor
