/- curve.num: half; curve.number. | curve.field: fold. | curve.field: mul. -/
import Derived.Test.YtcjioogololnoaaGreatDoorU13
import Derived.Test.YtcjioogololnoaaGreatDoorShelf

/-! curve.num: half; curve.number. -/
namespace Go.Proofs.YtcjioogololnoaaGreatDoor
open Go.RowKit Go.Shelf

theorem half_word (x k : Nat) (hx : x < 2 ^ 256) (hk : k < 4) : dw (x / 2) k = dw x k / 2 + (if k < 3 then dw x (k + 1) else 0) % 2 * 9223372036854775808 := by
  rcases (show k = 0 ∨ k = 1 ∨ k = 2 ∨ k = 3 by omega) with rfl | rfl | rfl | rfl <;> simp only [dw] <;> simp <;> omega
def halfL (x k : Nat) : List Nat := (num4 (x / 2)).take k ++ (num4 x).drop k
theorem halfL_length (x k : Nat) (hk : k ≤ 4) : (halfL x k).length = 4 := by simp [halfL, num4_length]; omega
theorem halfL_set (x k : Nat) (hk : k < 4) : (halfL x k).set k (dw (x / 2) k) = halfL x (k + 1) := by
  rcases (show k = 0 ∨ k = 1 ∨ k = 2 ∨ k = 3 by omega) with rfl | rfl | rfl | rfl <;> rfl
theorem halfL_at (x k j : Nat) (hk : k ≤ j) (hj : j < 4) (h : j < (halfL x k).length) : (halfL x k)[j] = dw x j := by
  rcases (show j = 0 ∨ j = 1 ∨ j = 2 ∨ j = 3 by omega) with rfl | rfl | rfl | rfl <;> (rcases (show k = 0 ∨ k = 1 ∨ k = 2 ∨ k = 3 by omega) with rfl | rfl | rfl | rfl <;> first | rfl | omega)
theorem or_half (a n : Nat) (ha : a < 18446744073709551616) : bits .or .u64 ((a : Int) / 2) (IntKind.u64.wrap ((n : Int) * 9223372036854775808)) = ((a / 2 + n % 2 * 9223372036854775808 : Nat) : Int) := by
  have h1 : IntKind.u64.wrap ((n : Int) * 9223372036854775808) = ((n % 2 * 9223372036854775808 : Nat) : Int) := by rw [IntKind.wrap_u64]; omega
  have h2 : (a : Int) / 2 = ((a / 2 : Nat) : Int) := by omega
  rw [h1, h2]
  have h3 := bits_or_u64_nat (a / 2) (n % 2 * 9223372036854775808) (by omega) (by omega)
  have h4 : a / 2 ||| n % 2 * 9223372036854775808 = a / 2 + n % 2 * 9223372036854775808 := by
    have := Nat.shiftLeft_add_eq_or_of_lt (show a / 2 < 2 ^ 63 by omega) (n % 2)
    rw [Nat.shiftLeft_eq] at this
    rw [Nat.or_comm, ← this]; omega
  rw [h4] at h3
  exact h3
set_option maxRecDepth 100000 in
set_option maxHeartbeats 4000000 in
theorem nhalf_any (x : Nat) (hx : x < 2 ^ 256) (w : World) :
    Calls Tryz.prog 178 #[.agg (numA x), .int .u64 0] w fun e W' => e = .returned (.agg (numA (x / 2))) ∧ Below w.heap.size w W' := by
  obtain ⟨R, hR⟩ : ∃ R, R = x / 2 := ⟨_, rfl⟩
  rw [← hR]
  have HR := Lib.hid hR
  clear hR
  unfold numA
  go_enter Tryz.func178, Tryz.ntmps178
  go_wp2_with fail
  have h2 := rowsTwo w (.cells (U64 (halfL x 0)).toArray 140) (.cells (numA 0) 140)
  obtain ⟨W0, hW0⟩ : ∃ W0, W0 = (w.alloc (.cells (U64 (halfL x 0)).toArray 140)).alloc (.cells (numA 0) 140) := ⟨_, rfl⟩
  have hb0 : Below w.heap.size w W0 := by rw [hW0]; exact ((Below.refl _ w).alloc (Nat.le_refl _) _).alloc (by simp) _
  refine (show W0 = _ from hW0) ▸ ?_
  rw [← hW0] at h2
  obtain ⟨gX, gO⟩ := h2
  obtain ⟨B, hB⟩ : ∃ B, B = w.heap.size := ⟨_, rfl⟩
  rw [← hB] at gX gO ⊢
  have HB := Lib.hid hB
  clear hW0 hB
  go_loopw [7] (fun i wr => ∃ k : Nat, k ≤ 4 ∧ i = .int .i64 k ∧ wr.heap[B]? = some (.cells (U64 (halfL x k)).toArray 140 (0, 0)) ∧ wr.heap[B + 1]? = some (.cells (numA 0) 140 (0, 0)) ∧ Below w.heap.size w wr) (fun i _ => 4 - (intOf i).toNat)
  case atStart => exact ⟨0, by omega, rfl, gX, gO, hb0⟩
  case round =>
    clear gX gO hb0
    obtain ⟨k, hk, rfl, gX, gO, hb⟩ := hrel
    by_cases hlt : k < 4
    · have c0 := cellU gX (k := k) (by rw [halfL_length _ _ hk]; exact hlt)
      rw [halfL_at x k k (Nat.le_refl _) hlt] at c0
      have zX := thawU gX k
      obtain ⟨xk, hxk⟩ : ∃ xk, xk = dw x k := ⟨_, rfl⟩
      have hx64 : xk < 18446744073709551616 := by rw [hxk]; exact dw_lt _ _
      rw [← hxk] at c0
      have GX := Lib.hid gX
      have GO := Lib.hid gO
      have Hxk := Lib.hid hxk
      have hhw := half_word x k hx hlt
      rw [← hxk] at hhw
      clear gO hxk
      by_cases h3 : k < 3
      · have c1 := cellU gX (k := k + 1) (by rw [halfL_length _ _ hk]; omega)
        rw [halfL_at x k (k + 1) (by omega) (by omega)] at c1
        obtain ⟨xn, hxn⟩ : ∃ xn, xn = dw x (k + 1) := ⟨_, rfl⟩
        have hn64 : xn < 18446744073709551616 := by rw [hxn]; exact dw_lt _ _
        rw [if_pos h3, ← hxn] at hhw
        rw [← hxn] at c1
        have Hhw := Lib.hid hhw
        clear gX hhw hxn
        go_wp2_with fail
        rw [or_half xk xn hx64, ← Hhw.out]
        refine ⟨⟨k + 1, by omega, by go_num, ?_, otherU GO.out (by omega), hb.setCell (p := ⟨B, k, none⟩) (by show w.heap.size ≤ B; have := HB.out; omega) _⟩, by simp [intOf]; omega⟩
        rw [setU GX.out, halfL_set x k hlt]
      · obtain rfl : k = 3 := by omega
        rw [if_neg h3] at hhw
        have Hhw := Lib.hid hhw
        clear gX hhw
        go_wp2_with fail
        rw [show bits .or .u64 ((xk : Int) / 2) 0 = ((xk / 2 + 0 % 2 * 9223372036854775808 : Nat) : Int) from by simpa [IntKind.wrap_u64] using or_half xk 0 hx64, ← Hhw.out]
        refine ⟨⟨4, by omega, rfl, ?_, otherU GO.out (by omega), hb.setCell (p := ⟨B, 3, none⟩) (by show w.heap.size ≤ B; have := HB.out; omega) _⟩, by simp [intOf]⟩
        rw [setU GX.out, halfL_set x 3 hlt]
    · obtain rfl : k = 4 := by omega
      have GX : Hid (wr.heap[B]? = some (.cells (numA R) 140 (0, 0))) := Lib.hid (by rw [gX, HR.out]; rfl)
      have GO := Lib.hid gO
      have HiN := Lib.hid (show (Tryz.prog.info? 140).map (·.size) = some (numA R).size by kernel_rfl)
      clear gX gO
      go_wp2_with (first | (refine wpList_load_row rfl 140 (.tmp 2) rfl B rfl 140 (numA R) (0, 0) _ GX.out Tryz.underlying140 rfl HiN.out ?_) | (refine wpList_store_row rfl 140 (.tmp 4) (.tmp 27) rfl (B + 1) (numA R) rfl rfl 140 _ GO.out HiN.out rfl (numA_one _) ?_))
      refine bodyPost_ret (v := .agg (numA R)) ?_ rfl ⟨rfl, below_setRow' hb (by have := HB.out; omega) _⟩
      exact results_cell_row rfl _ _ (B + 1) 140 (numA R) (0, 0) _ rfl (setRow_heap _ _ _ _ _ _ GO.out) Tryz.underlying140 rfl HiN.out

/-- The word j of a number that is read byte by byte, behind k bytes. -/
def nword (b : List UInt8) (k j : Nat) : Nat := beN (((b.take k).drop (8 * (3 - j))).take 8)
def nwords (b : List UInt8) (k : Nat) : List Nat := [nword b k 0, nword b k 1, nword b k 2, nword b k 3]
theorem nword_zero (b : List UInt8) (j : Nat) : nword b 0 j = 0 := by simp [nword, beN]
theorem nword_new (b : List UInt8) (k : Nat) (hk : k < 32) (hb : k < b.length) : nword b (k + 1) (3 - k / 8) = nword b k (3 - k / 8) * 256 + b[k].toNat := by
  have e : 8 * (3 - (3 - k / 8)) = 8 * (k / 8) := by omega
  have hd : ((b.take k).drop (8 * (k / 8))).length = k - 8 * (k / 8) := by rw [List.length_drop, List.length_take]; omega
  have h1 : ((b.take (k + 1)).drop (8 * (k / 8))).take 8 = (b.take k).drop (8 * (k / 8)) ++ [b[k]] := by
    rw [List.take_succ_eq_append_getElem hb, List.drop_append_of_le_length (by rw [List.length_take]; omega)]
    exact List.take_of_length_le (by rw [List.length_append, hd, List.length_singleton]; omega)
  have h2 : ((b.take k).drop (8 * (k / 8))).take 8 = (b.take k).drop (8 * (k / 8)) := List.take_of_length_le (by rw [hd]; omega)
  unfold nword
  rw [e, h1, h2, beN_snoc]
theorem nword_old (b : List UInt8) (k j : Nat) (hk : k < 32) (hj : j < 4) (hb : k < b.length) (hne : j ≠ 3 - k / 8) : nword b (k + 1) j = nword b k j := by
  unfold nword
  congr 1
  rw [List.take_succ_eq_append_getElem hb]
  rcases (show 8 * (3 - j) ≤ k ∨ k + 1 ≤ 8 * (3 - j) by omega) with h | h
  · rw [List.drop_append_of_le_length (by rw [List.length_take]; omega), List.take_append_of_le_length (by rw [List.length_drop, List.length_take]; omega)]
  · rw [List.drop_of_length_le (by rw [List.length_append, List.length_take]; simp; omega), List.drop_of_length_le (by rw [List.length_take]; omega)]
theorem nword_lt (b : List UInt8) (k : Nat) (hk : k < 32) (hb : k < b.length) : nword b k (3 - k / 8) < 72057594037927936 := by
  unfold nword
  refine Nat.lt_of_lt_of_le (beN_lt _) ?_
  rw [show (72057594037927936 : Nat) = 256 ^ 7 by decide]
  exact Nat.pow_le_pow_right (by decide) (by rw [List.length_take, List.length_drop, List.length_take]; omega)
theorem nwords_at (b : List UInt8) (k j : Nat) (hj : j < 4) (h : j < (nwords b k).length) : (nwords b k)[j] = nword b k j := by
  rcases (show j = 0 ∨ j = 1 ∨ j = 2 ∨ j = 3 by omega) with rfl | rfl | rfl | rfl <;> rfl
theorem nwords_set (b : List UInt8) (k : Nat) (hk : k < 32) (hb : k < b.length) : (nwords b k).set (3 - k / 8) (nword b (k + 1) (3 - k / 8)) = nwords b (k + 1) := by
  apply List.ext_getElem (by simp [nwords])
  intro j h1 h2
  have hj : j < 4 := by simpa [nwords] using h2
  rw [List.getElem_set, nwords_at b (k + 1) j hj]
  split
  · next h => rw [h]
  · next h => rw [nwords_at b k j hj, nword_old b k j hk hj hb (fun e => h e.symm)]
theorem be_words (b : List UInt8) (hl : b.length = 32) : nwords b 32 = num4 (beN b) := by
  have e : b = b.take 8 ++ ((b.drop 8).take 8 ++ ((b.drop 16).take 8 ++ b.drop 24)) := by
    rw [show b.drop 24 = (b.drop 16).drop 8 by rw [List.drop_drop], List.take_append_drop, show b.drop 16 = (b.drop 8).drop 8 by rw [List.drop_drop], List.take_append_drop, List.take_append_drop]
  have hv : wv (nwords b 32) = beN b := by
    have ht : b.take 32 = b := List.take_of_length_le (by omega)
    have h0 : nword b 32 0 = beN (b.drop 24) := by
      unfold nword
      rw [ht, show 8 * (3 - 0) = 24 from rfl, List.take_of_length_le (by rw [List.length_drop]; omega)]
    have h1 : nword b 32 1 = beN ((b.drop 16).take 8) := by unfold nword; rw [ht]
    have h2 : nword b 32 2 = beN ((b.drop 8).take 8) := by unfold nword; rw [ht]
    have h3 : nword b 32 3 = beN (b.take 8) := by unfold nword; rw [ht]; rfl
    rw [nwords, h0, h1, h2, h3]
    conv => rhs; rw [e]
    rw [beN_append, beN_append, beN_append]
    simp only [wv, List.length_append, List.length_take, List.length_drop, hl]
    simp only [show min 8 (32 - 8) = 8 by decide, show min 8 (32 - 16) = 8 by decide, show min 8 32 = 8 by decide]
    omega
  rw [← hv]
  refine (num4_wv _ rfl ?_).symm
  have hlt : ∀ j, nword b 32 j < 18446744073709551616 := fun j => by
    unfold nword
    refine Nat.lt_of_lt_of_le (beN_lt _) ?_
    rw [show (18446744073709551616 : Nat) = 256 ^ 8 by decide]
    exact Nat.pow_le_pow_right (by decide) (by rw [List.length_take]; omega)
  simp only [nwords, List.mem_cons, List.not_mem_nil, or_false]
  rintro x (rfl | rfl | rfl | rfl) <;> exact hlt _
theorem or_byte (a c : Nat) (ha : a < 72057594037927936) (hc : c < 256) : bits .or .u64 ((a : Int) * 256) (c : Int) = ((a * 256 + c : Nat) : Int) := by
  have h1 : (a : Int) * 256 = ((a * 256 : Nat) : Int) := by omega
  rw [h1]
  have h3 := bits_or_u64_nat (a * 256) c (by omega) (by omega)
  have h4 : a * 256 ||| c = a * 256 + c := by
    have := Nat.shiftLeft_add_eq_or_of_lt (show c < 2 ^ 8 by omega) a
    rw [Nat.shiftLeft_eq] at this
    exact this.symm
  rw [h4] at h3
  exact h3

set_option maxRecDepth 100000 in
set_option maxHeartbeats 4000000 in
theorem number_any (A : Option Addr) (c : Nat) (b : List UInt8) (hl : b.length = 32) (w : World) (hs : Sl w w.heap.size A (B8 b)) :
    Calls Tryz.prog 138 #[.slice A 32 c] w fun e W' => e = .returned (.agg (numA (beN b))) ∧ Below w.heap.size w W' := by
  obtain ⟨b0, o0, rfl, hb0, hcell⟩ := hs (by rw [B8_length, hl]; omega)
  obtain ⟨R, hR⟩ : ∃ R, R = beN b := ⟨_, rfl⟩
  rw [← hR]
  have HR := Lib.hid hR
  clear hR
  have Hl := Lib.hid hl
  have Hcell := Lib.hid hcell
  clear hl hcell hs
  go_enter Tryz.func138, Tryz.ntmps138
  go_wp2_with fail
  have h2 := rowsTwo w (.cells (numA 0) 140) (.cells (U64 (nwords b 0)).toArray 140)
  obtain ⟨W0, hW0⟩ : ∃ W0, W0 = (w.alloc (.cells (numA 0) 140)).alloc (.cells (U64 (nwords b 0)).toArray 140) := ⟨_, rfl⟩
  have hbW : Below w.heap.size w W0 := by rw [hW0]; exact ((Below.refl _ w).alloc (Nat.le_refl _) _).alloc (by simp) _
  refine (show W0 = _ from hW0) ▸ ?_
  rw [← hW0] at h2
  obtain ⟨gO, gX⟩ := h2
  obtain ⟨B, hB⟩ : ∃ B, B = w.heap.size := ⟨_, rfl⟩
  rw [← hB] at gX gO ⊢
  have HB := Lib.hid hB
  clear hW0 hB
  go_loopw [9] (fun i wr => ∃ k : Nat, k ≤ 32 ∧ i = .int .i64 k ∧ wr.heap[B + 1]? = some (.cells (U64 (nwords b k)).toArray 140 (0, 0)) ∧ wr.heap[B]? = some (.cells (numA 0) 140 (0, 0)) ∧ Below w.heap.size w wr) (fun i _ => 32 - (intOf i).toNat)
  case atStart => exact ⟨0, by omega, rfl, gX, gO, hbW⟩
  case round =>
    clear gX gO hbW
    obtain ⟨k, hk, rfl, gX, gO, hb⟩ := hrel
    by_cases hlt : k < 32
    · have hkb : k < b.length := by rw [Hl.out]; exact hlt
      obtain ⟨y, hy⟩ : ∃ y, y = b[k] := ⟨_, rfl⟩
      have cB : wr.cell? ⟨b0, o0 + k, none⟩ = some (.int .u8 (y.toNat : Int)) := by rw [hb.cell (p := ⟨b0, o0 + k, none⟩) hb0, Hcell.out k (by simpa using hkb), hy]; simp [B8]
      obtain ⟨j, hj⟩ : ∃ j, j = 3 - k / 8 := ⟨_, rfl⟩
      have hj4 : j < 4 := by omega
      have hjI : (3 : Int) - (k : Int) / 8 = (j : Int) := by omega
      have cX := cellU gX (k := j) (by simp [nwords]; exact hj4)
      rw [nwords_at b k j hj4] at cX
      obtain ⟨v, hv⟩ : ∃ v, v = nword b k j := ⟨_, rfl⟩
      rw [← hv] at cX
      have hv56 : v < 72057594037927936 := by rw [hv, hj]; exact nword_lt b k hlt hkb
      have hnew : nword b (k + 1) j = v * 256 + y.toNat := by rw [hv, hy, hj]; exact nword_new b k hlt hkb
      have hset := nwords_set b k hlt hkb
      rw [← hj, hnew] at hset
      have zX := thawU gX j
      have hy8 := y.toNat_lt
      have GX := Lib.hid gX
      have GO := Lib.hid gO
      have Hset := Lib.hid hset
      clear gX gO hset hnew hv hy hj
      go_wp2_with fail
      rw [or_byte v y.toNat hv56 hy8]
      refine ⟨⟨k + 1, by omega, by go_num, ?_, otherU GO.out (by omega), hb.setCell (p := ⟨B + 1, j, none⟩) (by show w.heap.size ≤ B + 1; have := HB.out; omega) _⟩, by simp [intOf]; omega⟩
      rw [setU GX.out, Hset.out]
    · obtain rfl : k = 32 := by omega
      have GX : Hid (wr.heap[B + 1]? = some (.cells (numA R) 140 (0, 0))) := Lib.hid (by rw [gX, be_words b Hl.out, HR.out]; rfl)
      have GO := Lib.hid gO
      have HiN := Lib.hid (show (Tryz.prog.info? 140).map (·.size) = some (numA R).size by kernel_rfl)
      clear gX gO
      go_wp2_with (first | (refine wpList_load_row rfl 140 (.tmp 3) rfl (B + 1) rfl 140 (numA R) (0, 0) _ GX.out Tryz.underlying140 rfl HiN.out ?_) | (refine wpList_store_row rfl 140 (.tmp 2) (.tmp 27) rfl B (numA R) rfl rfl 140 _ GO.out HiN.out rfl (numA_one _) ?_))
      refine bodyPost_ret (v := .agg (numA R)) ?_ rfl ⟨rfl, below_setRow' hb (by have := HB.out; omega) _⟩
      exact results_cell_row rfl _ _ B 140 (numA R) (0, 0) _ rfl (setRow_heap _ _ _ _ _ _ GO.out) Tryz.underlying140 rfl HiN.out
end Go.Proofs.YtcjioogololnoaaGreatDoor

/-! curve.field: fold. -/
namespace Go.Proofs.YtcjioogololnoaaGreatDoor
open Go.RowKit Go.Shelf

theorem run_index_num (n k : Nat) (hk : k < 4) (w : World) : (Instr.index 140 (.agg #[.int .u64 (dw n 0 : Nat), .int .u64 (dw n 1 : Nat), .int .u64 (dw n 2 : Nat), .int .u64 (dw n 3 : Nat)]) (.int .i64 (k : Int))).run Tryz.prog w = .ok (.int .u64 (dw n k : Nat)) w := by
  have hsz : (sizeOf 78).run Tryz.prog w = .ok 1 w := by
    have hi : (Tryz.prog.info? 78).map (·.size) = some 1 := by kernel_rfl
    cases hq : Tryz.prog.info? 78 with
    | none => simp [hq] at hi
    | some i => simp [hq] at hi; simp [sizeOf, typeInfo, hq, hi]
  have hag : (isAgg 78).run Tryz.prog w = .ok false w := by
    unfold isAgg
    rw [Sem.run_bind, run_underlying Tryz.underlying78 w]
    rfl
  have hn := Tryz.underlying140
  rcases (show k = 0 ∨ k = 1 ∨ k = 2 ∨ k = 3 by omega) with rfl | rfl | rfl | rfl <;> simp [Instr.index, asIntOf, run_underlying hn, hsz, part, hag, go_sem]
theorem add64_run0 (x y : Nat) (w : World) : (callFunc 204 #[.int .u64 x, .int .u64 y, .int .u64 0]).run Tryz.prog w =
    .ok (.value (.tuple #[.int .u64 (((x + y) % 18446744073709551616 : Nat) : Int), .int .u64 (((x + y) / 18446744073709551616 : Nat) : Int)])) w := add64_run x y 0 (by omega) w
theorem pow_split (i k : Nat) : 2 ^ (64 * (i + k)) = 2 ^ (64 * k) * 2 ^ (64 * i) := by rw [← Nat.pow_add]; congr 1; omega
theorem inner_step (T Y : List Nat) (i k a c c' t' S : Nat) (hT : i + k < T.length) (hY : k < Y.length) (he : t' + 18446744073709551616 * c' = T[i + k] + a * Y[k] + c)
    (h : wv T + c * 2 ^ (64 * (i + k)) = S + a * wv (Y.take k) * 2 ^ (64 * i)) : wv (T.set (i + k) t') + c' * 2 ^ (64 * (i + (k + 1))) = S + a * wv (Y.take (k + 1)) * 2 ^ (64 * i) := by
  have h1 := mac_row T (i + k) hT (a * Y[k]) c c' t' he
  rw [show i + (k + 1) = i + k + 1 by omega, h1, wv_take Y k hY]
  have e1 : a * (wv (Y.take k) + Y[k] * 2 ^ (64 * k)) * 2 ^ (64 * i) = a * wv (Y.take k) * 2 ^ (64 * i) + a * Y[k] * 2 ^ (64 * (i + k)) := by
    rw [pow_split i k, Nat.mul_add, Nat.add_mul, ← Nat.mul_assoc a Y[k], Nat.mul_assoc (a * Y[k])]
  rw [e1]
  omega
end Go.Proofs.YtcjioogololnoaaGreatDoor

/-! curve.field: mul. -/
namespace Go.Proofs.YtcjioogololnoaaGreatDoor
open Go.RowKit Go.Shelf

set_option maxRecDepth 100000 in
set_option maxHeartbeats 8000000 in
theorem fmul_any (g o m : Nat) (d : List Nat) (x y : Nat) (hx : x < 2 ^ 256) (hy : y < 2 ^ 256) (w : World) (hF : FieldAt w g o m d)
    (hfold : ∀ (T : List Nat) (W : World), T.length = 8 → (∀ t ∈ T, t < 18446744073709551616) → FieldAt W g o m d → Calls Tryz.prog 205 #[.pointer (some ⟨g, o, none⟩), .agg (U64 T).toArray] W fun e W' => e = .returned (.agg (numA (wv T % m))) ∧ Below W.heap.size W W') :
    Calls Tryz.prog 175 #[.pointer (some ⟨g, o, none⟩), .agg (numA x), .agg (numA y)] w fun e W' => e = .returned (.agg (numA (x * y % m))) ∧ Below w.heap.size w W' := by
  have hgw := hF.1
  have Hfold := Lib.hid hfold
  clear hfold
  obtain ⟨R, hR⟩ : ∃ R, R = x * y % m := ⟨_, rfl⟩
  rw [← hR]
  have HR := Lib.hid hR
  clear hR
  unfold numA
  go_enter Tryz.func175, Tryz.ntmps175
  go_wp2_with fail
  have h4 := rowsFour w (.cells (numA x) 140) (.cells (numA y) 140) (.cells (numA 0) 140) (.cells (U64 (List.replicate 8 0)).toArray 255)
  obtain ⟨W0, hW0⟩ : ∃ W0, W0 = ((((w.alloc (.cells (numA x) 140)).alloc (.cells (numA y) 140)).alloc (.cells (numA 0) 140)).alloc (.cells (U64 (List.replicate 8 0)).toArray 255)) := ⟨_, rfl⟩
  have hb0 : Below w.heap.size w W0 := by rw [hW0]; exact ((((Below.refl _ w).alloc (Nat.le_refl _) _).alloc (by simp) _).alloc (by simp; omega) _).alloc (by simp; omega) _
  refine (show W0 = _ from hW0) ▸ ?_
  rw [← hW0] at h4
  obtain ⟨gX, gY, gO, gT⟩ := h4
  obtain ⟨B, hB⟩ : ∃ B, B = w.heap.size := ⟨_, rfl⟩
  rw [← hB] at gX gY gO gT ⊢
  have HB := Lib.hid hB
  clear hW0 hB gX
  go_loopw [17] (fun iv wr => ∃ (i : Nat) (T : List Nat), i ≤ 4 ∧ iv = .int .i64 i ∧ Hid (T.length = 8 ∧ (∀ t ∈ T, t < 18446744073709551616) ∧ (∀ j, i + 4 ≤ j → j < 8 → T[j]? = some 0) ∧ wv T = wv ((num4 x).take i) * y) ∧
    wr.heap[B + 1]? = some (.cells (numA y) 140 (0, 0)) ∧ wr.heap[B + 1 + 1]? = some (.cells (numA 0) 140 (0, 0)) ∧ wr.heap[B + 1 + 1 + 1]? = some (.cells (U64 T).toArray 255 (0, 0)) ∧ Below w.heap.size w wr) (fun iv _ => 4 - (intOf iv).toNat)
  case atStart => exact ⟨0, List.replicate 8 0, by omega, rfl, Lib.hid ⟨rfl, by simp, fun j _ hj => by rw [List.getElem?_replicate, if_pos hj], by rw [wv_zeros]; simp [wv]⟩, gY, gO, gT, hb0⟩
  case round =>
    clear gY gO gT hb0
    obtain ⟨i, T, hi, rfl, HT, gY, gO, gT, hb⟩ := hrel
    by_cases hlt : i < 4
    · obtain ⟨a, ha⟩ : ∃ a, a = dw x i := ⟨_, rfl⟩
      have ha64 : a < 18446744073709551616 := by rw [ha]; exact dw_lt _ _
      have hix := fun ww => run_index_num x i hlt ww
      simp only [← ha] at hix
      obtain ⟨y0, y1, y2, y3⟩ := cells4 gY
      have Ha := Lib.hid ha
      have GY := Lib.hid gY
      have GO := Lib.hid gO
      have GT := Lib.hid gT
      obtain ⟨S, hS⟩ : ∃ S, S = wv T := ⟨_, rfl⟩
      have HS := Lib.hid hS
      have HS6 : Hid (S = wv ((num4 x).take i) * y) := Lib.hid (by rw [hS]; exact HT.out.2.2.2)
      clear ha hS
      go_wp2_with fail
      clear y0 y1 y2 y3 hix
      rw [show decide ((i : Int) < 4) = true from decide_eq_true (by omega)]
      go_loopw [10, 22] (fun cv kv wk => ∃ (k c : Nat) (U : List Nat), k ≤ 4 ∧ kv = .int .i64 k ∧ cv = .int .u64 c ∧ c < 18446744073709551616 ∧ Hid (U.length = 8 ∧ (∀ t ∈ U, t < 18446744073709551616) ∧ (∀ j, i + 4 ≤ j → j < 8 → U[j]? = some 0) ∧ wv U + c * 2 ^ (64 * (i + k)) = S + a * wv ((num4 y).take k) * 2 ^ (64 * i)) ∧
        wk.heap[B + 1]? = some (.cells (numA y) 140 (0, 0)) ∧ wk.heap[B + 1 + 1]? = some (.cells (numA 0) 140 (0, 0)) ∧ wk.heap[B + 1 + 1 + 1]? = some (.cells (U64 U).toArray 255 (0, 0)) ∧ Below w.heap.size w wk) (fun _ kv _ => 4 - (intOf kv).toNat)
      case atStart => exact ⟨0, 0, T, by omega, rfl, rfl, by omega, Lib.hid ⟨HT.out.1, HT.out.2.1, HT.out.2.2.1, by rw [HS.out]; simp [wv]⟩, gY, gO, gT, hb⟩
      case round =>
        clear gY gO gT hb HT
        obtain ⟨k, c, U, hk, rfl, rfl, hc, HU, gY, gO, gT, hb⟩ := hrel
        by_cases hlk : k < 4
        · obtain ⟨b, hbb⟩ : ∃ b, b = dw y k := ⟨_, rfl⟩
          have hb64 : b < 18446744073709551616 := by rw [hbb]; exact dw_lt _ _
          have hix := fun ww => run_index_num y k hlk ww
          simp only [← hbb] at hix
          have Hbb := Lib.hid hbb
          obtain ⟨j, hj⟩ : ∃ j, j = i + k := ⟨_, rfl⟩
          have hj8 : j < 8 := by omega
          have hjI : (i : Int) + (k : Int) = (j : Int) := by omega
          have hjU : j < U.length := by rw [HU.out.1]; exact hj8
          have cT := cellU gT (k := j) hjU
          have zT := thawU gT j
          have hUj : U[j] = U.getD j 0 := by simp [hjU]
          obtain ⟨t, ht⟩ : ∃ t : Nat, t = U.getD j 0 := ⟨_, rfl⟩
          have ht64 : t < 18446744073709551616 := by rw [ht, ← hUj]; exact HU.out.2.1 _ (List.getElem_mem _)
          rw [hUj, ← ht] at cT
          obtain ⟨m1, m2, m3⟩ := mac a b c t ha64 hb64 hc ht64
          have hm64 := fun ww => Tryz.bits_Mul64 a b ha64 hb64 ww
          obtain ⟨hi, hhi⟩ : ∃ hi, hi = a * b / 18446744073709551616 := ⟨_, rfl⟩
          obtain ⟨lo, hlo⟩ : ∃ lo, lo = a * b % 18446744073709551616 := ⟨_, rfl⟩
          rw [← hhi, ← hlo] at m1 m2 m3
          simp only [← hhi, ← hlo] at hm64
          have hA1 := fun ww => add64_run0 lo c ww
          obtain ⟨l1, hl1⟩ : ∃ l1, l1 = (lo + c) % 18446744073709551616 := ⟨_, rfl⟩
          obtain ⟨c1, hc1⟩ : ∃ c1, c1 = (lo + c) / 18446744073709551616 := ⟨_, rfl⟩
          rw [← hl1, ← hc1] at m2 m3
          rw [← hc1] at m1
          simp only [← hl1, ← hc1] at hA1
          have hA2 := fun ww => add64_run0 t l1 ww
          obtain ⟨t1, ht1⟩ : ∃ t1, t1 = (t + l1) % 18446744073709551616 := ⟨_, rfl⟩
          obtain ⟨c2, hc2⟩ : ∃ c2, c2 = (t + l1) / 18446744073709551616 := ⟨_, rfl⟩
          rw [← hc2] at m2
          rw [← ht1, ← hc2] at m3
          simp only [← ht1, ← hc2] at hA2
          have ht164 : t1 < 18446744073709551616 := by rw [ht1]; exact Nat.mod_lt _ (by decide)
          have Hm64 := Lib.hid hm64
          have M3 := Lib.hid m3
          have Hj := Lib.hid hj
          have Ht := Lib.hid ht
          have GY := Lib.hid gY
          have GO := Lib.hid gO
          have GT := Lib.hid gT
          clear hbb hj ht hhi hlo hl1 hc1 ht1 hc2 m3 hm64 gY gO gT hjU hUj
          go_wp2_with (go_at_call 203; refine (Hm64.out _).mono ?_; rintro e w' ⟨rfl, hww⟩; rw [hww]; clear hww)
          refine ⟨⟨k + 1, hi + c1 + c2, U.set j t1, by omega, by go_num, by go_num, m2, Lib.hid ⟨by simpa using HU.out.1, fun q hq => ?_, fun q hq hq8 => ?_, ?_⟩, otherU GY.out (by omega), otherU GO.out (by omega), setU GT.out, hb.setCell (p := ⟨B + 1 + 1 + 1, j, none⟩) (by show w.heap.size ≤ B + 1 + 1 + 1; have := HB.out; omega) _⟩, by simp [intOf]; omega⟩
          · rcases List.mem_or_eq_of_mem_set hq with h | h
            · exact HU.out.2.1 q h
            · exact h ▸ ht164
          · rw [List.getElem?_set_ne (by have := Hj.out; omega)]
            exact HU.out.2.2.1 q hq hq8
          · have hjj := Hj.out
            have htt := Ht.out
            have hUl := HU.out.1
            subst hjj
            refine inner_step U (num4 y) i k a c _ t1 S (by omega) hlk ?_ HU.out.2.2.2
            have e1 : U[i + k]'(by omega) = t := by rw [htt]; simp [show i + k < U.length by omega]
            have e2 : (num4 y)[k]'hlk = b := by
              rw [Hbb.out]
              rcases (show k = 0 ∨ k = 1 ∨ k = 2 ∨ k = 3 by omega) with rfl | rfl | rfl | rfl <;> rfl
            rw [e1, e2]
            exact M3.out
        · obtain rfl : k = 4 := by omega
          obtain ⟨q, hq⟩ : ∃ q, q = i + 4 := ⟨_, rfl⟩
          have hq8 : q < 8 := by omega
          have hqI : (i : Int) + 4 = (q : Int) := by omega
          have cT := cellU gT (k := q) (by rw [HU.out.1]; exact hq8)
          have zT := thawU gT q
          have hU0 : U[q]? = some 0 := HU.out.2.2.1 q (by omega) hq8
          have Hq := Lib.hid hq
          have HU0 := Lib.hid hU0
          have GY := Lib.hid gY
          have GO := Lib.hid gO
          have GT := Lib.hid gT
          clear hq hU0 gY gO gT
          go_wp2_with fail
          refine ⟨⟨i + 1, U.set q c, by omega, by go_num, Lib.hid ⟨by simpa using HU.out.1, fun r hr => ?_, fun r hr hr8 => ?_, ?_⟩, otherU GY.out (by omega), otherU GO.out (by omega), setU GT.out, hb.setCell (p := ⟨B + 1 + 1 + 1, q, none⟩) (by show w.heap.size ≤ B + 1 + 1 + 1; have := HB.out; omega) _⟩, by simp [intOf]; omega⟩
          · rcases List.mem_or_eq_of_mem_set hr with h | h
            · exact HU.out.2.1 r h
            · exact h ▸ hc
          · rw [List.getElem?_set_ne (by have := Hq.out; omega)]
            exact HU.out.2.2.1 r (by omega) hr8
          · have h1 := HU.out.2.2.2
            have hql : q < U.length := by rw [HU.out.1]; exact hq8
            have h2 := wv_set U q hql c
            have h3 : U[q] = 0 := by have := HU0.out; rw [List.getElem?_eq_getElem hql] at this; exact Option.some.inj this
            rw [h3] at h2
            have hqq := Hq.out
            rw [← hqq, show (num4 y).take 4 = num4 y from rfl, wv_num4 y hy] at h1
            have h5 : wv ((num4 x).take (i + 1)) = wv ((num4 x).take i) + a * 2 ^ (64 * i) := by
              rw [wv_take (num4 x) i hlt]
              congr 2
              rw [Ha.out]
              rcases (show i = 0 ∨ i = 1 ∨ i = 2 ∨ i = 3 by omega) with rfl | rfl | rfl | rfl <;> rfl
            rw [h5, Nat.add_mul, Nat.mul_right_comm]
            have h6 := HS6.out
            omega
    · obtain rfl : i = 4 := by omega
      have hTx : wv T = x * y := by rw [HT.out.2.2.2, show (num4 x).take 4 = num4 x from rfl, wv_num4 x hx]
      have hfl := Hfold.out T wr HT.out.1 HT.out.2.1 (hF.below hb hgw)
      rw [hTx, ← HR.out] at hfl
      obtain ⟨cs, hcs⟩ : ∃ cs, cs = (U64 T).toArray := ⟨_, rfl⟩
      have hcz : cs.size = 8 := by rw [hcs, List.size_toArray, U64_length, HT.out.1]
      have Hinf : Hid ((Tryz.prog.info? 255).map (·.size) = some cs.size) := Lib.hid (by rw [hcz]; kernel_rfl)
      rw [← hcs] at gT hfl
      have HiN := Lib.hid (show (Tryz.prog.info? 140).map (·.size) = some (numA R).size by kernel_rfl)
      have Hfl := Lib.hid hfl
      have GT := Lib.hid gT
      have GO := Lib.hid gO
      have HlO := Lib.hid (Array.getElem?_eq_some_iff.1 gO).1
      clear hcs hcz gT gO gY hTx hfl
      go_wp2_with (refine wpList_load_row rfl 255 (.tmp 7) rfl (B + 1 + 1 + 1) rfl 255 cs (0, 0) _ GT.out Tryz.underlying255 rfl Hinf.out ?_)
      refine Hfl.out.mono ?_
      rintro e w2 ⟨rfl, hb2⟩
      have GO2 := Lib.hid ((hb2.block (B + 1 + 1) HlO.out).trans GO.out)
      have hbN := hb.trans (hb2.mono hb.size)
      clear hb2
      go_wp2_with (refine wpList_store_row rfl 140 (.tmp 6) (.tmp 66) rfl (B + 1 + 1) (numA R) rfl rfl 140 _ GO2.out HiN.out rfl (numA_one _) ?_)
      refine bodyPost_ret (v := .agg (numA R)) ?_ rfl ⟨rfl, below_setRow' hbN (by have := HB.out; omega) _⟩
      exact results_cell_row rfl _ _ (B + 1 + 1) 140 (numA R) (0, 0) _ rfl (setRow_heap _ _ _ _ _ _ GO2.out) Tryz.underlying140 rfl HiN.out
end Go.Proofs.YtcjioogololnoaaGreatDoor
