/- ref02.Sum256. -/
import Derived.Test.YtmfligfcejhjaaaDoorT1
namespace Go.Proofs.YtmfligfcejhjaaaDoor
open Go.RowKit Go.Shelf

/-- A word, byte by byte. -/
def wpart (b : List UInt8) (t : Nat) : Nat → BitVec 32
  | 0 => 0
  | i + 1 => wpart b t i * 256 + (b.getD (4 * t + i) 0).toBitVec.setWidth 32
theorem or_add (a c n : Nat) (h : c < 2 ^ n) : a * 2 ^ n ||| c = a * 2 ^ n + c := by
  rw [Nat.mul_comm, ← Nat.two_pow_add_eq_or_of_lt h]
theorem wpart_word (b : List UInt8) (t : Nat) : wpart b t 4 = word b t := by
  simp only [wpart, word]
  obtain ⟨x0, e0⟩ : ∃ x, x = b.getD (4 * t) 0 := ⟨_, rfl⟩
  obtain ⟨x1, e1⟩ : ∃ x, x = b.getD (4 * t + 1) 0 := ⟨_, rfl⟩
  obtain ⟨x2, e2⟩ : ∃ x, x = b.getD (4 * t + 2) 0 := ⟨_, rfl⟩
  obtain ⟨x3, e3⟩ : ∃ x, x = b.getD (4 * t + 3) 0 := ⟨_, rfl⟩
  rw [Nat.add_zero, ← e0, ← e1, ← e2, ← e3]
  have h0 := x0.toNat_lt
  have h1 := x1.toNat_lt
  have h2 := x2.toNat_lt
  have h3 := x3.toNat_lt
  apply BitVec.eq_of_toNat_eq
  simp only [BitVec.toNat_or, BitVec.toNat_shiftLeft, BitVec.toNat_setWidth, BitVec.toNat_add, BitVec.toNat_mul, UInt8.toNat_toBitVec, Nat.shiftLeft_eq, BitVec.toNat_ofNat]
  rw [Nat.mod_eq_of_lt (show x0.toNat < 2 ^ 32 by omega), Nat.mod_eq_of_lt (show x1.toNat < 2 ^ 32 by omega), Nat.mod_eq_of_lt (show x2.toNat < 2 ^ 32 by omega), Nat.mod_eq_of_lt (show x3.toNat < 2 ^ 32 by omega)]
  rw [Nat.mod_eq_of_lt (show x0.toNat * 2 ^ 24 < 2 ^ 32 by omega), Nat.mod_eq_of_lt (show x1.toNat * 2 ^ 16 < 2 ^ 32 by omega), Nat.mod_eq_of_lt (show x2.toNat * 2 ^ 8 < 2 ^ 32 by omega)]
  rw [or_add x0.toNat _ 24 (by omega), show x0.toNat * 2 ^ 24 + x1.toNat * 2 ^ 16 = (x0.toNat * 2 ^ 8 + x1.toNat) * 2 ^ 16 by omega, or_add _ _ 16 (by omega),
    show (x0.toNat * 2 ^ 8 + x1.toNat) * 2 ^ 16 + x2.toNat * 2 ^ 8 = ((x0.toNat * 2 ^ 8 + x1.toNat) * 2 ^ 8 + x2.toNat) * 2 ^ 8 by omega, or_add _ _ 8 (by omega)]
  rw [show BitVec.toNat (0 : BitVec 32) = 0 from rfl, show BitVec.toNat (256 : BitVec 32) = 256 from rfl]
  omega
theorem sp_mac (x : BitVec 32) (y : UInt8) : ((x.toNat : Int) * 256 % 4294967296 + (y.toNat : Int)) % 4294967296 = ((x * 256 + y.toBitVec.setWidth 32).toNat : Int) := by
  have h := y.toNat_lt
  rw [BitVec.toNat_add, BitVec.toNat_mul, BitVec.toNat_setWidth, UInt8.toNat_toBitVec, show BitVec.toNat (256 : BitVec 32) = 256 from rfl]
  omega
theorem sp_mac2 (x : BitVec 32) (y : UInt8) : (x.toNat : Int) * 256 % 4294967296 + (y.toNat : Int) = ((x * 256 + y.toBitVec.setWidth 32).toNat : Int) := by
  have h := y.toNat_lt
  rw [← sp_mac]; omega
theorem w32_one (xs : List (BitVec 32)) : (W32 xs).toArray.all (·.oneCell') = true := all_oneCell_toArray fun v hv => by
  obtain ⟨x, _, rfl⟩ := List.mem_map.1 hv; rfl
theorem one8 (a b c d e f g h : Int) : (#[.int .u32 a, .int .u32 b, .int .u32 c, .int .u32 d, .int .u32 e, .int .u32 f, .int .u32 g, .int .u32 h] : Array Value).all (·.oneCell') = true :=
  all_oneCell_toArray (cs := [.int .u32 a, .int .u32 b, .int .u32 c, .int .u32 d, .int .u32 e, .int .u32 f, .int .u32 g, .int .u32 h]) fun v hv => by
    simp at hv; rcases hv with rfl | rfl | rfl | rfl | rfl | rfl | rfl | rfl <;> rfl
theorem grown_below {w a c : World} {g B : Nat} (h : w.grownBy a (some g)) (k : Below B a c) (hB : w.heap.size ≤ B) : w.grownBy c (some g) :=
  ⟨k.os.trans h.os, k.tape.trans h.tape, k.output.trans h.output, Nat.le_trans h.size k.size, fun j hj hne => (k.block j (by omega)).trans (h.block j hj hne)⟩
theorem msg_mod (b : List UInt8) : (msg b).length % 64 = 0 := by
  rw [msg, List.length_append, tailL_length _ _ (Nat.le_refl _)]; omega
theorem msg_len (b : List UInt8) : (msg b).length ≤ b.length + 72 := by
  rw [msg, List.length_append, tailL_length _ _ (Nat.le_refl _)]; omega
/-- The words' row while its head is being read. -/
def rowW (b : List UInt8) (t : Nat) : List Value := W32 ((wds b).take t) ++ List.replicate (64 - t) (.int .u32 0)
theorem rowW_length (b : List UInt8) (t : Nat) (h : t ≤ 64) : (rowW b t).length = 64 := by simp [rowW, wds_length]; omega
theorem rowW_at (b : List UInt8) (t : Nat) (h : t < 64) : (rowW b t)[t]? = some (.int .u32 0) := by
  rw [rowW, List.getElem?_append_right (by simp [wds_length]; omega)]
  have hl : (W32 ((wds b).take t)).length = t := by simp [wds_length]; omega
  rw [hl, Nat.sub_self, show 64 - t = (64 - (t + 1)) + 1 by omega, List.replicate_succ]; rfl
theorem rowW_set (b : List UInt8) (t : Nat) (h : t < 64) : (rowW b t).set t (.int .u32 ((wd b t).toNat : Int)) = rowW b (t + 1) := by
  have hl : (W32 ((wds b).take t)).length = t := by simp [wds_length]; omega
  rw [rowW, List.set_append_right _ _ (by omega), hl, Nat.sub_self, show 64 - t = (64 - (t + 1)) + 1 by omega, List.replicate_succ, List.set_cons_zero, rowW]
  have hw : (wds b)[t]? = some (wd b t) := by simp [wds, h]
  rw [List.take_add_one, hw]
  simp [W32]
theorem rowW_known (b : List UInt8) (t j : Nat) (h : t ≤ 64) (hj : j < t) : (rowW b t)[j]? = (W32 (wds b))[j]? := by
  rw [rowW, List.getElem?_append_left (by simp [wds_length]; omega)]
  simp [W32, List.getElem?_take, hj]
theorem be32_at (st : List (BitVec 32)) (k : Nat) (h : k < 4 * st.length) : (be32 st)[k]? = some (UInt8.ofNat ((st[k / 4]'(by omega)).toNat / 2 ^ (24 - 8 * (k % 4)))) := by
  obtain ⟨g0, g1, g2, g3⟩ := be32_get st (k / 4) (by omega)
  have : k % 4 = 0 ∨ k % 4 = 1 ∨ k % 4 = 2 ∨ k % 4 = 3 := by omega
  rcases this with e | e | e | e
  · rw [e]; rw [show 4 * (k / 4) = k by omega] at g0; exact g0
  · rw [e]; rw [show 4 * (k / 4) + 1 = k by omega] at g1; exact g1
  · rw [e]; rw [show 4 * (k / 4) + 2 = k by omega] at g2; exact g2
  · rw [e]; rw [show 4 * (k / 4) + 3 = k by omega] at g3; simpa using g3

set_option maxRecDepth 100000 in
set_option maxHeartbeats 40000000 in
theorem rsum_any (A : Option Addr) (c : Nat) (b : List UInt8) (w : World) (hs : Sl w w.heap.size A (B8 b)) (hl : b.length ≤ 2048) (hbc : b.length ≤ c) (hc : c ≤ maxLen) :
    Calls Tryd.prog 42 #[.slice A b.length c] w fun e W' => e = .returned (.agg (B8 (sha b)).toArray) ∧ Below w.heap.size w W' := by
  obtain ⟨kc, hkc⟩ : ∃ kc, kc = (W32 K256).toArray := ⟨_, rfl⟩
  have hksz : kc.size = 64 := by rw [hkc]; simp [K256_length]
  have Hk1 : Hid (kc.all (·.oneCell') = true) := Lib.hid (by rw [hkc]; simp [W32]; intro x _; rfl)
  have Hkinf : Hid ((Tryd.prog.info? 83).map (·.size) = some kc.size) := Lib.hid (by rw [hksz]; kernel_rfl)
  obtain ⟨hc0, hhc⟩ : ∃ hc, hc = (W32 H256).toArray := ⟨_, rfl⟩
  have hhsz : hc0.size = 8 := by rw [hhc]; simp [H256_length]
  have Hh1 : Hid (hc0.all (·.oneCell') = true) := Lib.hid (by rw [hhc]; simp [W32]; intro x _; rfl)
  have Hhinf : Hid ((Tryd.prog.info? 69).map (·.size) = some hc0.size) := Lib.hid (by rw [hhsz]; kernel_rfl)
  have Hkc := Lib.hid hkc
  have Hksz := Lib.hid hksz
  have Hhc := Lib.hid hhc
  have Hhsz := Lib.hid hhsz
  have Hs := Lib.hid hs
  clear hkc hksz hhc hhsz hs
  obtain ⟨wa, hwa⟩ : ∃ wa, wa = w.alloc (.cells (Array.replicate 32 (.int .u8 0)) 42) := ⟨_, rfl⟩
  obtain ⟨wb, hwb⟩ : ∃ wb, wb = wa.alloc (.cells kc 83) := ⟨_, rfl⟩
  obtain ⟨wc, hwc⟩ : ∃ wc, wc = wb.alloc (.cells hc0 69) := ⟨_, rfl⟩
  have Hwa := Lib.hid hwa
  have Hwb := Lib.hid hwb
  have Hwc := Lib.hid hwc
  clear hwa hwb hwc
  go_enter Tryd.func42, Tryd.ntmps42
  go_wp2_with (first | (refine wpList_build rfl 83 _ rfl (by kernel_rfl) ?_; rw [show (Tryd.prog.built 83 _).getD #[] = kc from by rw [Hkc.out]; kernel_rfl]; refine (show wa = _ from Hwa.out) ▸ ?_) | (refine wpList_build rfl 69 _ rfl (by kernel_rfl) ?_; rw [show (Tryd.prog.built 69 _).getD #[] = hc0 from by rw [Hhc.out]; kernel_rfl]) | (refine wpList_store_row rfl 83 (.tmp 3) (.tmp 20) rfl wa.heap.size kc rfl rfl 83 _ (heap_alloc_new wa _) Hkinf.out Hksz.out.symm Hk1.out ?_; rw [World.setRow_alloc_new, ← Hwb.out]) | (refine wpList_store_row rfl 69 (.tmp 4) (.tmp 21) rfl wb.heap.size hc0 rfl rfl 69 _ (heap_alloc_new wb _) Hhinf.out Hhsz.out.symm Hh1.out ?_; rw [World.setRow_alloc_new, ← Hwc.out]) | fail)
  have hza : wa.heap.size = w.heap.size + 1 := by rw [Hwa.out]; exact World.size_alloc _ _
  have hzb : wb.heap.size = w.heap.size + 2 := by rw [Hwb.out, World.size_alloc, hza]
  have hzc : wc.heap.size = w.heap.size + 3 := by rw [Hwc.out, World.size_alloc, hzb]
  have hBa : Below w.heap.size w wa := by rw [Hwa.out]; exact (Below.refl _ w).alloc (Nat.le_refl _) _
  have hBb : Below w.heap.size w wb := by rw [Hwb.out]; exact hBa.alloc (by omega) _
  have hBc : Below w.heap.size w wc := by rw [Hwc.out]; exact hBb.alloc (by omega) _
  have hOc : wc.heap[w.heap.size]? = some (.cells (Array.replicate 32 (.int .u8 0)) 42 (0, 0)) := by
    rw [Hwc.out, Below.heap_alloc wb _ _ (by omega), Hwb.out, Below.heap_alloc wa _ _ (by omega), Hwa.out]; exact heap_alloc_new w _
  have hKc : wc.heap[wa.heap.size]? = some (.cells kc 83 (0, 0)) := by
    rw [Hwc.out, Below.heap_alloc wb _ _ (by omega), Hwb.out]; exact heap_alloc_new wa _
  have hHc : wc.heap[wb.heap.size]? = some (.cells hc0 69 (0, 0)) := by rw [Hwc.out]; exact heap_alloc_new wb _
  obtain ⟨gk, hgk⟩ : ∃ gk, gk = wa.heap.size := ⟨_, rfl⟩
  obtain ⟨gh, hgh⟩ : ∃ gh, gh = wb.heap.size := ⟨_, rfl⟩
  rw [← hgk, ← hgh]
  rw [← hgk] at hKc
  rw [← hgh] at hHc
  rw [← hgk] at hza
  rw [← hgh] at hzb
  have hsc := Hs.out.below hBc
  clear hgk hgh hBa hBb Hwa Hwb Hwc
  refine (fill_any A c b wc (hsc.mono (by omega)) hl hbc hc).mono ?_
  rintro e wf ⟨mv, rfl, hoM, hbF⟩
  obtain ⟨M, hM⟩ : ∃ M, M = msg b := ⟨_, rfl⟩
  rw [← hM] at hoM
  obtain ⟨Am, cm, rfl, hcm, hcm'⟩ := own_form hoM
  have hMm : M.length % 64 = 0 := by rw [hM]; exact msg_mod b
  have hMl : M.length ≤ 2120 := by rw [hM]; exact Nat.le_trans (msg_len b) (by omega)
  have hMp : 0 < M.length := by rw [hM]; simp [msg, tailL]; omega
  obtain ⟨gm, curm, rfl, hgm, hmF, hmc⟩ : ∃ gm curm, Am = some ⟨gm, 0, none⟩ ∧ wc.heap.size ≤ gm ∧ wf.heap[gm]? = some (.cells curm 5 (0, 0)) ∧ ∀ j (h : j < M.length), curm[j]? = some (.int .u8 ((M[j]'h).toNat : Int)) := by
    obtain ⟨A', c', e, h1, h2, h3⟩ := hoM
    injection e with e1 e2 e3
    obtain ⟨g, cur, e4, h4, h5, h6, h7⟩ := h3 (by omega)
    refine ⟨g, cur, by rw [e1, e4], h4, h5, fun j hj => ?_⟩
    have h8 : (cur.toList.take (B8 M).length)[j]? = (B8 M)[j]? := congrArg (fun l => l[j]?) h7
    rw [List.getElem?_take, if_pos (by simpa using hj), show (B8 M)[j]? = some (.int .u8 ((M[j]'hj).toNat : Int)) from by rw [List.getElem?_eq_getElem (by simpa using hj), B8_get]] at h8
    simpa using h8
  obtain ⟨N, hN⟩ : ∃ N, N = M.length := ⟨_, rfl⟩
  rw [← hN]
  rw [← hN] at hcm hMm hMl hMp
  have hOf := (hbF.block w.heap.size (by omega)).trans hOc
  have hKf := (hbF.block gk (by omega)).trans hKc
  have hHf := (hbF.block gh (by omega)).trans hHc
  have hBf := hBc.trans (hbF.mono (by omega))
  have hgmf : gm < wf.heap.size := (Array.getElem?_eq_some_iff.1 hmF).1
  have hzf := hbF.size
  have hgk1 : w.heap.size < gk := by omega
  have hgk2 : gk < gh := by omega
  have hgh1 : gh < wc.heap.size := by omega
  clear hza hzb hzc
  have HN := Lib.hid hN
  have HM := Lib.hid hM
  have Hmc := Lib.hid hmc
  have HmF := Lib.hid hmF
  have HOf := Lib.hid hOf
  have HKf := Lib.hid hKf
  have HHf := Lib.hid hHf
  clear hN hM hmc hmF hOf hKf hHf hOc hKc hHc hoM hsc Hs
  go_wp2_with fail
  go_loopw [6] (fun i wr => ∃ j a : Nat, Hid (a = 64 * j) ∧ a ≤ N ∧ i = .int .i64 a ∧ wf.grownBy wr (some gh) ∧ Hid (wr.heap[gh]? = some (.cells (W32 (blk H256 M j)).toArray 69 (0, 0)))) (fun i _ => N - (intOf i).toNat)
  case atStart => exact ⟨0, 0, Lib.hid rfl, Nat.zero_le _, rfl, World.grownBy.refl _ _, Lib.hid (by rw [HHf.out, Hhc.out]; rfl)⟩
  case round =>
    obtain ⟨j, a, Ha, haN, rfl, hgr, HH⟩ := hrel
    have hmx : Tryd.prog.follows .mixedOrders = true := by kernel_rfl
    by_cases hlt : a < N
    · have haN2 : a + 64 ≤ N := by have := Ha.out; omega
      have hzr := hgr.size
      obtain ⟨bl, hbl⟩ : ∃ bl, bl = (M.drop (64 * j)).take 64 := ⟨_, rfl⟩
      have hbm : ∀ q, q < 64 → ∃ y : UInt8, bl.getD q 0 = y ∧ curm[a + q]? = some (.int .u8 (y.toNat : Int)) := fun q hq => by
        refine ⟨_, rfl, ?_⟩
        have h1 : a + q < M.length := by have := HN.out; omega
        rw [Hmc.out (a + q) h1, hbl, ← Ha.out]
        simp [List.getD_eq_getElem?_getD, List.getElem?_take, hq, h1]
      have Hbl := Lib.hid hbl
      have Hbm := Lib.hid hbm
      clear hbl hbm
      obtain ⟨wS, hwS⟩ : ∃ wS, wS = wr := ⟨_, rfl⟩
      subst hwS
      go_wp2_with fail
      obtain ⟨gw, hgw⟩ : ∃ gw, gw = wS.heap.size := ⟨_, rfl⟩
      obtain ⟨w1, hw1⟩ : ∃ w1, w1 = wS.alloc (.cells (Array.replicate 64 (.int .u32 0)) 83) := ⟨_, rfl⟩
      rw [← hgw]
      refine (show w1 = _ from hw1) ▸ ?_
      have hR1 : w1.heap[gw]? = some (.cells (rowW bl 0).toArray 83 (0, 0)) := by rw [hw1, hgw]; exact heap_alloc_new wS _
      have hB1 : Below gw wS w1 := by rw [hw1, hgw]; exact (Below.refl _ _).alloc (Nat.le_refl _) _
      have hmg : wS.heap[gm]? = some (.cells curm 5 (0, 0)) := (hgr.block gm hgmf (fun e => by injection e with e; omega)).trans HmF.out
      have hgmw : gm < gw := by omega
      have HR1 := Lib.hid hR1
      have Hmg := Lib.hid hmg
      have Hgw := Lib.hid hgw
      clear hR1 hmg hgw hw1
      go_loopw [8] (fun i wr => ∃ t : Nat, t ≤ 16 ∧ i = .int .i64 t ∧ Below gw wS wr ∧ Hid (wr.heap[gw]? = some (.cells (rowW bl t).toArray 83 (0, 0)))) (fun i _ => 16 - (intOf i).toNat)
      case atStart => exact ⟨0, Nat.zero_le _, rfl, hB1, HR1⟩
      case round =>
        clear hB1 HR1
        obtain ⟨t, ht, rfl, hB, HR⟩ := hrel
        by_cases ht16 : t < 16
        · obtain ⟨wT, hwT⟩ : ∃ wT, wT = wr := ⟨_, rfl⟩
          subst hwT
          go_wp2_with fail
          rw [show decide ((t : Int) < 16) = true from by simp; omega]
          go_loopw [9] (fun i wr => ∃ q : Nat, q ≤ 4 ∧ i = .int .i64 q ∧ Below gw wS wr ∧ Hid (wr.heap[gw]? = some (.cells ((rowW bl t).set t (.int .u32 ((wpart bl t q).toNat : Int))).toArray 83 (0, 0)))) (fun i _ => 4 - (intOf i).toNat)
          case atStart =>
            refine ⟨0, Nat.zero_le _, rfl, hB, Lib.hid ?_⟩
            rw [HR.out]
            have h0 := rowW_at bl t (by omega)
            rw [show (rowW bl t).set t (.int .u32 ((wpart bl t 0).toNat : Int)) = rowW bl t from by
              apply List.ext_getElem?
              intro x
              rw [List.getElem?_set]
              split
              · rename_i e; subst e; rw [if_pos (by rw [rowW_length bl t (by omega)]; omega), h0]; rfl
              · rfl]
          case round =>
            obtain ⟨q, hq, rfl, hBq, HRq⟩ := hrel
            by_cases hq4 : q < 4
            · obtain ⟨x, hx⟩ : ∃ x, x = wpart bl t q := ⟨_, rfl⟩
              obtain ⟨ma, hma⟩ : ∃ ma, ma = a + (4 * t + q) := ⟨_, rfl⟩
              have ema : (a : Int) + 4 * (t : Int) + (q : Int) = (ma : Int) := by omega
              have hmaN : ma < N := by omega
              obtain ⟨y, hy, hyc⟩ := Hbm.out (4 * t + q) (by omega)
              have cx : wr.cell? ⟨gw, t, none⟩ = some (.int .u32 (x.toNat : Int)) := by
                rw [cell_of_row wr gw t _ _ (0, 0) HRq.out, hx, List.getElem?_toArray, List.getElem?_set_self (by rw [rowW_length bl t (by omega)]; omega)]
              have fx := frozen_of_row wr gw t _ _ HRq.out
              have cy : wr.cell? ⟨gm, ma, none⟩ = some (.int .u8 (y.toNat : Int)) := by
                rw [cell_of_row wr gm ma _ _ (0, 0) ((hBq.block gm hgmw).trans Hmg.out), hma]; exact hyc
              have hy8 := y.toNat_lt
              have hx32 := x.isLt
              have Hx := Lib.hid hx
              have Hma := Lib.hid hma
              have Hy := Lib.hid hy
              have Hyc := Lib.hid hyc
              clear hx hma hy hyc
              go_wp2_with fail
              refine wp_region_plan [(0, 0), (1, 0), (2, 0), (3, 1), (4, 0), (5, 0), (6, 0), (7, 0), (8, 0), (9, 0), (10, 0), (11, 0), (12, 0), (13, 1), (14, 0), (15, 0), (16, 0), (17, 2)] 17 hmx (by kernel_rfl) (by intro c a d v w h; cases d <;> exact h) ?_
              repeat ((first | (refine wpPlan_pure rfl (fun K hK => ?_)) | (refine wpPlan_quiet rfl (fun K hK => ?_))); go_simp; (first | (refine hK _ ?_) | (simp only [IntWalk.iteOmega]; go_simp; refine hK _ ?_) | (go_bits; go_simp; refine hK _ ?_)); clear hK K; (try go_bits))
              refine wpPlan_loud rfl rfl (fun K hK => ?_)
              go_wp2_with fail
              refine ⟨.inl (by decide), wpPlan_nil ?_⟩
              go_wp2_with fail
              have hB2 := (hBq.setCell (p := ⟨gw, t, none⟩) (Nat.le_refl _) (.int .u32 ((x.toNat : Int) * 256 % 4294967296 + (y.toNat : Int)))).drew
              refine ⟨⟨q + 1, by omega, rfl, hB2, Lib.hid ?_⟩, by simp [intOf]; omega⟩
              rw [heap_drew, heap_setCell_same _ gw t _ _ _ HRq.out, sp_mac2 x y, Hx.out, ← Hy.out, List.setIfInBounds_toArray, List.set_set]
              rfl
            · obtain rfl : q = 4 := by omega
              go_wp2_with fail
              refine ⟨⟨t + 1, by omega, rfl, hBq, Lib.hid ?_⟩, by simp [intOf]; omega⟩
              rw [HRq.out, wpart_word, ← wd_lo bl t ht16, rowW_set bl t (by omega)]
        · obtain rfl : t = 16 := by omega
          have hfill16 : Fill wr gw 83 64 (W32 (wds bl)) 16 := ⟨_, HR.out, by simp [rowW_length bl 16 (by omega)], fun j hj => by rw [List.getElem?_toArray]; exact rowW_known bl 16 j (by omega) hj⟩
          clear HR
          go_wp2_with fail
          try rw [show ((16 : Nat) : Int) = 16 from rfl]
          go_loopw [10] (fun i wr => ∃ k : Nat, 16 ≤ k ∧ k ≤ 64 ∧ i = .int .i64 k ∧ Fill wr gw 83 64 (W32 (wds bl)) k ∧ Below gw wS wr) (fun i _ => 64 - (intOf i).toNat)
          case atStart => exact ⟨16, Nat.le_refl _, by omega, rfl, hfill16, hB⟩
          case round =>
            clear hfill16 hB
            obtain ⟨k, hk16, hk, rfl, hfill, hbw⟩ := hrel
            by_cases hlt : k < 64
            · obtain ⟨a16, h16'⟩ : ∃ a, a = k - 16 := ⟨_, rfl⟩
              obtain ⟨a15, h15'⟩ : ∃ a, a = k - 15 := ⟨_, rfl⟩
              obtain ⟨a7, h7'⟩ : ∃ a, a = k - 7 := ⟨_, rfl⟩
              obtain ⟨a2, h2'⟩ : ∃ a, a = k - 2 := ⟨_, rfl⟩
              have e16 : (k : Int) - 16 = (a16 : Int) := by omega
              have e15 : (k : Int) - 15 = (a15 : Int) := by omega
              have e7 : (k : Int) - 7 = (a7 : Int) := by omega
              have e2 : (k : Int) - 2 = (a2 : Int) := by omega
              have l16 : a16 < 64 := by omega
              have l15 : a15 < 64 := by omega
              have l7 : a7 < 64 := by omega
              have l2 : a2 < 64 := by omega
              have c16 := hfill.known (j := a16) (by omega) (wds_get? bl a16 (by omega))
              have c15 := hfill.known (j := a15) (by omega) (wds_get? bl a15 (by omega))
              have c7 := hfill.known (j := a7) (by omega) (wds_get? bl a7 (by omega))
              have c2 := hfill.known (j := a2) (by omega) (wds_get? bl a2 (by omega))
              have Hx : Hid (wd bl k = wd bl a16 + wd bl a7 + sig0 (wd bl a15) + sig1 (wd bl a2)) := by subst h16' h15' h7' h2'; exact wd_hi bl k (by omega)
              clear h16' h15' h7' h2'
              obtain ⟨x16, hx16⟩ : ∃ x, x = wd bl a16 := ⟨_, rfl⟩
              obtain ⟨x15, hx15⟩ : ∃ x, x = wd bl a15 := ⟨_, rfl⟩
              obtain ⟨x7, hx7⟩ : ∃ x, x = wd bl a7 := ⟨_, rfl⟩
              obtain ⟨x2, hx2⟩ : ∃ x, x = wd bl a2 := ⟨_, rfl⟩
              rw [← hx16] at c16 Hx
              rw [← hx15] at c15 Hx
              rw [← hx7] at c7 Hx
              rw [← hx2] at c2 Hx
              clear hx16 hx15 hx7 hx2
              obtain ⟨v0, hv0⟩ := hfill.cell hlt
              have hfz := hfill.frozen k
              obtain ⟨r1, hr1⟩ : ∃ x, x = x15.rotateRight 7 := ⟨_, rfl⟩
              obtain ⟨r2, hr2⟩ : ∃ x, x = x15.rotateRight 18 := ⟨_, rfl⟩
              obtain ⟨r3, hr3⟩ : ∃ x, x = x2.rotateRight 17 := ⟨_, rfl⟩
              obtain ⟨r4, hr4⟩ : ∃ x, x = x2.rotateRight 19 := ⟨_, rfl⟩
              have q1 := rot_any x15 25 (by omega) (by omega)
              have q2 := rot_any x15 14 (by omega) (by omega)
              have q3 := rot_any x2 15 (by omega) (by omega)
              have q4 := rot_any x2 13 (by omega) (by omega)
              rw [show x15.rotateLeft 25 = r1 from (rotr_rotl x15 7 (by omega) (by omega)).trans hr1.symm] at q1
              rw [show x15.rotateLeft 14 = r2 from (rotr_rotl x15 18 (by omega) (by omega)).trans hr2.symm] at q2
              rw [show x2.rotateLeft 15 = r3 from (rotr_rotl x2 17 (by omega) (by omega)).trans hr3.symm] at q3
              rw [show x2.rotateLeft 13 = r4 from (rotr_rotl x2 19 (by omega) (by omega)).trans hr4.symm] at q4
              have Hr : Hid (sig0 x15 = r1 ^^^ r2 ^^^ (x15 >>> 3) ∧ sig1 x2 = r3 ^^^ r4 ^^^ (x2 >>> 10)) := by subst hr1 hr2 hr3 hr4; exact ⟨rfl, rfl⟩
              clear hr1 hr2 hr3 hr4
              have Q1 := Lib.hid q1
              have Q2 := Lib.hid q2
              have Q3 := Lib.hid q3
              have Q4 := Lib.hid q4
              clear q1 q2 q3 q4
              go_wp2_with fail
              refine wp_region_plan [(0, 0), (1, 0), (2, 0), (3, 1), (5, 0), (6, 0), (7, 0), (8, 1), (11, 0), (12, 0), (13, 0), (14, 1), (15, 0), (4, 2), (9, 2), (10, 0), (16, 0), (17, 0)] 18 hmx (by kernel_rfl) (by intro c a d v w h; cases d <;> exact h) ?_
              repeat ((first | (refine wpPlan_pure rfl (fun K hK => ?_)) | (refine wpPlan_quiet rfl (fun K hK => ?_))); go_simp; (first | (refine hK _ ?_) | (simp only [IntWalk.iteOmega]; go_simp; refine hK _ ?_) | (go_bits; go_simp; refine hK _ ?_)); clear hK K; (try go_bits))
              refine wpPlan_loud rfl rfl (fun K hK => ?_)
              go_wp2_with (go_at_call 54; refine (Q1.out _).mono ?_; rintro e w' ⟨rfl, rfl⟩)
              refine ⟨(by first | exact .inr (Ext.refl _) | exact Ext.refl _), ?_⟩
              repeat ((first | (refine wpPlan_pure rfl (fun K hK => ?_)) | (refine wpPlan_quiet rfl (fun K hK => ?_))); go_simp; (first | (refine hK _ ?_) | (simp only [IntWalk.iteOmega]; go_simp; refine hK _ ?_) | (go_bits; go_simp; refine hK _ ?_)); clear hK K; (try go_bits))
              refine wpPlan_loud rfl rfl (fun K hK => ?_)
              go_wp2_with (go_at_call 54; refine (Q2.out _).mono ?_; rintro e w' ⟨rfl, rfl⟩)
              refine ⟨(by first | exact .inr (Ext.refl _) | exact Ext.refl _), ?_⟩
              repeat ((first | (refine wpPlan_pure rfl (fun K hK => ?_)) | (refine wpPlan_quiet rfl (fun K hK => ?_))); go_simp; (first | (refine hK _ ?_) | (simp only [IntWalk.iteOmega]; go_simp; refine hK _ ?_) | (go_bits; go_simp; refine hK _ ?_)); clear hK K; (try go_bits))
              refine wpPlan_nil ?_
              rw [sp_s0 x15 r1 r2, ← Hr.out.1]
              obtain ⟨S0, hS0⟩ : ∃ S, S = sig0 x15 := ⟨_, rfl⟩
              rw [← hS0]
              have HS0 := Lib.hid hS0
              clear hS0
              go_wp2_with fail
              refine wp_region_plan [(0, 0), (1, 0), (2, 0), (3, 1), (5, 0), (6, 0), (7, 0), (8, 1), (11, 0), (12, 0), (13, 0), (14, 1), (15, 0), (4, 2), (9, 2), (10, 0), (16, 0), (17, 0)] 18 hmx (by kernel_rfl) (by intro c a d v w h; cases d <;> exact h) ?_
              repeat ((first | (refine wpPlan_pure rfl (fun K hK => ?_)) | (refine wpPlan_quiet rfl (fun K hK => ?_))); go_simp; (first | (refine hK _ ?_) | (simp only [IntWalk.iteOmega]; go_simp; refine hK _ ?_) | (go_bits; go_simp; refine hK _ ?_)); clear hK K; (try go_bits))
              refine wpPlan_loud rfl rfl (fun K hK => ?_)
              go_wp2_with (go_at_call 54; refine (Q3.out _).mono ?_; rintro e w' ⟨rfl, rfl⟩)
              refine ⟨(by first | exact .inr (Ext.refl _) | exact Ext.refl _), ?_⟩
              repeat ((first | (refine wpPlan_pure rfl (fun K hK => ?_)) | (refine wpPlan_quiet rfl (fun K hK => ?_))); go_simp; (first | (refine hK _ ?_) | (simp only [IntWalk.iteOmega]; go_simp; refine hK _ ?_) | (go_bits; go_simp; refine hK _ ?_)); clear hK K; (try go_bits))
              refine wpPlan_loud rfl rfl (fun K hK => ?_)
              go_wp2_with (go_at_call 54; refine (Q4.out _).mono ?_; rintro e w' ⟨rfl, rfl⟩)
              refine ⟨(by first | exact .inr (Ext.refl _) | exact Ext.refl _), ?_⟩
              repeat ((first | (refine wpPlan_pure rfl (fun K hK => ?_)) | (refine wpPlan_quiet rfl (fun K hK => ?_))); go_simp; (first | (refine hK _ ?_) | (simp only [IntWalk.iteOmega]; go_simp; refine hK _ ?_) | (go_bits; go_simp; refine hK _ ?_)); clear hK K; (try go_bits))
              refine wpPlan_nil ?_
              rw [sp_s1 x2 r3 r4, ← Hr.out.2]
              obtain ⟨S1, hS1⟩ : ∃ S, S = sig1 x2 := ⟨_, rfl⟩
              rw [← hS1]
              have HS1 := Lib.hid hS1
              clear hS1
              go_wp2_with fail
              refine wp_region_plan [(0, 0), (1, 0), (2, 0), (3, 0), (4, 0), (5, 1), (6, 0), (7, 0), (8, 0), (9, 0), (10, 0), (11, 0), (12, 1), (13, 0), (14, 0), (15, 2)] 15 hmx (by kernel_rfl) (by intro c a d v w h; cases d <;> exact h) ?_
              repeat ((first | (refine wpPlan_pure rfl (fun K hK => ?_)) | (refine wpPlan_quiet rfl (fun K hK => ?_))); go_simp; (first | (refine hK _ ?_) | (simp only [IntWalk.iteOmega]; go_simp; refine hK _ ?_) | (go_bits; go_simp; refine hK _ ?_)); clear hK K; (try go_bits))
              refine wpPlan_loud rfl rfl (fun K hK => ?_)
              go_wp2_with fail
              refine ⟨.inl (by decide), wpPlan_nil ?_⟩
              go_wp2_with fail
              rw [sp_add4, BitVec.add_comm S1 x7, show x7 + S1 + S0 + x16 = x16 + x7 + S0 + S1 from by ac_rfl, HS0.out, HS1.out, ← Hx.out]
              refine ⟨⟨k + 1, by omega, by omega, rfl, hfill.set hlt (wds_get? bl k hlt) |>.drew, ?_⟩, by simp [intOf]; omega⟩
              exact (hbw.setCell (p := ⟨gw, k, none⟩) (Nat.le_refl _) _).drew.drew.drew
            · obtain rfl : k = 64 := by omega
              have hW := hfill.done (by simp [wds_length])
              have HW := Lib.hid hW
              clear hW hfill
              obtain ⟨wU, hwU⟩ : ∃ wU, wU = wr := ⟨_, rfl⟩
              subst hwU
              have hHU : wU.heap[gh]? = some (.cells (W32 (blk H256 M j)).toArray 69 (0, 0)) := (hbw.block gh (by rw [Hgw.out]; omega)).trans HH.out
              obtain ⟨s0, s1, s2, s3, s4, s5, s6, s7, hss⟩ : ∃ s0 s1 s2 s3 s4 s5 s6 s7, blk H256 M j = [s0, s1, s2, s3, s4, s5, s6, s7] := by
                have hl : (blk H256 M j).length = 8 := by rw [blk_length]; rfl
                match blk H256 M j, hl with
                | [s0, s1, s2, s3, s4, s5, s6, s7], _ => exact ⟨s0, s1, s2, s3, s4, s5, s6, s7, rfl⟩
              rw [hss] at hHU
              obtain ⟨hv, hhv⟩ : ∃ hv, hv = (W32 [s0, s1, s2, s3, s4, s5, s6, s7]).toArray := ⟨_, rfl⟩
              have Hvinf : Hid ((Tryd.prog.info? 69).map (·.size) = some hv.size) := Lib.hid (by rw [hhv]; kernel_rfl)
              have Hvsz : Hid (8 = hv.size) := Lib.hid (by rw [hhv]; rfl)
              have Hv1 : Hid (hv.all (·.oneCell') = true) := Lib.hid (by rw [hhv]; exact w32_one _)
              rw [← hhv] at hHU
              have HHU := Lib.hid hHU
              have Hhv := Lib.hid hhv
              have Hss := Lib.hid hss
              have hgwU : gw < wU.heap.size := (Array.getElem?_eq_some_iff.1 HW.out).1
              have hghw : gh < gw := by rw [Hgw.out]; omega
              have hgkw : gk < gw := by omega
              clear hHU hhv hss
              try rw [show ((64 : Nat) : Int) = 64 from rfl]
              go_wp2_with (first | (refine wpList_load_row rfl 69 (.tmp 4) rfl gh rfl 69 hv (0, 0) (.array 8 68) HHU.out (by kernel_rfl) rfl Hvinf.out ?_) | (refine wpList_store_row rfl 69 (.tmp 13) (.tmp 108) rfl wU.heap.size hv rfl rfl 69 _ (heap_alloc_new wU _) Hvinf.out Hvsz.out Hv1.out ?_; rw [World.setRow_alloc_new]) | fail)
              obtain ⟨gv, hgv⟩ : ∃ gv, gv = wU.heap.size := ⟨_, rfl⟩
              obtain ⟨w2, hw2⟩ : ∃ w2, w2 = wU.alloc (.cells hv 69) := ⟨_, rfl⟩
              rw [← hgv, ← hw2]
              have hv1 : w2.heap[gv]? = some (.cells #[.int .u32 (s0.toNat : Int), .int .u32 (s1.toNat : Int), .int .u32 (s2.toNat : Int), .int .u32 (s3.toNat : Int), .int .u32 (s4.toNat : Int), .int .u32 (s5.toNat : Int), .int .u32 (s6.toNat : Int), .int .u32 (s7.toNat : Int)] 69 (0, 0)) := by rw [hw2, hgv, Hhv.out]; exact heap_alloc_new _ _
              have hb1 : Below gv wU w2 := by rw [hw2, hgv]; exact (Below.refl _ _).alloc (Nat.le_refl _) _
              have hwv : gw < gv := by rw [hgv]; exact hgwU
              have HKU : Hid (wU.heap[gk]? = some (.cells kc 83 (0, 0))) := Lib.hid (by
                rw [hbw.block gk hgkw, hgr.block gk (by omega) (fun e => by injection e with e; omega)]; exact HKf.out)
              have Hgv := Lib.hid hgv
              have Hv1' := Lib.hid hv1
              clear hw2 hgv hv1
              go_loopw [14] (fun i wq => ∃ (k : Nat) (a0 a1 a2 a3 a4 a5 a6 a7 : BitVec 32), k ≤ 64 ∧ i = .int .i64 k ∧ Hid (rnds K256 bl [s0, s1, s2, s3, s4, s5, s6, s7] k = [a0, a1, a2, a3, a4, a5, a6, a7]) ∧
                  Hid (wq.heap[gv]? = some (.cells #[.int .u32 (a0.toNat : Int), .int .u32 (a1.toNat : Int), .int .u32 (a2.toNat : Int), .int .u32 (a3.toNat : Int), .int .u32 (a4.toNat : Int), .int .u32 (a5.toNat : Int), .int .u32 (a6.toNat : Int), .int .u32 (a7.toNat : Int)] 69 (0, 0))) ∧ Below gv wU wq) (fun i _ => 64 - (intOf i).toNat)
              case atStart => exact ⟨0, s0, s1, s2, s3, s4, s5, s6, s7, Nat.zero_le _, rfl, Lib.hid rfl, Hv1', hb1⟩
              case round =>
                clear Hv1' hb1
                obtain ⟨k, a0, a1, a2, a3, a4, a5, a6, a7, hk, rfl, hR, HV, hB⟩ := hrel
                by_cases hlt : k < 64
                · obtain ⟨xw, hxw⟩ : ∃ x, x = wd bl k := ⟨_, rfl⟩
                  obtain ⟨xk, hxk⟩ : ∃ x, x = K256.getD k 0 := ⟨_, rfl⟩
                  have ck : wr.cell? ⟨gk, k, none⟩ = some (.int .u32 (xk.toNat : Int)) := by
                    rw [cell_of_row wr gk k _ _ (0, 0) ((hB.block gk (by omega)).trans HKU.out), hxk, Hkc.out]; simp [W32, K256_length, hlt]
                  have cw : wr.cell? ⟨gw, k, none⟩ = some (.int .u32 (xw.toNat : Int)) := by
                    rw [cell_of_row wr gw k _ _ (0, 0) ((hB.block gw hwv).trans HW.out), hxw, List.getElem?_toArray]; exact wds_get? bl k hlt
                  have Hxw := Lib.hid hxw
                  have Hxk := Lib.hid hxk
                  clear hxw hxk
                  have c0 : wr.cell? ⟨gv, 0, none⟩ = some (.int .u32 (a0.toNat : Int)) := by rw [cell_of_row _ gv 0 _ _ (0, 0) HV.out]; rfl
                  have c1 : wr.cell? ⟨gv, 1, none⟩ = some (.int .u32 (a1.toNat : Int)) := by rw [cell_of_row _ gv 1 _ _ (0, 0) HV.out]; rfl
                  have c2 : wr.cell? ⟨gv, 2, none⟩ = some (.int .u32 (a2.toNat : Int)) := by rw [cell_of_row _ gv 2 _ _ (0, 0) HV.out]; rfl
                  have c3 : wr.cell? ⟨gv, 3, none⟩ = some (.int .u32 (a3.toNat : Int)) := by rw [cell_of_row _ gv 3 _ _ (0, 0) HV.out]; rfl
                  have c4 : wr.cell? ⟨gv, 4, none⟩ = some (.int .u32 (a4.toNat : Int)) := by rw [cell_of_row _ gv 4 _ _ (0, 0) HV.out]; rfl
                  have c5 : wr.cell? ⟨gv, 5, none⟩ = some (.int .u32 (a5.toNat : Int)) := by rw [cell_of_row _ gv 5 _ _ (0, 0) HV.out]; rfl
                  have c6 : wr.cell? ⟨gv, 6, none⟩ = some (.int .u32 (a6.toNat : Int)) := by rw [cell_of_row _ gv 6 _ _ (0, 0) HV.out]; rfl
                  have c7 : wr.cell? ⟨gv, 7, none⟩ = some (.int .u32 (a7.toNat : Int)) := by rw [cell_of_row _ gv 7 _ _ (0, 0) HV.out]; rfl
                  obtain ⟨r1, hr1⟩ : ∃ x, x = a4.rotateRight 6 := ⟨_, rfl⟩
                  have qr1 := rot_any a4 26 (by omega) (by omega)
                  rw [show a4.rotateLeft 26 = r1 from (rotr_rotl a4 6 (by omega) (by omega)).trans hr1.symm] at qr1
                  have Qr1 := Lib.hid qr1
                  clear qr1
                  obtain ⟨r2, hr2⟩ : ∃ x, x = a4.rotateRight 11 := ⟨_, rfl⟩
                  have qr2 := rot_any a4 21 (by omega) (by omega)
                  rw [show a4.rotateLeft 21 = r2 from (rotr_rotl a4 11 (by omega) (by omega)).trans hr2.symm] at qr2
                  have Qr2 := Lib.hid qr2
                  clear qr2
                  obtain ⟨r3, hr3⟩ : ∃ x, x = a4.rotateRight 25 := ⟨_, rfl⟩
                  have qr3 := rot_any a4 7 (by omega) (by omega)
                  rw [show a4.rotateLeft 7 = r3 from (rotr_rotl a4 25 (by omega) (by omega)).trans hr3.symm] at qr3
                  have Qr3 := Lib.hid qr3
                  clear qr3
                  obtain ⟨r4, hr4⟩ : ∃ x, x = a0.rotateRight 2 := ⟨_, rfl⟩
                  have qr4 := rot_any a0 30 (by omega) (by omega)
                  rw [show a0.rotateLeft 30 = r4 from (rotr_rotl a0 2 (by omega) (by omega)).trans hr4.symm] at qr4
                  have Qr4 := Lib.hid qr4
                  clear qr4
                  obtain ⟨r5, hr5⟩ : ∃ x, x = a0.rotateRight 13 := ⟨_, rfl⟩
                  have qr5 := rot_any a0 19 (by omega) (by omega)
                  rw [show a0.rotateLeft 19 = r5 from (rotr_rotl a0 13 (by omega) (by omega)).trans hr5.symm] at qr5
                  have Qr5 := Lib.hid qr5
                  clear qr5
                  obtain ⟨r6, hr6⟩ : ∃ x, x = a0.rotateRight 22 := ⟨_, rfl⟩
                  have qr6 := rot_any a0 10 (by omega) (by omega)
                  rw [show a0.rotateLeft 10 = r6 from (rotr_rotl a0 22 (by omega) (by omega)).trans hr6.symm] at qr6
                  have Qr6 := Lib.hid qr6
                  clear qr6
                  have Hr : Hid (Sig1 a4 = r1 ^^^ r2 ^^^ r3 ∧ Sig0 a0 = r4 ^^^ r5 ^^^ r6) := by subst hr1 hr2 hr3 hr4 hr5 hr6; exact ⟨rfl, rfl⟩
                  clear hr1 hr2 hr3 hr4 hr5 hr6
                  go_wp2_with fail
                  refine wp_region_plan [(0, 0), (1, 1), (2, 0), (3, 1), (5, 0), (6, 1), (9, 0), (10, 1), (14, 0), (15, 1), (16, 0), (17, 1), (18, 0), (19, 0), (20, 1), (21, 0), (22, 0), (23, 1), (24, 0), (25, 0), (27, 0), (28, 0), (29, 1), (31, 0), (32, 0), (33, 1), (4, 2), (7, 2), (8, 0), (11, 2), (12, 0), (13, 0), (26, 0), (30, 0), (34, 0), (35, 0)] 36 hmx (by kernel_rfl) (by intro c a d v w h; cases d <;> exact h) ?_
                  repeat ((first | (refine wpPlan_pure rfl (fun K hK => ?_)) | (refine wpPlan_quiet rfl (fun K hK => ?_))); go_simp; (first | (refine hK _ ?_) | (simp only [IntWalk.iteOmega]; go_simp; refine hK _ ?_) | (go_bits; go_simp; refine hK _ ?_)); clear hK K; (try go_bits))
                  refine wpPlan_loud rfl rfl (fun K hK => ?_)
                  go_wp2_with (go_at_call 54; refine (Qr1.out _).mono ?_; rintro e w' ⟨rfl, rfl⟩)
                  refine ⟨(by first | exact .inr (Ext.refl _) | exact Ext.refl _), ?_⟩
                  repeat ((first | (refine wpPlan_pure rfl (fun K hK => ?_)) | (refine wpPlan_quiet rfl (fun K hK => ?_))); go_simp; (first | (refine hK _ ?_) | (simp only [IntWalk.iteOmega]; go_simp; refine hK _ ?_) | (go_bits; go_simp; refine hK _ ?_)); clear hK K; (try go_bits))
                  refine wpPlan_loud rfl rfl (fun K hK => ?_)
                  go_wp2_with (go_at_call 54; refine (Qr2.out _).mono ?_; rintro e w' ⟨rfl, rfl⟩)
                  refine ⟨(by first | exact .inr (Ext.refl _) | exact Ext.refl _), ?_⟩
                  repeat ((first | (refine wpPlan_pure rfl (fun K hK => ?_)) | (refine wpPlan_quiet rfl (fun K hK => ?_))); go_simp; (first | (refine hK _ ?_) | (simp only [IntWalk.iteOmega]; go_simp; refine hK _ ?_) | (go_bits; go_simp; refine hK _ ?_)); clear hK K; (try go_bits))
                  refine wpPlan_loud rfl rfl (fun K hK => ?_)
                  go_wp2_with (go_at_call 54; refine (Qr3.out _).mono ?_; rintro e w' ⟨rfl, rfl⟩)
                  refine ⟨(by first | exact .inr (Ext.refl _) | exact Ext.refl _), ?_⟩
                  repeat ((first | (refine wpPlan_pure rfl (fun K hK => ?_)) | (refine wpPlan_quiet rfl (fun K hK => ?_))); go_simp; (first | (refine hK _ ?_) | (simp only [IntWalk.iteOmega]; go_simp; refine hK _ ?_) | (go_bits; go_simp; refine hK _ ?_)); clear hK K; (try go_bits))
                  refine wpPlan_nil ?_
                  go_wp2_with fail
                  rw [sp_t a7 a4 a5 a6 xk xw r1 r2 r3, ← Hr.out.1]
                  obtain ⟨T, hT⟩ : ∃ T, T = a7 + Sig1 a4 + ch a4 a5 a6 + xk + xw := ⟨_, rfl⟩
                  rw [← hT]
                  have HT := Lib.hid hT
                  clear hT
                  refine wp_region_plan [(0, 0), (1, 1), (3, 0), (4, 1), (7, 0), (8, 1), (11, 0), (12, 1), (13, 0), (14, 1), (15, 0), (16, 0), (17, 1), (18, 0), (19, 1), (20, 0), (21, 0), (22, 0), (23, 1), (24, 0), (25, 1), (26, 0), (27, 0), (2, 2), (5, 2), (6, 0), (9, 2), (10, 0), (28, 0), (29, 0)] 30 hmx (by kernel_rfl) (by intro c a d v w h; cases d <;> exact h) ?_
                  repeat ((first | (refine wpPlan_pure rfl (fun K hK => ?_)) | (refine wpPlan_quiet rfl (fun K hK => ?_))); go_simp; (first | (refine hK _ ?_) | (simp only [IntWalk.iteOmega]; go_simp; refine hK _ ?_) | (go_bits; go_simp; refine hK _ ?_)); clear hK K; (try go_bits))
                  refine wpPlan_loud rfl rfl (fun K hK => ?_)
                  go_wp2_with (go_at_call 54; refine (Qr4.out _).mono ?_; rintro e w' ⟨rfl, rfl⟩)
                  refine ⟨(by first | exact .inr (Ext.refl _) | exact Ext.refl _), ?_⟩
                  repeat ((first | (refine wpPlan_pure rfl (fun K hK => ?_)) | (refine wpPlan_quiet rfl (fun K hK => ?_))); go_simp; (first | (refine hK _ ?_) | (simp only [IntWalk.iteOmega]; go_simp; refine hK _ ?_) | (go_bits; go_simp; refine hK _ ?_)); clear hK K; (try go_bits))
                  refine wpPlan_loud rfl rfl (fun K hK => ?_)
                  go_wp2_with (go_at_call 54; refine (Qr5.out _).mono ?_; rintro e w' ⟨rfl, rfl⟩)
                  refine ⟨(by first | exact .inr (Ext.refl _) | exact Ext.refl _), ?_⟩
                  repeat ((first | (refine wpPlan_pure rfl (fun K hK => ?_)) | (refine wpPlan_quiet rfl (fun K hK => ?_))); go_simp; (first | (refine hK _ ?_) | (simp only [IntWalk.iteOmega]; go_simp; refine hK _ ?_) | (go_bits; go_simp; refine hK _ ?_)); clear hK K; (try go_bits))
                  refine wpPlan_loud rfl rfl (fun K hK => ?_)
                  go_wp2_with (go_at_call 54; refine (Qr6.out _).mono ?_; rintro e w' ⟨rfl, rfl⟩)
                  refine ⟨(by first | exact .inr (Ext.refl _) | exact Ext.refl _), ?_⟩
                  repeat ((first | (refine wpPlan_pure rfl (fun K hK => ?_)) | (refine wpPlan_quiet rfl (fun K hK => ?_))); go_simp; (first | (refine hK _ ?_) | (simp only [IntWalk.iteOmega]; go_simp; refine hK _ ?_) | (go_bits; go_simp; refine hK _ ?_)); clear hK K; (try go_bits))
                  refine wpPlan_nil ?_
                  rw [sp_u a0 a1 a2 r4 r5 r6, ← Hr.out.2]
                  obtain ⟨U, hU⟩ : ∃ U, U = Sig0 a0 + maj a0 a1 a2 := ⟨_, rfl⟩
                  rw [← hU]
                  have HU := Lib.hid hU
                  clear hU
                  go_wp2_with (first | (refine wpList_build rfl 69 _ rfl (by kernel_rfl) ?_; rw [show (Tryd.prog.built 69 _).getD #[] = #[.int .u32 (((T.toNat : Int) + (U.toNat : Int)) % 4294967296), .int .u32 (a0.toNat : Int), .int .u32 (a1.toNat : Int), .int .u32 (a2.toNat : Int), .int .u32 (((a3.toNat : Int) + (T.toNat : Int)) % 4294967296), .int .u32 (a4.toNat : Int), .int .u32 (a5.toNat : Int), .int .u32 (a6.toNat : Int)] from by kernel_rfl]) | (refine wpList_store_row rfl 69 (.tmp 13) (.tmp 196) rfl gv #[.int .u32 (((T.toNat : Int) + (U.toNat : Int)) % 4294967296), .int .u32 (a0.toNat : Int), .int .u32 (a1.toNat : Int), .int .u32 (a2.toNat : Int), .int .u32 (((a3.toNat : Int) + (T.toNat : Int)) % 4294967296), .int .u32 (a4.toNat : Int), .int .u32 (a5.toNat : Int), .int .u32 (a6.toNat : Int)] rfl rfl 69 _ HV.out (by kernel_rfl) rfl (one8 _ _ _ _ _ _ _ _) ?_) | fail)
                  refine ⟨⟨k + 1, T + U, a0, a1, a2, a3 + T, a4, a5, a6, by omega, rfl, Lib.hid ?_, Lib.hid ?_, below_setRow' hB.drew.drew (Nat.le_refl _) _⟩, by simp [intOf]; omega⟩
                  · show rnd _ _ (rnds K256 bl _ k) = _
                    rw [hR.out, ← Hxk.out, ← Hxw.out, HT.out, HU.out]; rfl
                  · rw [setRow_heap wr.drew.drew gv _ _ _ _ HV.out, sp_add, sp_add]
                · obtain rfl : k = 64 := by omega
                  obtain ⟨ss, hss⟩ : ∃ ss, ss = [s0, s1, s2, s3, s4, s5, s6, s7] := ⟨_, rfl⟩
                  obtain ⟨vs, hvs⟩ : ∃ vs, vs = [a0, a1, a2, a3, a4, a5, a6, a7] := ⟨_, rfl⟩
                  have hl1 : ss.length = 8 := by rw [hss]; rfl
                  have hl2 : vs.length = 8 := by rw [hvs]; rfl
                  have hG : wr.heap[gh]? = some (.cells (W32 ss ++ []).toArray 69 (0, 0)) := by
                    rw [hss, List.append_nil, ← Hhv.out]; exact (hB.block gh (by omega)).trans HHU.out
                  have hv : wr.heap[gv]? = some (.cells (W32 vs).toArray 69 (0, 0)) := by rw [hvs]; exact HV.out
                  have hfin : Hid (stepW K256 bl [s0, s1, s2, s3, s4, s5, s6, s7] = List.zipWith (· + ·) ss vs) := Lib.hid (by rw [stepW, hR.out, hss, hvs])
                  have hgr4 : wf.grownBy wr (some gh) := grown_below (grown_below hgr hbw (by rw [Hgw.out]; exact hgr.size)) hB (by have h1 := hgr.size; rw [← Hgw.out] at h1; omega)
                  have hgvr : gv < wr.heap.size := (Array.getElem?_eq_some_iff.1 hv).1
                  have HG := Lib.hid hG
                  have HV4 := Lib.hid hv
                  clear hss hvs hR hG hv hB HV hgr
                  try rw [show ((64 : Nat) : Int) = 64 from rfl]
                  go_wp2_with fail
                  go_loopw [17] (fun i wq => ∃ k : Nat, k ≤ 8 ∧ i = .int .i64 k ∧ Hid (wq.heap[gh]? = some (.cells (W32 (mixed ss vs k) ++ []).toArray 69 (0, 0))) ∧ Hid (wq.heap[gv]? = some (.cells (W32 vs).toArray 69 (0, 0))) ∧ wf.grownBy wq (some gh)) (fun i _ => 8 - (intOf i).toNat)
                  case atStart => exact ⟨0, Nat.zero_le _, rfl, by rw [mixed_zero]; exact HG, HV4, hgr4⟩
                  case round =>
                    clear HG HV4 hgr4
                    obtain ⟨k, hk, rfl, hG, hV, hgr⟩ := hrel
                    by_cases hlt : k < 8
                    · obtain ⟨x, hx⟩ : ∃ x, x = ss.getD k 0 := ⟨_, rfl⟩
                      obtain ⟨y, hy⟩ : ∃ y, y = vs.getD k 0 := ⟨_, rfl⟩
                      have cx : wr.cell? ⟨gh, k, none⟩ = some (.int .u32 (x.toNat : Int)) := by rw [cell_of_row wr gh k _ _ (0, 0) hG.out, mixed_at ss vs hl1 hl2 [] k hlt, hx]
                      have cy : wr.cell? ⟨gv, k, none⟩ = some (.int .u32 (y.toNat : Int)) := by rw [cell_of_row wr gv k _ _ (0, 0) hV.out, hy]; simp [W32, hl2, hlt]
                      have fx := frozen_of_row wr gh k _ _ hG.out
                      have Hx := Lib.hid hx
                      have Hy := Lib.hid hy
                      clear hx hy
                      go_wp2_with fail
                      refine wp_region_plan [(0, 0), (1, 0), (2, 0), (3, 1), (4, 0), (5, 0), (6, 1), (7, 0), (8, 0), (9, 2)] 9 hmx (by kernel_rfl) (by intro c a d v w h; cases d <;> exact h) ?_
                      repeat ((first | (refine wpPlan_pure rfl (fun K hK => ?_)) | (refine wpPlan_quiet rfl (fun K hK => ?_))); go_simp; (first | (refine hK _ ?_) | (simp only [IntWalk.iteOmega]; go_simp; refine hK _ ?_) | (go_bits; go_simp; refine hK _ ?_)); clear hK K; (try go_bits))
                      refine wpPlan_loud rfl rfl (fun K hK => ?_)
                      go_wp2
                      refine ⟨.inl (by decide), wpPlan_nil ?_⟩
                      go_wp2
                      rw [sp_add]
                      refine ⟨⟨k + 1, by omega, rfl, Lib.hid ?_, Lib.hid ?_, ?_⟩, by simp [intOf]; omega⟩
                      · rw [heap_drew, heap_setCell_same _ gh k _ _ _ hG.out, Hx.out, Hy.out, mixed_set ss vs hl1 hl2 [] k hlt]
                      · rw [heap_drew, heap_setCell_other _ _ _ _ (by show gv ≠ gh; omega)]; exact hV.out
                      · exact ⟨hgr.os, hgr.tape, hgr.output, by have := hgr.size; simpa using this, fun j hj hne => by rw [heap_drew, heap_setCell_other _ _ _ _ (by show j ≠ gh; exact fun e => hne (by rw [e]))]; exact hgr.block j hj hne⟩
                    · obtain rfl : k = 8 := by omega
                      go_wp2_with fail
                      refine ⟨⟨j + 1, a + 64, Lib.hid (by rw [Ha.out]; omega), haN2, rfl, hgr, Lib.hid ?_⟩, by simp [intOf]; omega⟩
                      rw [hG.out, mixed_end ss vs hl1 hl2, List.append_nil, ← hfin.out, blk, Hss.out, ← Hbl.out]
    · obtain ⟨wE, hwE⟩ : ∃ wE, wE = wr := ⟨_, rfl⟩
      subst hwE
      obtain ⟨st5, hst5⟩ : ∃ st, st = blk H256 M j := ⟨_, rfl⟩
      have hl5 : st5.length = 8 := by rw [hst5, blk_length]; rfl
      have hj5 : j = M.length / 64 := by have := Ha.out; have := HN.out; omega
      have Hst5 : Hid (be32 st5 = sha b) := Lib.hid (by rw [hst5, hj5, HM.out]; rfl)
      have hHE : wE.heap[gh]? = some (.cells (W32 st5).toArray 69 (0, 0)) := by rw [hst5]; exact HH.out
      have HHE := Lib.hid hHE
      have hgo : wE.heap[w.heap.size]? = some (.cells (Array.replicate 32 (.int .u8 0)) 42 (0, 0)) := (hgr.block w.heap.size (by omega) (fun e => by injection e with e; omega)).trans HOf.out
      have Hgo := Lib.hid hgo
      have hzE := hgr.size
      have hBE := hBf.grown hgr (by have := hBf.size; omega) (fun r hr => by injection hr with hr; omega)
      clear hst5 hj5 hHE hgo
      go_wp2_with fail
      obtain ⟨gz, hgz⟩ : ∃ gz, gz = wE.heap.size := ⟨_, rfl⟩
      obtain ⟨w5, hw5⟩ : ∃ w5, w5 = wE.alloc (.cells (Array.replicate 32 (.int .u8 0)) 42) := ⟨_, rfl⟩
      rw [← hgz]
      refine (show w5 = _ from hw5) ▸ ?_
      have hF5 : Fill w5 gz 42 32 (B8 (be32 st5)) 0 := by rw [hw5, hgz]; exact Fill.new' wE _ 32 (.int .u8 0) _
      have hB5 : Below gz wE w5 := by rw [hw5, hgz]; exact (Below.refl _ _).alloc (Nat.le_refl _) _
      have hghz : gh < gz := by omega
      have hgoz : w.heap.size < gz := by omega
      have Hgz := Lib.hid hgz
      have Hdec : Hid (decide ((a : Int) < (N : Int)) = false) := Lib.hid (by simp; omega)
      clear hw5 hgz
      go_loopw [19] (fun i wr => ∃ k : Nat, k ≤ 32 ∧ i = .int .i64 k ∧ Fill wr gz 42 32 (B8 (be32 st5)) k ∧ Below gz wE wr) (fun i _ => 32 - (intOf i).toNat)
      case atStart => exact ⟨0, Nat.zero_le _, rfl, hF5, hB5⟩
      case round =>
        clear hF5 hB5
        obtain ⟨k, hk, rfl, hfill, hb5⟩ := hrel
        by_cases hlt5 : k < 32
        · obtain ⟨m4, hm4⟩ : ∃ m, m = k / 4 := ⟨_, rfl⟩
          have em4 : (k : Int) / 4 = (m4 : Int) := by omega
          have hm48 : m4 < 8 := by omega
          obtain ⟨sh, hsh⟩ : ∃ sh, sh = 24 - 8 * (k % 4) := ⟨_, rfl⟩
          have esh : (24 : Int) - 8 * ((k : Int) % 4) = (sh : Int) := by omega
          obtain ⟨x, hx⟩ : ∃ x, x = st5[m4] := ⟨_, rfl⟩
          have cx : wr.cell? ⟨gh, m4, none⟩ = some (.int .u32 (x.toNat : Int)) := by
            rw [cell_of_row wr gh m4 _ _ (0, 0) ((hb5.block gh hghz).trans HHE.out), hx]; simp [W32, hl5, hm48]
          obtain ⟨v0, hv0⟩ := hfill.cell hlt5
          have hfz := hfill.frozen k
          have hx32 := x.isLt
          have hbe := be32_at st5 k (by omega)
          have Hbe : Hid ((be32 st5)[k]? = some (UInt8.ofNat (x.toNat / 2 ^ sh))) := Lib.hid (by rw [hbe, hx, hsh]; simp [hm4])
          have hsh24 : sh ≤ 24 := by omega
          clear hbe hx hm4 hsh
          go_wp2_with fail
          have hv : (B8 (be32 st5))[k]? = some (Value.int IntKind.u8 ((x.toNat : Int) / 2 ^ sh % 256)) := by
            rw [B8, List.getElem?_map, Hbe.out]
            show some (Value.int IntKind.u8 ((UInt8.ofNat (x.toNat / 2 ^ sh)).toNat : Int)) = _
            rw [UInt8.toNat_ofNat', Int.natCast_emod, Int.natCast_ediv, Int.natCast_pow]; rfl
          exact ⟨⟨k + 1, by omega, rfl, hfill.set hlt5 hv, hb5.setCell (p := ⟨gz, k, none⟩) (Nat.le_refl _) _⟩, by simp [intOf]; omega⟩
        · obtain rfl : k = 32 := by omega
          obtain ⟨oc, hoc⟩ : ∃ oc, oc = (B8 (be32 st5)).toArray := ⟨_, rfl⟩
          have hol : (be32 st5).length = 32 := by rw [be32_length, hl5]
          have hocz : oc.size = 32 := by rw [hoc]; simp [hol]
          have Hoinf : Hid ((Tryd.prog.info? 42).map (·.size) = some oc.size) := Lib.hid (by rw [hocz]; kernel_rfl)
          have Hocz : Hid ((Array.replicate 32 (Value.int .u8 0)).size = oc.size) := Lib.hid (by rw [hocz]; simp)
          have Hone : Hid (oc.all (·.oneCell') = true) := Lib.hid (by rw [hoc]; exact all_oneCell_toArray (B8_oneCell _))
          have hdone := hfill.done (by simp [hol])
          rw [← hoc] at hdone
          have Hdone := Lib.hid hdone
          have Houtr := Lib.hid ((hb5.block w.heap.size hgoz).trans Hgo.out)
          have Hoc := Lib.hid hoc
          clear hdone hoc hocz hfill
          go_wp2_with (first | (refine wpList_load_row rfl 42 (.tmp 18) rfl gz rfl 42 oc (0, 0) (.array 32 5) Hdone.out (by kernel_rfl) rfl Hoinf.out ?_) | (refine wpList_store_row rfl 42 (.tmp 2) (.tmp 227) rfl w.heap.size oc rfl rfl 42 _ Houtr.out Hoinf.out Hocz.out Hone.out ?_) | fail)
          refine bodyPost_ret (v := .agg oc) ?_ rfl ⟨by rw [Hoc.out, Hst5.out], below_setRow' (hBE.trans (hb5.mono (by omega))) (Nat.le_refl _) _⟩
          exact results_cell_row rfl _ _ w.heap.size 42 oc (0, 0) (.array 32 5) rfl (setRow_heap _ _ _ _ _ _ Houtr.out) (by kernel_rfl) rfl Hoinf.out
end Go.Proofs.YtmfligfcejhjaaaDoor
