/- hash.step, walked. -/
import Derived.Test.YtcjioogololnoaaGreatDoorU6
import Derived.Test.YtcjioogololnoaaGreatDoorU6
import Derived.Test.YtcjioogololnoaaGreatDoorU1
import Derived.BigQuiet
import Derived.Shelf.RegionOpen
import Derived.Deep.QuietTactic
import Derived.StillTailTactics
import Derived.Deep.RegionHeld3
import Derived.Deep.RegionWith
import Derived.Deep.WholeRow
namespace Go.Proofs.YtcjioogololnoaaGreatDoor
open Go.RowKit Go.Shelf

set_option maxRecDepth 100000 in
set_option maxHeartbeats 8000000 in
theorem step_any (gs gk E1 E2 : Nat) (st : List (BitVec 32)) (hst : st.length = 8) (rest : List Value) (ks : List (BitVec 32)) (hks : ks.length = 64) (A : Option Addr) (c : Nat) (b : List UInt8) (hb : b.length = 64) (w : World)
    (hgs : w.heap[gs]? = some (.cells (W32 st ++ rest).toArray E1 (0, 0))) (hgk : w.heap[gk]? = some (.cells (W32 ks).toArray E2 (0, 0))) (hne : gs ≠ gk) (hs : Sl w w.heap.size A (B8 b)) :
    Calls Tryz.prog 191 #[.pointer (some ⟨gs, 0, none⟩), .pointer (some ⟨gk, 0, none⟩), .slice A 64 c] w fun e W' => e = .returned (.tuple #[]) ∧ W'.heap[gs]? = some (.cells (W32 (stepW ks b st) ++ rest).toArray E1 (0, 0)) ∧ w.grownBy W' (some gs) := by
  obtain ⟨s0, s1, s2, s3, s4, s5, s6, s7, rfl⟩ : ∃ s0 s1 s2 s3 s4 s5 s6 s7, st = [s0, s1, s2, s3, s4, s5, s6, s7] := by
    match st, hst with
    | [s0, s1, s2, s3, s4, s5, s6, s7], _ => exact ⟨s0, s1, s2, s3, s4, s5, s6, s7, rfl⟩
  have hsl := hs
  obtain ⟨bb, bo, rfl, hbb, hbc⟩ := hs.at_ (k := 0) (by omega)
  clear hs
  have Hgs := Lib.hid hgs
  have Hgk := Lib.hid hgk
  clear hgs hgk
  go_enter Tryz.func191, Tryz.ntmps191
  go_wp2
  go_loopw [18] (fun i wr => ∃ k : Nat, k ≤ 64 ∧ i = .int .i64 k ∧ Fill wr w.heap.size 242 64 (W32 (wds b)) k ∧ Below w.heap.size w wr) (fun i _ => 64 - (intOf i).toNat)
  case atStart => 
    exact ⟨0, Nat.zero_le _, rfl, Fill.new w _ _ _, (Below.refl _ w).alloc (Nat.le_refl _) _⟩
  case round =>
    obtain ⟨k, hk, rfl, hfill, hbw⟩ := hrel
    by_cases hlt : k < 64
    · by_cases h16 : k < 16
      · have hbw' := hsl.below hbw
        have hcell : ∀ j, j < 4 → wr.cell? ⟨bb, bo + (4 * k + j), none⟩ = some (.int .u8 (((b.getD (4 * k + j) 0).toBitVec.setWidth 32).toNat : Int)) := fun j hj => by
          obtain ⟨b', o', e, _, hc⟩ := hbw'.at_ (k := 0) (by omega)
          cases e
          rw [hc (4 * k + j) (by omega), ← sp_byte, List.getD_eq_getElem?_getD, List.getElem?_eq_getElem (by omega)]; rfl
        have c0 := hcell 0 (by omega)
        have c1 := hcell 1 (by omega)
        have c2 := hcell 2 (by omega)
        have c3 := hcell 3 (by omega)
        rw [Nat.add_zero] at c0
        obtain ⟨x0, hx0⟩ : ∃ x0, x0 = (b.getD (4 * k) 0).toBitVec.setWidth 32 := ⟨_, rfl⟩
        obtain ⟨x1, hx1⟩ : ∃ x1, x1 = (b.getD (4 * k + 1) 0).toBitVec.setWidth 32 := ⟨_, rfl⟩
        obtain ⟨x2, hx2⟩ : ∃ x2, x2 = (b.getD (4 * k + 2) 0).toBitVec.setWidth 32 := ⟨_, rfl⟩
        obtain ⟨x3, hx3⟩ : ∃ x3, x3 = (b.getD (4 * k + 3) 0).toBitVec.setWidth 32 := ⟨_, rfl⟩
        rw [← hx0] at c0
        rw [← hx1] at c1
        rw [← hx2] at c2
        rw [← hx3] at c3
        have Hx : Hid (word b k = x0 <<< 24 ||| x1 <<< 16 ||| x2 <<< 8 ||| x3) := by subst hx0 hx1 hx2 hx3; rfl
        clear hx0 hx1 hx2 hx3 hcell hbw' hb hsl
        have hmx : Tryz.prog.follows .mixedOrders = true := by kernel_rfl
        obtain ⟨v0, hv0⟩ := hfill.cell hlt
        have hfz := hfill.frozen k
        go_wp2
        refine wp_region_plan [(0, 0), (1, 0), (2, 0), (3, 0), (4, 0), (5, 1), (6, 0), (7, 0), (8, 0), (9, 0), (10, 0), (11, 0), (12, 0), (13, 1), (14, 0), (15, 0), (16, 0), (17, 0), (18, 0), (19, 0), (20, 0), (21, 0), (22, 1), (23, 0), (24, 0), (25, 0), (26, 0), (27, 0), (28, 0), (29, 0), (30, 0), (31, 1), (32, 0), (33, 0), (34, 0), (35, 2)] 35 hmx (by kernel_rfl) (by intro c a d v w h; cases d <;> exact h) ?_
        repeat ((first | (refine wpPlan_pure rfl (fun K hK => ?_)) | (refine wpPlan_quiet rfl (fun K hK => ?_))); go_simp; (first | (refine hK _ ?_) | (simp only [IntWalk.iteOmega]; go_simp; refine hK _ ?_) | (go_bits; go_simp; refine hK _ ?_)); clear hK K; (try go_bits))
        refine wpPlan_loud rfl rfl (fun K hK => ?_)
        go_wp2
        refine ⟨.inl (by decide), wpPlan_nil ?_⟩
        go_wp2
        have e : bits .or .u32 (bits .or .u32 (bits .or .u32 ((x0.toNat : Int) * 16777216 % 4294967296) ((x1.toNat : Int) * 65536 % 4294967296)) ((x2.toNat : Int) * 256 % 4294967296)) (x3.toNat : Int) = ((wd b k).toNat : Int) := by
          rw [wd_lo b k h16, Hx.out, ← sp_or, ← sp_or, ← sp_or, ← sp_shl, ← sp_shl, ← sp_shl]; rfl
        rw [e]
        exact ⟨⟨k + 1, by omega, by go_num, hfill.set hlt (wds_get? b k hlt) |>.drew, (hbw.setCell (p := ⟨w.heap.size, k, none⟩) (Nat.le_refl _) _).drew⟩, by simp [intOf]; omega⟩
      · obtain ⟨a16, h16'⟩ : ∃ m, m = k - 16 := ⟨_, rfl⟩
        obtain ⟨a15, h15'⟩ : ∃ m, m = k - 15 := ⟨_, rfl⟩
        obtain ⟨a7, h7'⟩ : ∃ m, m = k - 7 := ⟨_, rfl⟩
        obtain ⟨a2, h2'⟩ : ∃ m, m = k - 2 := ⟨_, rfl⟩
        have e16 : (k : Int) - 16 = (a16 : Int) := by omega
        have e15 : (k : Int) - 15 = (a15 : Int) := by omega
        have e7 : (k : Int) - 7 = (a7 : Int) := by omega
        have e2 : (k : Int) - 2 = (a2 : Int) := by omega
        have l16 : a16 < 64 := by omega
        have l15 : a15 < 64 := by omega
        have l7 : a7 < 64 := by omega
        have l2 : a2 < 64 := by omega
        have c16 := hfill.known (j := a16) (by omega) (wds_get? b a16 (by omega))
        have c15 := hfill.known (j := a15) (by omega) (wds_get? b a15 (by omega))
        have c7 := hfill.known (j := a7) (by omega) (wds_get? b a7 (by omega))
        have c2 := hfill.known (j := a2) (by omega) (wds_get? b a2 (by omega))
        have Hx : Hid (wd b k = wd b a16 + wd b a7 + sig0 (wd b a15) + sig1 (wd b a2)) := by subst h16' h15' h7' h2'; exact wd_hi b k h16
        clear h16' h15' h7' h2' hsl
        obtain ⟨x16, hx16⟩ : ∃ x, x = wd b a16 := ⟨_, rfl⟩
        obtain ⟨x15, hx15⟩ : ∃ x, x = wd b a15 := ⟨_, rfl⟩
        obtain ⟨x7, hx7⟩ : ∃ x, x = wd b a7 := ⟨_, rfl⟩
        obtain ⟨x2, hx2⟩ : ∃ x, x = wd b a2 := ⟨_, rfl⟩
        rw [← hx16] at c16 Hx
        rw [← hx15] at c15 Hx
        rw [← hx7] at c7 Hx
        rw [← hx2] at c2 Hx
        clear hx16 hx15 hx7 hx2
        have hmx : Tryz.prog.follows .mixedOrders = true := by kernel_rfl
        obtain ⟨v0, hv0⟩ := hfill.cell hlt
        have hfz := hfill.frozen k
        go_wp2
        refine wp_region_plan [(0, 0), (1, 0), (2, 0), (3, 1), (4, 0), (5, 0), (6, 0), (7, 1), (8, 0), (9, 0)] 10 hmx (by kernel_rfl) (by intro c a d v w h; cases d <;> exact h) ?_
        repeat ((first | (refine wpPlan_pure rfl (fun K hK => ?_)) | (refine wpPlan_quiet rfl (fun K hK => ?_))); go_simp; (first | (refine hK _ ?_) | (simp only [IntWalk.iteOmega]; go_simp; refine hK _ ?_) | (go_bits; go_simp; refine hK _ ?_)); clear hK K; (try go_bits))
        refine wpPlan_nil ?_
        go_wp2
        obtain ⟨r1, hr1⟩ : ∃ x, x = x15.rotateRight 7 := ⟨_, rfl⟩
        obtain ⟨r2, hr2⟩ : ∃ x, x = x15.rotateRight 18 := ⟨_, rfl⟩
        obtain ⟨r3, hr3⟩ : ∃ x, x = x2.rotateRight 17 := ⟨_, rfl⟩
        obtain ⟨r4, hr4⟩ : ∃ x, x = x2.rotateRight 19 := ⟨_, rfl⟩
        have q1 := right_any x15 7 (by omega) (by omega)
        have q2 := right_any x15 18 (by omega) (by omega)
        have q3 := right_any x2 17 (by omega) (by omega)
        have q4 := right_any x2 19 (by omega) (by omega)
        rw [← hr1] at q1
        rw [← hr2] at q2
        rw [← hr3] at q3
        rw [← hr4] at q4
        have Hr : Hid (sig0 x15 = r1 ^^^ r2 ^^^ (x15 >>> 3) ∧ sig1 x2 = r3 ^^^ r4 ^^^ (x2 >>> 10)) := by subst hr1 hr2 hr3 hr4; exact ⟨rfl, rfl⟩
        clear hr1 hr2 hr3 hr4
        have Q1 := Lib.hid q1
        have Q2 := Lib.hid q2
        have Q3 := Lib.hid q3
        have Q4 := Lib.hid q4
        clear q1 q2 q3 q4
        refine wp_region_plan [(0, 0), (1, 0), (2, 0), (3, 0), (4, 1), (5, 0), (6, 0), (7, 0), (8, 1), (9, 0), (10, 0), (12, 0), (15, 0), (16, 0), (19, 0), (21, 0), (24, 0), (25, 0), (11, 2), (13, 2), (14, 0), (17, 0), (18, 0), (20, 2), (22, 2), (23, 0), (26, 0), (27, 0), (28, 0), (29, 2)] 29 hmx (by kernel_rfl) (by intro c a d v w h; cases d <;> exact h) ?_
        repeat ((first | (refine wpPlan_pure rfl (fun K hK => ?_)) | (refine wpPlan_quiet rfl (fun K hK => ?_))); go_simp; (first | (refine hK _ ?_) | (simp only [IntWalk.iteOmega]; go_simp; refine hK _ ?_) | (go_bits; go_simp; refine hK _ ?_)); clear hK K; (try go_bits))
        refine wpPlan_loud rfl rfl (fun K hK => ?_)
        go_wp2_with (go_at_call 208; refine (Q1.out _).mono ?_; rintro e w' ⟨rfl, rfl⟩)
        refine ⟨.inr (Ext.refl _), ?_⟩
        repeat ((first | (refine wpPlan_pure rfl (fun K hK => ?_)) | (refine wpPlan_quiet rfl (fun K hK => ?_))); go_simp; (first | (refine hK _ ?_) | (simp only [IntWalk.iteOmega]; go_simp; refine hK _ ?_) | (go_bits; go_simp; refine hK _ ?_)); clear hK K; (try go_bits))
        refine wpPlan_loud rfl rfl (fun K hK => ?_)
        go_wp2_with (go_at_call 208; refine (Q2.out _).mono ?_; rintro e w' ⟨rfl, rfl⟩)
        refine ⟨.inr (Ext.refl _), ?_⟩
        repeat ((first | (refine wpPlan_pure rfl (fun K hK => ?_)) | (refine wpPlan_quiet rfl (fun K hK => ?_))); go_simp; (first | (refine hK _ ?_) | (simp only [IntWalk.iteOmega]; go_simp; refine hK _ ?_) | (go_bits; go_simp; refine hK _ ?_)); clear hK K; (try go_bits))
        refine wpPlan_loud rfl rfl (fun K hK => ?_)
        go_wp2_with (go_at_call 208; refine (Q3.out _).mono ?_; rintro e w' ⟨rfl, rfl⟩)
        refine ⟨.inr (Ext.refl _), ?_⟩
        repeat ((first | (refine wpPlan_pure rfl (fun K hK => ?_)) | (refine wpPlan_quiet rfl (fun K hK => ?_))); go_simp; (first | (refine hK _ ?_) | (simp only [IntWalk.iteOmega]; go_simp; refine hK _ ?_) | (go_bits; go_simp; refine hK _ ?_)); clear hK K; (try go_bits))
        refine wpPlan_loud rfl rfl (fun K hK => ?_)
        go_wp2_with (go_at_call 208; refine (Q4.out _).mono ?_; rintro e w' ⟨rfl, rfl⟩)
        refine ⟨.inr (Ext.refl _), ?_⟩
        repeat ((first | (refine wpPlan_pure rfl (fun K hK => ?_)) | (refine wpPlan_quiet rfl (fun K hK => ?_))); go_simp; (first | (refine hK _ ?_) | (simp only [IntWalk.iteOmega]; go_simp; refine hK _ ?_) | (go_bits; go_simp; refine hK _ ?_)); clear hK K; (try go_bits))
        refine wpPlan_loud rfl rfl (fun K hK => ?_)
        go_wp2
        refine ⟨.inl (by decide), wpPlan_nil ?_⟩
        go_wp2
        rw [sp_s0 x15 r1 r2, sp_s1 x2 r3 r4, ← Hr.out.1, ← Hr.out.2, sp_add4, ← Hx.out]
        exact ⟨⟨k + 1, by omega, by go_num, hfill.set hlt (wds_get? b k hlt) |>.drew, (hbw.setCell (p := ⟨w.heap.size, k, none⟩) (Nat.le_refl _) _).drew.drew⟩, by simp [intOf]; omega⟩
    · obtain rfl : k = 64 := by omega
      have hW := hfill.done (by simp [wds_length])
      have HW := Lib.hid hW
      clear hW hfill
      have hgs := (hbw.block gs (by have := (Array.getElem?_eq_some_iff.1 Hgs.out).1; exact this)).trans Hgs.out
      have hgk := (hbw.block gk (by have := (Array.getElem?_eq_some_iff.1 Hgk.out).1; exact this)).trans Hgk.out
      have c0 : wr.cell? ⟨gs, 0, none⟩ = some (.int .u32 (s0.toNat : Int)) := by rw [cell_of_row wr gs 0 _ E1 (0, 0) hgs]; rfl
      have c1 : wr.cell? ⟨gs, 1, none⟩ = some (.int .u32 (s1.toNat : Int)) := by rw [cell_of_row wr gs 1 _ E1 (0, 0) hgs]; rfl
      have c2 : wr.cell? ⟨gs, 2, none⟩ = some (.int .u32 (s2.toNat : Int)) := by rw [cell_of_row wr gs 2 _ E1 (0, 0) hgs]; rfl
      have c3 : wr.cell? ⟨gs, 3, none⟩ = some (.int .u32 (s3.toNat : Int)) := by rw [cell_of_row wr gs 3 _ E1 (0, 0) hgs]; rfl
      have c4 : wr.cell? ⟨gs, 4, none⟩ = some (.int .u32 (s4.toNat : Int)) := by rw [cell_of_row wr gs 4 _ E1 (0, 0) hgs]; rfl
      have c5 : wr.cell? ⟨gs, 5, none⟩ = some (.int .u32 (s5.toNat : Int)) := by rw [cell_of_row wr gs 5 _ E1 (0, 0) hgs]; rfl
      have c6 : wr.cell? ⟨gs, 6, none⟩ = some (.int .u32 (s6.toNat : Int)) := by rw [cell_of_row wr gs 6 _ E1 (0, 0) hgs]; rfl
      have c7 : wr.cell? ⟨gs, 7, none⟩ = some (.int .u32 (s7.toNat : Int)) := by rw [cell_of_row wr gs 7 _ E1 (0, 0) hgs]; rfl
      have HGs := Lib.hid hgs
      have HGk := Lib.hid hgk
      clear hgs hgk hsl
      have hwlt : w.heap.size < wr.heap.size := (Array.getElem?_eq_some_iff.1 HW.out).1
      have hsz : (W32 (wds b)).toArray.size = 64 := by simp [wds_length]
      obtain ⟨ws, hws⟩ : ∃ ws, ws = (W32 (wds b)).toArray := ⟨_, rfl⟩
      have hrow : ∀ (t : TypeId) (c : Array Value), (wr.alloc (.cells c t)).heap[w.heap.size]? = some (.cells ws 242 (0, 0)) := fun t c => by
        rw [Below.heap_alloc wr _ _ hwlt, hws]; exact HW.out
      have hinf : (Tryz.prog.info? 242).map (·.size) = some ws.size := by rw [hws, hsz]; kernel_rfl
      have Hws := Lib.hid hws
      have Hsz := Lib.hid hsz
      have Hrow := Lib.hid hrow
      have Hinf := Lib.hid hinf
      clear hws hsz hrow hinf
      go_wp2_with (refine wpList_load_row rfl 242 (.tmp 6) rfl w.heap.size rfl 242 ws (0, 0) (.array 64 55) (Hrow.out _ _) (by kernel_rfl) rfl Hinf.out ?_)
      obtain ⟨wS, rfl⟩ : ∃ wS, wS = wr := ⟨_, rfl⟩
      obtain ⟨vb, hvb⟩ : ∃ vb, vb = wS.heap.size := ⟨_, rfl⟩
      rw [← hvb]
      obtain ⟨w1, hw1⟩ : ∃ w1, w1 = wS.alloc (.cells #[.int .u32 (s0.toNat : Int), .int .u32 (s1.toNat : Int), .int .u32 (s2.toNat : Int), .int .u32 (s3.toNat : Int), .int .u32 (s4.toNat : Int), .int .u32 (s5.toNat : Int), .int .u32 (s6.toNat : Int), .int .u32 (s7.toNat : Int)] 207) := ⟨_, rfl⟩
      rw [← hw1]
      have hv1 : w1.heap[vb]? = some (.cells #[.int .u32 (s0.toNat : Int), .int .u32 (s1.toNat : Int), .int .u32 (s2.toNat : Int), .int .u32 (s3.toNat : Int), .int .u32 (s4.toNat : Int), .int .u32 (s5.toNat : Int), .int .u32 (s6.toNat : Int), .int .u32 (s7.toNat : Int)] 207 (0, 0)) := by rw [hw1, hvb]; exact heap_alloc_new _ _
      have hb1 : Below vb wS w1 := by rw [hw1, hvb]; exact (Below.refl _ _).alloc (Nat.le_refl _) _
      have hgs1 : gs < vb := by rw [hvb]; exact (Array.getElem?_eq_some_iff.1 HGs.out).1
      have hgk1 : gk < vb := by rw [hvb]; exact (Array.getElem?_eq_some_iff.1 HGk.out).1
      have Hvb := Lib.hid hvb
      clear hw1 hvb c0 c1 c2 c3 c4 c5 c6 c7
      go_loopw [100] (fun i wq => ∃ (k : Nat) (a0 a1 a2 a3 a4 a5 a6 a7 : BitVec 32), k ≤ 64 ∧ i = .int .i64 k ∧ Hid (rnds ks b [s0, s1, s2, s3, s4, s5, s6, s7] k = [a0, a1, a2, a3, a4, a5, a6, a7]) ∧
          Hid (wq.heap[vb]? = some (.cells #[.int .u32 (a0.toNat : Int), .int .u32 (a1.toNat : Int), .int .u32 (a2.toNat : Int), .int .u32 (a3.toNat : Int), .int .u32 (a4.toNat : Int), .int .u32 (a5.toNat : Int), .int .u32 (a6.toNat : Int), .int .u32 (a7.toNat : Int)] 207 (0, 0))) ∧ Below vb wS wq) (fun i _ => 64 - (intOf i).toNat)
      case atStart => exact ⟨0, s0, s1, s2, s3, s4, s5, s6, s7, Nat.zero_le _, rfl, rfl, hv1, hb1⟩
      case round =>
        clear hv1 hb1
        obtain ⟨k, a0, a1, a2, a3, a4, a5, a6, a7, hk, rfl, hR, hV, hB⟩ := hrel
        have hVo := hV.out
        have hmx : Tryz.prog.follows .mixedOrders = true := by kernel_rfl
        by_cases hlt : k < 64
        · have c0 : wr.cell? ⟨vb, 0, none⟩ = some (.int .u32 (a0.toNat : Int)) := by rw [cell_of_row _ vb 0 _ _ (0, 0) hVo]; rfl
          have c1 : wr.cell? ⟨vb, 1, none⟩ = some (.int .u32 (a1.toNat : Int)) := by rw [cell_of_row _ vb 1 _ _ (0, 0) hVo]; rfl
          have c2 : wr.cell? ⟨vb, 2, none⟩ = some (.int .u32 (a2.toNat : Int)) := by rw [cell_of_row _ vb 2 _ _ (0, 0) hVo]; rfl
          have c3 : wr.cell? ⟨vb, 3, none⟩ = some (.int .u32 (a3.toNat : Int)) := by rw [cell_of_row _ vb 3 _ _ (0, 0) hVo]; rfl
          have c4 : wr.cell? ⟨vb, 4, none⟩ = some (.int .u32 (a4.toNat : Int)) := by rw [cell_of_row _ vb 4 _ _ (0, 0) hVo]; rfl
          have c5 : wr.cell? ⟨vb, 5, none⟩ = some (.int .u32 (a5.toNat : Int)) := by rw [cell_of_row _ vb 5 _ _ (0, 0) hVo]; rfl
          have c6 : wr.cell? ⟨vb, 6, none⟩ = some (.int .u32 (a6.toNat : Int)) := by rw [cell_of_row _ vb 6 _ _ (0, 0) hVo]; rfl
          have c7 : wr.cell? ⟨vb, 7, none⟩ = some (.int .u32 (a7.toNat : Int)) := by rw [cell_of_row _ vb 7 _ _ (0, 0) hVo]; rfl
          have f0 : wr.frozen? ⟨vb, 0, none⟩ = false := frozen_of_row _ vb 0 _ _ hVo
          have f1 : wr.frozen? ⟨vb, 1, none⟩ = false := frozen_of_row _ vb 1 _ _ hVo
          have f2 : wr.frozen? ⟨vb, 2, none⟩ = false := frozen_of_row _ vb 2 _ _ hVo
          have f3 : wr.frozen? ⟨vb, 3, none⟩ = false := frozen_of_row _ vb 3 _ _ hVo
          have f4 : wr.frozen? ⟨vb, 4, none⟩ = false := frozen_of_row _ vb 4 _ _ hVo
          have f5 : wr.frozen? ⟨vb, 5, none⟩ = false := frozen_of_row _ vb 5 _ _ hVo
          have f6 : wr.frozen? ⟨vb, 6, none⟩ = false := frozen_of_row _ vb 6 _ _ hVo
          have f7 : wr.frozen? ⟨vb, 7, none⟩ = false := frozen_of_row _ vb 7 _ _ hVo
          obtain ⟨xw, hxw⟩ : ∃ x, x = wd b k := ⟨_, rfl⟩
          obtain ⟨xk, hxk⟩ : ∃ x, x = ks.getD k 0 := ⟨_, rfl⟩
          have ck : wr.cell? ⟨gk, k, none⟩ = some (.int .u32 (xk.toNat : Int)) := by
            rw [cell_of_row wr gk k _ E2 (0, 0) ((hB.block gk hgk1).trans HGk.out), hxk]; simp [W32, hks, hlt]
          have hix := run_index_u32 (P := Tryz.prog) 242 55 64 ws .i64 k (.int .u32 ((wd b k).toNat : Int)) (by kernel_rfl) (by kernel_rfl) (by kernel_rfl) hlt (by rw [Hws.out]; simpa using wds_get? b k hlt)
          rw [← hxw] at hix
          have Hxw := Lib.hid hxw
          have Hxk := Lib.hid hxk
          have HVo := Lib.hid hVo
          clear hxw hxk hVo
          obtain ⟨r1, hr1⟩ : ∃ x, x = a4.rotateRight 6 := ⟨_, rfl⟩
          have qr1 := right_any a4 6 (by omega) (by omega)
          rw [← hr1] at qr1
          have Qr1 := Lib.hid qr1
          clear qr1
          obtain ⟨r2, hr2⟩ : ∃ x, x = a4.rotateRight 11 := ⟨_, rfl⟩
          have qr2 := right_any a4 11 (by omega) (by omega)
          rw [← hr2] at qr2
          have Qr2 := Lib.hid qr2
          clear qr2
          obtain ⟨r3, hr3⟩ : ∃ x, x = a4.rotateRight 25 := ⟨_, rfl⟩
          have qr3 := right_any a4 25 (by omega) (by omega)
          rw [← hr3] at qr3
          have Qr3 := Lib.hid qr3
          clear qr3
          obtain ⟨r4, hr4⟩ : ∃ x, x = a0.rotateRight 2 := ⟨_, rfl⟩
          have qr4 := right_any a0 2 (by omega) (by omega)
          rw [← hr4] at qr4
          have Qr4 := Lib.hid qr4
          clear qr4
          obtain ⟨r5, hr5⟩ : ∃ x, x = a0.rotateRight 13 := ⟨_, rfl⟩
          have qr5 := right_any a0 13 (by omega) (by omega)
          rw [← hr5] at qr5
          have Qr5 := Lib.hid qr5
          clear qr5
          obtain ⟨r6, hr6⟩ : ∃ x, x = a0.rotateRight 22 := ⟨_, rfl⟩
          have qr6 := right_any a0 22 (by omega) (by omega)
          rw [← hr6] at qr6
          have Qr6 := Lib.hid qr6
          clear qr6
          have Hr : Hid (Sig1 a4 = r1 ^^^ r2 ^^^ r3 ∧ Sig0 a0 = r4 ^^^ r5 ^^^ r6) := by subst hr1 hr2 hr3 hr4 hr5 hr6; exact ⟨rfl, rfl⟩
          clear hr1 hr2 hr3 hr4 hr5 hr6
          go_wp2_with fail
          refine wp_region_plan [(0, 0), (1, 1), (2, 0), (3, 1), (4, 0), (5, 0)] 6 hmx (by kernel_rfl) (by intro c a d v w h; cases d <;> exact h) ?_
          repeat ((first | (refine wpPlan_pure rfl (fun K hK => ?_)) | (refine wpPlan_quiet rfl (fun K hK => ?_))); go_simp; (first | (refine hK _ ?_) | (simp only [IntWalk.iteOmega]; go_simp; refine hK _ ?_) | (go_bits; go_simp; refine hK _ ?_)); clear hK K; (try go_bits))
          refine wpPlan_nil ?_
          go_wp2_with fail
          refine wp_region_plan [(0, 0), (1, 1), (2, 0), (4, 0), (7, 0), (11, 0), (12, 0), (13, 1), (14, 0), (15, 0), (16, 0), (17, 0), (18, 1), (19, 0), (20, 0), (22, 0), (23, 0), (24, 0), (25, 0), (26, 1), (28, 0), (3, 2), (5, 2), (6, 0), (8, 2), (9, 0), (10, 0), (21, 0), (27, 0), (29, 0), (30, 0)] 31 hmx (by kernel_rfl) (by intro c a d v w h; cases d <;> exact h) ?_
          repeat ((first | (refine wpPlan_pure rfl (fun K hK => ?_)) | (refine wpPlan_quiet rfl (fun K hK => ?_))); go_simp; (first | (refine hK _ ?_) | (simp only [IntWalk.iteOmega]; go_simp; refine hK _ ?_) | (go_bits; go_simp; refine hK _ ?_)); clear hK K; (try go_bits))
          refine wpPlan_loud rfl rfl (fun K hK => ?_)
          go_wp2_with (go_at_call 208; refine (Qr1.out _).mono ?_; rintro e w' ⟨rfl, rfl⟩)
          refine ⟨(by first | exact .inr (Ext.refl _) | exact Ext.refl _), ?_⟩
          repeat ((first | (refine wpPlan_pure rfl (fun K hK => ?_)) | (refine wpPlan_quiet rfl (fun K hK => ?_))); go_simp; (first | (refine hK _ ?_) | (simp only [IntWalk.iteOmega]; go_simp; refine hK _ ?_) | (go_bits; go_simp; refine hK _ ?_)); clear hK K; (try go_bits))
          refine wpPlan_loud rfl rfl (fun K hK => ?_)
          go_wp2_with (go_at_call 208; refine (Qr2.out _).mono ?_; rintro e w' ⟨rfl, rfl⟩)
          refine ⟨(by first | exact .inr (Ext.refl _) | exact Ext.refl _), ?_⟩
          repeat ((first | (refine wpPlan_pure rfl (fun K hK => ?_)) | (refine wpPlan_quiet rfl (fun K hK => ?_))); go_simp; (first | (refine hK _ ?_) | (simp only [IntWalk.iteOmega]; go_simp; refine hK _ ?_) | (go_bits; go_simp; refine hK _ ?_)); clear hK K; (try go_bits))
          refine wpPlan_loud rfl rfl (fun K hK => ?_)
          go_wp2_with (go_at_call 208; refine (Qr3.out _).mono ?_; rintro e w' ⟨rfl, rfl⟩)
          refine ⟨(by first | exact .inr (Ext.refl _) | exact Ext.refl _), ?_⟩
          repeat ((first | (refine wpPlan_pure rfl (fun K hK => ?_)) | (refine wpPlan_quiet rfl (fun K hK => ?_))); go_simp; (first | (refine hK _ ?_) | (simp only [IntWalk.iteOmega]; go_simp; refine hK _ ?_) | (go_bits; go_simp; refine hK _ ?_)); clear hK K; (try go_bits))
          refine wpPlan_nil ?_
          go_wp2_with fail
          rw [sp_t a7 a4 a5 a6 xk xw r1 r2 r3, ← Hr.out.1]
          obtain ⟨T, hT⟩ : ∃ T, T = a7 + Sig1 a4 + ch a4 a5 a6 + xk + xw := ⟨_, rfl⟩
          rw [← hT]
          have HT := Lib.hid hT
          clear hT
          refine wp_region_plan [(0, 0), (2, 0), (5, 0), (8, 0), (9, 0), (10, 1), (11, 0), (12, 0), (13, 0), (14, 1), (15, 0), (16, 0), (17, 0), (18, 1), (19, 0), (20, 1), (21, 0), (22, 0), (1, 2), (3, 2), (4, 0), (6, 2), (7, 0), (23, 0), (24, 0)] 25 hmx (by kernel_rfl) (by intro c a d v w h; cases d <;> exact h) ?_
          repeat ((first | (refine wpPlan_pure rfl (fun K hK => ?_)) | (refine wpPlan_quiet rfl (fun K hK => ?_))); go_simp; (first | (refine hK _ ?_) | (simp only [IntWalk.iteOmega]; go_simp; refine hK _ ?_) | (go_bits; go_simp; refine hK _ ?_)); clear hK K; (try go_bits))
          refine wpPlan_loud rfl rfl (fun K hK => ?_)
          go_wp2_with (go_at_call 208; refine (Qr4.out _).mono ?_; rintro e w' ⟨rfl, rfl⟩)
          refine ⟨(by first | exact .inr (Ext.refl _) | exact Ext.refl _), ?_⟩
          repeat ((first | (refine wpPlan_pure rfl (fun K hK => ?_)) | (refine wpPlan_quiet rfl (fun K hK => ?_))); go_simp; (first | (refine hK _ ?_) | (simp only [IntWalk.iteOmega]; go_simp; refine hK _ ?_) | (go_bits; go_simp; refine hK _ ?_)); clear hK K; (try go_bits))
          refine wpPlan_loud rfl rfl (fun K hK => ?_)
          go_wp2_with (go_at_call 208; refine (Qr5.out _).mono ?_; rintro e w' ⟨rfl, rfl⟩)
          refine ⟨(by first | exact .inr (Ext.refl _) | exact Ext.refl _), ?_⟩
          repeat ((first | (refine wpPlan_pure rfl (fun K hK => ?_)) | (refine wpPlan_quiet rfl (fun K hK => ?_))); go_simp; (first | (refine hK _ ?_) | (simp only [IntWalk.iteOmega]; go_simp; refine hK _ ?_) | (go_bits; go_simp; refine hK _ ?_)); clear hK K; (try go_bits))
          refine wpPlan_loud rfl rfl (fun K hK => ?_)
          go_wp2_with (go_at_call 208; refine (Qr6.out _).mono ?_; rintro e w' ⟨rfl, rfl⟩)
          refine ⟨(by first | exact .inr (Ext.refl _) | exact Ext.refl _), ?_⟩
          repeat ((first | (refine wpPlan_pure rfl (fun K hK => ?_)) | (refine wpPlan_quiet rfl (fun K hK => ?_))); go_simp; (first | (refine hK _ ?_) | (simp only [IntWalk.iteOmega]; go_simp; refine hK _ ?_) | (go_bits; go_simp; refine hK _ ?_)); clear hK K; (try go_bits))
          refine wpPlan_nil ?_
          go_wp2_with fail
          rw [sp_u a0 a1 a2 r4 r5 r6, ← Hr.out.2]
          obtain ⟨U, hU⟩ : ∃ U, U = Sig0 a0 + maj a0 a1 a2 := ⟨_, rfl⟩
          rw [← hU]
          have HU := Lib.hid hU
          clear hU
          refine wp_region_plan [(0, 0), (1, 0), (2, 2)] 2 hmx (by kernel_rfl) (by intro c a d v w h; cases d <;> exact h) ?_
          repeat ((first | (refine wpPlan_pure rfl (fun K hK => ?_)) | (refine wpPlan_quiet rfl (fun K hK => ?_))); go_simp; (first | (refine hK _ ?_) | (simp only [IntWalk.iteOmega]; go_simp; refine hK _ ?_) | (go_bits; go_simp; refine hK _ ?_)); clear hK K; (try go_bits))
          refine wpPlan_loud rfl rfl (fun K hK => ?_)
          refine wp_copy_Sl (g := vb) (off := 1) (dLen := 7) (dCap := 7) (A := some ⟨vb, 0, none⟩) (sLen := 7) (sCap := 8) (cur := #[.int .u32 (a0.toNat : Int), .int .u32 (a1.toNat : Int), .int .u32 (a2.toNat : Int), .int .u32 (a3.toNat : Int), .int .u32 (a4.toNat : Int), .int .u32 (a5.toNat : Int), .int .u32 (a6.toNat : Int), .int .u32 (a7.toNat : Int)]) (t := 207) (cs := [.int .u32 (a0.toNat : Int), .int .u32 (a1.toNat : Int), .int .u32 (a2.toNat : Int), .int .u32 (a3.toNat : Int), .int .u32 (a4.toNat : Int), .int .u32 (a5.toNat : Int), .int .u32 (a6.toNat : Int)]) (B := vb + 1) elW (.tmp 162) (.tmp 163) rfl rfl rfl HVo.out rfl ?_ (by simp) (by intro v hv; simp at hv; rcases hv with rfl | rfl | rfl | rfl | rfl | rfl | rfl <;> rfl) ?_
          · intro _
            refine ⟨vb, 0, rfl, by omega, fun j hj => ?_⟩
            match j, hj with
            | 0, _ => exact c0
            | 1, _ => exact c1
            | 2, _ => exact c2
            | 3, _ => exact c3
            | 4, _ => exact c4
            | 5, _ => exact c5
            | 6, _ => exact c6
          obtain ⟨w2, hw2⟩ : ∃ w2, w2 = wr.drew.drew.drew.drew.setRow vb #[.int .u32 (a0.toNat : Int), .int .u32 (a0.toNat : Int), .int .u32 (a1.toNat : Int), .int .u32 (a2.toNat : Int), .int .u32 (a3.toNat : Int), .int .u32 (a4.toNat : Int), .int .u32 (a5.toNat : Int), .int .u32 (a6.toNat : Int)] := ⟨_, rfl⟩
          refine hK _ (wr.drew.drew.drew.drew.setRow vb #[.int .u32 (a0.toNat : Int), .int .u32 (a0.toNat : Int), .int .u32 (a1.toNat : Int), .int .u32 (a2.toNat : Int), .int .u32 (a3.toNat : Int), .int .u32 (a4.toNat : Int), .int .u32 (a5.toNat : Int), .int .u32 (a6.toNat : Int)]) ⟨(by first | exact .inl (by decide) | trivial), ?_⟩
          clear hK K
          refine wpPlan_nil ?_
          rw [← hw2]
          have hV2 : w2.heap[vb]? = some (.cells #[.int .u32 (a0.toNat : Int), .int .u32 (a0.toNat : Int), .int .u32 (a1.toNat : Int), .int .u32 (a2.toNat : Int), .int .u32 (a3.toNat : Int), .int .u32 (a4.toNat : Int), .int .u32 (a5.toNat : Int), .int .u32 (a6.toNat : Int)] 207 (0, 0)) := by rw [hw2]; exact setRow_heap _ vb _ _ _ _ HVo.out
          have hB2 : Below vb wS w2 := by rw [hw2]; exact below_setRow hB.drew.drew.drew.drew (Nat.le_refl _) _
          clear hw2 c0 f0 c1 f1 c2 f2 c3 f3 c4 f4 c5 f5 c6 f6 c7 f7 hB hV
          have c0 : w2.cell? ⟨vb, 0, none⟩ = some (.int .u32 (a0.toNat : Int)) := by rw [cell_of_row _ vb 0 _ _ (0, 0) hV2]; rfl
          have c4 : w2.cell? ⟨vb, 4, none⟩ = some (.int .u32 (a3.toNat : Int)) := by rw [cell_of_row _ vb 4 _ _ (0, 0) hV2]; rfl
          have f0 : w2.frozen? ⟨vb, 0, none⟩ = false := frozen_of_row _ vb 0 _ _ hV2
          have f4 : w2.frozen? ⟨vb, 4, none⟩ = false := frozen_of_row _ vb 4 _ _ hV2
          have HV2 := Lib.hid hV2
          clear hV2
          go_wp2
          rw [sp_add, sp_add]
          refine ⟨⟨k + 1, T + U, a0, a1, a2, a3 + T, a4, a5, a6, by omega, by go_num, ?_, ?_, (hB2.setCell (p := ⟨vb, 4, none⟩) (Nat.le_refl _) _).setCell (p := ⟨vb, 0, none⟩) (Nat.le_refl _) _⟩, by simp [intOf]; omega⟩
          · show rnd _ _ (rnds ks b _ k) = _
            rw [hR.out, ← Hxk.out, ← Hxw.out, HT.out, HU.out]; rfl
          · show _ = _
            rw [heap_setCell_same _ vb 0 _ _ _ (heap_setCell_same _ vb 4 _ _ _ HV2.out)]; rfl
        · obtain rfl : k = 64 := by omega
          obtain ⟨ss, hss⟩ : ∃ ss, ss = [s0, s1, s2, s3, s4, s5, s6, s7] := ⟨_, rfl⟩
          obtain ⟨vs, hvs⟩ : ∃ vs, vs = [a0, a1, a2, a3, a4, a5, a6, a7] := ⟨_, rfl⟩
          have hl1 : ss.length = 8 := by rw [hss]; rfl
          have hl2 : vs.length = 8 := by rw [hvs]; rfl
          have hG : wr.heap[gs]? = some (.cells (W32 ss ++ rest).toArray E1 (0, 0)) := by rw [hss]; exact (hB.block gs hgs1).trans HGs.out
          have hv : wr.heap[vb]? = some (.cells (W32 vs).toArray 207 (0, 0)) := by rw [hvs]; exact hVo
          have hfin : Hid (stepW ks b [s0, s1, s2, s3, s4, s5, s6, s7] = List.zipWith (· + ·) ss vs) := by
            show stepW _ _ _ = _
            rw [stepW, hR.out, hss, hvs]
          have hgr : w.grownBy wr (some gs) := by
            have hsz0 := hbw.size
            have hb := hbw.trans (hB.mono (show w.heap.size ≤ vb by rw [Hvb.out]; exact hsz0))
            exact ⟨hb.os, hb.tape, hb.output, hb.size, fun j hj _ => hb.block j hj⟩
          have hvw : w.heap.size ≤ vb := by rw [Hvb.out]; exact hbw.size
          have hgw : gs < w.heap.size := (Array.getElem?_eq_some_iff.1 Hgs.out).1
          have HG := Lib.hid hG
          have HV := Lib.hid hv
          clear hss hvs hVo hV hR hG hv hB
          go_wp2_with fail
          go_loopw [175] (fun i wq => ∃ k : Nat, k ≤ 8 ∧ i = .int .i64 k ∧ Hid (wq.heap[gs]? = some (.cells (W32 (mixed ss vs k) ++ rest).toArray E1 (0, 0))) ∧ Hid (wq.heap[vb]? = some (.cells (W32 vs).toArray 207 (0, 0))) ∧ w.grownBy wq (some gs)) (fun i _ => 8 - (intOf i).toNat)
          case atStart => exact ⟨0, Nat.zero_le _, rfl, by rw [mixed_zero]; exact HG, HV, hgr⟩
          case round =>
            clear HG HV hgr
            obtain ⟨k, hk, rfl, hG, hV, hgr⟩ := hrel
            by_cases hlt : k < 8
            · obtain ⟨x, hx⟩ : ∃ x, x = ss.getD k 0 := ⟨_, rfl⟩
              obtain ⟨y, hy⟩ : ∃ y, y = vs.getD k 0 := ⟨_, rfl⟩
              have cx : wr.cell? ⟨gs, k, none⟩ = some (.int .u32 (x.toNat : Int)) := by rw [cell_of_row wr gs k _ _ (0, 0) hG.out, mixed_at ss vs hl1 hl2 rest k hlt, hx]
              have cy : wr.cell? ⟨vb, k, none⟩ = some (.int .u32 (y.toNat : Int)) := by rw [cell_of_row wr vb k _ _ (0, 0) hV.out, hy]; simp [W32, hl2, hlt]
              have fx := frozen_of_row wr gs k _ _ hG.out
              have Hx := Lib.hid hx
              have Hy := Lib.hid hy
              clear hx hy
              go_wp2_with fail
              refine wp_region_plan [(0, 0), (1, 0), (2, 0), (3, 0), (4, 1), (5, 0), (6, 0), (7, 1), (8, 0), (9, 0), (10, 0), (11, 2)] 11 hmx (by kernel_rfl) (by intro c a d v w h; cases d <;> exact h) ?_
              repeat ((first | (refine wpPlan_pure rfl (fun K hK => ?_)) | (refine wpPlan_quiet rfl (fun K hK => ?_))); go_simp; (first | (refine hK _ ?_) | (simp only [IntWalk.iteOmega]; go_simp; refine hK _ ?_) | (go_bits; go_simp; refine hK _ ?_)); clear hK K; (try go_bits))
              refine wpPlan_loud rfl rfl (fun K hK => ?_)
              go_wp2
              refine ⟨.inl (by decide), wpPlan_nil ?_⟩
              go_wp2
              rw [sp_add]
              refine ⟨⟨_, .int .i64 ((k : Int) + 1), _, _, _, _, _, _, _, _, _, _, _, _, _, _, ⟨k + 1, by omega, by go_num, ?_, ?_, ?_⟩, rfl⟩, ?_⟩
              · show _ = _
                rw [heap_drew, heap_setCell_same _ gs k _ _ _ hG.out, Hx.out, Hy.out, mixed_set ss vs hl1 hl2 rest k hlt]
              · show _ = _
                rw [heap_drew, heap_setCell_other _ _ _ _ (by show vb ≠ gs; omega)]; exact hV.out
              · exact ⟨hgr.os, hgr.tape, hgr.output, by have := hgr.size; simpa using this, fun j hj hne => by rw [heap_drew, heap_setCell_other _ _ _ _ (by show j ≠ gs; exact fun e => hne (by rw [e]))]; exact hgr.block j hj hne⟩
              · simp [intOf]; omega
            · obtain rfl : k = 8 := by omega
              go_wp2_with fail
              go_end0
              refine ⟨rfl, ?_, hgr⟩
              rw [hG.out, mixed_end ss vs hl1 hl2, ← hfin.out]
end Go.Proofs.YtcjioogololnoaaGreatDoor
