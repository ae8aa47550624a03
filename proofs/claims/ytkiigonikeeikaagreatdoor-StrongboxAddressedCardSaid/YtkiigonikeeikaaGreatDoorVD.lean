/- hash.rounds.line: that it ends with five words. -/
import Derived.Test.YtkiigonikeeikaaGreatDoorU24
import Derived.Test.YtkiigonikeeikaaGreatDoorU2
import Derived.Great.Ranges
import Derived.Great.BuildSlice
import Derived.BigQuiet
import Derived.Shelf.RegionOpen
import Derived.Deep.QuietTactic
import Derived.StillTailTactics
import Derived.Deep.RegionHeld3
import Derived.Deep.RegionWith
import Derived.Deep.WholeRow
namespace Go.Proofs.YtkiigonikeeikaaGreatDoor
open Go.RowKit Go.Shelf

/-- A line's tables, as cells. -/
def lineC (rs ss : List Nat) (ks : List (BitVec 32)) : List Value := rs.map (fun r => .int .i64 (r : Int)) ++ ss.map (fun r => .int .i64 (r : Int)) ++ W32 ks
theorem lineC_length {rs ss : List Nat} {ks : List (BitVec 32)} (hr : rs.length = 80) (hs : ss.length = 80) (hk : ks.length = 5) : (lineC rs ss ks).length = 165 := by simp [lineC, hr, hs, hk]
theorem lineC_r {rs ss : List Nat} {ks : List (BitVec 32)} (hr : rs.length = 80) (k : Nat) (h : k < 80) : (lineC rs ss ks)[k]? = some (.int .i64 ((rs.getD k 0 : Nat) : Int)) := by
  unfold lineC
  rw [List.append_assoc, List.getElem?_append_left (by simp; omega)]
  simp [show k < rs.length by omega]
theorem lineC_s {rs ss : List Nat} {ks : List (BitVec 32)} (hr : rs.length = 80) (hs : ss.length = 80) (k : Nat) (h : k < 80) : (lineC rs ss ks)[80 + k]? = some (.int .i64 ((ss.getD k 0 : Nat) : Int)) := by
  unfold lineC
  rw [List.getElem?_append_left (by simp; omega), List.getElem?_append_right (by simp; omega)]
  simp [hr, show k < ss.length by omega]
theorem lineC_k {rs ss : List Nat} {ks : List (BitVec 32)} (hr : rs.length = 80) (hs : ss.length = 80) (hk : ks.length = 5) (k : Nat) (h : k < 5) : (lineC rs ss ks)[160 + k]? = some (.int .u32 ((ks.getD k 0).toNat : Int)) := by
  unfold lineC
  rw [List.getElem?_append_right (by simp; omega), W32_get?]
  simp [hr, hs, show k < ks.length by omega]

theorem w32_one (xs : List (BitVec 32)) : (W32 xs).toArray.all (·.oneCell') = true := by simp [W32]; intro x _; rfl
theorem five_words (st : List (BitVec 32)) (h : st.length = 5) : ∃ a b c d e, st = [a, b, c, d, e] := by
  match st, h with
  | [a, b, c, d, e], _ => exact ⟨a, b, c, d, e, rfl⟩

theorem row_old {w : World} {o o' : Obj} {k : Nat} (h : w.heap[k]? = some o) : (w.alloc o').heap[k]? = some o :=
  (Below.heap_alloc w o' k (Array.getElem?_eq_some_iff.1 h).1).trans h
theorem rows4 (w : World) (o1 o2 o3 o4 : Obj) : ((((w.alloc o1).alloc o2).alloc o3).alloc o4).heap[w.heap.size]? = some o1 ∧ ((((w.alloc o1).alloc o2).alloc o3).alloc o4).heap[w.heap.size + 1]? = some o2 ∧
    ((((w.alloc o1).alloc o2).alloc o3).alloc o4).heap[w.heap.size + 1 + 1]? = some o3 ∧ ((((w.alloc o1).alloc o2).alloc o3).alloc o4).heap[w.heap.size + 1 + 1 + 1]? = some o4 := by
  have h1 := heap_alloc_new w o1
  have h2 := heap_alloc_new (w.alloc o1) o2
  have h3 := heap_alloc_new ((w.alloc o1).alloc o2) o3
  have h4 := heap_alloc_new (((w.alloc o1).alloc o2).alloc o3) o4
  simp only [World.size_alloc] at h2 h3 h4
  exact ⟨row_old (row_old (row_old h1)), row_old (row_old h2), row_old h3, h4⟩

set_option maxRecDepth 100000 in
set_option maxHeartbeats 8000000 in
theorem line_any (rs ss : List Nat) (ks : List (BitVec 32)) (hr : rs.length = 80) (hs : ss.length = 80) (hk : ks.length = 5) (hr1 : ∀ k, k < 80 → rs.getD k 0 < 16) (hs1 : ∀ k, k < 80 → 0 < ss.getD k 0 ∧ ss.getD k 0 < 32)
    (st xs : List (BitVec 32)) (hst : st.length = 5) (hxs : xs.length = 16) (t : Bool) (w : World) :
    Calls Tryz.prog 66 #[.agg (lineC rs ss ks).toArray, .agg (W32 st).toArray, .agg (W32 xs).toArray, .bool t] w fun e W' => (∃ st' : List (BitVec 32), st'.length = 5 ∧ e = .returned (.agg (W32 st').toArray)) ∧ Below w.heap.size w W' := by
  obtain ⟨T, hT⟩ : ∃ T, T = (lineC rs ss ks).toArray := ⟨_, rfl⟩
  obtain ⟨X, hX⟩ : ∃ X, X = (W32 xs).toArray := ⟨_, rfl⟩
  obtain ⟨C, hC⟩ : ∃ C, C = (W32 st).toArray := ⟨_, rfl⟩
  have hTr : ∀ k, k < 80 → T[k]? = some (.int .i64 ((rs.getD k 0 : Nat) : Int)) := fun k h => by rw [hT, List.getElem?_toArray]; exact lineC_r hr k h
  have hTs : ∀ k, k < 80 → T[80 + k]? = some (.int .i64 ((ss.getD k 0 : Nat) : Int)) := fun k h => by rw [hT, List.getElem?_toArray]; exact lineC_s hr hs k h
  have hTk : ∀ k, k < 5 → T[160 + k]? = some (.int .u32 ((ks.getD k 0).toNat : Int)) := fun k h => by rw [hT, List.getElem?_toArray]; exact lineC_k hr hs hk k h
  have hXx : ∀ k, k < 16 → X[k]? = some (.int .u32 ((xs.getD k 0).toNat : Int)) := fun k h => by rw [hX, List.getElem?_toArray, W32_get?]; simp [show k < xs.length by omega]
  have HTr := Lib.hid hTr
  have HTs := Lib.hid hTs
  have HTk := Lib.hid hTk
  have HXx := Lib.hid hXx
  have Hr1 := Lib.hid hr1
  have Hs1 := Lib.hid hs1
  have HC := Lib.hid hC
  rw [← hT, ← hX, ← hC]
  clear hTr hTs hTk hXx hr1 hs1 hT hX hC hr hs hk hxs
  go_enter Tryz.func66, Tryz.ntmps66
  go_wp2_with (first | (refine wpList_boxTo rfl 112 (.tmp 0) rfl _ rfl w.heap.size rfl T rfl ?_) | (refine wpList_boxTo rfl 108 (.tmp 1) rfl _ rfl (w.heap.size + 1) (by simp) C rfl ?_) | (refine wpList_boxTo rfl 114 (.tmp 2) rfl _ rfl (w.heap.size + 2) (by simp) X rfl ?_))
  have h4 := rows4 w (.cells T 112) (.cells C 108) (.cells X 114) (.cells #[.int .u32 0, .int .u32 0, .int .u32 0, .int .u32 0, .int .u32 0] 108)
  have hb0 : Below w.heap.size w ((((w.alloc (.cells T 112)).alloc (.cells C 108)).alloc (.cells X 114)).alloc (.cells #[.int .u32 0, .int .u32 0, .int .u32 0, .int .u32 0, .int .u32 0] 108)) :=
    ((((Below.refl _ w).alloc (Nat.le_refl _) _).alloc (by simp) _).alloc (by simp; omega) _).alloc (by simp; omega) _
  obtain ⟨W0, hW0⟩ : ∃ W0, W0 = ((((w.alloc (.cells T 112)).alloc (.cells C 108)).alloc (.cells X 114)).alloc (.cells #[.int .u32 0, .int .u32 0, .int .u32 0, .int .u32 0, .int .u32 0] 108)) := ⟨_, rfl⟩
  rw [← hW0] at h4 hb0 ⊢
  obtain ⟨gT, gC, gX, gO⟩ := h4
  rw [HC.out] at gC
  clear hW0
  obtain ⟨B, hB⟩ : ∃ B, B = w.heap.size := ⟨_, rfl⟩
  have hBle : w.heap.size ≤ B := by omega
  rw [← hB] at gT gC gX gO ⊢
  have HB := Lib.hid hB
  clear hB
  go_loopw [13] (fun i wr => ∃ k : Nat, k ≤ 80 ∧ i = .int .i64 k ∧ (∃ s : List (BitVec 32), s.length = 5 ∧ wr.heap[B + 1]? = some (.cells (W32 s).toArray 108 (0, 0))) ∧ wr.heap[B]? = some (.cells T 112 (0, 0)) ∧ wr.heap[B + 1 + 1]? = some (.cells X 114 (0, 0)) ∧
    wr.heap[B + 1 + 1 + 1]? = some (.cells #[.int .u32 0, .int .u32 0, .int .u32 0, .int .u32 0, .int .u32 0] 108 (0, 0)) ∧ Below w.heap.size w wr) (fun i _ => 80 - (intOf i).toNat)
  case atStart => exact ⟨0, by omega, rfl, ⟨st, hst, gC⟩, gT, gX, gO, hb0⟩
  case round =>
    clear gT gC gX gO hb0
    obtain ⟨k, hk, rfl, ⟨s, hs, gC⟩, gT, gX, gO, hb⟩ := hrel
    by_cases hlt : k < 80
    · obtain ⟨a, b, c, d, e, rfl⟩ := five_words s hs
      obtain ⟨m, hm⟩ : ∃ m, m = k / 16 := ⟨_, rfl⟩
      have hm5 : m < 5 := by omega
      have hmI : (k : Int) / 16 = (m : Int) := by omega
      have c0 : wr.cell? ⟨B + 1, 0, none⟩ = some (.int .u32 (a.toNat : Int)) := cell_of_row _ _ 0 _ _ (0, 0) gC
      have c1 : wr.cell? ⟨B + 1, 1, none⟩ = some (.int .u32 (b.toNat : Int)) := cell_of_row _ _ 1 _ _ (0, 0) gC
      have c2 : wr.cell? ⟨B + 1, 2, none⟩ = some (.int .u32 (c.toNat : Int)) := cell_of_row _ _ 2 _ _ (0, 0) gC
      have c3 : wr.cell? ⟨B + 1, 3, none⟩ = some (.int .u32 (d.toNat : Int)) := cell_of_row _ _ 3 _ _ (0, 0) gC
      have c4 : wr.cell? ⟨B + 1, 4, none⟩ = some (.int .u32 (e.toNat : Int)) := cell_of_row _ _ 4 _ _ (0, 0) gC
      obtain ⟨r, hr⟩ : ∃ r, r = rs.getD k 0 := ⟨_, rfl⟩
      have hr16 : r < 16 := by rw [hr]; exact Hr1.out k hlt
      obtain ⟨sh, hsh⟩ : ∃ sh, sh = ss.getD k 0 := ⟨_, rfl⟩
      have hsh1 : 0 < sh := by rw [hsh]; exact (Hs1.out k hlt).1
      have hsh2 : sh < 32 := by rw [hsh]; exact (Hs1.out k hlt).2
      obtain ⟨kk, hkk⟩ : ∃ kk, kk = ks.getD m 0 := ⟨_, rfl⟩
      obtain ⟨xx, hxx⟩ : ∃ xx, xx = xs.getD r 0 := ⟨_, rfl⟩
      have t0 : wr.cell? ⟨B, k, none⟩ = some (.int .i64 (r : Int)) := by rw [cell_of_row _ _ k _ _ (0, 0) gT, HTr.out k hlt, hr]
      have t1 : wr.cell? ⟨B, 80 + k, none⟩ = some (.int .i64 (sh : Int)) := by rw [cell_of_row _ _ (80 + k) _ _ (0, 0) gT, HTs.out k hlt, hsh]
      have t2 : wr.cell? ⟨B, 160 + m, none⟩ = some (.int .u32 (kk.toNat : Int)) := by rw [cell_of_row _ _ (160 + m) _ _ (0, 0) gT, HTk.out m hm5, hkk]
      have x0 : wr.cell? ⟨B + 1 + 1, r, none⟩ = some (.int .u32 (xx.toNat : Int)) := by rw [cell_of_row _ _ r _ _ (0, 0) gX, HXx.out r hr16, hxx]
      have GC := Lib.hid gC
      have GT := Lib.hid gT
      have GX := Lib.hid gX
      have GO := Lib.hid gO
      clear hm hr hsh hkk hxx gC gT gX gO hs
      have hmx : Tryz.prog.follows .mixedOrders = true := by kernel_rfl
      cases t
      · have hmw : m < 5 := hm5
        go_wp2_with fail
        refine wp_region_plan [(0, 0), (1, 1), (2, 0), (3, 0), (4, 1), (5, 0), (6, 1), (7, 0), (8, 1), (11, 0), (12, 0), (13, 0), (14, 1), (15, 0), (16, 1), (18, 0), (19, 0), (20, 0), (21, 1), (23, 0), (24, 0), (25, 0), (26, 1), (28, 0), (29, 1), (9, 2), (10, 0), (17, 0), (22, 0), (27, 2), (30, 0), (31, 0)] 32 hmx (by kernel_rfl) (by intro c a d v w h; cases d <;> exact h) ?_
        repeat ((first | (refine wpPlan_pure rfl (fun K hK => ?_)) | (refine wpPlan_quiet rfl (fun K hK => ?_))); go_simp; (first | (refine hK _ ?_) | (simp only [IntWalk.iteOmega]; go_simp; refine hK _ ?_) | (go_bits; go_simp; refine hK _ ?_)); clear hK K; (try go_bits))
        refine wpPlan_loud rfl rfl (fun K hK => ?_)
        go_wp2_with fail
        refine (mix_any m (by omega) b c d _).mono ?_
        rintro e' w1 ⟨⟨mx, rfl⟩, hw1⟩
        rw [hw1]
        clear hw1
        go_wp2_with fail
        refine ⟨.inr (Ext.refl _), ?_⟩
        repeat ((first | (refine wpPlan_pure rfl (fun K hK => ?_)) | (refine wpPlan_quiet rfl (fun K hK => ?_))); go_simp; (first | (refine hK _ ?_) | (simp only [IntWalk.iteOmega]; go_simp; refine hK _ ?_) | (go_bits; go_simp; refine hK _ ?_)); clear hK K; (try go_bits))
        refine wpPlan_loud rfl rfl (fun K hK => ?_)
        go_wp2_with fail
        rw [sp_add4]
        refine (rotl32_any (a + mx + xx + kk) sh hsh1 hsh2 _).mono ?_
        rintro e' w1 ⟨rfl, hw1⟩
        rw [hw1]
        clear hw1
        obtain ⟨y1, hy1⟩ : ∃ y1, y1 = (a + mx + xx + kk).rotateLeft sh := ⟨_, rfl⟩
        rw [← hy1]
        clear hy1
        go_wp2_with fail
        refine ⟨.inr (Ext.refl _), ?_⟩
        repeat ((first | (refine wpPlan_pure rfl (fun K hK => ?_)) | (refine wpPlan_quiet rfl (fun K hK => ?_))); go_simp; (first | (refine hK _ ?_) | (simp only [IntWalk.iteOmega]; go_simp; refine hK _ ?_) | (go_bits; go_simp; refine hK _ ?_)); clear hK K; (try go_bits))
        refine wpPlan_nil ?_
        go_wp2_with fail
        rw [sp_add]
        obtain ⟨y2, hy2⟩ : ∃ y2, y2 = y1 + e := ⟨_, rfl⟩
        rw [← hy2]
        clear hy2
        refine wp_region_plan [(0, 0), (1, 1), (2, 0), (3, 0), (4, 1), (5, 0), (6, 1), (8, 0), (9, 1), (7, 2), (10, 2), (11, 2)] 11 hmx (by kernel_rfl) (by intro c a d v w h; cases d <;> exact h) ?_
        repeat ((first | (refine wpPlan_pure rfl (fun K hK => ?_)) | (refine wpPlan_quiet rfl (fun K hK => ?_))); go_simp; (first | (refine hK _ ?_) | (simp only [IntWalk.iteOmega]; go_simp; refine hK _ ?_) | (go_bits; go_simp; refine hK _ ?_)); clear hK K; (try go_bits))
        refine wpPlan_loud rfl rfl (fun K hK => ?_)
        go_wp2_with fail
        refine (rotl32_any c 10 (by omega) (by omega) _).mono ?_
        rintro e' w1 ⟨rfl, hw1⟩
        rw [hw1]
        clear hw1
        obtain ⟨y3, hy3⟩ : ∃ y3, y3 = c.rotateLeft 10 := ⟨_, rfl⟩
        rw [← hy3]
        clear hy3
        go_wp2_with fail
        refine ⟨.inr (Ext.refl _), ?_⟩
        refine wpPlan_loud rfl rfl (fun K hK => ?_)
        go_wp2_with fail
        refine ⟨.inr (Ext.refl _), ?_⟩
        refine wpPlan_loud rfl rfl (fun K hK => ?_)
        refine wp_store_row 108 (.tmp 5) (.tmp 63) rfl (B + 1) (W32 [e, y2, b, y3, d]).toArray rfl rfl 108 _ GC.out (by kernel_rfl) rfl (w32_one _) ?_
        refine hK _ _ ⟨.inl (by decide), ?_⟩
        clear hK K
        refine wpPlan_nil ?_
        go_wp2_with fail
        refine ⟨⟨k + 1, by omega, by go_num, ⟨_, rfl, setRow_heap _ _ _ _ _ _ GC.out⟩, (setRow_other _ _ _ _ (by omega)).trans GT.out, (setRow_other _ _ _ _ (by omega)).trans GX.out, (setRow_other _ _ _ _ (by omega)).trans GO.out, below_setRow' hb.drew.drew (by omega) _⟩, by simp [intOf]; omega⟩
      · obtain ⟨m4, hm4⟩ : ∃ m4, m4 = 4 - m := ⟨_, rfl⟩
        have hm4I : (4 : Int) - (m : Int) = (m4 : Int) := by omega
        have hm45 : m4 < 5 := by omega
        clear hm4
        go_wp2_with fail
        refine wp_region_plan [(0, 0), (1, 1), (2, 0), (3, 0), (4, 1), (5, 0), (6, 1), (7, 0), (8, 1), (11, 0), (12, 0), (13, 0), (14, 1), (15, 0), (16, 1), (18, 0), (19, 0), (20, 0), (21, 1), (23, 0), (24, 0), (25, 0), (26, 1), (28, 0), (29, 1), (9, 2), (10, 0), (17, 0), (22, 0), (27, 2), (30, 0), (31, 0)] 32 hmx (by kernel_rfl) (by intro c a d v w h; cases d <;> exact h) ?_
        repeat ((first | (refine wpPlan_pure rfl (fun K hK => ?_)) | (refine wpPlan_quiet rfl (fun K hK => ?_))); go_simp; (first | (refine hK _ ?_) | (simp only [IntWalk.iteOmega]; go_simp; refine hK _ ?_) | (go_bits; go_simp; refine hK _ ?_)); clear hK K; (try go_bits))
        refine wpPlan_loud rfl rfl (fun K hK => ?_)
        go_wp2_with fail
        refine (mix_any m4 (by omega) b c d _).mono ?_
        rintro e' w1 ⟨⟨mx, rfl⟩, hw1⟩
        rw [hw1]
        clear hw1
        go_wp2_with fail
        refine ⟨.inr (Ext.refl _), ?_⟩
        repeat ((first | (refine wpPlan_pure rfl (fun K hK => ?_)) | (refine wpPlan_quiet rfl (fun K hK => ?_))); go_simp; (first | (refine hK _ ?_) | (simp only [IntWalk.iteOmega]; go_simp; refine hK _ ?_) | (go_bits; go_simp; refine hK _ ?_)); clear hK K; (try go_bits))
        refine wpPlan_loud rfl rfl (fun K hK => ?_)
        go_wp2_with fail
        rw [sp_add4]
        refine (rotl32_any (a + mx + xx + kk) sh hsh1 hsh2 _).mono ?_
        rintro e' w1 ⟨rfl, hw1⟩
        rw [hw1]
        clear hw1
        obtain ⟨y1, hy1⟩ : ∃ y1, y1 = (a + mx + xx + kk).rotateLeft sh := ⟨_, rfl⟩
        rw [← hy1]
        clear hy1
        go_wp2_with fail
        refine ⟨.inr (Ext.refl _), ?_⟩
        repeat ((first | (refine wpPlan_pure rfl (fun K hK => ?_)) | (refine wpPlan_quiet rfl (fun K hK => ?_))); go_simp; (first | (refine hK _ ?_) | (simp only [IntWalk.iteOmega]; go_simp; refine hK _ ?_) | (go_bits; go_simp; refine hK _ ?_)); clear hK K; (try go_bits))
        refine wpPlan_nil ?_
        go_wp2_with fail
        rw [sp_add]
        obtain ⟨y2, hy2⟩ : ∃ y2, y2 = y1 + e := ⟨_, rfl⟩
        rw [← hy2]
        clear hy2
        refine wp_region_plan [(0, 0), (1, 1), (2, 0), (3, 0), (4, 1), (5, 0), (6, 1), (8, 0), (9, 1), (7, 2), (10, 2), (11, 2)] 11 hmx (by kernel_rfl) (by intro c a d v w h; cases d <;> exact h) ?_
        repeat ((first | (refine wpPlan_pure rfl (fun K hK => ?_)) | (refine wpPlan_quiet rfl (fun K hK => ?_))); go_simp; (first | (refine hK _ ?_) | (simp only [IntWalk.iteOmega]; go_simp; refine hK _ ?_) | (go_bits; go_simp; refine hK _ ?_)); clear hK K; (try go_bits))
        refine wpPlan_loud rfl rfl (fun K hK => ?_)
        go_wp2_with fail
        refine (rotl32_any c 10 (by omega) (by omega) _).mono ?_
        rintro e' w1 ⟨rfl, hw1⟩
        rw [hw1]
        clear hw1
        obtain ⟨y3, hy3⟩ : ∃ y3, y3 = c.rotateLeft 10 := ⟨_, rfl⟩
        rw [← hy3]
        clear hy3
        go_wp2_with fail
        refine ⟨.inr (Ext.refl _), ?_⟩
        refine wpPlan_loud rfl rfl (fun K hK => ?_)
        go_wp2_with fail
        refine ⟨.inr (Ext.refl _), ?_⟩
        refine wpPlan_loud rfl rfl (fun K hK => ?_)
        refine wp_store_row 108 (.tmp 5) (.tmp 63) rfl (B + 1) (W32 [e, y2, b, y3, d]).toArray rfl rfl 108 _ GC.out (by kernel_rfl) rfl (w32_one _) ?_
        refine hK _ _ ⟨.inl (by decide), ?_⟩
        clear hK K
        refine wpPlan_nil ?_
        go_wp2_with fail
        refine ⟨⟨k + 1, by omega, by go_num, ⟨_, rfl, setRow_heap _ _ _ _ _ _ GC.out⟩, (setRow_other _ _ _ _ (by omega)).trans GT.out, (setRow_other _ _ _ _ (by omega)).trans GX.out, (setRow_other _ _ _ _ (by omega)).trans GO.out, below_setRow' hb.drew.drew (by omega) _⟩, by simp [intOf]; omega⟩
    · obtain rfl : k = 80 := by omega
      obtain ⟨cs, hcs⟩ : ∃ cs, cs = (W32 s).toArray := ⟨_, rfl⟩
      have hcz : cs.size = 5 := by rw [hcs]; simp [hs]
      have Hone : Hid (cs.all (·.oneCell') = true) := Lib.hid (by rw [hcs]; simp [W32]; intro x _; rfl)
      have Hinf : Hid ((Tryz.prog.info? 108).map (·.size) = some cs.size) := Lib.hid (by rw [hcz]; kernel_rfl)
      have Hcz : Hid (5 = cs.size) := Lib.hid hcz.symm
      rw [← hcs] at gC
      have Hcs := Lib.hid hcs
      have GC := Lib.hid gC
      have GO := Lib.hid gO
      clear hcs hcz gC gT gX gO
      go_wp2_with (first | (refine wpList_load_row rfl 108 (.tmp 5) rfl (B + 1) rfl 108 cs (0, 0) _ GC.out Tryz.underlying108 rfl Hinf.out ?_) | (refine wpList_store_rowTo rfl 108 (.tmp 8) (.tmp 65) rfl rfl (B + 1 + 1 + 1) cs rfl rfl 108 _ GO.out Hinf.out Hcz.out Hone.out ?_))
      refine bodyPost_ret (v := .agg cs) ?_ rfl ⟨⟨s, hs, by rw [Hcs.out]⟩, below_setRow' hb (by omega) _⟩
      exact results_cell_row rfl _ _ (B + 1 + 1 + 1) 108 cs (0, 0) _ rfl (setRow_heap _ _ _ _ _ _ GO.out) Tryz.underlying108 rfl Hinf.out
end Go.Proofs.YtkiigonikeeikaaGreatDoor
