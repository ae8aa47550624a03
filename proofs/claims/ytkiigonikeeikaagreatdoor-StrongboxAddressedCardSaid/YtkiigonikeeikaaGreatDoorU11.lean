/- hash.Sum.Hash, Twice, Sum256, Double. | hash.Sum256, Twice, Double. | ref02.fill. | A region that draws its order, as a tree: where two operations that make memory come up side by side the ways part, as often as they do. -/
import Derived.Test.YtkiigonikeeikaaGreatDoorU10
import Derived.Test.YtkiigonikeeikaaGreatDoorU5

/-! hash.Sum.Hash, Twice, Sum256, Double. -/
namespace Go.Proofs.YtkiigonikeeikaaGreatDoor
open Go.RowKit Go.Shelf

section
variable {P : Program} {ops : Array Oper} {Q : Act → World → Prop} {st : Nat → (Act → World → Prop) → Act → World → Prop} {N : Nat}
theorem wpPlan_load_mid {i : Nat} {rest : List (Nat × Nat)} {o : Oper} {a : Act} {w : World} (ho : ops[i]? = some o) (hg : o.guard = none) (ty : TypeId) (x : Operand) (hop : o.op = .load ty x)
    (b off : Nat) (hx : a.eval x = .pointer (some ⟨b, off, none⟩)) (cs : List Value) (d : TypeDesc) (hc : w.rangeAt b off cs) (hu : P.underlying ty = some d) (hd : d.isRow = true) (hi : (P.info? ty).map (·.size) = some cs.length)
    (h : wpPlan P ops Q st N rest (a.put o.dst (.agg cs.toArray)) w) : wpPlan P ops Q st N ((i, 1) :: rest) a w := by
  simp only [wpPlan, if_true, ho, Nat.one_ne_zero, if_false]
  exact ⟨_, yieldsIf_load_mid (by simp [Region.wanted, hg]) ty x hop b off hx cs d (fun w' hw' j v hv => (hw'.below.cell (World.block_lt_of_cell? w _ (hc j v hv))).trans (hc j v hv)) hu hd hi, h⟩
theorem wpPlan_build {i : Nat} {rest : List (Nat × Nat)} {o : Oper} {a : Act} {w : World} (ho : ops[i]? = some o) (hg : o.guard = none) (t : TypeId) (parts : Array (Nat × Operand)) (hop : o.op = .build t parts) (cells : Array Value)
    (hc : P.built t (parts.map fun (i, x) => (i, a.eval x)).toList = some cells) (h : wpPlan P ops Q st N rest (a.put o.dst (.agg cells)) w) : wpPlan P ops Q st N ((i, 0) :: rest) a w := by
  simp only [wpPlan, if_true, ho]
  refine ⟨_, .inl ⟨by simp [Region.wanted, hg], fun w' _ => ?_⟩, h⟩
  unfold execOp
  simp only [hop, Sem.run_bind, run_build w' t _ cells hc, Result.andThen_ok]
  rfl
end

theorem Ow.sx {w : World} {base E g n c : Nat} {A : Option Addr} {xs : List Value} (h : Ow w base E (.slice A n c) xs) (hg : g < base) : Sx g w A xs := fun hn => by
  obtain ⟨b, o, e2, hb, hc⟩ := h.sl hn
  obtain ⟨A', c', e, h1, h2, h3⟩ := h
  injection e with e1 e3 e4
  obtain ⟨g', cur, e, hbg, _⟩ := h3 (by omega)
  rw [← e1] at e
  rw [e] at e2; injection e2 with e2; injection e2 with e2 e5
  subst e2 e5
  exact ⟨g', 0, e, by omega, hb, hc⟩
theorem grown_setRow (w : World) (g : Nat) (cs : Array Value) : w.grownBy (w.setRow g cs) (some g) := ⟨rfl, rfl, rfl, by simp, fun k _ hne => setRow_other w g k cs (fun e => hne (by rw [e]))⟩
theorem sc_one (st : List (BitVec 32)) (A : Option Addr) (m c : Nat) (k : Int) (b : Bool) : (SC st (.slice A m c) (.int .u64 k) (.bool b)).all (·.oneCell') = true := all_oneCell_toArray fun v hv => by
  simp only [List.mem_append, W32, List.mem_map] at hv
  rcases hv with ⟨x, _, rfl⟩ | hv
  · rfl
  · simp at hv; rcases hv with rfl | rfl | rfl <;> rfl
/-- Words as bytes, the greatest first. -/
def be32 (st : List (BitVec 32)) : List UInt8 := st.flatMap fun x => [UInt8.ofNat (x.toNat / 16777216), UInt8.ofNat (x.toNat / 65536), UInt8.ofNat (x.toNat / 256), UInt8.ofNat x.toNat]
theorem be32_length (st : List (BitVec 32)) : (be32 st).length = 4 * st.length := by
  induction st with
  | nil => rfl
  | cons x st ih => simp [be32] at ih ⊢; omega
theorem be32_get (st : List (BitVec 32)) (k : Nat) (h : k < st.length) : (be32 st)[4 * k]? = some (UInt8.ofNat (st[k].toNat / 16777216)) ∧ (be32 st)[4 * k + 1]? = some (UInt8.ofNat (st[k].toNat / 65536)) ∧
    (be32 st)[4 * k + 2]? = some (UInt8.ofNat (st[k].toNat / 256)) ∧ (be32 st)[4 * k + 3]? = some (UInt8.ofNat st[k].toNat) := by
  induction st generalizing k with
  | nil => simp at h
  | cons x st ih =>
    cases k with
    | zero => simp [be32]
    | succ k =>
      have := ih k (by simpa using h)
      simp only [be32, List.flatMap_cons, List.getElem_cons_succ] at this ⊢
      rw [show 4 * (k + 1) = 4 * k + 4 by omega, show 4 * k + 4 + 1 = 4 * k + 1 + 4 by omega, show 4 * k + 4 + 2 = 4 * k + 2 + 4 by omega, show 4 * k + 4 + 3 = 4 * k + 3 + 4 by omega]
      simpa using this

set_option maxRecDepth 100000 in
set_option maxHeartbeats 2000000 in
theorem hash_any (g : Nat) (st : List (BitVec 32)) (hst : st.length = 8) (A : Option Addr) (c : Nat) (wb : List UInt8) (n : Nat) (w : World)
    (hg : w.heap[g]? = some (.cells (SC st (.slice A wb.length c) (.int .u64 n) (.bool true)) 61 (0, 0))) (hX : Sx g w A (B8 wb)) (hn : n ≤ 4096) (hwb : wb.length ≤ 64) (hwc : wb.length ≤ c) (hc : c ≤ maxLen) :
    Calls Tryz.prog 24 #[.pointer (some ⟨g, 0, none⟩)] w fun e W' => e = .returned (.agg (B8 (be32 (blk st (wb ++ tailL n 8) ((wb ++ tailL n 8).length / 64)))).toArray) ∧ Below w.heap.size w W' := by
  obtain ⟨s0, s1, s2, s3, s4, s5, s6, s7, rfl⟩ : ∃ s0 s1 s2 s3 s4 s5 s6 s7, st = [s0, s1, s2, s3, s4, s5, s6, s7] := by
    match st, hst with
    | [s0, s1, s2, s3, s4, s5, s6, s7], _ => exact ⟨s0, s1, s2, s3, s4, s5, s6, s7, rfl⟩
  clear hst
  have hgs : g < w.heap.size := (Array.getElem?_eq_some_iff.1 hg).1
  have Hg0 := Lib.hid hg
  have hmx : Tryz.prog.follows .mixedOrders = true := by kernel_rfl
  clear hg
  go_enter Tryz.func24, Tryz.ntmps24
  go_wp2_with fail
  obtain ⟨w1, hw1⟩ : ∃ w1, w1 = w.alloc (.cells (Array.replicate 32 (.int .u8 0)) 31) := ⟨_, rfl⟩
  have hout1 : w1.heap[w.heap.size]? = some (.cells (Array.replicate 32 (.int .u8 0)) 31 (0, 0)) := by rw [hw1]; exact heap_alloc_new w _
  have hg1 := (show w1.heap[g]? = w.heap[g]? by rw [hw1]; exact Below.heap_alloc w _ g hgs).trans Hg0.out
  have hX1 : Sx g w1 A (B8 wb) := by rw [hw1]; exact hX.alloc _
  have hB1 : Below w.heap.size w w1 := by rw [hw1]; exact (Below.refl _ w).alloc (Nat.le_refl _) _
  refine (show w1 = _ from hw1) ▸ ?_
  obtain ⟨d8, d9, d10, df⟩ := sc_cell rfl hg1
  have hr1 : w1.rangeAt g 0 (W32 [s0, s1, s2, s3, s4, s5, s6, s7]) := fun j v hv => by
    rw [Nat.zero_add, cell_of_row w1 g j _ _ (0, 0) hg1, SC]
    have hj : j < (W32 [s0, s1, s2, s3, s4, s5, s6, s7]).length := (List.getElem?_eq_some_iff.1 hv).1
    rw [List.getElem?_toArray, List.getElem?_append_left hj]; exact hv
  have Hw1 := Lib.hid hw1
  have Hr1 := Lib.hid hr1
  have Hg1 := Lib.hid hg1
  have Hout1 := Lib.hid hout1
  clear hw1 hg1 hr1 hout1 df
  refine wp_region_fork [(0, 0), (1, 0), (2, 0), (3, 1), (4, 0), (5, 0), (6, 0), (7, 1), (9, 0), (10, 0), (11, 0), (12, 1), (13, 0), (14, 0), (15, 0), (16, 1)] 3 [(8, [(17, 0), (18, 2), (19, 2)]), (18, [(8, 2), (17, 0), (19, 2)])] 19 hmx (by kernel_rfl) (by intro c a d v w h; cases d <;> exact h) ?_
  iterate 3 (refine wpPlan_pure rfl (fun K hK => ?_); go_simp; refine hK _ ?_; clear hK K)
  refine wpPlan_load_mid rfl rfl 58 (.tmp 9) rfl g 0 rfl _ (.array 8 54) Hr1.out (by kernel_rfl) rfl (by kernel_rfl) ?_
  go_simp
  repeat ((first | (refine wpPlan_pure rfl (fun K hK => ?_)) | (refine wpPlan_quiet rfl (fun K hK => ?_))); go_simp; (first | (refine hK _ ?_) | (simp only [IntWalk.iteOmega]; go_simp; refine hK _ ?_) | (go_bits; go_simp; refine hK _ ?_)); clear hK K; (try go_bits))
  refine wpPlan_fork rfl rfl rfl rfl (fun K hK => ?_) (fun K hK => ?_)
  · go_wp2_with fail
    refine (clone_any A c wb w1.drew hX1.sl (by omega)).mono ?_
    rintro e w2 ⟨v, rfl, ho, hb⟩
    obtain ⟨Av, cv, rfl, hcv, hcv2⟩ := own_form ho
    go_wp2_with fail
    refine ⟨ext_of_below hb, ?_⟩
    refine wpPlan_build rfl rfl 61 _ rfl (SC [s0, s1, s2, s3, s4, s5, s6, s7] (.slice Av wb.length cv) (.int .u64 n) (.bool true)) (by kernel_rfl) ?_
    go_simp
    refine wpPlan_loud rfl rfl (fun K hK => ?_)
    go_wp2_with fail
    refine ⟨.inr (ext_alloc _ _), ?_⟩
    refine wpPlan_loud rfl rfl (fun K hK => ?_)
    refine wp_store_row 61 (.tmp 3) (.tmp 24) rfl w2.heap.size (SC [s0, s1, s2, s3, s4, s5, s6, s7] (.slice Av wb.length cv) (.int .u64 n) (.bool true)) rfl rfl 61 _ (heap_alloc_new w2 _) (by kernel_rfl) rfl (sc_one _ _ _ _ _ _) ?_
    rw [World.setRow_alloc_new]
    refine hK _ _ ⟨.inl (by decide), wpPlan_nil ?_⟩
    clear hK K
    simp only [Act.put]
    obtain ⟨gt, hgt⟩ : ∃ gt, gt = w2.heap.size := ⟨_, rfl⟩
    rw [← hgt]
    obtain ⟨wN, hwN⟩ : ∃ wN, wN = w2.alloc (.cells (SC [s0, s1, s2, s3, s4, s5, s6, s7] (.slice Av wb.length cv) (.int .u64 n) (.bool true)) 61) := ⟨_, rfl⟩
    rw [← hwN]
    have hGt : wN.heap[gt]? = some (.cells (SC [s0, s1, s2, s3, s4, s5, s6, s7] (.slice Av wb.length cv) (.int .u64 n) (.bool true)) 61 (0, 0)) := by rw [hwN, hgt]; exact heap_alloc_new w2 _
    have hOv : Ow wN w1.heap.size 5 (.slice Av wb.length cv) (B8 wb) := by rw [hwN]; exact Ow.alloc (base := w1.heap.size) ho _
    have hb' : Below w1.heap.size w1 w2 := ⟨hb.os, hb.tape, hb.output, hb.size, hb.block⟩
    have hBN : Below w1.heap.size w1 wN := by rw [hwN]; exact hb'.alloc hb'.size _
    have hgt1 : w1.heap.size ≤ gt := by rw [hgt]; exact hb'.size
    have hgN := Hg1.out
    clear hwN hgt hb ho hb'
    have hgtl : gt < wN.heap.size := (Array.getElem?_eq_some_iff.1 hGt).1
    have hgo : w.heap.size < w1.heap.size := (Array.getElem?_eq_some_iff.1 Hout1.out).1
    have hout2 := (hBN.block w.heap.size hgo).trans Hout1.out
    have hBw := hB1.trans (hBN.mono hB1.size)
    obtain ⟨e8, e9, e10, ef⟩ := sc_cell rfl hGt
    have HGt := Lib.hid hGt
    have Hout2 := Lib.hid hout2
    clear hGt hout2 ef d8 d9 d10 Hg1
    have hg2 : wN.heap[g]? = _ := (hBN.block g (by have := hB1.size; omega)).trans hgN
    obtain ⟨d8, d9, d10, df⟩ := sc_cell rfl hg2
    clear hg2 df
    go_simp
    go_wp2_with fail
    refine (tail_any n (by omega) wN).mono ?_
    rintro e w3 ⟨tv, rfl, hoT, hb3⟩
    obtain ⟨tl, htl0⟩ : ∃ tl, tl = tailL n 8 := ⟨_, rfl⟩
    have htl : tl.length ≤ 72 := by rw [htl0, tailL_length n 8 (Nat.le_refl _)]; omega
    rw [← htl0] at hoT
    have Htl := Lib.hid htl0
    clear htl0
    obtain ⟨At, ct, rfl, hct, hct2⟩ := own_form hoT
    have hGt3 := (hb3.block gt hgtl).trans HGt.out
    have hO3 := hOv.below hb3 (Nat.le_refl _)
    have hXt : Sx gt w3 At (B8 tl) := hoT.sx hgtl
    go_wp2_with fail
    refine (add_begun gt w1.heap.size [s0, s1, s2, s3, s4, s5, s6, s7] rfl _ wb (tl) n At ct w3 hgt1 hGt3 (Nat.le_trans hBN.size hb3.size) hO3 hXt (by omega) (by omega) hct hct2).mono ?_
    rintro e w4 ⟨rfl, hb4, A4, c4, hc4, hc4', hX4, hG4⟩
    obtain ⟨t0, ht0⟩ : ∃ t, t = blk [s0, s1, s2, s3, s4, s5, s6, s7] (wb ++ tl) ((wb ++ tl).length / 64) := ⟨_, rfl⟩
    have ht0l : t0.length = 8 := by rw [ht0, blk_length]; rfl
    have hb14 := (hBN.trans (hb3.mono hBN.size)).trans hb4
    have hout4 := (hb14.block w.heap.size hgo).trans Hout1.out
    have hBw4 := hB1.trans (hb14.mono hB1.size)
    have hgt4 : gt < w4.heap.size := (Array.getElem?_eq_some_iff.1 hG4).1
    have hr4 : w4.rangeAt gt 0 (W32 t0) := fun j v hv => by
      rw [Nat.zero_add, cell_of_row w4 gt j _ _ (0, 0) hG4, SC, ← ht0]
      have hj : j < (W32 t0).length := (List.getElem?_eq_some_iff.1 hv).1
      rw [List.getElem?_toArray, List.getElem?_append_left hj]; exact hv
    have Ht0 := Lib.hid ht0
    clear ht0
    have hr5 : (w4.alloc (.cells (Array.replicate 32 (.int .u8 0)) 31)).rangeAt gt 0 (W32 t0) := fun j v hv => (World.cell?_alloc_lt w4 _ _ (by exact hgt4)).trans (hr4 j v hv)
    have Hr5 := Lib.hid hr5
    have Hout4 := Lib.hid hout4
    have Hi5 : Hid ((Tryz.prog.info? 58).map (·.size) = some (W32 t0).length) := Lib.hid (by rw [W32_length, ht0l]; kernel_rfl)
    clear hr4 hr5 hout4 hG4 hGt3 hO3 hXt e8 e9 e10 d8 d9 d10 hX4 HGt Hout2 Hr1 hoT htl
    go_wp2_with (refine wpList_load_mid rfl 58 (.tmp 31) rfl gt 0 rfl (W32 t0) (.array 8 54) Hr5.out (by kernel_rfl) rfl Hi5.out ?_)
    obtain ⟨tc, htc⟩ : ∃ tc, tc = (W32 t0).toArray := ⟨_, rfl⟩
    rw [← htc]
    have Htc := Lib.hid htc
    have hol : (be32 t0).length = 32 := by rw [be32_length, ht0l]
    obtain ⟨oc, hoc⟩ : ∃ oc, oc = (B8 (be32 t0)).toArray := ⟨_, rfl⟩
    have hocz : oc.size = 32 := by rw [hoc]; simp [hol]
    have Hoinf : Hid ((Tryz.prog.info? 31).map (·.size) = some oc.size) := Lib.hid (by rw [hocz]; kernel_rfl)
    have Hocz : Hid ((Array.replicate 32 (Value.int .u8 0)).size = oc.size) := Lib.hid (by rw [hocz]; simp)
    have Hone : Hid (oc.all (·.oneCell') = true) := Lib.hid (by rw [hoc]; exact all_oneCell_toArray (B8_oneCell _))
    have Hoc := Lib.hid hoc
    clear htc hBw hb4 hb3 Hr5 Hi5 hoc hocz
    go_loopw [33] (fun i wr => ∃ k : Nat, k ≤ 8 ∧ i = .int .i64 k ∧ Fill wr w4.heap.size 31 32 (B8 (be32 t0)) (4 * k) ∧ Below w4.heap.size w4 wr) (fun i _ => 8 - (intOf i).toNat)
    case atStart => exact ⟨0, Nat.zero_le _, rfl, Fill.new' w4 _ 32 (.int .u8 0) _, (Below.refl _ _).alloc (Nat.le_refl _) _⟩
    case round =>
      obtain ⟨k, hk, rfl, hfill, hbw⟩ := hrel
      by_cases hlt : k < 8
      · obtain ⟨x, hx⟩ : ∃ x, x = t0[k] := ⟨_, rfl⟩
        have hix := run_index_u32 (P := Tryz.prog) 58 54 8 tc .i64 k (.int .u32 (x.toNat : Int)) (by kernel_rfl) (by kernel_rfl) (by kernel_rfl) hlt (by rw [Htc.out]; simp [W32, ht0l, hlt, hx])
        have hxl := x.isLt
        obtain ⟨v0, c0⟩ := hfill.cell (j := 4 * k) (by omega)
        obtain ⟨v1, c1⟩ := hfill.cell (j := 4 * k + 1) (by omega)
        obtain ⟨v2, c2⟩ := hfill.cell (j := 4 * k + 2) (by omega)
        obtain ⟨v3, c3⟩ := hfill.cell (j := 4 * k + 3) (by omega)
        have z0 := hfill.frozen (4 * k)
        have z1 := hfill.frozen (4 * k + 1)
        have z2 := hfill.frozen (4 * k + 2)
        have z3 := hfill.frozen (4 * k + 3)
        have Hx := Lib.hid hx
        clear hx
        go_wp2_with fail
        obtain ⟨g0, g1, g2, g3⟩ := be32_get t0 k (by omega)
        rw [← Hx.out] at g0 g1 g2 g3
        have b8 : ∀ (j m : Nat), (be32 t0)[j]? = some (UInt8.ofNat m) → (B8 (be32 t0))[j]? = some (Value.int IntKind.u8 ((m % 256 : Nat) : Int)) := fun j m h => by
          rw [B8, List.getElem?_map, h]; simp
        have f1 := hfill.set (by omega) (b8 _ _ g0)
        have f2 := f1.set (by omega) (b8 _ _ g1)
        have f3 := f2.set (by omega) (b8 _ _ g2)
        have f4 := f3.set (by omega) (b8 _ _ g3)
        have e0 : ((x.toNat / 16777216 % 256 : Nat) : Int) = (x.toNat : Int) / 16777216 := by omega
        have e1 : ((x.toNat / 65536 % 256 : Nat) : Int) = (x.toNat : Int) / 65536 % 256 := by omega
        have e2 : ((x.toNat / 256 % 256 : Nat) : Int) = (x.toNat : Int) / 256 % 256 := by omega
        have e3 : ((x.toNat % 256 : Nat) : Int) = (x.toNat : Int) % 256 := by omega
        rw [e0, e1, e2, e3] at f4
        have hbE := (((hbw.setCell (p := ⟨w4.heap.size, 4 * k, none⟩) (Nat.le_refl _) (.int .u8 ((x.toNat : Int) / 16777216))).setCell (p := ⟨w4.heap.size, 4 * k + 1, none⟩) (Nat.le_refl _) (.int .u8 ((x.toNat : Int) / 65536 % 256))).setCell (p := ⟨w4.heap.size, 4 * k + 2, none⟩) (Nat.le_refl _) (.int .u8 ((x.toNat : Int) / 256 % 256))).setCell (p := ⟨w4.heap.size, 4 * k + 3, none⟩) (Nat.le_refl _) (.int .u8 ((x.toNat : Int) % 256))
        exact ⟨⟨k + 1, by omega, rfl, f4, hbE⟩, by simp [intOf]; omega⟩
      · obtain rfl : k = 8 := by omega
        have hdone := hfill.done (by simp [hol])
        rw [← Hoc.out] at hdone
        have hgo4 : w.heap.size < w4.heap.size := by have := hBw4.size; have := hb14.size; omega
        have houtr := (hbw.block w.heap.size hgo4).trans Hout4.out
        have Hdone := Lib.hid hdone
        have Houtr := Lib.hid houtr
        clear hdone houtr hfill
        go_wp2_with (first | (refine wpList_load_row rfl 31 (.tmp 4) rfl w4.heap.size rfl 31 oc (0, 0) (.array 32 5) Hdone.out (by kernel_rfl) rfl Hoinf.out ?_) | (refine wpList_store_row rfl 31 (.tmp 2) (.tmp 64) rfl w.heap.size oc rfl rfl 31 _ Houtr.out Hoinf.out Hocz.out Hone.out ?_))
        refine bodyPost_ret (v := .agg oc) ?_ rfl ⟨by rw [Hoc.out, Ht0.out, Htl.out], below_setRow' (hBw4.trans (hbw.mono (by omega))) (Nat.le_refl _) _⟩
        exact results_cell_row rfl _ _ w.heap.size 31 oc (0, 0) (.array 32 5) rfl (setRow_heap _ _ _ _ _ _ Houtr.out) (by kernel_rfl) rfl Hoinf.out
  · go_wp2_with fail
    refine ⟨ext_alloc _ _, ?_⟩
    refine wpPlan_loud rfl rfl (fun K hK => ?_)
    go_wp2_with fail
    refine Calls.mono (clone_any A c wb _ ?hs (by omega)) ?_
    case hs => exact (show Sx g (World.drew (w1.alloc _)) A (B8 wb) from hX1.alloc _).sl
    rintro e w2 ⟨v, rfl, ho, hb⟩
    obtain ⟨Av, cv, rfl, hcv, hcv2⟩ := own_form ho
    go_wp2_with fail
    refine ⟨.inr (ext_of_below hb), ?_⟩
    refine wpPlan_build rfl rfl 61 _ rfl (SC [s0, s1, s2, s3, s4, s5, s6, s7] (.slice Av wb.length cv) (.int .u64 n) (.bool true)) (by kernel_rfl) ?_
    refine wpPlan_loud rfl rfl (fun K hK => ?_)
    have hg2 := (hb.block w1.heap.size (by show w1.heap.size < (w1.alloc _).heap.size; rw [World.size_alloc]; omega)).trans (heap_alloc_new w1 _)
    refine wp_store_row 61 (.tmp 3) (.tmp 24) rfl w1.heap.size (SC [s0, s1, s2, s3, s4, s5, s6, s7] (.slice Av wb.length cv) (.int .u64 n) (.bool true)) rfl rfl 61 _ hg2 (by kernel_rfl) rfl (sc_one _ _ _ _ _ _) ?_
    refine hK _ _ ⟨.inl (by decide), wpPlan_nil ?_⟩
    clear hK K
    simp only [Act.put]
    obtain ⟨gt, hgt⟩ : ∃ gt, gt = w1.heap.size := ⟨_, rfl⟩
    rw [← hgt]
    rw [← hgt] at hg2
    obtain ⟨wN, hwN⟩ : ∃ wN, wN = w2.setRow gt (SC [s0, s1, s2, s3, s4, s5, s6, s7] (.slice Av wb.length cv) (.int .u64 n) (.bool true)) := ⟨_, rfl⟩
    rw [← hwN]
    have hgt1 : w1.heap.size ≤ gt := by omega
    have hGt : wN.heap[gt]? = some (.cells (SC [s0, s1, s2, s3, s4, s5, s6, s7] (.slice Av wb.length cv) (.int .u64 n) (.bool true)) 61 (0, 0)) := by rw [hwN]; exact setRow_heap _ _ _ _ _ _ hg2
    have hOv : Ow wN w1.heap.size 5 (.slice Av wb.length cv) (B8 wb) := by
      rw [hwN]
      refine (ho.mono (by show w1.heap.size ≤ (w1.alloc _).heap.size; rw [World.size_alloc]; omega)).kept (grown_setRow w2 gt _) (fun r hr e => ?_)
      have := (ho.row r hr).1
      injection e with e
      rw [show (World.drew (w1.alloc _)).heap.size = w1.heap.size + 1 from World.size_alloc _ _] at this
      omega
    have hb' : Below w1.heap.size w1 w2 := Below.trans (((Below.refl _ w1).alloc (Nat.le_refl _) _).drew) (hb.mono (by show w1.heap.size ≤ (w1.alloc _).heap.size; rw [World.size_alloc]; omega))
    have hBN : Below w1.heap.size w1 wN := by rw [hwN]; exact below_setRow' hb' hgt1 _
    have hgN := Hg1.out
    clear hwN hgt hb ho hb' hg2
    have hgtl : gt < wN.heap.size := (Array.getElem?_eq_some_iff.1 hGt).1
    have hgo : w.heap.size < w1.heap.size := (Array.getElem?_eq_some_iff.1 Hout1.out).1
    have hout2 := (hBN.block w.heap.size hgo).trans Hout1.out
    have hBw := hB1.trans (hBN.mono hB1.size)
    obtain ⟨e8, e9, e10, ef⟩ := sc_cell rfl hGt
    have HGt := Lib.hid hGt
    have Hout2 := Lib.hid hout2
    clear hGt hout2 ef d8 d9 d10 Hg1
    have hg2 : wN.heap[g]? = _ := (hBN.block g (by have := hB1.size; omega)).trans hgN
    obtain ⟨d8, d9, d10, df⟩ := sc_cell rfl hg2
    clear hg2 df
    go_simp
    go_wp2_with fail
    refine (tail_any n (by omega) wN).mono ?_
    rintro e w3 ⟨tv, rfl, hoT, hb3⟩
    obtain ⟨tl, htl0⟩ : ∃ tl, tl = tailL n 8 := ⟨_, rfl⟩
    have htl : tl.length ≤ 72 := by rw [htl0, tailL_length n 8 (Nat.le_refl _)]; omega
    rw [← htl0] at hoT
    have Htl := Lib.hid htl0
    clear htl0
    obtain ⟨At, ct, rfl, hct, hct2⟩ := own_form hoT
    have hGt3 := (hb3.block gt hgtl).trans HGt.out
    have hO3 := hOv.below hb3 (Nat.le_refl _)
    have hXt : Sx gt w3 At (B8 tl) := hoT.sx hgtl
    go_wp2_with fail
    refine (add_begun gt w1.heap.size [s0, s1, s2, s3, s4, s5, s6, s7] rfl _ wb (tl) n At ct w3 hgt1 hGt3 (Nat.le_trans hBN.size hb3.size) hO3 hXt (by omega) (by omega) hct hct2).mono ?_
    rintro e w4 ⟨rfl, hb4, A4, c4, hc4, hc4', hX4, hG4⟩
    obtain ⟨t0, ht0⟩ : ∃ t, t = blk [s0, s1, s2, s3, s4, s5, s6, s7] (wb ++ tl) ((wb ++ tl).length / 64) := ⟨_, rfl⟩
    have ht0l : t0.length = 8 := by rw [ht0, blk_length]; rfl
    have hb14 := (hBN.trans (hb3.mono hBN.size)).trans hb4
    have hout4 := (hb14.block w.heap.size hgo).trans Hout1.out
    have hBw4 := hB1.trans (hb14.mono hB1.size)
    have hgt4 : gt < w4.heap.size := (Array.getElem?_eq_some_iff.1 hG4).1
    have hr4 : w4.rangeAt gt 0 (W32 t0) := fun j v hv => by
      rw [Nat.zero_add, cell_of_row w4 gt j _ _ (0, 0) hG4, SC, ← ht0]
      have hj : j < (W32 t0).length := (List.getElem?_eq_some_iff.1 hv).1
      rw [List.getElem?_toArray, List.getElem?_append_left hj]; exact hv
    have Ht0 := Lib.hid ht0
    clear ht0
    have hr5 : (w4.alloc (.cells (Array.replicate 32 (.int .u8 0)) 31)).rangeAt gt 0 (W32 t0) := fun j v hv => (World.cell?_alloc_lt w4 _ _ (by exact hgt4)).trans (hr4 j v hv)
    have Hr5 := Lib.hid hr5
    have Hout4 := Lib.hid hout4
    have Hi5 : Hid ((Tryz.prog.info? 58).map (·.size) = some (W32 t0).length) := Lib.hid (by rw [W32_length, ht0l]; kernel_rfl)
    clear hr4 hr5 hout4 hG4 hGt3 hO3 hXt e8 e9 e10 d8 d9 d10 hX4 HGt Hout2 Hr1 hoT htl
    go_wp2_with (refine wpList_load_mid rfl 58 (.tmp 31) rfl gt 0 rfl (W32 t0) (.array 8 54) Hr5.out (by kernel_rfl) rfl Hi5.out ?_)
    obtain ⟨tc, htc⟩ : ∃ tc, tc = (W32 t0).toArray := ⟨_, rfl⟩
    rw [← htc]
    have Htc := Lib.hid htc
    have hol : (be32 t0).length = 32 := by rw [be32_length, ht0l]
    obtain ⟨oc, hoc⟩ : ∃ oc, oc = (B8 (be32 t0)).toArray := ⟨_, rfl⟩
    have hocz : oc.size = 32 := by rw [hoc]; simp [hol]
    have Hoinf : Hid ((Tryz.prog.info? 31).map (·.size) = some oc.size) := Lib.hid (by rw [hocz]; kernel_rfl)
    have Hocz : Hid ((Array.replicate 32 (Value.int .u8 0)).size = oc.size) := Lib.hid (by rw [hocz]; simp)
    have Hone : Hid (oc.all (·.oneCell') = true) := Lib.hid (by rw [hoc]; exact all_oneCell_toArray (B8_oneCell _))
    have Hoc := Lib.hid hoc
    clear htc hBw hb4 hb3 Hr5 Hi5 hoc hocz
    go_loopw [33] (fun i wr => ∃ k : Nat, k ≤ 8 ∧ i = .int .i64 k ∧ Fill wr w4.heap.size 31 32 (B8 (be32 t0)) (4 * k) ∧ Below w4.heap.size w4 wr) (fun i _ => 8 - (intOf i).toNat)
    case atStart => exact ⟨0, Nat.zero_le _, rfl, Fill.new' w4 _ 32 (.int .u8 0) _, (Below.refl _ _).alloc (Nat.le_refl _) _⟩
    case round =>
      obtain ⟨k, hk, rfl, hfill, hbw⟩ := hrel
      by_cases hlt : k < 8
      · obtain ⟨x, hx⟩ : ∃ x, x = t0[k] := ⟨_, rfl⟩
        have hix := run_index_u32 (P := Tryz.prog) 58 54 8 tc .i64 k (.int .u32 (x.toNat : Int)) (by kernel_rfl) (by kernel_rfl) (by kernel_rfl) hlt (by rw [Htc.out]; simp [W32, ht0l, hlt, hx])
        have hxl := x.isLt
        obtain ⟨v0, c0⟩ := hfill.cell (j := 4 * k) (by omega)
        obtain ⟨v1, c1⟩ := hfill.cell (j := 4 * k + 1) (by omega)
        obtain ⟨v2, c2⟩ := hfill.cell (j := 4 * k + 2) (by omega)
        obtain ⟨v3, c3⟩ := hfill.cell (j := 4 * k + 3) (by omega)
        have z0 := hfill.frozen (4 * k)
        have z1 := hfill.frozen (4 * k + 1)
        have z2 := hfill.frozen (4 * k + 2)
        have z3 := hfill.frozen (4 * k + 3)
        have Hx := Lib.hid hx
        clear hx
        go_wp2_with fail
        obtain ⟨g0, g1, g2, g3⟩ := be32_get t0 k (by omega)
        rw [← Hx.out] at g0 g1 g2 g3
        have b8 : ∀ (j m : Nat), (be32 t0)[j]? = some (UInt8.ofNat m) → (B8 (be32 t0))[j]? = some (Value.int IntKind.u8 ((m % 256 : Nat) : Int)) := fun j m h => by
          rw [B8, List.getElem?_map, h]; simp
        have f1 := hfill.set (by omega) (b8 _ _ g0)
        have f2 := f1.set (by omega) (b8 _ _ g1)
        have f3 := f2.set (by omega) (b8 _ _ g2)
        have f4 := f3.set (by omega) (b8 _ _ g3)
        have e0 : ((x.toNat / 16777216 % 256 : Nat) : Int) = (x.toNat : Int) / 16777216 := by omega
        have e1 : ((x.toNat / 65536 % 256 : Nat) : Int) = (x.toNat : Int) / 65536 % 256 := by omega
        have e2 : ((x.toNat / 256 % 256 : Nat) : Int) = (x.toNat : Int) / 256 % 256 := by omega
        have e3 : ((x.toNat % 256 : Nat) : Int) = (x.toNat : Int) % 256 := by omega
        rw [e0, e1, e2, e3] at f4
        have hbE := (((hbw.setCell (p := ⟨w4.heap.size, 4 * k, none⟩) (Nat.le_refl _) (.int .u8 ((x.toNat : Int) / 16777216))).setCell (p := ⟨w4.heap.size, 4 * k + 1, none⟩) (Nat.le_refl _) (.int .u8 ((x.toNat : Int) / 65536 % 256))).setCell (p := ⟨w4.heap.size, 4 * k + 2, none⟩) (Nat.le_refl _) (.int .u8 ((x.toNat : Int) / 256 % 256))).setCell (p := ⟨w4.heap.size, 4 * k + 3, none⟩) (Nat.le_refl _) (.int .u8 ((x.toNat : Int) % 256))
        exact ⟨⟨k + 1, by omega, rfl, f4, hbE⟩, by simp [intOf]; omega⟩
      · obtain rfl : k = 8 := by omega
        have hdone := hfill.done (by simp [hol])
        rw [← Hoc.out] at hdone
        have hgo4 : w.heap.size < w4.heap.size := by have := hBw4.size; have := hb14.size; omega
        have houtr := (hbw.block w.heap.size hgo4).trans Hout4.out
        have Hdone := Lib.hid hdone
        have Houtr := Lib.hid houtr
        clear hdone houtr hfill
        go_wp2_with (first | (refine wpList_load_row rfl 31 (.tmp 4) rfl w4.heap.size rfl 31 oc (0, 0) (.array 32 5) Hdone.out (by kernel_rfl) rfl Hoinf.out ?_) | (refine wpList_store_row rfl 31 (.tmp 2) (.tmp 64) rfl w.heap.size oc rfl rfl 31 _ Houtr.out Hoinf.out Hocz.out Hone.out ?_))
        refine bodyPost_ret (v := .agg oc) ?_ rfl ⟨by rw [Hoc.out, Ht0.out, Htl.out], below_setRow' (hBw4.trans (hbw.mono (by omega))) (Nat.le_refl _) _⟩
        exact results_cell_row rfl _ _ w.heap.size 31 oc (0, 0) (.array 32 5) rfl (setRow_heap _ _ _ _ _ _ Houtr.out) (by kernel_rfl) rfl Hoinf.out
end Go.Proofs.YtkiigonikeeikaaGreatDoor

/-! hash.Sum256, Twice, Double. -/
namespace Go.Proofs.YtkiigonikeeikaaGreatDoor
open Go.RowKit Go.Shelf

theorem blk_front (st : List (BitVec 32)) (m t : List UInt8) (j : Nat) (h : 64 * j ≤ m.length) : blk st (m ++ t) j = blk st m j := by
  induction j with
  | zero => rfl
  | succ j ih => rw [blk, blk, ih (by omega), List.drop_append_of_le_length (by omega), List.take_append_of_le_length (by simp; omega)]
theorem blk_join (st : List (BitVec 32)) (m t : List UInt8) (j q : Nat) (h : 64 * j ≤ m.length) : blk (blk st m j) (m.drop (64 * j) ++ t) q = blk st (m ++ t) (j + q) := by
  induction q with
  | zero => rw [blk, Nat.add_zero, blk_front st m t j h]
  | succ q ih =>
    rw [blk, ih, ← Nat.add_assoc, blk, ← List.drop_append_of_le_length h, List.drop_drop]
    rw [show 64 * j + 64 * q = 64 * (j + q) by omega]
def msg (b : List UInt8) : List UInt8 := b ++ tailL b.length 8
/-- SHA-256, as plain words. -/
def sha (b : List UInt8) : List UInt8 := be32 (blk H256 (msg b) ((msg b).length / 64))
theorem sha_length (b : List UInt8) : (sha b).length = 32 := by rw [sha, be32_length, blk_length, H256_length]
theorem sha_parts (b : List UInt8) : be32 (blk (blk H256 b (b.length / 64)) (b.drop (64 * (b.length / 64)) ++ tailL b.length 8) ((b.drop (64 * (b.length / 64)) ++ tailL b.length 8).length / 64)) = sha b := by
  rw [sha, blk_join _ _ _ _ _ (by omega), msg]
  congr 2
  simp only [List.length_append, List.length_drop]
  omega

set_option maxRecDepth 100000 in
set_option maxHeartbeats 2000000 in
theorem sum256_any (A : Option Addr) (c : Nat) (b : List UInt8) (w : World) (hs : Sl w w.heap.size A (B8 b)) (hl : b.length ≤ 2048) (hbc : b.length ≤ c) (hc : c ≤ maxLen) :
    Calls Tryz.prog 7 #[.slice A b.length c] w fun e W' => e = .returned (.agg (B8 (sha b)).toArray) ∧ Below w.heap.size w W' := by
  have hs0 := hs
  go_enter Tryz.func7, Tryz.ntmps7
  go_wp2_with fail
  obtain ⟨wa, hwa⟩ : ∃ wa, wa = w.alloc (.cells (Array.replicate 32 (.int .u8 0)) 31) := ⟨_, rfl⟩
  obtain ⟨w1, hw1⟩ : ∃ w1, w1 = wa.alloc (.cells (SC (List.replicate 8 0) (.slice none 0 0) (.int .u64 (0 : Nat)) (.bool false)) 61) := ⟨_, rfl⟩
  have hza : wa.heap.size = w.heap.size + 1 := by rw [hwa]; exact World.size_alloc _ _
  have hz1 : w1.heap.size = w.heap.size + 2 := by rw [hw1, World.size_alloc, hza]
  have hgt : w1.heap[w.heap.size + 1]? = some (.cells (SC (List.replicate 8 0) (.slice none 0 0) (.int .u64 (0 : Nat)) (.bool false)) 61 (0, 0)) := by rw [hw1, ← hza]; exact heap_alloc_new wa _
  have hout : wa.heap[w.heap.size]? = some (.cells (Array.replicate 32 (.int .u8 0)) 31 (0, 0)) := by rw [hwa]; exact heap_alloc_new w _
  have hout1 : w1.heap[w.heap.size]? = some (.cells (Array.replicate 32 (.int .u8 0)) 31 (0, 0)) := by rw [hw1]; exact (Below.heap_alloc wa _ _ (by omega)).trans hout
  have hBa : Below w.heap.size w wa := by rw [hwa]; exact (Below.refl _ w).alloc (Nat.le_refl _) _
  have hB1 : Below w.heap.size w w1 := by rw [hw1]; exact hBa.alloc (by omega) _
  have hX1 : Sx (w.heap.size + 1) w1 A (B8 b) := fun hn => by
    obtain ⟨bb, o, e, hb, hcl⟩ := (hs0.below hB1) hn
    exact ⟨bb, o, e, by omega, by omega, hcl⟩
  refine (show w1 = _ by rw [hw1, hwa]) ▸ ?_
  clear hwa hw1 hout hBa
  refine (add_new (w.heap.size + 1) (w.heap.size + 1) (List.replicate 8 0) (by simp) (.slice none 0 0) [] b 0 A c w1 (Nat.le_refl _) hgt (by omega) (Ow.nil_ _ _ _ _) hX1 (by omega) (by simpa using (by omega : b.length ≤ 8192)) hbc hc).mono ?_
  rintro e w2 ⟨rfl, hB2, A2, c2, hc2, hc2', hX2, hG2⟩
  rw [List.nil_append] at hc2 hX2 hG2
  rw [Nat.zero_add] at hG2
  have hout2 := (hB2.block w.heap.size (by omega)).trans hout1
  have hwb : (b.drop (64 * (b.length / 64))).length = b.length % 64 := by rw [List.length_drop]; omega
  rw [← hwb] at hG2 hc2
  go_wp2_with fail
  refine (hash_any (w.heap.size + 1) (blk H256 b (b.length / 64)) (by rw [blk_length]; rfl) A2 c2 (b.drop (64 * (b.length / 64))) b.length w2 hG2 hX2 (by omega) (by omega) hc2 hc2').mono ?_
  rw [sha_parts]
  rintro e w3 ⟨rfl, hB3⟩
  obtain ⟨rr, hrr⟩ : ∃ rr, rr = sha b := ⟨_, rfl⟩
  have hrl : rr.length = 32 := by rw [hrr]; exact sha_length _
  rw [← hrr]
  obtain ⟨oc, hoc⟩ : ∃ oc, oc = (B8 rr).toArray := ⟨_, rfl⟩
  have hocz : oc.size = 32 := by rw [hoc]; simp [hrl]
  have Hoinf : Hid ((Tryz.prog.info? 31).map (·.size) = some oc.size) := Lib.hid (by rw [hocz]; kernel_rfl)
  have Hocz : Hid ((Array.replicate 32 (Value.int .u8 0)).size = oc.size) := Lib.hid (by rw [hocz]; simp)
  have Hone : Hid (oc.all (·.oneCell') = true) := Lib.hid (by rw [hoc]; exact all_oneCell_toArray (B8_oneCell _))
  have hz2 := hB2.size
  have hz2' : w.heap.size + 1 < w2.heap.size := (Array.getElem?_eq_some_iff.1 hG2).1
  have hout3 := (hB3.block w.heap.size (by omega)).trans hout2
  have hBw3 := (hB1.trans (hB2.mono (by omega))).trans (hB3.mono (by omega))
  have Hoc := Lib.hid hoc
  have Hrr := Lib.hid hrr
  have Hout3 := Lib.hid hout3
  rw [← hoc]
  clear hoc hrr hrl hocz hout3 hout2 hout1 hG2 hX2 hgt hX1 hs0
  go_wp2_with (refine wpList_store_row rfl 31 (.tmp 2) (.tmp 6) rfl w.heap.size oc rfl rfl 31 _ Hout3.out Hoinf.out Hocz.out Hone.out ?_)
  refine bodyPost_ret (v := .agg oc) ?_ rfl ⟨by rw [Hoc.out, Hrr.out], below_setRow' hBw3 (Nat.le_refl _) _⟩
  exact results_cell_row rfl _ _ w.heap.size 31 oc (0, 0) (.array 32 5) rfl (setRow_heap _ _ _ _ _ _ Hout3.out) (by kernel_rfl) rfl Hoinf.out

set_option maxRecDepth 100000 in
set_option maxHeartbeats 2000000 in
theorem twice_any (g : Nat) (st : List (BitVec 32)) (hst : st.length = 8) (A : Option Addr) (c : Nat) (wb : List UInt8) (n : Nat) (w : World)
    (hg : w.heap[g]? = some (.cells (SC st (.slice A wb.length c) (.int .u64 n) (.bool true)) 61 (0, 0))) (hX : Sx g w A (B8 wb)) (hn : n ≤ 4096) (hwb : wb.length ≤ 64) (hwc : wb.length ≤ c) (hc : c ≤ maxLen) :
    Calls Tryz.prog 67 #[.pointer (some ⟨g, 0, none⟩)] w fun e W' => e = .returned (.agg (B8 (sha (be32 (blk st (wb ++ tailL n 8) ((wb ++ tailL n 8).length / 64))))).toArray) ∧ Below w.heap.size w W' := by
  have hgs : g < w.heap.size := (Array.getElem?_eq_some_iff.1 hg).1
  have Hg := Lib.hid hg
  clear hg
  go_enter Tryz.func67, Tryz.ntmps67
  go_wp2_with fail
  obtain ⟨wa, hwa⟩ : ∃ wa, wa = w.alloc (.cells (Array.replicate 32 (.int .u8 0)) 31) := ⟨_, rfl⟩
  have hza : wa.heap.size = w.heap.size + 1 := by rw [hwa]; exact World.size_alloc _ _
  have hout : wa.heap[w.heap.size]? = some (.cells (Array.replicate 32 (.int .u8 0)) 31 (0, 0)) := by rw [hwa]; exact heap_alloc_new w _
  have hBa : Below w.heap.size w wa := by rw [hwa]; exact (Below.refl _ w).alloc (Nat.le_refl _) _
  have hga := (hBa.block g hgs).trans Hg.out
  have hXa := hX.below hBa
  refine (show wa = _ from hwa) ▸ ?_
  clear hwa
  refine (hash_any g st hst A c wb n wa hga hXa hn hwb hwc hc).mono ?_
  rintro e w1 ⟨rfl, hB1⟩
  obtain ⟨h1, hh1⟩ : ∃ h1, h1 = be32 (blk st (wb ++ tailL n 8) ((wb ++ tailL n 8).length / 64)) := ⟨_, rfl⟩
  have hl1 : h1.length = 32 := by rw [hh1, be32_length, blk_length, hst]
  rw [← hh1]
  obtain ⟨oc, hoc⟩ : ∃ oc, oc = (B8 h1).toArray := ⟨_, rfl⟩
  have hocz : oc.size = 32 := by rw [hoc]; simp [hl1]
  have Hoinf : Hid ((Tryz.prog.info? 31).map (·.size) = some oc.size) := Lib.hid (by rw [hocz]; kernel_rfl)
  have Hocz : Hid ((Array.replicate 32 (Value.int .u8 0)).size = oc.size) := Lib.hid (by rw [hocz]; simp)
  have Hone : Hid (oc.all (·.oneCell') = true) := Lib.hid (by rw [hoc]; exact all_oneCell_toArray (B8_oneCell _))
  rw [← hoc]
  have Hoc := Lib.hid hoc
  have Hh1 := Lib.hid hh1
  have hz1 := hB1.size
  have hout1 := (hB1.block w.heap.size (by omega)).trans hout
  have Hout1 := Lib.hid hout1
  clear hoc hh1 hocz hout1 hout hga hXa
  go_wp2_with (refine wpList_store_row rfl 31 (.tmp 3) (.tmp 5) rfl w1.heap.size oc rfl rfl 31 _ (heap_alloc_new w1 _) Hoinf.out Hocz.out Hone.out ?_)
  rw [World.setRow_alloc_new]
  obtain ⟨w2, hw2⟩ : ∃ w2, w2 = w1.alloc (.cells oc 31) := ⟨_, rfl⟩
  rw [← hw2]
  have hB2 : Below w1.heap.size w1 w2 := by rw [hw2]; exact (Below.refl _ _).alloc (Nat.le_refl _) _
  have hz2 : w2.heap.size = w1.heap.size + 1 := by rw [hw2]; exact World.size_alloc _ _
  have hgh : w2.heap[w1.heap.size]? = some (.cells (B8 h1).toArray 31 (0, 0)) := by rw [hw2, ← Hoc.out]; exact heap_alloc_new w1 _
  have hS2 : Sl w2 w2.heap.size (some ⟨w1.heap.size, 0, none⟩) (B8 h1) := fun _ => ⟨_, 0, rfl, by omega, fun j hj => by
    rw [cell_of_row w2 _ _ _ _ (0, 0) hgh, Nat.zero_add]; simp⟩
  have hout2 := (hB2.block w.heap.size (by omega)).trans Hout1.out
  have hsum := sum256_any (some ⟨w1.heap.size, 0, none⟩) 32 h1 w2 hS2 (by omega) (by omega) (by decide)
  rw [hl1] at hsum
  refine hsum.mono ?_
  rintro e w3 ⟨rfl, hB3⟩
  have hout3 := (hB3.block w.heap.size (by omega)).trans hout2
  have hBw3 := ((hBa.trans (hB1.mono (by omega))).trans (hB2.mono (by omega))).trans (hB3.mono (by omega))
  rw [Hh1.out]
  obtain ⟨rr, hrr⟩ : ∃ rr, rr = sha (be32 (blk st (wb ++ tailL n 8) ((wb ++ tailL n 8).length / 64))) := ⟨_, rfl⟩
  have hrl : rr.length = 32 := by rw [hrr]; exact sha_length _
  rw [← hrr]
  clear Hoinf Hocz Hone Hoc hw2 hgh hS2 hsum
  obtain ⟨oc, hoc⟩ : ∃ oc, oc = (B8 rr).toArray := ⟨_, rfl⟩
  have hocz : oc.size = 32 := by rw [hoc]; simp [hrl]
  have Hoinf : Hid ((Tryz.prog.info? 31).map (·.size) = some oc.size) := Lib.hid (by rw [hocz]; kernel_rfl)
  have Hocz : Hid ((Array.replicate 32 (Value.int .u8 0)).size = oc.size) := Lib.hid (by rw [hocz]; simp)
  have Hone : Hid (oc.all (·.oneCell') = true) := Lib.hid (by rw [hoc]; exact all_oneCell_toArray (B8_oneCell _))
  have Hoc := Lib.hid hoc
  have Hrr := Lib.hid hrr
  have Hout3 := Lib.hid hout3
  rw [← hoc]
  clear hoc hrr hrl hocz hout3 hout2
  go_wp2_with (refine wpList_store_row rfl 31 (.tmp 2) (.tmp 7) rfl w.heap.size oc rfl rfl 31 _ Hout3.out Hoinf.out Hocz.out Hone.out ?_)
  refine bodyPost_ret (v := .agg oc) ?_ rfl ⟨by rw [Hoc.out, Hrr.out], below_setRow' hBw3 (Nat.le_refl _) _⟩
  exact results_cell_row rfl _ _ w.heap.size 31 oc (0, 0) (.array 32 5) rfl (setRow_heap _ _ _ _ _ _ Hout3.out) (by kernel_rfl) rfl Hoinf.out

set_option maxRecDepth 100000 in
set_option maxHeartbeats 2000000 in
theorem double_any (A : Option Addr) (c : Nat) (b : List UInt8) (w : World) (hs : Sl w w.heap.size A (B8 b)) (hl : b.length ≤ 2048) (hbc : b.length ≤ c) (hc : c ≤ maxLen) :
    Calls Tryz.prog 37 #[.slice A b.length c] w fun e W' => e = .returned (.agg (B8 (sha (sha b))).toArray) ∧ Below w.heap.size w W' := by
  have hs0 := hs
  go_enter Tryz.func37, Tryz.ntmps37
  go_wp2_with fail
  obtain ⟨wa, hwa⟩ : ∃ wa, wa = w.alloc (.cells (Array.replicate 32 (.int .u8 0)) 31) := ⟨_, rfl⟩
  obtain ⟨w1, hw1⟩ : ∃ w1, w1 = wa.alloc (.cells (SC (List.replicate 8 0) (.slice none 0 0) (.int .u64 (0 : Nat)) (.bool false)) 61) := ⟨_, rfl⟩
  have hza : wa.heap.size = w.heap.size + 1 := by rw [hwa]; exact World.size_alloc _ _
  have hz1 : w1.heap.size = w.heap.size + 2 := by rw [hw1, World.size_alloc, hza]
  have hgt : w1.heap[w.heap.size + 1]? = some (.cells (SC (List.replicate 8 0) (.slice none 0 0) (.int .u64 (0 : Nat)) (.bool false)) 61 (0, 0)) := by rw [hw1, ← hza]; exact heap_alloc_new wa _
  have hout : wa.heap[w.heap.size]? = some (.cells (Array.replicate 32 (.int .u8 0)) 31 (0, 0)) := by rw [hwa]; exact heap_alloc_new w _
  have hout1 : w1.heap[w.heap.size]? = some (.cells (Array.replicate 32 (.int .u8 0)) 31 (0, 0)) := by rw [hw1]; exact (Below.heap_alloc wa _ _ (by omega)).trans hout
  have hBa : Below w.heap.size w wa := by rw [hwa]; exact (Below.refl _ w).alloc (Nat.le_refl _) _
  have hB1 : Below w.heap.size w w1 := by rw [hw1]; exact hBa.alloc (by omega) _
  have hX1 : Sx (w.heap.size + 1) w1 A (B8 b) := fun hn => by
    obtain ⟨bb, o, e, hb, hcl⟩ := (hs0.below hB1) hn
    exact ⟨bb, o, e, by omega, by omega, hcl⟩
  refine (show w1 = _ by rw [hw1, hwa]) ▸ ?_
  clear hwa hw1 hout hBa
  refine (add_new (w.heap.size + 1) (w.heap.size + 1) (List.replicate 8 0) (by simp) (.slice none 0 0) [] b 0 A c w1 (Nat.le_refl _) hgt (by omega) (Ow.nil_ _ _ _ _) hX1 (by omega) (by simpa using (by omega : b.length ≤ 8192)) hbc hc).mono ?_
  rintro e w2 ⟨rfl, hB2, A2, c2, hc2, hc2', hX2, hG2⟩
  rw [List.nil_append] at hc2 hX2 hG2
  rw [Nat.zero_add] at hG2
  have hout2 := (hB2.block w.heap.size (by omega)).trans hout1
  have hwb : (b.drop (64 * (b.length / 64))).length = b.length % 64 := by rw [List.length_drop]; omega
  rw [← hwb] at hG2 hc2
  go_wp2_with fail
  refine (twice_any (w.heap.size + 1) (blk H256 b (b.length / 64)) (by rw [blk_length]; rfl) A2 c2 (b.drop (64 * (b.length / 64))) b.length w2 hG2 hX2 (by omega) (by omega) hc2 hc2').mono ?_
  rw [sha_parts]
  rintro e w3 ⟨rfl, hB3⟩
  obtain ⟨rr, hrr⟩ : ∃ rr, rr = sha (sha b) := ⟨_, rfl⟩
  have hrl : rr.length = 32 := by rw [hrr]; exact sha_length _
  rw [← hrr]
  obtain ⟨oc, hoc⟩ : ∃ oc, oc = (B8 rr).toArray := ⟨_, rfl⟩
  have hocz : oc.size = 32 := by rw [hoc]; simp [hrl]
  have Hoinf : Hid ((Tryz.prog.info? 31).map (·.size) = some oc.size) := Lib.hid (by rw [hocz]; kernel_rfl)
  have Hocz : Hid ((Array.replicate 32 (Value.int .u8 0)).size = oc.size) := Lib.hid (by rw [hocz]; simp)
  have Hone : Hid (oc.all (·.oneCell') = true) := Lib.hid (by rw [hoc]; exact all_oneCell_toArray (B8_oneCell _))
  have hz2 := hB2.size
  have hz2' : w.heap.size + 1 < w2.heap.size := (Array.getElem?_eq_some_iff.1 hG2).1
  have hout3 := (hB3.block w.heap.size (by omega)).trans hout2
  have hBw3 := (hB1.trans (hB2.mono (by omega))).trans (hB3.mono (by omega))
  have Hoc := Lib.hid hoc
  have Hrr := Lib.hid hrr
  have Hout3 := Lib.hid hout3
  rw [← hoc]
  clear hoc hrr hrl hocz hout3 hout2 hout1 hG2 hX2 hgt hX1 hs0
  go_wp2_with (refine wpList_store_row rfl 31 (.tmp 2) (.tmp 6) rfl w.heap.size oc rfl rfl 31 _ Hout3.out Hoinf.out Hocz.out Hone.out ?_)
  refine bodyPost_ret (v := .agg oc) ?_ rfl ⟨by rw [Hoc.out, Hrr.out], below_setRow' hBw3 (Nat.le_refl _) _⟩
  exact results_cell_row rfl _ _ w.heap.size 31 oc (0, 0) (.array 32 5) rfl (setRow_heap _ _ _ _ _ _ Hout3.out) (by kernel_rfl) rfl Hoinf.out
end Go.Proofs.YtkiigonikeeikaaGreatDoor

/-! ref02.fill. -/
namespace Go.Proofs.YtkiigonikeeikaaGreatDoor
open Go.RowKit Go.Shelf

def slen : Value → Nat
  | .slice _ n _ => n
  | _ => 0
/-- The lowest i bytes of a number, the lowest first. -/
def lows (m i : Nat) : List UInt8 := (List.range i).map fun j => UInt8.ofNat (m / 256 ^ j)
theorem lows_succ (m i : Nat) : lows m (i + 1) = lows m i ++ [UInt8.ofNat (m / 256 ^ i)] := by simp [lows, List.range_succ]
theorem lows_length (m i : Nat) : (lows m i).length = i := by simp [lows]
theorem lows_get (m i j : Nat) (h : j < i) : (B8 (lows m i))[j]? = some (.int .u8 ((m / 256 ^ j % 256 : Nat) : Int)) := by simp [B8, lows, h]
/-- The last k of eight. -/
def tops (m : Nat) : Nat → List UInt8
  | 0 => []
  | k + 1 => tops m k ++ [UInt8.ofNat (m / 256 ^ (8 - 1 - k))]
theorem tops_succ (m k : Nat) : tops m (k + 1) = tops m k ++ [UInt8.ofNat (m / 256 ^ (8 - 1 - k))] := rfl
theorem tops_eight (m : Nat) : tops m 8 = low8 m 8 := by simp [tops, low8, List.range, List.range.loop]
theorem fill_msg (b : List UInt8) (f : Nat) (hf : f = 63 - (b.length % 64 + 8) % 64) : b ++ 128 :: List.replicate f 0 ++ tops (b.length * 8) 8 = msg b := by
  rw [tops_eight, msg, tailL, ← hf]; simp

theorem lows_next (n k q : Nat) (h : q = n * 8 / 256 ^ k) : ((q : Int) / 256) = ((n : Int) * 8 / 256 ^ (k + 1)) := by
  have h2 : q / 256 = n * 8 / 256 ^ (k + 1) := by rw [h, Nat.div_div_eq_div_mul, ← Nat.pow_succ]
  have h3 : ((q / 256 : Nat) : Int) = ((n * 8 / 256 ^ (k + 1) : Nat) : Int) := by rw [h2]
  rw [Int.natCast_ediv, Int.natCast_ediv, Int.natCast_mul, Int.natCast_pow] at h3
  exact h3
theorem tops_length (m k : Nat) : (tops m k).length = k := by
  induction k with
  | zero => rfl
  | succ k ih => simp [tops, ih]
end Go.Proofs.YtkiigonikeeikaaGreatDoor

/-! A region that draws its order, as a tree: where two operations that make memory come up side by side the ways part, as often as they do. -/
namespace Go.Proofs.YtkiigonikeeikaaGreatDoor
open Go Go.RowKit
section
variable {P : Program} {ops : Array Oper} {md : Region.Mode}
variable {Q : Act → World → Prop} {st : Nat → (Act → World → Prop) → Act → World → Prop} {N : Nat}

def closedB (md : Region.Mode) (ops : Array Oper) (listed : Array Bool) : Bool :=
  decide (listed.size = ops.size) && (List.range ops.size).all fun j => !(listed.getD j false) || (match ops[j]? with | some oj => oj.after.all fun e => !(Region.binds md e) || listed.getD e.on false | none => true)
theorem closedB_spec {listed : Array Bool} (h : closedB md ops listed = true) : Closed md ops listed := by
  simp only [closedB, Bool.and_eq_true, decide_eq_true_eq, List.all_eq_true, List.mem_range, Bool.or_eq_true, Bool.not_eq_true'] at h
  refine ⟨h.1, fun j oj hj hl e he hb => ?_⟩
  have hjs : j < ops.size := (Array.getElem?_eq_some_iff.1 hj).1
  rcases h.2 j hjs with h1 | h1
  · rw [hl] at h1; cases h1
  · rw [hj] at h1
    have h2 := Array.all_eq_true_iff_forall_mem.1 h1 e he
    simp only [Bool.or_eq_true, Bool.not_eq_true'] at h2
    rcases h2 with h2 | h2
    · rw [hb] at h2; cases h2
    · exact h2

/-- From this state on, what C asks is enough for every order. -/
def Snd (md : Region.Mode) (ops : Array Oper) (Q : Act → World → Prop) (st : Nat → (Act → World → Prop) → Act → World → Prop) (N : Nat) (listed : Array Bool) (n : Nat) (C : Act → World → Prop) : Prop :=
  ∀ a w w0, Ext w0 w → C a w → wpAnyS md ops Q st N (Ext w0) n listed a w
def forkC (st : Nat → (Act → World → Prop) → Act → World → Prop) (i : Nat) (Ci : Act → World → Prop) (j : Nat) (Cj : Act → World → Prop) (a : Act) (w : World) : Prop :=
  st i (fun a' w' => Ext w w' ∧ Ci a' w') a w ∧ st j (fun a' w' => Ext w w' ∧ Cj a' w') a w

theorem snd_plan (L : StepLaws P ops Q st) (hsel : Region.noSelect ops = true) (plan : List (Nat × Nat)) (listed : Array Bool) (hB : (planB md ops N plan listed && closedB md ops listed) = true) : Snd md ops Q st N listed plan.length (wpPlan P ops Q st N plan) := by
  intro a w w0 hE h
  simp only [Bool.and_eq_true] at hB
  have hc := closedB_spec hB.2
  have := plan_sound L hsel plan listed a w w0 0 hB.1 hc hc.1 hE h
  simpa using this
theorem snd_fork (L : StepLaws P ops Q st) (i j n : Nat) (listed : Array Bool) (hr : (Region.ready md ops listed == [i, j]) = true) {Ci Cj : Act → World → Prop}
    (hi : Snd md ops Q st N (listed.setIfInBounds i true) n Ci) (hj : Snd md ops Q st N (listed.setIfInBounds j true) n Cj) : Snd md ops Q st N listed (n + 1) (forkC st i Ci j Cj) := by
  intro a w w0 hE h
  have hr : Region.ready md ops listed = [i, j] := by simpa using hr
  refine ⟨fun h0 => (by rw [hr] at h0; cases h0), fun k hk => ?_⟩
  rw [hr] at hk
  simp only [List.mem_cons, List.not_mem_nil, or_false] at hk
  rcases hk with rfl | rfl
  · exact L.mono (fun a' w' h' => have hE' := hE.trans h'.1; ⟨.inr hE', hi a' w' w0 hE' h'.2⟩) h.1
  · exact L.mono (fun a' w' h' => have hE' := hE.trans h'.1; ⟨.inr hE', hj a' w' w0 hE' h'.2⟩) h.2
/-- Quiet steps ahead. -/
def preB (md : Region.Mode) (ops : Array Oper) (N : Nat) : List (Nat × Nat) → Array Bool → Bool
  | [], _ => true
  | (i, k) :: rest, listed =>
    (if k = 0 then (Region.ready md ops listed).contains i && Region.free md ops listed i && decide (i < N)
     else if k = 1 then (Region.ready md ops listed).contains i && Region.free md ops listed i && decide (i < N) && ((List.range ops.size).all fun j => decide (j < N) || anc md ops ops.size j i)
     else (Region.ready md ops listed == [i]) && decide (i < N)) && preB md ops N rest (listed.setIfInBounds i true)
def listAll : List (Nat × Nat) → Array Bool → Array Bool
  | [], l => l
  | (i, _) :: rest, l => listAll rest (l.setIfInBounds i true)
theorem snd_pre (L : StepLaws P ops Q st) (hsel : Region.noSelect ops = true) (n : Nat) {C : Act → World → Prop} : ∀ (pre : List (Nat × Nat)) (listed : Array Bool),
    preB md ops N pre listed = true → Closed md ops listed → Snd md ops Q st N (listAll pre listed) n C → Snd md ops Q st N listed (pre.length + n) (wpPlan P ops C st N pre)
  | [], listed, _, _, hS => by
    intro a w w0 hE h
    rw [List.length_nil, Nat.zero_add]
    exact hS a w w0 hE h
  | (i, k) :: rest, listed, hB, hcl, hS => by
    intro a w w0 hE h
    have hlen : ((i, k) :: rest).length + n = (rest.length + n) + 1 := by simp; omega
    rw [hlen]
    by_cases hk0 : k = 0
    · simp only [preB, hk0, if_true, Bool.and_eq_true, decide_eq_true_eq] at hB
      obtain ⟨⟨⟨hr, hf⟩, hiN⟩, hrest⟩ := hB
      have hr' : i ∈ Region.ready md ops listed := by simpa using hr
      simp only [wpPlan, hk0, if_true] at h
      split at h
      · exact h.elim
      · rename_i o ho
        obtain ⟨v, hy, hK⟩ := h
        have hrec := snd_pre L hsel n rest (listed.setIfInBounds i true) hrest (hcl.set hr') hS (a.put o.dst v) w w0 hE hK
        exact wpAnyS_first L (S := Ext w0) (S1 := fun _ => True) ho (Region.noSelect_spec hsel) hiN (fun _ _ _ _ _ => trivial) (rest.length + n) listed a w hcl (Region.free_spec ho hf) hr' hy (.inr hE) hrec
    by_cases hk1 : k = 1
    · subst hk1
      simp only [preB, if_true, Bool.and_eq_true, decide_eq_true_eq, Nat.one_ne_zero, if_false] at hB
      obtain ⟨⟨⟨⟨hr, hf⟩, hiN⟩, hanc⟩, hrest⟩ := hB
      have hr' : i ∈ Region.ready md ops listed := by simpa using hr
      simp only [wpPlan, if_true, Nat.one_ne_zero, if_false] at h
      split at h
      · exact h.elim
      · rename_i o ho
        obtain ⟨v, hy, hK⟩ := h
        have hrec := snd_pre L hsel n rest (listed.setIfInBounds i true) hrest (hcl.set hr') hS (a.put o.dst v) w w (Ext.refl w) hK
        have h1 := wpAnyS_first L (S := Ext w) (S1 := Ext w) ho (Region.noSelect_spec hsel) hiN (fun l w' hc hu ht => by
          rcases ht with ⟨t, ht, hl⟩ | h
          · exfalso
            have hts : t < ops.size ∨ ¬ t < ops.size := Decidable.em _
            rcases hts with hts | hts
            · have := List.all_eq_true.1 hanc t (List.mem_range.2 hts)
              simp only [Bool.or_eq_true, decide_eq_true_eq] at this
              have := anc_listed hc _ _ _ hl (this.resolve_left (by omega))
              rw [unlisted_false hu] at this
              cases this
            · rw [show l.getD t false = false by simp [Array.getElem?_eq_none (show l.size ≤ t by rw [hc.1]; omega)]] at hl
              cases hl
          · exact h) (rest.length + n) listed a w hcl (Region.free_spec ho hf) hr' hy (.inr (Ext.refl w)) hrec
        exact wpAnyS_weak L (fun w' hw' => hE.trans hw') _ _ _ _ h1
    · simp only [preB, hk0, hk1, if_false, Bool.and_eq_true, decide_eq_true_eq] at hB
      obtain ⟨⟨hr, hiN⟩, hrest⟩ := hB
      have hr : Region.ready md ops listed = [i] := by simpa using hr
      have hr' : i ∈ Region.ready md ops listed := by rw [hr]; simp
      refine ⟨fun h0 => (by rw [h0] at hr; cases hr), fun j hj => ?_⟩
      rw [hr] at hj
      obtain rfl : j = i := by simpa using hj
      simp only [wpPlan, hk0, hk1, if_false] at h
      refine L.mono (fun a' w' h' => ?_) h
      have hE' := hE.trans (h'.1.resolve_left (by omega))
      exact ⟨.inr hE', snd_pre L hsel n rest _ hrest (hcl.set hr') hS a' w' w0 hE' h'.2⟩
theorem snd_pre' (L : StepLaws P ops Q st) (hsel : Region.noSelect ops = true) (n : Nat) {C : Act → World → Prop} (pre : List (Nat × Nat)) (listed : Array Bool) (hB : (preB md ops N pre listed && closedB md ops listed) = true)
    (h : Snd md ops Q st N (listAll pre listed) n C) : Snd md ops Q st N listed (pre.length + n) (wpPlan P ops C st N pre) := by
  simp only [Bool.and_eq_true] at hB
  exact snd_pre L hsel n pre listed hB.1 (closedB_spec hB.2) h
end
section
variable {P : Program} {ops : Array Oper} {N : Nat}
/-- **A region that draws, along a tree.** -/
theorem wp_region_tree {id : Nat} {Q : Exit → Act → World → Prop} {a : Act} {w : World} {l : List Oper} (C : Act → World → Prop) (N n : Nat) (hm : P.follows .mixedOrders = true) (hn : (n == l.length) = true) (hQ : ∀ c a d v w, Q (.panic c) (Act.put a d v) w → Q (.panic c) a w)
    (hS : Snd .any l.toArray (Q .normal) (fun i K a w => wpOp P l.toArray Q i K a w) N (Array.replicate l.length false) n C) (h : C a w.drew) : (Code.region id l.toArray true).wp P Q a w := by
  refine wp_region_any hm ?_
  have hn : n = l.length := by simpa using hn
  subst hn
  have := hS a w.drew w.drew (Ext.refl _) h
  have := wpAny_of_S _ _ _ _ this
  simpa using this
theorem forkC_mk {Q : Exit → Act → World → Prop} {i j : Nat} {Ci Cj : Act → World → Prop} {oi oj : Oper} {a : Act} {w : World} (hoi : ops[i]? = some oi) (hoj : ops[j]? = some oj) (hgi : oi.guard = none) (hgj : oj.guard = none)
    (h1 : ∀ K : Act → World → Prop, (∀ a' w', (Ext w w' ∧ Ci a' w') → K a' w') → oi.wp P a w K Q)
    (h2 : ∀ K : Act → World → Prop, (∀ a' w', (Ext w w' ∧ Cj a' w') → K a' w') → oj.wp P a w K Q) :
    forkC (fun i K a w => wpOp P ops Q i K a w) i Ci j Cj a w := by
  constructor
  · simp only [wpOp, hoi, Region.wanted, hgi, if_true]
    exact .inl (h1 _ (fun _ _ h => h))
  · simp only [wpOp, hoj, Region.wanted, hgj, if_true]
    exact .inl (h2 _ (fun _ _ h => h))
end
end Go.Proofs.YtkiigonikeeikaaGreatDoor
