/- hash.Sum.Hash, Twice, Sum256, Double. | hash.Sum256, Twice, Double. | text.code.run, for descs; text.descs; text.letters. | ref02.fill. -/
import Derived.Test.YtjbknfjcdmafaaaDoorU7
import Derived.Test.YtjbknfjcdmafaaaDoorU2
import Derived.Test.YtjbknfjcdmafaaaDoorU4

/-! hash.Sum.Hash, Twice, Sum256, Double. -/
namespace Go.Proofs.YtjbknfjcdmafaaaDoor
open Go.RowKit Go.Shelf

section
variable {P : Program} {ops : Array Oper} {Q : Act → World → Prop} {st : Nat → (Act → World → Prop) → Act → World → Prop} {N : Nat}
theorem wpPlan_load_mid {i : Nat} {rest : List (Nat × Nat)} {o : Oper} {a : Act} {w : World} (ho : ops[i]? = some o) (hg : o.guard = none) (ty : TypeId) (x : Operand) (hop : o.op = .load ty x)
    (b off : Nat) (hx : a.eval x = .pointer (some ⟨b, off, none⟩)) (cs : List Value) (d : TypeDesc) (hc : w.rangeAt b off cs) (hu : P.underlying ty = some d) (hd : d.isRow = true) (hi : (P.info? ty).map (·.size) = some cs.length)
    (h : wpPlan P ops Q st N rest (a.put o.dst (.agg cs.toArray)) w) : wpPlan P ops Q st N ((i, 1) :: rest) a w := by
  simp only [wpPlan, if_true, ho, Nat.one_ne_zero, if_false]
  exact ⟨_, yieldsIf_load_mid (by simp [Region.wanted, hg]) ty x hop b off hx cs d (fun w' hw' j v hv => (hw'.below.cell (World.block_lt_of_cell? w _ (hc j v hv))).trans (hc j v hv)) hu hd hi, h⟩
theorem wpPlan_build {i : Nat} {rest : List (Nat × Nat)} {o : Oper} {a : Act} {w : World} (ho : ops[i]? = some o) (hg : o.guard = none) (t : TypeId) (parts : Array (Nat × Operand)) (hop : o.op = .build t parts) (cells : Array Value)
    (hc : P.built t (parts.map fun (i, x) => (i, a.eval x)).toList = some cells) (h : wpPlan P ops Q st N rest (a.put o.dst (.agg cells)) w) : wpPlan P ops Q st N ((i, 0) :: rest) a w := by
  simp only [wpPlan, if_true, ho]
  refine ⟨_, .inl ⟨by simp [Region.wanted, hg], fun w' _ => ?_⟩, h⟩
  unfold execOp
  simp only [hop, Sem.run_bind, run_build w' t _ cells hc, Result.andThen_ok]
  rfl
end

theorem Ow.sx {w : World} {base E g n c : Nat} {A : Option Addr} {xs : List Value} (h : Ow w base E (.slice A n c) xs) (hg : g < base) : Sx g w A xs := fun hn => by
  obtain ⟨b, o, e2, hb, hc⟩ := h.sl hn
  obtain ⟨A', c', e, h1, h2, h3⟩ := h
  injection e with e1 e3 e4
  obtain ⟨g', cur, e, hbg, _⟩ := h3 (by omega)
  rw [← e1] at e
  rw [e] at e2; injection e2 with e2; injection e2 with e2 e5
  subst e2 e5
  exact ⟨g', 0, e, by omega, hb, hc⟩
theorem grown_setRow (w : World) (g : Nat) (cs : Array Value) : w.grownBy (w.setRow g cs) (some g) := ⟨rfl, rfl, rfl, by simp, fun k _ hne => setRow_other w g k cs (fun e => hne (by rw [e]))⟩
theorem sc_one (st : List (BitVec 32)) (A : Option Addr) (m c : Nat) (k : Int) (b : Bool) : (SC st (.slice A m c) (.int .u64 k) (.bool b)).all (·.oneCell') = true := all_oneCell_toArray fun v hv => by
  simp only [List.mem_append, W32, List.mem_map] at hv
  rcases hv with ⟨x, _, rfl⟩ | hv
  · rfl
  · simp at hv; rcases hv with rfl | rfl | rfl <;> rfl
/-- Words as bytes, the greatest first. -/
def be32 (st : List (BitVec 32)) : List UInt8 := st.flatMap fun x => [UInt8.ofNat (x.toNat / 16777216), UInt8.ofNat (x.toNat / 65536), UInt8.ofNat (x.toNat / 256), UInt8.ofNat x.toNat]
theorem be32_length (st : List (BitVec 32)) : (be32 st).length = 4 * st.length := by
  induction st with
  | nil => rfl
  | cons x st ih => simp [be32] at ih ⊢; omega
theorem be32_get (st : List (BitVec 32)) (k : Nat) (h : k < st.length) : (be32 st)[4 * k]? = some (UInt8.ofNat (st[k].toNat / 16777216)) ∧ (be32 st)[4 * k + 1]? = some (UInt8.ofNat (st[k].toNat / 65536)) ∧
    (be32 st)[4 * k + 2]? = some (UInt8.ofNat (st[k].toNat / 256)) ∧ (be32 st)[4 * k + 3]? = some (UInt8.ofNat st[k].toNat) := by
  induction st generalizing k with
  | nil => simp at h
  | cons x st ih =>
    cases k with
    | zero => simp [be32]
    | succ k =>
      have := ih k (by simpa using h)
      simp only [be32, List.flatMap_cons, List.getElem_cons_succ] at this ⊢
      rw [show 4 * (k + 1) = 4 * k + 4 by omega, show 4 * k + 4 + 1 = 4 * k + 1 + 4 by omega, show 4 * k + 4 + 2 = 4 * k + 2 + 4 by omega, show 4 * k + 4 + 3 = 4 * k + 3 + 4 by omega]
      simpa using this

set_option maxRecDepth 100000 in
set_option maxHeartbeats 2000000 in
theorem hash_any (g : Nat) (st : List (BitVec 32)) (hst : st.length = 8) (A : Option Addr) (c : Nat) (wb : List UInt8) (n : Nat) (w : World)
    (hg : w.heap[g]? = some (.cells (SC st (.slice A wb.length c) (.int .u64 n) (.bool true)) 71 (0, 0))) (hX : Sx g w A (B8 wb)) (hn : n ≤ 4096) (hwb : wb.length ≤ 64) (hwc : wb.length ≤ c) (hc : c ≤ maxLen) :
    Calls Tryd.prog 52 #[.pointer (some ⟨g, 0, none⟩)] w fun e W' => e = .returned (.agg (B8 (be32 (blk st (wb ++ tailL n 8) ((wb ++ tailL n 8).length / 64)))).toArray) ∧ Below w.heap.size w W' := by
  obtain ⟨s0, s1, s2, s3, s4, s5, s6, s7, rfl⟩ : ∃ s0 s1 s2 s3 s4 s5 s6 s7, st = [s0, s1, s2, s3, s4, s5, s6, s7] := by
    match st, hst with
    | [s0, s1, s2, s3, s4, s5, s6, s7], _ => exact ⟨s0, s1, s2, s3, s4, s5, s6, s7, rfl⟩
  clear hst
  have hgs : g < w.heap.size := (Array.getElem?_eq_some_iff.1 hg).1
  have Hg0 := Lib.hid hg
  have hmx : Tryd.prog.follows .mixedOrders = true := by kernel_rfl
  clear hg
  go_enter Tryd.func52, Tryd.ntmps52
  go_wp2_with fail
  obtain ⟨w1, hw1⟩ : ∃ w1, w1 = w.alloc (.cells (Array.replicate 32 (.int .u8 0)) 47) := ⟨_, rfl⟩
  have hout1 : w1.heap[w.heap.size]? = some (.cells (Array.replicate 32 (.int .u8 0)) 47 (0, 0)) := by rw [hw1]; exact heap_alloc_new w _
  have hg1 := (show w1.heap[g]? = w.heap[g]? by rw [hw1]; exact Below.heap_alloc w _ g hgs).trans Hg0.out
  have hX1 : Sx g w1 A (B8 wb) := by rw [hw1]; exact hX.alloc _
  have hB1 : Below w.heap.size w w1 := by rw [hw1]; exact (Below.refl _ w).alloc (Nat.le_refl _) _
  refine (show w1 = _ from hw1) ▸ ?_
  obtain ⟨d8, d9, d10, df⟩ := sc_cell rfl hg1
  have hr1 : w1.rangeAt g 0 (W32 [s0, s1, s2, s3, s4, s5, s6, s7]) := fun j v hv => by
    rw [Nat.zero_add, cell_of_row w1 g j _ _ (0, 0) hg1, SC]
    have hj : j < (W32 [s0, s1, s2, s3, s4, s5, s6, s7]).length := (List.getElem?_eq_some_iff.1 hv).1
    rw [List.getElem?_toArray, List.getElem?_append_left hj]; exact hv
  have Hw1 := Lib.hid hw1
  have Hr1 := Lib.hid hr1
  have Hg1 := Lib.hid hg1
  have Hout1 := Lib.hid hout1
  clear hw1 hg1 hr1 hout1 df
  refine wp_region_fork [(0, 0), (1, 0), (2, 0), (3, 1), (4, 0), (5, 0), (6, 0), (7, 1), (9, 0), (10, 0), (11, 0), (12, 1), (13, 0), (14, 0), (15, 0), (16, 1)] 3 [(8, [(17, 0), (18, 2), (19, 2)]), (18, [(8, 2), (17, 0), (19, 2)])] 19 hmx (by kernel_rfl) (by intro c a d v w h; cases d <;> exact h) ?_
  iterate 3 (refine wpPlan_pure rfl (fun K hK => ?_); go_simp; refine hK _ ?_; clear hK K)
  refine wpPlan_load_mid rfl rfl 69 (.tmp 9) rfl g 0 rfl _ (.array 8 67) Hr1.out (by kernel_rfl) rfl (by kernel_rfl) ?_
  go_simp
  repeat ((first | (refine wpPlan_pure rfl (fun K hK => ?_)) | (refine wpPlan_quiet rfl (fun K hK => ?_))); go_simp; (first | (refine hK _ ?_) | (simp only [IntWalk.iteOmega]; go_simp; refine hK _ ?_) | (go_bits; go_simp; refine hK _ ?_)); clear hK K; (try go_bits))
  refine wpPlan_fork rfl rfl rfl rfl (fun K hK => ?_) (fun K hK => ?_)
  · go_wp2_with fail
    refine (clone_any A c wb w1.drew hX1.sl (by omega)).mono ?_
    rintro e w2 ⟨v, rfl, ho, hb⟩
    obtain ⟨Av, cv, rfl, hcv, hcv2⟩ := own_form ho
    go_wp2_with fail
    refine ⟨ext_of_below hb, ?_⟩
    refine wpPlan_build rfl rfl 71 _ rfl (SC [s0, s1, s2, s3, s4, s5, s6, s7] (.slice Av wb.length cv) (.int .u64 n) (.bool true)) (by kernel_rfl) ?_
    go_simp
    refine wpPlan_loud rfl rfl (fun K hK => ?_)
    go_wp2_with fail
    refine ⟨.inr (ext_alloc _ _), ?_⟩
    refine wpPlan_loud rfl rfl (fun K hK => ?_)
    refine wp_store_row 71 (.tmp 3) (.tmp 24) rfl w2.heap.size (SC [s0, s1, s2, s3, s4, s5, s6, s7] (.slice Av wb.length cv) (.int .u64 n) (.bool true)) rfl rfl 71 _ (heap_alloc_new w2 _) (by kernel_rfl) rfl (sc_one _ _ _ _ _ _) ?_
    rw [World.setRow_alloc_new]
    refine hK _ _ ⟨.inl (by decide), wpPlan_nil ?_⟩
    clear hK K
    simp only [Act.put]
    obtain ⟨gt, hgt⟩ : ∃ gt, gt = w2.heap.size := ⟨_, rfl⟩
    rw [← hgt]
    obtain ⟨wN, hwN⟩ : ∃ wN, wN = w2.alloc (.cells (SC [s0, s1, s2, s3, s4, s5, s6, s7] (.slice Av wb.length cv) (.int .u64 n) (.bool true)) 71) := ⟨_, rfl⟩
    rw [← hwN]
    have hGt : wN.heap[gt]? = some (.cells (SC [s0, s1, s2, s3, s4, s5, s6, s7] (.slice Av wb.length cv) (.int .u64 n) (.bool true)) 71 (0, 0)) := by rw [hwN, hgt]; exact heap_alloc_new w2 _
    have hOv : Ow wN w1.heap.size 5 (.slice Av wb.length cv) (B8 wb) := by rw [hwN]; exact Ow.alloc (base := w1.heap.size) ho _
    have hb' : Below w1.heap.size w1 w2 := ⟨hb.os, hb.tape, hb.output, hb.size, hb.block⟩
    have hBN : Below w1.heap.size w1 wN := by rw [hwN]; exact hb'.alloc hb'.size _
    have hgt1 : w1.heap.size ≤ gt := by rw [hgt]; exact hb'.size
    have hgN := Hg1.out
    clear hwN hgt hb ho hb'
    have hgtl : gt < wN.heap.size := (Array.getElem?_eq_some_iff.1 hGt).1
    have hgo : w.heap.size < w1.heap.size := (Array.getElem?_eq_some_iff.1 Hout1.out).1
    have hout2 := (hBN.block w.heap.size hgo).trans Hout1.out
    have hBw := hB1.trans (hBN.mono hB1.size)
    obtain ⟨e8, e9, e10, ef⟩ := sc_cell rfl hGt
    have HGt := Lib.hid hGt
    have Hout2 := Lib.hid hout2
    clear hGt hout2 ef d8 d9 d10 Hg1
    have hg2 : wN.heap[g]? = _ := (hBN.block g (by have := hB1.size; omega)).trans hgN
    obtain ⟨d8, d9, d10, df⟩ := sc_cell rfl hg2
    clear hg2 df
    go_simp
    go_wp2_with fail
    refine (tail_any n (by omega) wN).mono ?_
    rintro e w3 ⟨tv, rfl, hoT, hb3⟩
    obtain ⟨tl, htl0⟩ : ∃ tl, tl = tailL n 8 := ⟨_, rfl⟩
    have htl : tl.length ≤ 72 := by rw [htl0, tailL_length n 8 (Nat.le_refl _)]; omega
    rw [← htl0] at hoT
    have Htl := Lib.hid htl0
    clear htl0
    obtain ⟨At, ct, rfl, hct, hct2⟩ := own_form hoT
    have hGt3 := (hb3.block gt hgtl).trans HGt.out
    have hO3 := hOv.below hb3 (Nat.le_refl _)
    have hXt : Sx gt w3 At (B8 tl) := hoT.sx hgtl
    go_wp2_with fail
    refine (add_begun gt w1.heap.size [s0, s1, s2, s3, s4, s5, s6, s7] rfl _ wb (tl) n At ct w3 hgt1 hGt3 (Nat.le_trans hBN.size hb3.size) hO3 hXt (by omega) (by omega) hct hct2).mono ?_
    rintro e w4 ⟨rfl, hb4, A4, c4, hc4, hc4', hX4, hG4⟩
    obtain ⟨t0, ht0⟩ : ∃ t, t = blk [s0, s1, s2, s3, s4, s5, s6, s7] (wb ++ tl) ((wb ++ tl).length / 64) := ⟨_, rfl⟩
    have ht0l : t0.length = 8 := by rw [ht0, blk_length]; rfl
    have hb14 := (hBN.trans (hb3.mono hBN.size)).trans hb4
    have hout4 := (hb14.block w.heap.size hgo).trans Hout1.out
    have hBw4 := hB1.trans (hb14.mono hB1.size)
    have hgt4 : gt < w4.heap.size := (Array.getElem?_eq_some_iff.1 hG4).1
    have hr4 : w4.rangeAt gt 0 (W32 t0) := fun j v hv => by
      rw [Nat.zero_add, cell_of_row w4 gt j _ _ (0, 0) hG4, SC, ← ht0]
      have hj : j < (W32 t0).length := (List.getElem?_eq_some_iff.1 hv).1
      rw [List.getElem?_toArray, List.getElem?_append_left hj]; exact hv
    have Ht0 := Lib.hid ht0
    clear ht0
    have hr5 : (w4.alloc (.cells (Array.replicate 32 (.int .u8 0)) 47)).rangeAt gt 0 (W32 t0) := fun j v hv => (World.cell?_alloc_lt w4 _ _ (by exact hgt4)).trans (hr4 j v hv)
    have Hr5 := Lib.hid hr5
    have Hout4 := Lib.hid hout4
    have Hi5 : Hid ((Tryd.prog.info? 69).map (·.size) = some (W32 t0).length) := Lib.hid (by rw [W32_length, ht0l]; kernel_rfl)
    clear hr4 hr5 hout4 hG4 hGt3 hO3 hXt e8 e9 e10 d8 d9 d10 hX4 HGt Hout2 Hr1 hoT htl
    go_wp2_with (refine wpList_load_mid rfl 69 (.tmp 31) rfl gt 0 rfl (W32 t0) (.array 8 67) Hr5.out (by kernel_rfl) rfl Hi5.out ?_)
    obtain ⟨tc, htc⟩ : ∃ tc, tc = (W32 t0).toArray := ⟨_, rfl⟩
    rw [← htc]
    have Htc := Lib.hid htc
    have hol : (be32 t0).length = 32 := by rw [be32_length, ht0l]
    obtain ⟨oc, hoc⟩ : ∃ oc, oc = (B8 (be32 t0)).toArray := ⟨_, rfl⟩
    have hocz : oc.size = 32 := by rw [hoc]; simp [hol]
    have Hoinf : Hid ((Tryd.prog.info? 47).map (·.size) = some oc.size) := Lib.hid (by rw [hocz]; kernel_rfl)
    have Hocz : Hid ((Array.replicate 32 (Value.int .u8 0)).size = oc.size) := Lib.hid (by rw [hocz]; simp)
    have Hone : Hid (oc.all (·.oneCell') = true) := Lib.hid (by rw [hoc]; exact all_oneCell_toArray (B8_oneCell _))
    have Hoc := Lib.hid hoc
    clear htc hBw hb4 hb3 Hr5 Hi5 hoc hocz
    go_loopw [33] (fun i wr => ∃ k : Nat, k ≤ 8 ∧ i = .int .i64 k ∧ Fill wr w4.heap.size 47 32 (B8 (be32 t0)) (4 * k) ∧ Below w4.heap.size w4 wr) (fun i _ => 8 - (intOf i).toNat)
    case atStart => exact ⟨0, Nat.zero_le _, rfl, Fill.new' w4 _ 32 (.int .u8 0) _, (Below.refl _ _).alloc (Nat.le_refl _) _⟩
    case round =>
      obtain ⟨k, hk, rfl, hfill, hbw⟩ := hrel
      by_cases hlt : k < 8
      · obtain ⟨x, hx⟩ : ∃ x, x = t0[k] := ⟨_, rfl⟩
        have hix := run_index_u32 (P := Tryd.prog) 69 67 8 tc .i64 k (.int .u32 (x.toNat : Int)) (by kernel_rfl) (by kernel_rfl) (by kernel_rfl) hlt (by rw [Htc.out]; simp [W32, ht0l, hlt, hx])
        have hxl := x.isLt
        obtain ⟨v0, c0⟩ := hfill.cell (j := 4 * k) (by omega)
        obtain ⟨v1, c1⟩ := hfill.cell (j := 4 * k + 1) (by omega)
        obtain ⟨v2, c2⟩ := hfill.cell (j := 4 * k + 2) (by omega)
        obtain ⟨v3, c3⟩ := hfill.cell (j := 4 * k + 3) (by omega)
        have z0 := hfill.frozen (4 * k)
        have z1 := hfill.frozen (4 * k + 1)
        have z2 := hfill.frozen (4 * k + 2)
        have z3 := hfill.frozen (4 * k + 3)
        have Hx := Lib.hid hx
        clear hx
        go_wp2_with fail
        obtain ⟨g0, g1, g2, g3⟩ := be32_get t0 k (by omega)
        rw [← Hx.out] at g0 g1 g2 g3
        have b8 : ∀ (j m : Nat), (be32 t0)[j]? = some (UInt8.ofNat m) → (B8 (be32 t0))[j]? = some (Value.int IntKind.u8 ((m % 256 : Nat) : Int)) := fun j m h => by
          rw [B8, List.getElem?_map, h]; simp
        have f1 := hfill.set (by omega) (b8 _ _ g0)
        have f2 := f1.set (by omega) (b8 _ _ g1)
        have f3 := f2.set (by omega) (b8 _ _ g2)
        have f4 := f3.set (by omega) (b8 _ _ g3)
        have e0 : ((x.toNat / 16777216 % 256 : Nat) : Int) = (x.toNat : Int) / 16777216 := by omega
        have e1 : ((x.toNat / 65536 % 256 : Nat) : Int) = (x.toNat : Int) / 65536 % 256 := by omega
        have e2 : ((x.toNat / 256 % 256 : Nat) : Int) = (x.toNat : Int) / 256 % 256 := by omega
        have e3 : ((x.toNat % 256 : Nat) : Int) = (x.toNat : Int) % 256 := by omega
        rw [e0, e1, e2, e3] at f4
        have hbE := (((hbw.setCell (p := ⟨w4.heap.size, 4 * k, none⟩) (Nat.le_refl _) (.int .u8 ((x.toNat : Int) / 16777216))).setCell (p := ⟨w4.heap.size, 4 * k + 1, none⟩) (Nat.le_refl _) (.int .u8 ((x.toNat : Int) / 65536 % 256))).setCell (p := ⟨w4.heap.size, 4 * k + 2, none⟩) (Nat.le_refl _) (.int .u8 ((x.toNat : Int) / 256 % 256))).setCell (p := ⟨w4.heap.size, 4 * k + 3, none⟩) (Nat.le_refl _) (.int .u8 ((x.toNat : Int) % 256))
        exact ⟨⟨k + 1, by omega, rfl, f4, hbE⟩, by simp [intOf]; omega⟩
      · obtain rfl : k = 8 := by omega
        have hdone := hfill.done (by simp [hol])
        rw [← Hoc.out] at hdone
        have hgo4 : w.heap.size < w4.heap.size := by have := hBw4.size; have := hb14.size; omega
        have houtr := (hbw.block w.heap.size hgo4).trans Hout4.out
        have Hdone := Lib.hid hdone
        have Houtr := Lib.hid houtr
        clear hdone houtr hfill
        go_wp2_with (first | (refine wpList_load_row rfl 47 (.tmp 4) rfl w4.heap.size rfl 47 oc (0, 0) (.array 32 5) Hdone.out (by kernel_rfl) rfl Hoinf.out ?_) | (refine wpList_store_row rfl 47 (.tmp 2) (.tmp 64) rfl w.heap.size oc rfl rfl 47 _ Houtr.out Hoinf.out Hocz.out Hone.out ?_))
        refine bodyPost_ret (v := .agg oc) ?_ rfl ⟨by rw [Hoc.out, Ht0.out, Htl.out], below_setRow' (hBw4.trans (hbw.mono (by omega))) (Nat.le_refl _) _⟩
        exact results_cell_row rfl _ _ w.heap.size 47 oc (0, 0) (.array 32 5) rfl (setRow_heap _ _ _ _ _ _ Houtr.out) (by kernel_rfl) rfl Hoinf.out
  · go_wp2_with fail
    refine ⟨ext_alloc _ _, ?_⟩
    refine wpPlan_loud rfl rfl (fun K hK => ?_)
    go_wp2_with fail
    refine Calls.mono (clone_any A c wb _ ?hs (by omega)) ?_
    case hs => exact (show Sx g (World.drew (w1.alloc _)) A (B8 wb) from hX1.alloc _).sl
    rintro e w2 ⟨v, rfl, ho, hb⟩
    obtain ⟨Av, cv, rfl, hcv, hcv2⟩ := own_form ho
    go_wp2_with fail
    refine ⟨.inr (ext_of_below hb), ?_⟩
    refine wpPlan_build rfl rfl 71 _ rfl (SC [s0, s1, s2, s3, s4, s5, s6, s7] (.slice Av wb.length cv) (.int .u64 n) (.bool true)) (by kernel_rfl) ?_
    refine wpPlan_loud rfl rfl (fun K hK => ?_)
    have hg2 := (hb.block w1.heap.size (by show w1.heap.size < (w1.alloc _).heap.size; rw [World.size_alloc]; omega)).trans (heap_alloc_new w1 _)
    refine wp_store_row 71 (.tmp 3) (.tmp 24) rfl w1.heap.size (SC [s0, s1, s2, s3, s4, s5, s6, s7] (.slice Av wb.length cv) (.int .u64 n) (.bool true)) rfl rfl 71 _ hg2 (by kernel_rfl) rfl (sc_one _ _ _ _ _ _) ?_
    refine hK _ _ ⟨.inl (by decide), wpPlan_nil ?_⟩
    clear hK K
    simp only [Act.put]
    obtain ⟨gt, hgt⟩ : ∃ gt, gt = w1.heap.size := ⟨_, rfl⟩
    rw [← hgt]
    rw [← hgt] at hg2
    obtain ⟨wN, hwN⟩ : ∃ wN, wN = w2.setRow gt (SC [s0, s1, s2, s3, s4, s5, s6, s7] (.slice Av wb.length cv) (.int .u64 n) (.bool true)) := ⟨_, rfl⟩
    rw [← hwN]
    have hgt1 : w1.heap.size ≤ gt := by omega
    have hGt : wN.heap[gt]? = some (.cells (SC [s0, s1, s2, s3, s4, s5, s6, s7] (.slice Av wb.length cv) (.int .u64 n) (.bool true)) 71 (0, 0)) := by rw [hwN]; exact setRow_heap _ _ _ _ _ _ hg2
    have hOv : Ow wN w1.heap.size 5 (.slice Av wb.length cv) (B8 wb) := by
      rw [hwN]
      refine (ho.mono (by show w1.heap.size ≤ (w1.alloc _).heap.size; rw [World.size_alloc]; omega)).kept (grown_setRow w2 gt _) (fun r hr e => ?_)
      have := (ho.row r hr).1
      injection e with e
      rw [show (World.drew (w1.alloc _)).heap.size = w1.heap.size + 1 from World.size_alloc _ _] at this
      omega
    have hb' : Below w1.heap.size w1 w2 := Below.trans (((Below.refl _ w1).alloc (Nat.le_refl _) _).drew) (hb.mono (by show w1.heap.size ≤ (w1.alloc _).heap.size; rw [World.size_alloc]; omega))
    have hBN : Below w1.heap.size w1 wN := by rw [hwN]; exact below_setRow' hb' hgt1 _
    have hgN := Hg1.out
    clear hwN hgt hb ho hb' hg2
    have hgtl : gt < wN.heap.size := (Array.getElem?_eq_some_iff.1 hGt).1
    have hgo : w.heap.size < w1.heap.size := (Array.getElem?_eq_some_iff.1 Hout1.out).1
    have hout2 := (hBN.block w.heap.size hgo).trans Hout1.out
    have hBw := hB1.trans (hBN.mono hB1.size)
    obtain ⟨e8, e9, e10, ef⟩ := sc_cell rfl hGt
    have HGt := Lib.hid hGt
    have Hout2 := Lib.hid hout2
    clear hGt hout2 ef d8 d9 d10 Hg1
    have hg2 : wN.heap[g]? = _ := (hBN.block g (by have := hB1.size; omega)).trans hgN
    obtain ⟨d8, d9, d10, df⟩ := sc_cell rfl hg2
    clear hg2 df
    go_simp
    go_wp2_with fail
    refine (tail_any n (by omega) wN).mono ?_
    rintro e w3 ⟨tv, rfl, hoT, hb3⟩
    obtain ⟨tl, htl0⟩ : ∃ tl, tl = tailL n 8 := ⟨_, rfl⟩
    have htl : tl.length ≤ 72 := by rw [htl0, tailL_length n 8 (Nat.le_refl _)]; omega
    rw [← htl0] at hoT
    have Htl := Lib.hid htl0
    clear htl0
    obtain ⟨At, ct, rfl, hct, hct2⟩ := own_form hoT
    have hGt3 := (hb3.block gt hgtl).trans HGt.out
    have hO3 := hOv.below hb3 (Nat.le_refl _)
    have hXt : Sx gt w3 At (B8 tl) := hoT.sx hgtl
    go_wp2_with fail
    refine (add_begun gt w1.heap.size [s0, s1, s2, s3, s4, s5, s6, s7] rfl _ wb (tl) n At ct w3 hgt1 hGt3 (Nat.le_trans hBN.size hb3.size) hO3 hXt (by omega) (by omega) hct hct2).mono ?_
    rintro e w4 ⟨rfl, hb4, A4, c4, hc4, hc4', hX4, hG4⟩
    obtain ⟨t0, ht0⟩ : ∃ t, t = blk [s0, s1, s2, s3, s4, s5, s6, s7] (wb ++ tl) ((wb ++ tl).length / 64) := ⟨_, rfl⟩
    have ht0l : t0.length = 8 := by rw [ht0, blk_length]; rfl
    have hb14 := (hBN.trans (hb3.mono hBN.size)).trans hb4
    have hout4 := (hb14.block w.heap.size hgo).trans Hout1.out
    have hBw4 := hB1.trans (hb14.mono hB1.size)
    have hgt4 : gt < w4.heap.size := (Array.getElem?_eq_some_iff.1 hG4).1
    have hr4 : w4.rangeAt gt 0 (W32 t0) := fun j v hv => by
      rw [Nat.zero_add, cell_of_row w4 gt j _ _ (0, 0) hG4, SC, ← ht0]
      have hj : j < (W32 t0).length := (List.getElem?_eq_some_iff.1 hv).1
      rw [List.getElem?_toArray, List.getElem?_append_left hj]; exact hv
    have Ht0 := Lib.hid ht0
    clear ht0
    have hr5 : (w4.alloc (.cells (Array.replicate 32 (.int .u8 0)) 47)).rangeAt gt 0 (W32 t0) := fun j v hv => (World.cell?_alloc_lt w4 _ _ (by exact hgt4)).trans (hr4 j v hv)
    have Hr5 := Lib.hid hr5
    have Hout4 := Lib.hid hout4
    have Hi5 : Hid ((Tryd.prog.info? 69).map (·.size) = some (W32 t0).length) := Lib.hid (by rw [W32_length, ht0l]; kernel_rfl)
    clear hr4 hr5 hout4 hG4 hGt3 hO3 hXt e8 e9 e10 d8 d9 d10 hX4 HGt Hout2 Hr1 hoT htl
    go_wp2_with (refine wpList_load_mid rfl 69 (.tmp 31) rfl gt 0 rfl (W32 t0) (.array 8 67) Hr5.out (by kernel_rfl) rfl Hi5.out ?_)
    obtain ⟨tc, htc⟩ : ∃ tc, tc = (W32 t0).toArray := ⟨_, rfl⟩
    rw [← htc]
    have Htc := Lib.hid htc
    have hol : (be32 t0).length = 32 := by rw [be32_length, ht0l]
    obtain ⟨oc, hoc⟩ : ∃ oc, oc = (B8 (be32 t0)).toArray := ⟨_, rfl⟩
    have hocz : oc.size = 32 := by rw [hoc]; simp [hol]
    have Hoinf : Hid ((Tryd.prog.info? 47).map (·.size) = some oc.size) := Lib.hid (by rw [hocz]; kernel_rfl)
    have Hocz : Hid ((Array.replicate 32 (Value.int .u8 0)).size = oc.size) := Lib.hid (by rw [hocz]; simp)
    have Hone : Hid (oc.all (·.oneCell') = true) := Lib.hid (by rw [hoc]; exact all_oneCell_toArray (B8_oneCell _))
    have Hoc := Lib.hid hoc
    clear htc hBw hb4 hb3 Hr5 Hi5 hoc hocz
    go_loopw [33] (fun i wr => ∃ k : Nat, k ≤ 8 ∧ i = .int .i64 k ∧ Fill wr w4.heap.size 47 32 (B8 (be32 t0)) (4 * k) ∧ Below w4.heap.size w4 wr) (fun i _ => 8 - (intOf i).toNat)
    case atStart => exact ⟨0, Nat.zero_le _, rfl, Fill.new' w4 _ 32 (.int .u8 0) _, (Below.refl _ _).alloc (Nat.le_refl _) _⟩
    case round =>
      obtain ⟨k, hk, rfl, hfill, hbw⟩ := hrel
      by_cases hlt : k < 8
      · obtain ⟨x, hx⟩ : ∃ x, x = t0[k] := ⟨_, rfl⟩
        have hix := run_index_u32 (P := Tryd.prog) 69 67 8 tc .i64 k (.int .u32 (x.toNat : Int)) (by kernel_rfl) (by kernel_rfl) (by kernel_rfl) hlt (by rw [Htc.out]; simp [W32, ht0l, hlt, hx])
        have hxl := x.isLt
        obtain ⟨v0, c0⟩ := hfill.cell (j := 4 * k) (by omega)
        obtain ⟨v1, c1⟩ := hfill.cell (j := 4 * k + 1) (by omega)
        obtain ⟨v2, c2⟩ := hfill.cell (j := 4 * k + 2) (by omega)
        obtain ⟨v3, c3⟩ := hfill.cell (j := 4 * k + 3) (by omega)
        have z0 := hfill.frozen (4 * k)
        have z1 := hfill.frozen (4 * k + 1)
        have z2 := hfill.frozen (4 * k + 2)
        have z3 := hfill.frozen (4 * k + 3)
        have Hx := Lib.hid hx
        clear hx
        go_wp2_with fail
        obtain ⟨g0, g1, g2, g3⟩ := be32_get t0 k (by omega)
        rw [← Hx.out] at g0 g1 g2 g3
        have b8 : ∀ (j m : Nat), (be32 t0)[j]? = some (UInt8.ofNat m) → (B8 (be32 t0))[j]? = some (Value.int IntKind.u8 ((m % 256 : Nat) : Int)) := fun j m h => by
          rw [B8, List.getElem?_map, h]; simp
        have f1 := hfill.set (by omega) (b8 _ _ g0)
        have f2 := f1.set (by omega) (b8 _ _ g1)
        have f3 := f2.set (by omega) (b8 _ _ g2)
        have f4 := f3.set (by omega) (b8 _ _ g3)
        have e0 : ((x.toNat / 16777216 % 256 : Nat) : Int) = (x.toNat : Int) / 16777216 := by omega
        have e1 : ((x.toNat / 65536 % 256 : Nat) : Int) = (x.toNat : Int) / 65536 % 256 := by omega
        have e2 : ((x.toNat / 256 % 256 : Nat) : Int) = (x.toNat : Int) / 256 % 256 := by omega
        have e3 : ((x.toNat % 256 : Nat) : Int) = (x.toNat : Int) % 256 := by omega
        rw [e0, e1, e2, e3] at f4
        have hbE := (((hbw.setCell (p := ⟨w4.heap.size, 4 * k, none⟩) (Nat.le_refl _) (.int .u8 ((x.toNat : Int) / 16777216))).setCell (p := ⟨w4.heap.size, 4 * k + 1, none⟩) (Nat.le_refl _) (.int .u8 ((x.toNat : Int) / 65536 % 256))).setCell (p := ⟨w4.heap.size, 4 * k + 2, none⟩) (Nat.le_refl _) (.int .u8 ((x.toNat : Int) / 256 % 256))).setCell (p := ⟨w4.heap.size, 4 * k + 3, none⟩) (Nat.le_refl _) (.int .u8 ((x.toNat : Int) % 256))
        exact ⟨⟨k + 1, by omega, rfl, f4, hbE⟩, by simp [intOf]; omega⟩
      · obtain rfl : k = 8 := by omega
        have hdone := hfill.done (by simp [hol])
        rw [← Hoc.out] at hdone
        have hgo4 : w.heap.size < w4.heap.size := by have := hBw4.size; have := hb14.size; omega
        have houtr := (hbw.block w.heap.size hgo4).trans Hout4.out
        have Hdone := Lib.hid hdone
        have Houtr := Lib.hid houtr
        clear hdone houtr hfill
        go_wp2_with (first | (refine wpList_load_row rfl 47 (.tmp 4) rfl w4.heap.size rfl 47 oc (0, 0) (.array 32 5) Hdone.out (by kernel_rfl) rfl Hoinf.out ?_) | (refine wpList_store_row rfl 47 (.tmp 2) (.tmp 64) rfl w.heap.size oc rfl rfl 47 _ Houtr.out Hoinf.out Hocz.out Hone.out ?_))
        refine bodyPost_ret (v := .agg oc) ?_ rfl ⟨by rw [Hoc.out, Ht0.out, Htl.out], below_setRow' (hBw4.trans (hbw.mono (by omega))) (Nat.le_refl _) _⟩
        exact results_cell_row rfl _ _ w.heap.size 47 oc (0, 0) (.array 32 5) rfl (setRow_heap _ _ _ _ _ _ Houtr.out) (by kernel_rfl) rfl Hoinf.out
end Go.Proofs.YtjbknfjcdmafaaaDoor

/-! hash.Sum256, Twice, Double. -/
namespace Go.Proofs.YtjbknfjcdmafaaaDoor
open Go.RowKit Go.Shelf

theorem blk_front (st : List (BitVec 32)) (m t : List UInt8) (j : Nat) (h : 64 * j ≤ m.length) : blk st (m ++ t) j = blk st m j := by
  induction j with
  | zero => rfl
  | succ j ih => rw [blk, blk, ih (by omega), List.drop_append_of_le_length (by omega), List.take_append_of_le_length (by simp; omega)]
theorem blk_join (st : List (BitVec 32)) (m t : List UInt8) (j q : Nat) (h : 64 * j ≤ m.length) : blk (blk st m j) (m.drop (64 * j) ++ t) q = blk st (m ++ t) (j + q) := by
  induction q with
  | zero => rw [blk, Nat.add_zero, blk_front st m t j h]
  | succ q ih =>
    rw [blk, ih, ← Nat.add_assoc, blk, ← List.drop_append_of_le_length h, List.drop_drop]
    rw [show 64 * j + 64 * q = 64 * (j + q) by omega]
def msg (b : List UInt8) : List UInt8 := b ++ tailL b.length 8
/-- SHA-256, as plain words. -/
def sha (b : List UInt8) : List UInt8 := be32 (blk H256 (msg b) ((msg b).length / 64))
theorem sha_length (b : List UInt8) : (sha b).length = 32 := by rw [sha, be32_length, blk_length, H256_length]
theorem sha_parts (b : List UInt8) : be32 (blk (blk H256 b (b.length / 64)) (b.drop (64 * (b.length / 64)) ++ tailL b.length 8) ((b.drop (64 * (b.length / 64)) ++ tailL b.length 8).length / 64)) = sha b := by
  rw [sha, blk_join _ _ _ _ _ (by omega), msg]
  congr 2
  simp only [List.length_append, List.length_drop]
  omega

set_option maxRecDepth 100000 in
set_option maxHeartbeats 2000000 in
theorem sum256_any (A : Option Addr) (c : Nat) (b : List UInt8) (w : World) (hs : Sl w w.heap.size A (B8 b)) (hl : b.length ≤ 2048) (hbc : b.length ≤ c) (hc : c ≤ maxLen) :
    Calls Tryd.prog 53 #[.slice A b.length c] w fun e W' => e = .returned (.agg (B8 (sha b)).toArray) ∧ Below w.heap.size w W' := by
  have hs0 := hs
  go_enter Tryd.func53, Tryd.ntmps53
  go_wp2_with fail
  obtain ⟨wa, hwa⟩ : ∃ wa, wa = w.alloc (.cells (Array.replicate 32 (.int .u8 0)) 47) := ⟨_, rfl⟩
  obtain ⟨w1, hw1⟩ : ∃ w1, w1 = wa.alloc (.cells (SC (List.replicate 8 0) (.slice none 0 0) (.int .u64 (0 : Nat)) (.bool false)) 71) := ⟨_, rfl⟩
  have hza : wa.heap.size = w.heap.size + 1 := by rw [hwa]; exact World.size_alloc _ _
  have hz1 : w1.heap.size = w.heap.size + 2 := by rw [hw1, World.size_alloc, hza]
  have hgt : w1.heap[w.heap.size + 1]? = some (.cells (SC (List.replicate 8 0) (.slice none 0 0) (.int .u64 (0 : Nat)) (.bool false)) 71 (0, 0)) := by rw [hw1, ← hza]; exact heap_alloc_new wa _
  have hout : wa.heap[w.heap.size]? = some (.cells (Array.replicate 32 (.int .u8 0)) 47 (0, 0)) := by rw [hwa]; exact heap_alloc_new w _
  have hout1 : w1.heap[w.heap.size]? = some (.cells (Array.replicate 32 (.int .u8 0)) 47 (0, 0)) := by rw [hw1]; exact (Below.heap_alloc wa _ _ (by omega)).trans hout
  have hBa : Below w.heap.size w wa := by rw [hwa]; exact (Below.refl _ w).alloc (Nat.le_refl _) _
  have hB1 : Below w.heap.size w w1 := by rw [hw1]; exact hBa.alloc (by omega) _
  have hX1 : Sx (w.heap.size + 1) w1 A (B8 b) := fun hn => by
    obtain ⟨bb, o, e, hb, hcl⟩ := (hs0.below hB1) hn
    exact ⟨bb, o, e, by omega, by omega, hcl⟩
  refine (show w1 = _ by rw [hw1, hwa]) ▸ ?_
  clear hwa hw1 hout hBa
  refine (add_new (w.heap.size + 1) (w.heap.size + 1) (List.replicate 8 0) (by simp) (.slice none 0 0) [] b 0 A c w1 (Nat.le_refl _) hgt (by omega) (Ow.nil_ _ _ _ _) hX1 (by omega) (by simpa using (by omega : b.length ≤ 8192)) hbc hc).mono ?_
  rintro e w2 ⟨rfl, hB2, A2, c2, hc2, hc2', hX2, hG2⟩
  rw [List.nil_append] at hc2 hX2 hG2
  rw [Nat.zero_add] at hG2
  have hout2 := (hB2.block w.heap.size (by omega)).trans hout1
  have hwb : (b.drop (64 * (b.length / 64))).length = b.length % 64 := by rw [List.length_drop]; omega
  rw [← hwb] at hG2 hc2
  go_wp2_with fail
  refine (hash_any (w.heap.size + 1) (blk H256 b (b.length / 64)) (by rw [blk_length]; rfl) A2 c2 (b.drop (64 * (b.length / 64))) b.length w2 hG2 hX2 (by omega) (by omega) hc2 hc2').mono ?_
  rw [sha_parts]
  rintro e w3 ⟨rfl, hB3⟩
  obtain ⟨rr, hrr⟩ : ∃ rr, rr = sha b := ⟨_, rfl⟩
  have hrl : rr.length = 32 := by rw [hrr]; exact sha_length _
  rw [← hrr]
  obtain ⟨oc, hoc⟩ : ∃ oc, oc = (B8 rr).toArray := ⟨_, rfl⟩
  have hocz : oc.size = 32 := by rw [hoc]; simp [hrl]
  have Hoinf : Hid ((Tryd.prog.info? 47).map (·.size) = some oc.size) := Lib.hid (by rw [hocz]; kernel_rfl)
  have Hocz : Hid ((Array.replicate 32 (Value.int .u8 0)).size = oc.size) := Lib.hid (by rw [hocz]; simp)
  have Hone : Hid (oc.all (·.oneCell') = true) := Lib.hid (by rw [hoc]; exact all_oneCell_toArray (B8_oneCell _))
  have hz2 := hB2.size
  have hz2' : w.heap.size + 1 < w2.heap.size := (Array.getElem?_eq_some_iff.1 hG2).1
  have hout3 := (hB3.block w.heap.size (by omega)).trans hout2
  have hBw3 := (hB1.trans (hB2.mono (by omega))).trans (hB3.mono (by omega))
  have Hoc := Lib.hid hoc
  have Hrr := Lib.hid hrr
  have Hout3 := Lib.hid hout3
  rw [← hoc]
  clear hoc hrr hrl hocz hout3 hout2 hout1 hG2 hX2 hgt hX1 hs0
  go_wp2_with (refine wpList_store_row rfl 47 (.tmp 2) (.tmp 6) rfl w.heap.size oc rfl rfl 47 _ Hout3.out Hoinf.out Hocz.out Hone.out ?_)
  refine bodyPost_ret (v := .agg oc) ?_ rfl ⟨by rw [Hoc.out, Hrr.out], below_setRow' hBw3 (Nat.le_refl _) _⟩
  exact results_cell_row rfl _ _ w.heap.size 47 oc (0, 0) (.array 32 5) rfl (setRow_heap _ _ _ _ _ _ Hout3.out) (by kernel_rfl) rfl Hoinf.out

set_option maxRecDepth 100000 in
set_option maxHeartbeats 2000000 in
theorem twice_any (g : Nat) (st : List (BitVec 32)) (hst : st.length = 8) (A : Option Addr) (c : Nat) (wb : List UInt8) (n : Nat) (w : World)
    (hg : w.heap[g]? = some (.cells (SC st (.slice A wb.length c) (.int .u64 n) (.bool true)) 71 (0, 0))) (hX : Sx g w A (B8 wb)) (hn : n ≤ 4096) (hwb : wb.length ≤ 64) (hwc : wb.length ≤ c) (hc : c ≤ maxLen) :
    Calls Tryd.prog 38 #[.pointer (some ⟨g, 0, none⟩)] w fun e W' => e = .returned (.agg (B8 (sha (be32 (blk st (wb ++ tailL n 8) ((wb ++ tailL n 8).length / 64))))).toArray) ∧ Below w.heap.size w W' := by
  have hgs : g < w.heap.size := (Array.getElem?_eq_some_iff.1 hg).1
  have Hg := Lib.hid hg
  clear hg
  go_enter Tryd.func38, Tryd.ntmps38
  go_wp2_with fail
  obtain ⟨wa, hwa⟩ : ∃ wa, wa = w.alloc (.cells (Array.replicate 32 (.int .u8 0)) 47) := ⟨_, rfl⟩
  have hza : wa.heap.size = w.heap.size + 1 := by rw [hwa]; exact World.size_alloc _ _
  have hout : wa.heap[w.heap.size]? = some (.cells (Array.replicate 32 (.int .u8 0)) 47 (0, 0)) := by rw [hwa]; exact heap_alloc_new w _
  have hBa : Below w.heap.size w wa := by rw [hwa]; exact (Below.refl _ w).alloc (Nat.le_refl _) _
  have hga := (hBa.block g hgs).trans Hg.out
  have hXa := hX.below hBa
  refine (show wa = _ from hwa) ▸ ?_
  clear hwa
  refine (hash_any g st hst A c wb n wa hga hXa hn hwb hwc hc).mono ?_
  rintro e w1 ⟨rfl, hB1⟩
  obtain ⟨h1, hh1⟩ : ∃ h1, h1 = be32 (blk st (wb ++ tailL n 8) ((wb ++ tailL n 8).length / 64)) := ⟨_, rfl⟩
  have hl1 : h1.length = 32 := by rw [hh1, be32_length, blk_length, hst]
  rw [← hh1]
  obtain ⟨oc, hoc⟩ : ∃ oc, oc = (B8 h1).toArray := ⟨_, rfl⟩
  have hocz : oc.size = 32 := by rw [hoc]; simp [hl1]
  have Hoinf : Hid ((Tryd.prog.info? 47).map (·.size) = some oc.size) := Lib.hid (by rw [hocz]; kernel_rfl)
  have Hocz : Hid ((Array.replicate 32 (Value.int .u8 0)).size = oc.size) := Lib.hid (by rw [hocz]; simp)
  have Hone : Hid (oc.all (·.oneCell') = true) := Lib.hid (by rw [hoc]; exact all_oneCell_toArray (B8_oneCell _))
  rw [← hoc]
  have Hoc := Lib.hid hoc
  have Hh1 := Lib.hid hh1
  have hz1 := hB1.size
  have hout1 := (hB1.block w.heap.size (by omega)).trans hout
  have Hout1 := Lib.hid hout1
  clear hoc hh1 hocz hout1 hout hga hXa
  go_wp2_with (refine wpList_store_row rfl 47 (.tmp 3) (.tmp 5) rfl w1.heap.size oc rfl rfl 47 _ (heap_alloc_new w1 _) Hoinf.out Hocz.out Hone.out ?_)
  rw [World.setRow_alloc_new]
  obtain ⟨w2, hw2⟩ : ∃ w2, w2 = w1.alloc (.cells oc 47) := ⟨_, rfl⟩
  rw [← hw2]
  have hB2 : Below w1.heap.size w1 w2 := by rw [hw2]; exact (Below.refl _ _).alloc (Nat.le_refl _) _
  have hz2 : w2.heap.size = w1.heap.size + 1 := by rw [hw2]; exact World.size_alloc _ _
  have hgh : w2.heap[w1.heap.size]? = some (.cells (B8 h1).toArray 47 (0, 0)) := by rw [hw2, ← Hoc.out]; exact heap_alloc_new w1 _
  have hS2 : Sl w2 w2.heap.size (some ⟨w1.heap.size, 0, none⟩) (B8 h1) := fun _ => ⟨_, 0, rfl, by omega, fun j hj => by
    rw [cell_of_row w2 _ _ _ _ (0, 0) hgh, Nat.zero_add]; simp⟩
  have hout2 := (hB2.block w.heap.size (by omega)).trans Hout1.out
  have hsum := sum256_any (some ⟨w1.heap.size, 0, none⟩) 32 h1 w2 hS2 (by omega) (by omega) (by decide)
  rw [hl1] at hsum
  refine hsum.mono ?_
  rintro e w3 ⟨rfl, hB3⟩
  have hout3 := (hB3.block w.heap.size (by omega)).trans hout2
  have hBw3 := ((hBa.trans (hB1.mono (by omega))).trans (hB2.mono (by omega))).trans (hB3.mono (by omega))
  rw [Hh1.out]
  obtain ⟨rr, hrr⟩ : ∃ rr, rr = sha (be32 (blk st (wb ++ tailL n 8) ((wb ++ tailL n 8).length / 64))) := ⟨_, rfl⟩
  have hrl : rr.length = 32 := by rw [hrr]; exact sha_length _
  rw [← hrr]
  clear Hoinf Hocz Hone Hoc hw2 hgh hS2 hsum
  obtain ⟨oc, hoc⟩ : ∃ oc, oc = (B8 rr).toArray := ⟨_, rfl⟩
  have hocz : oc.size = 32 := by rw [hoc]; simp [hrl]
  have Hoinf : Hid ((Tryd.prog.info? 47).map (·.size) = some oc.size) := Lib.hid (by rw [hocz]; kernel_rfl)
  have Hocz : Hid ((Array.replicate 32 (Value.int .u8 0)).size = oc.size) := Lib.hid (by rw [hocz]; simp)
  have Hone : Hid (oc.all (·.oneCell') = true) := Lib.hid (by rw [hoc]; exact all_oneCell_toArray (B8_oneCell _))
  have Hoc := Lib.hid hoc
  have Hrr := Lib.hid hrr
  have Hout3 := Lib.hid hout3
  rw [← hoc]
  clear hoc hrr hrl hocz hout3 hout2
  go_wp2_with (refine wpList_store_row rfl 47 (.tmp 2) (.tmp 7) rfl w.heap.size oc rfl rfl 47 _ Hout3.out Hoinf.out Hocz.out Hone.out ?_)
  refine bodyPost_ret (v := .agg oc) ?_ rfl ⟨by rw [Hoc.out, Hrr.out], below_setRow' hBw3 (Nat.le_refl _) _⟩
  exact results_cell_row rfl _ _ w.heap.size 47 oc (0, 0) (.array 32 5) rfl (setRow_heap _ _ _ _ _ _ Hout3.out) (by kernel_rfl) rfl Hoinf.out

set_option maxRecDepth 100000 in
set_option maxHeartbeats 2000000 in
theorem double_any (A : Option Addr) (c : Nat) (b : List UInt8) (w : World) (hs : Sl w w.heap.size A (B8 b)) (hl : b.length ≤ 2048) (hbc : b.length ≤ c) (hc : c ≤ maxLen) :
    Calls Tryd.prog 18 #[.slice A b.length c] w fun e W' => e = .returned (.agg (B8 (sha (sha b))).toArray) ∧ Below w.heap.size w W' := by
  have hs0 := hs
  go_enter Tryd.func18, Tryd.ntmps18
  go_wp2_with fail
  obtain ⟨wa, hwa⟩ : ∃ wa, wa = w.alloc (.cells (Array.replicate 32 (.int .u8 0)) 47) := ⟨_, rfl⟩
  obtain ⟨w1, hw1⟩ : ∃ w1, w1 = wa.alloc (.cells (SC (List.replicate 8 0) (.slice none 0 0) (.int .u64 (0 : Nat)) (.bool false)) 71) := ⟨_, rfl⟩
  have hza : wa.heap.size = w.heap.size + 1 := by rw [hwa]; exact World.size_alloc _ _
  have hz1 : w1.heap.size = w.heap.size + 2 := by rw [hw1, World.size_alloc, hza]
  have hgt : w1.heap[w.heap.size + 1]? = some (.cells (SC (List.replicate 8 0) (.slice none 0 0) (.int .u64 (0 : Nat)) (.bool false)) 71 (0, 0)) := by rw [hw1, ← hza]; exact heap_alloc_new wa _
  have hout : wa.heap[w.heap.size]? = some (.cells (Array.replicate 32 (.int .u8 0)) 47 (0, 0)) := by rw [hwa]; exact heap_alloc_new w _
  have hout1 : w1.heap[w.heap.size]? = some (.cells (Array.replicate 32 (.int .u8 0)) 47 (0, 0)) := by rw [hw1]; exact (Below.heap_alloc wa _ _ (by omega)).trans hout
  have hBa : Below w.heap.size w wa := by rw [hwa]; exact (Below.refl _ w).alloc (Nat.le_refl _) _
  have hB1 : Below w.heap.size w w1 := by rw [hw1]; exact hBa.alloc (by omega) _
  have hX1 : Sx (w.heap.size + 1) w1 A (B8 b) := fun hn => by
    obtain ⟨bb, o, e, hb, hcl⟩ := (hs0.below hB1) hn
    exact ⟨bb, o, e, by omega, by omega, hcl⟩
  refine (show w1 = _ by rw [hw1, hwa]) ▸ ?_
  clear hwa hw1 hout hBa
  refine (add_new (w.heap.size + 1) (w.heap.size + 1) (List.replicate 8 0) (by simp) (.slice none 0 0) [] b 0 A c w1 (Nat.le_refl _) hgt (by omega) (Ow.nil_ _ _ _ _) hX1 (by omega) (by simpa using (by omega : b.length ≤ 8192)) hbc hc).mono ?_
  rintro e w2 ⟨rfl, hB2, A2, c2, hc2, hc2', hX2, hG2⟩
  rw [List.nil_append] at hc2 hX2 hG2
  rw [Nat.zero_add] at hG2
  have hout2 := (hB2.block w.heap.size (by omega)).trans hout1
  have hwb : (b.drop (64 * (b.length / 64))).length = b.length % 64 := by rw [List.length_drop]; omega
  rw [← hwb] at hG2 hc2
  go_wp2_with fail
  refine (twice_any (w.heap.size + 1) (blk H256 b (b.length / 64)) (by rw [blk_length]; rfl) A2 c2 (b.drop (64 * (b.length / 64))) b.length w2 hG2 hX2 (by omega) (by omega) hc2 hc2').mono ?_
  rw [sha_parts]
  rintro e w3 ⟨rfl, hB3⟩
  obtain ⟨rr, hrr⟩ : ∃ rr, rr = sha (sha b) := ⟨_, rfl⟩
  have hrl : rr.length = 32 := by rw [hrr]; exact sha_length _
  rw [← hrr]
  obtain ⟨oc, hoc⟩ : ∃ oc, oc = (B8 rr).toArray := ⟨_, rfl⟩
  have hocz : oc.size = 32 := by rw [hoc]; simp [hrl]
  have Hoinf : Hid ((Tryd.prog.info? 47).map (·.size) = some oc.size) := Lib.hid (by rw [hocz]; kernel_rfl)
  have Hocz : Hid ((Array.replicate 32 (Value.int .u8 0)).size = oc.size) := Lib.hid (by rw [hocz]; simp)
  have Hone : Hid (oc.all (·.oneCell') = true) := Lib.hid (by rw [hoc]; exact all_oneCell_toArray (B8_oneCell _))
  have hz2 := hB2.size
  have hz2' : w.heap.size + 1 < w2.heap.size := (Array.getElem?_eq_some_iff.1 hG2).1
  have hout3 := (hB3.block w.heap.size (by omega)).trans hout2
  have hBw3 := (hB1.trans (hB2.mono (by omega))).trans (hB3.mono (by omega))
  have Hoc := Lib.hid hoc
  have Hrr := Lib.hid hrr
  have Hout3 := Lib.hid hout3
  rw [← hoc]
  clear hoc hrr hrl hocz hout3 hout2 hout1 hG2 hX2 hgt hX1 hs0
  go_wp2_with (refine wpList_store_row rfl 47 (.tmp 2) (.tmp 6) rfl w.heap.size oc rfl rfl 47 _ Hout3.out Hoinf.out Hocz.out Hone.out ?_)
  refine bodyPost_ret (v := .agg oc) ?_ rfl ⟨by rw [Hoc.out, Hrr.out], below_setRow' hBw3 (Nat.le_refl _) _⟩
  exact results_cell_row rfl _ _ w.heap.size 47 oc (0, 0) (.array 32 5) rfl (setRow_heap _ _ _ _ _ _ Hout3.out) (by kernel_rfl) rfl Hoinf.out
end Go.Proofs.YtjbknfjcdmafaaaDoor

/-! text.code.run, for descs; text.descs; text.letters. -/
namespace Go.Proofs.YtjbknfjcdmafaaaDoor
open Go.RowKit Go.Shelf

def dAdd : List (BitVec 64) := [0xf5dee51989, 0xa9fdca3312, 0x1bab10e32d, 0x3706b1677a, 0x644d626ffd]
def polyAdd (b c : BitVec 64) : Nat → BitVec 64
  | 0 => c
  | i + 1 => if (b >>> i) &&& 1 = 1 then polyAdd b c i ^^^ dAdd.getD i 0 else polyAdd b c i
def polyStep (c : BitVec 64) (v : UInt8) : BitVec 64 := polyAdd (c >>> 35) (((c &&& 0x7ffffffff) <<< 5) ^^^ v.toBitVec.setWidth 64) 5
def poly (l : List UInt8) : BitVec 64 := l.foldl polyStep 1
def codeV : Array Value := #[.int .i64 35, .int .u64 1056006543753, .int .u64 730107360018, .int .u64 118834127661, .int .u64 236335490938, .int .u64 430795026429]

theorem run_index_u64 {P : Program} (t e : TypeId) (n : Nat) (cs : Array Value) (kk : IntKind) (k : Nat) (v : Value) (h : P.underlying t = some (.array n e)) (he : P.underlying e = some (.int .u64)) (hs : (P.info? e).map (·.size) = some 1) (hk : k < n) (hv : cs[k]? = some v) (w : World) :
    (Instr.index t (.agg cs) (.int kk (k : Int))).run P w = .ok v w := by
  have hsz : (sizeOf e).run P w = .ok 1 w := by
    cases hq : P.info? e with
    | none => simp [hq] at hs
    | some i => simp [hq] at hs; simp [sizeOf, typeInfo, hq, hs]
  have hag : (isAgg e).run P w = .ok false w := by
    unfold isAgg
    rw [Sem.run_bind, run_underlying he w]
    rfl
  simp [Instr.index, asIntOf, run_underlying h, hsz, part, hag, hv, hk, go_sem]
theorem sp_c (x : BitVec 64) (y : UInt8) : bits .xor .u64 (IntKind.u64.wrap (bits .and .u64 (x.toNat : Int) 34359738367 * 32)) (y.toNat : Int) = ((((x &&& 0x7ffffffff) <<< 5) ^^^ y.toBitVec.setWidth 64).toNat : Int) := by
  have hy := y.toNat_lt
  have hx := x.isLt
  have h1 : bits .and .u64 (x.toNat : Int) 34359738367 = ((x &&& 0x7ffffffff).toNat : Int) := by
    have := u64_and_nat x.toNat 34359738367 hx (by omega)
    rw [BitVec.toNat_and]; exact this
  rw [h1, IntKind.wrap_u64]
  have h2 : (((x &&& 0x7ffffffff).toNat : Int) * (32 : Int) % (18446744073709551616 : Int)) = ((((x &&& 0x7ffffffff) <<< 5)).toNat : Int) := by
    rw [BitVec.toNat_shiftLeft, Nat.shiftLeft_eq]; simp
  have h3 : (y.toNat : Int) = ((y.toBitVec.setWidth 64).toNat : Int) := by rw [BitVec.toNat_setWidth, UInt8.toNat_toBitVec, Nat.mod_eq_of_lt (by omega)]
  rw [h2, h3, u64_xor_nat _ _ (BitVec.isLt _) (BitVec.isLt _), BitVec.toNat_xor]
theorem sp_b (x : BitVec 64) : (x.toNat : Int) / (34359738368 : Int) = ((x >>> 35).toNat : Int) := by rw [BitVec.toNat_ushiftRight, Nat.shiftRight_eq_div_pow]; simp
theorem sp_bit (b : BitVec 64) (q : Nat) : bits .and .u64 ((b.toNat : Int) / 2 ^ q) 1 = (((b >>> q) &&& 1).toNat : Int) := by
  have h1 : (b.toNat : Int) / 2 ^ q = ((b >>> q).toNat : Int) := by rw [BitVec.toNat_ushiftRight, Nat.shiftRight_eq_div_pow, Int.natCast_ediv, Int.natCast_pow]; rfl
  rw [h1, BitVec.toNat_and]
  exact u64_and_nat _ 1 (BitVec.isLt _) (by omega)
theorem bit_one (b : BitVec 64) (q : Nat) : (b >>> q) &&& 1 = 1 ↔ bits .and .u64 ((b.toNat : Int) / 2 ^ q) 1 = 1 := by
  rw [sp_bit]
  constructor
  · intro h; rw [h]; rfl
  · intro h; apply BitVec.eq_of_toNat_eq; show _ = 1; omega
theorem sp_x (x y : BitVec 64) : bits .xor .u64 (x.toNat : Int) (y.toNat : Int) = ((x ^^^ y).toNat : Int) := by rw [u64_xor_nat _ _ x.isLt y.isLt, BitVec.toNat_xor]
set_option maxRecDepth 100000 in
set_option maxHeartbeats 4000000 in
theorem run_any (A : Option Addr) (c : Nat) (bs : List UInt8) (w : World) (hs : Sl w w.heap.size A (B8 bs)) (hl : bs.length ≤ 4096) (h0 : 0 < bs.length) :
    Calls Tryd.prog 27 #[.agg codeV, .slice A bs.length c, .int .i64 8] w fun e W' => e = .returned (.int .u64 ((poly (bs ++ List.replicate 8 0)).toNat : Int)) ∧ Below w.heap.size w W' := by
  unfold codeV
  go_enter Tryd.func27, Tryd.ntmps27
  go_wp2_with fail
  obtain ⟨wa, hwa⟩ : ∃ wa, wa = w.alloc (.cells codeV 56) := ⟨_, rfl⟩
  have hBa : Below w.heap.size w wa := by rw [hwa]; exact (Below.refl _ _).alloc (Nat.le_refl _) _
  have hga : wa.heap[w.heap.size]? = some (.cells codeV 56 (0, 0)) := by rw [hwa]; exact heap_alloc_new w _
  have hza : wa.heap.size = w.heap.size + 1 := by rw [hwa]; exact World.size_alloc _ _
  obtain ⟨gk, hgk⟩ : ∃ gk, gk = w.heap.size := ⟨_, rfl⟩
  rw [← hgk] at hga
  have hgkl : gk < wa.heap.size := by omega
  refine (show wa = _ from hwa) ▸ ?_
  refine (clone_any A c bs wa ((hs.below hBa).mono (by omega)) (by omega)).mono ?_
  rintro e w1 ⟨v, rfl, ho, hb1⟩
  obtain ⟨A1, c1, rfl, hc1, hc1'⟩ := own_form ho
  have hz1 := hb1.size
  have hzaw : w.heap.size ≤ wa.heap.size := by omega
  have hg1 := (hb1.block gk hgkl).trans hga
  have hBw1 := hBa.trans (hb1.mono hzaw)
  rw [← hgk]
  have Hg1 := Lib.hid hg1
  have Hgk := Lib.hid hgk
  clear hwa hza hga hg1 hgk
  obtain ⟨M, hM⟩ : ∃ M, M = bs ++ List.replicate 8 0 := ⟨_, rfl⟩
  have hMB : B8 bs ++ List.replicate 8 (Value.int IntKind.u8 0) = B8 M := by rw [hM]; simp [B8]
  obtain ⟨N, hN⟩ : ∃ N, N = M.length := ⟨_, rfl⟩
  have hNl : N ≤ 5000 := by rw [hN, hM]; simp; omega
  have hN0 : 0 < N := by rw [hN, hM]; simp
  have HM := Lib.hid hM
  have HMB := Lib.hid hMB
  have HN := Lib.hid hN
  clear hM hMB hN
  go_wp2_with (at_builtin; go_loud (refine wpList_append_zeros (base := wa.heap.size) (ti := 3) (xs := B8 bs) (v := .slice A1 bs.length c1) elB (by kernel_rfl) rfl rfl (.tmp 14) (.tmp 15) rfl rfl ho 8 rfl (by simpa using h0) (by omega) (by rw [B8_length]; simp [maxLen]; omega) (by rw [B8_length]; omega) hz1 ?_); intro v2 w2 ho2 hg2 hr2; rw [HMB.out] at ho2; obtain ⟨A2, c2, rfl, hc2, hc2'⟩ := own_form ho2; rw [← HN.out] at ho2 hc2 ⊢)
  have hgE : w2.heap[gk]? = some (.cells codeV 56 (0, 0)) := by
    rw [hg2.block gk (by omega) (fun e => by have := (ho.row gk e.symm).1; omega)]; exact Hg1.out
  have hBE : Below w.heap.size w w2 := hBw1.grown hg2 (by omega) (fun r hr => by have := (ho.row r hr).1; omega)
  have k0 : w2.cell? ⟨gk, 0, none⟩ = some (.int .i64 35) := by rw [cell_of_row w2 gk 0 _ _ (0, 0) hgE]; rfl
  have k1 : w2.cell? ⟨gk, 1, none⟩ = some (.int .u64 1056006543753) := by rw [cell_of_row w2 gk 1 _ _ (0, 0) hgE]; rfl
  have k2 : w2.cell? ⟨gk, 2, none⟩ = some (.int .u64 730107360018) := by rw [cell_of_row w2 gk 2 _ _ (0, 0) hgE]; rfl
  have k3 : w2.cell? ⟨gk, 3, none⟩ = some (.int .u64 118834127661) := by rw [cell_of_row w2 gk 3 _ _ (0, 0) hgE]; rfl
  have k4 : w2.cell? ⟨gk, 4, none⟩ = some (.int .u64 236335490938) := by rw [cell_of_row w2 gk 4 _ _ (0, 0) hgE]; rfl
  have k5 : w2.cell? ⟨gk, 5, none⟩ = some (.int .u64 430795026429) := by rw [cell_of_row w2 gk 5 _ _ (0, 0) hgE]; rfl
  obtain ⟨b2, o2, rfl, _, hcl⟩ := ho2.sl (by rw [B8_length, ← HN.out]; exact hN0)
  have Hcl := Lib.hid hcl
  clear hcl hgE hg2 hr2 ho ho2
  go_loopw [7, 18] (fun cv i wr => ∃ j : Nat, wr = w2 ∧ j ≤ N ∧ i = .int .i64 j ∧ cv = .int .u64 ((poly (M.take j)).toNat : Int)) (fun _ i _ => N - (intOf i).toNat)
  case atStart => exact ⟨0, rfl, Nat.zero_le _, rfl, rfl⟩
  case round =>
    obtain ⟨j, rfl, hj, rfl, rfl⟩ := hrel
    obtain ⟨x, hx⟩ : ∃ x, x = poly (M.take j) := ⟨_, rfl⟩
    rw [← hx]
    have hx64 := x.isLt
    by_cases hlt : j < N
    · have hjM : j < M.length := by rw [← HN.out]; exact hlt
      obtain ⟨y, hy⟩ : ∃ y, y = M[j] := ⟨_, rfl⟩
      have hcell : wr.cell? ⟨b2, o2 + j, none⟩ = some (.int .u8 (y.toNat : Int)) := by rw [Hcl.out j (by simpa using hjM), B8_get, hy]
      have hy8 := y.toNat_lt
      have Hx := Lib.hid hx
      have Hy := Lib.hid hy
      clear hx hy
      go_wp2_with fail
      rw [sp_c x y, sp_b x]
      obtain ⟨c0, hc0⟩ : ∃ c0, c0 = ((x &&& 0x7ffffffff) <<< 5) ^^^ y.toBitVec.setWidth 64 := ⟨_, rfl⟩
      obtain ⟨b0, hb0⟩ : ∃ b0, b0 = x >>> 35 := ⟨_, rfl⟩
      rw [← hc0, ← hb0]
      have Hc0 := Lib.hid hc0
      have Hb0 := Lib.hid hb0
      obtain ⟨wS, hwS⟩ : ∃ wS, wS = wr := ⟨_, rfl⟩
      subst hwS
      clear hc0 hb0
      have hb64 := b0.isLt
      go_loopw [7, 38] (fun cv i wr => ∃ q : Nat, wr = wS ∧ q ≤ 5 ∧ i = .int .i64 q ∧ cv = .int .u64 ((polyAdd b0 c0 q).toNat : Int)) (fun _ i _ => 5 - (intOf i).toNat)
      case atStart => exact ⟨0, rfl, Nat.zero_le _, rfl, rfl⟩
      case round =>
        obtain ⟨q, rfl, hq, rfl, rfl⟩ := hrel
        obtain ⟨z, hz⟩ : ∃ z, z = polyAdd b0 c0 q := ⟨_, rfl⟩
        rw [← hz]
        have hz64 := z.isLt
        have Hz := Lib.hid hz
        clear hz
        by_cases hlt5 : q < 5
        · obtain ⟨av, hav⟩ : ∃ av, av = dAdd.getD q 0 := ⟨_, rfl⟩
          have hix := run_index_u64 (P := Tryd.prog) 54 53 5 #[.int .u64 1056006543753, .int .u64 730107360018, .int .u64 118834127661, .int .u64 236335490938, .int .u64 430795026429] .i64 q (.int .u64 (av.toNat : Int)) (by kernel_rfl) (by kernel_rfl) (by kernel_rfl) hlt5 (by
            rw [hav]
            have hq5 : q = 0 ∨ q = 1 ∨ q = 2 ∨ q = 3 ∨ q = 4 := by omega
            rcases hq5 with rfl | rfl | rfl | rfl | rfl <;> rfl)
          have Hav := Lib.hid hav
          clear hav
          go_wp2_with fail
          · rename_i h
            have hb : (b0 >>> q) &&& 1 = 1 := (bit_one b0 q).2 (by simpa using h)
            refine ⟨⟨q + 1, trivial, by omega, rfl, ?_⟩, by simp [intOf]; omega⟩
            rw [polyAdd, if_pos hb, ← Hz.out, ← Hav.out, sp_x]
          · rename_i h
            have hb : ¬ ((b0 >>> q) &&& 1 = 1) := fun e => by
              have := (bit_one b0 q).1 e
              rw [this] at h; simp at h
            refine ⟨⟨q + 1, trivial, by omega, rfl, ?_⟩, by simp [intOf]; omega⟩
            rw [polyAdd, if_neg hb, ← Hz.out]
        · obtain rfl : q = 5 := by omega
          go_wp2_with fail
          refine ⟨⟨j + 1, trivial, by omega, rfl, ?_⟩, by simp [intOf]; omega⟩
          rw [List.take_succ_eq_append_getElem hjM, poly, List.foldl_append]
          show _ = Value.int .u64 ((polyStep (poly (M.take j)) M[j]).toNat : Int)
          rw [polyStep, ← Hx.out, ← Hy.out, ← Hc0.out, ← Hb0.out, Hz.out]
    · obtain rfl : j = N := by omega
      go_wp2_with fail
      go_ret
      refine ⟨?_, hBE⟩
      rw [← HM.out, ← show M.take j = M from List.take_of_length_le (by rw [← HN.out]; exact Nat.le_refl _), ← hx]; rfl
end Go.Proofs.YtjbknfjcdmafaaaDoor

/-! ref02.fill. -/
namespace Go.Proofs.YtjbknfjcdmafaaaDoor
open Go.RowKit Go.Shelf

def slen : Value → Nat
  | .slice _ n _ => n
  | _ => 0
/-- The lowest i bytes of a number, the lowest first. -/
def lows (m i : Nat) : List UInt8 := (List.range i).map fun j => UInt8.ofNat (m / 256 ^ j)
theorem lows_succ (m i : Nat) : lows m (i + 1) = lows m i ++ [UInt8.ofNat (m / 256 ^ i)] := by simp [lows, List.range_succ]
theorem lows_length (m i : Nat) : (lows m i).length = i := by simp [lows]
theorem lows_get (m i j : Nat) (h : j < i) : (B8 (lows m i))[j]? = some (.int .u8 ((m / 256 ^ j % 256 : Nat) : Int)) := by simp [B8, lows, h]
/-- The last k of eight. -/
def tops (m : Nat) : Nat → List UInt8
  | 0 => []
  | k + 1 => tops m k ++ [UInt8.ofNat (m / 256 ^ (8 - 1 - k))]
theorem tops_succ (m k : Nat) : tops m (k + 1) = tops m k ++ [UInt8.ofNat (m / 256 ^ (8 - 1 - k))] := rfl
theorem tops_eight (m : Nat) : tops m 8 = low8 m 8 := by simp [tops, low8, List.range, List.range.loop]
theorem fill_msg (b : List UInt8) (f : Nat) (hf : f = 63 - (b.length % 64 + 8) % 64) : b ++ 128 :: List.replicate f 0 ++ tops (b.length * 8) 8 = msg b := by
  rw [tops_eight, msg, tailL, ← hf]; simp

theorem lows_next (n k q : Nat) (h : q = n * 8 / 256 ^ k) : ((q : Int) / 256) = ((n : Int) * 8 / 256 ^ (k + 1)) := by
  have h2 : q / 256 = n * 8 / 256 ^ (k + 1) := by rw [h, Nat.div_div_eq_div_mul, ← Nat.pow_succ]
  have h3 : ((q / 256 : Nat) : Int) = ((n * 8 / 256 ^ (k + 1) : Nat) : Int) := by rw [h2]
  rw [Int.natCast_ediv, Int.natCast_ediv, Int.natCast_mul, Int.natCast_pow] at h3
  exact h3
theorem tops_length (m k : Nat) : (tops m k).length = k := by
  induction k with
  | zero => rfl
  | succ k ih => simp [tops, ih]
theorem push_below {w wr w3 : World} {B E n c : Nat} {A : Option Addr} {xs : List Value} {o : Obj} (hb : Below B w wr) (hB : B ≤ w.heap.size) (ho : Ow wr B E (.slice A n c) xs) (hg : (wr.alloc o).grownBy w3 (rowOf (.slice A n c))) : Below B w w3 := by
  have h1 : B ≤ wr.heap.size := Nat.le_trans hB hb.size
  exact (hb.alloc h1 o).grown hg (by rw [World.size_alloc]; omega) (fun r hr => (ho.row r hr).1)
theorem b8_snoc (xs : List UInt8) (x : Value) (b : UInt8) (h : x = .int .u8 (b.toNat : Int)) : B8 xs ++ [x] = B8 (xs ++ [b]) := by rw [h, B8_append]; rfl

end Go.Proofs.YtjbknfjcdmafaaaDoor
