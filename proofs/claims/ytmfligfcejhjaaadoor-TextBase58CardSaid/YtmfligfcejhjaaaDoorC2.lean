/- bytes.Repeat of one byte. -/
import Derived.Test.YtmfligfcejhjaaaDoorC1
import Derived.Test.YtmfligfcejhjaaaDoorShelf
import Derived.Lib.MakeNoZero
import Derived.Lib.SlBuf
import Derived.Laws.CopyOwn
namespace Go.Proofs.YtmfligfcejhjaaaDoor
open Go.RowKit

set_option maxHeartbeats 2000000 in
theorem repeat_zero (A : Option Addr) (m c : Nat) (w : World) :
    Calls Tryd.prog 19 #[.slice A m c, .int .i64 0] w fun e W' => ∃ v, e = .returned v ∧ Ow W' w.heap.size 5 v (B8 []) ∧ Below w.heap.size w W' := by
  go_enter Tryd.func19, Tryd.ntmps19
  go_wp2
  go_ret
  exact ⟨_, rfl, Ow.nil_ _ _ _ _, (Below.refl _ w).alloc (Nat.le_refl _) _⟩

theorem mul_one_any (n : Nat) (hn : n ≤ 4096) (w : World) : Calls Tryd.prog 36 #[.int .u64 1, .int .u64 n] w fun e w' => e = .returned (.tuple #[.int .u64 0, .int .u64 n]) ∧ w = w' := by
  refine (Tryd.bits_Mul 1 n (by omega) (by omega) w).mono fun e w' ⟨he, hw⟩ => ⟨?_, hw.symm⟩
  rw [he, show 1 * n / 18446744073709551616 = 0 by omega, show 1 * n % 18446744073709551616 = n by omega]; rfl

set_option maxRecDepth 100000 in
set_option maxHeartbeats 2000000 in
theorem repeat_pos (b o c n : Nat) (x : UInt8) (hn : 0 < n) (hn2 : n ≤ 4096) (w : World) (hx : w.cell? ⟨b, o, none⟩ = some (.int .u8 (x.toNat : Int))) :
    Calls Tryd.prog 19 #[.slice (some ⟨b, o, none⟩) 1 c, .int .i64 n] w fun e W' => ∃ v, e = .returned v ∧ Ow W' w.heap.size 5 v (B8 (List.replicate n x)) ∧ Below w.heap.size w W' := by
  obtain ⟨cs, hrunM, hle, hmx0⟩ := Lib.run_makeNoZero (P := Tryd.prog) w #[3] 22 5 Tryd.underlying22 n (by omega)
  have hcm := hmx0 (by unfold maxLen; omega)
  have hcall : (callFunc 37 #[.int .i64 (n : Int)]).run Tryd.prog w = .ok (.value (.slice (some ⟨w.heap.size, 0, none⟩) n cs.size)) ((w.alloc (.cells cs 5)).drewN 2) := by
    rw [run_callFunc_extern Tryd.func37 (by kernel_rfl) (by kernel_rfl) (by kernel_rfl) (e := Extern.BytealgMakeNoZero.makeNoZero #[3] #[22]) (by kernel_rfl), hrunM]
    rfl
  have h0 : ((n : Int) == 0) = false := by simp; omega
  have h1 : ¬ ((n : Int) < 0) := by omega
  have h2 : ((n : Int) ≤ 8192) := by omega
  obtain ⟨g, hg⟩ : ∃ g, g = w.heap.size := ⟨_, rfl⟩
  have Hg := Lib.hid hg
  have Hcm := Lib.hid hcm
  clear hrunM hmx0 hcm
  rw [← hg] at hcall
  clear hg
  go_enter Tryd.func19, Tryd.ntmps19
  go_wp2_with (first | (go_at_call 36; refine (mul_one_any n hn2 _).mono ?_; rintro e w' ⟨rfl, rfl⟩) | (at_builtin; fail) | (refine wpList_copy_Sl (g := g) (off := 0) (dLen := n) (dCap := n) (A := some ⟨b, o, none⟩) (sLen := 1) (sCap := c) (cur := cs) (t := 5) (cs := [.int .u8 (x.toNat : Int)]) (B := g) elB rfl (.tmp 58) (.tmp 59) rfl rfl rfl ?_ ?_ ?_ ?_ ?_ ?_; rotate_left 5; intro w1 hw1; have Hw1 := Lib.hid hw1; clear hw1))
  · have hxs : (B8 (List.replicate n x)).length = n := by simp
    have hh0 : ((w.alloc (Obj.cells cs 5)).drewN 2).heap[g]? = some (.cells cs 5 (0, 0)) := by rw [Hg.out]; exact heap_alloc_new w _
    have hF0 : Fill w1 g 5 cs.size (B8 (List.replicate n x)) (0 + 1) := by
      have h := Fill.splice (k := 0) (m := 1) (xs := B8 (List.replicate n x)) (cs := [.int .u8 (x.toNat : Int)]) hh0 rfl (by omega) (by omega) (by omega) (by
        cases n with
        | zero => omega
        | succ n => simp [B8, List.replicate_succ])
      rw [Hw1.out]
      simpa using h
    have hb1 : Below w.heap.size w w1 := by
      rw [Hw1.out]; exact below_setRow' (below_drewN' ((Below.refl _ w).alloc (Nat.le_refl _) _) 2) (by have := Hg.out; omega) _
    clear hh0 hcall hx Hw1
    go_loopw [10] (fun i wr => ∃ k : Nat, 1 ≤ k ∧ k ≤ n ∧ i = .int .i64 k ∧ Fill wr g 5 cs.size (B8 (List.replicate n x)) k ∧ Below w.heap.size w wr) (fun i _ => n - (intOf i).toNat)
    case atStart => exact ⟨1, by omega, by omega, rfl, by simpa using hF0, hb1⟩
    case round =>
      clear hF0 hb1
      obtain ⟨k, hk1, hk2, rfl, hF, hB⟩ := hrel
      by_cases hlt : k < n
      · have hmx : Tryd.prog.follows .mixedOrders = true := by kernel_rfl
        obtain ⟨cur, hh, hsz, hc⟩ := hF
        have hmin : min (k : Int) (n : Int) = (k : Int) := by omega
        have hnk : ¬ n = k := by omega
        have hgw : w.heap.size ≤ g := by have := Hg.out; omega
        have Hc := Lib.hid hc
        have Hh := Lib.hid hh
        have Hsz := Lib.hid hsz
        clear hc hh hsz
        go_wp2_with (at_builtin; fail)
        refine wp_region_plan [(0, 0), (1, 0), (2, 0), (3, 0), (4, 0), (5, 0), (6, 0), (7, 2), (8, 2), (9, 2)] 7 hmx (by kernel_rfl) (by intro c a d v w h; cases d <;> exact h) ?_
        repeat ((first | (refine wpPlan_pure rfl (fun K hK => ?_)) | (refine wpPlan_quiet rfl (fun K hK => ?_))); go_simp; (first | (refine hK _ ?_) | (simp only [IntWalk.iteOmega]; go_simp; refine hK _ ?_) | (go_bits; go_simp; refine hK _ ?_)); clear hK K; (try go_bits))
        refine wpPlan_loud rfl rfl (fun K hK => ?_)
        refine wp_copy_Sl (g := g) (off := k) (dLen := n - k) (dCap := n - k) (A := some ⟨g, 0, none⟩) (sLen := k) (sCap := n) (cur := cur) (t := 5) (cs := B8 (List.replicate (min k (n - k)) x)) (B := wr.heap.size) elB (.tmp 70) (.tmp 73) rfl rfl rfl Hh.out ?_ ?_ ?_ (B8_oneCell _) ?_
        · simp [Nat.min_def]
        · intro _
          refine ⟨g, 0, rfl, (Array.getElem?_eq_some_iff.1 Hh.out).1, fun j hj => ?_⟩
          have hj2 : j < k := by simp at hj; omega
          have e : wr.drew.cell? ⟨g, 0 + j, none⟩ = cur[0 + j]? := cell_of_row wr g (0 + j) cur _ _ Hh.out
          rw [e, Nat.zero_add, Hc.out j hj2]
          simp [B8, List.getElem?_replicate]; omega
        · have := Hsz.out; simp; omega
        obtain ⟨w2, hw2⟩ : ∃ w2, w2 = wr.drew.setRow g (cur.toList.take k ++ B8 (List.replicate (min k (n - k)) x) ++ cur.toList.drop (k + (B8 (List.replicate (min k (n - k)) x)).length)).toArray := ⟨_, rfl⟩
        rw [← hw2]
        have hF2 : Fill w2 g 5 cs.size (B8 (List.replicate n x)) (k + min k (n - k)) := by
          rw [hw2]
          refine Fill.splice (w := wr.drew) Hh.out Hsz.out Hc.out (by omega) (by rw [hxs]; omega) ?_
          simp [B8]
        have hB2 : Below w.heap.size w w2 := by rw [hw2]; exact below_setRow' hB.drew hgw _
        have hl : ((B8 (List.replicate (min k (n - k)) x)).length : Int) = ((min k (n - k) : Nat) : Int) := by simp
        rw [hl]
        obtain ⟨m, hm⟩ : ∃ m, m = min k (n - k) := ⟨_, rfl⟩
        rw [← hm] at hF2 ⊢
        have hm1 : 1 ≤ m := by omega
        have hm2 : k + m ≤ n := by omega
        clear hw2 hm hl
        refine hK _ _ ⟨.inl (by decide), ?_⟩
        clear hK K
        refine wpPlan_loud rfl rfl (fun K hK => ?_)
        go_wp2
        refine ⟨.inl (by decide), ?_⟩
        refine wpPlan_loud rfl rfl (fun K hK => ?_)
        go_wp2
        refine ⟨.inl (by decide), wpPlan_nil ?_⟩
        go_wp2
        refine ⟨⟨k + m, by omega, by omega, by go_num, hF2, hB2⟩, by simp [intOf]; omega⟩
      · obtain rfl : k = n := by omega
        go_wp2
        go_ret
        obtain ⟨cur, hh, hsz, hc⟩ := hF
        have hgw := Hg.out
        refine ⟨_, rfl, ⟨some ⟨g, 0, none⟩, k, by simp, by simp, by unfold maxLen; omega, fun _ => ⟨g, cur, rfl, by omega, hh, ?_, ?_⟩⟩, hB⟩
        · omega
        · apply List.ext_getElem?
          intro i
          rw [hxs, List.getElem?_take]
          by_cases hi : i < k
          · rw [if_pos hi, Array.getElem?_toList]; exact hc i hi
          · rw [if_neg hi, List.getElem?_eq_none (by omega)]
  · rw [Hg.out]; exact heap_alloc_new w _
  · have : Nat.min 1 n = 1 := Nat.min_eq_left (by omega)
    simp [this]
  · intro _
    refine ⟨b, o, rfl, by have := block_lt_of_cell hx; rw [Hg.out]; exact this, fun j hj => ?_⟩
    have : j = 0 := by simpa using hj
    subst this
    exact (World.cell?_alloc_lt w _ _ (block_lt_of_cell hx)).trans hx
  · simp; omega
  · intro v hv; simp at hv; subst hv; rfl
end Go.Proofs.YtmfligfcejhjaaaDoor
