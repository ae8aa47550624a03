/- bytes.Repeat of one byte. | text.Base58, walked. | Plain facts on 32-bit words as the walk spells them. -/
import Derived.Test.YtcjioogololnoaaGreatDoorU3
import Derived.Test.YtcjioogololnoaaGreatDoorShelf
import Derived.Lib.MakeNoZero
import Derived.Lib.SlBuf
import Derived.Laws.CopyOwn
import Derived.Test.YtcjioogololnoaaGreatDoorU2
import Derived.WalkKit

/-! bytes.Repeat of one byte. -/
namespace Go.Proofs.YtcjioogololnoaaGreatDoor
open Go.RowKit

set_option maxHeartbeats 2000000 in
theorem repeat_zero (A : Option Addr) (m c : Nat) (w : World) :
    Calls Tryz.prog 163 #[.slice A m c, .int .i64 0] w fun e W' => ∃ v, e = .returned v ∧ Ow W' w.heap.size 5 v (B8 []) ∧ Below w.heap.size w W' := by
  go_enter Tryz.func163, Tryz.ntmps163
  go_wp2
  go_ret
  exact ⟨_, rfl, Ow.nil_ _ _ _ _, (Below.refl _ w).alloc (Nat.le_refl _) _⟩

theorem mul_one_any (n : Nat) (hn : n ≤ 4096) (w : World) : Calls Tryz.prog 194 #[.int .u64 1, .int .u64 n] w fun e w' => e = .returned (.tuple #[.int .u64 0, .int .u64 n]) ∧ w = w' := by
  refine (Tryz.bits_Mul 1 n (by omega) (by omega) w).mono fun e w' ⟨he, hw⟩ => ⟨?_, hw.symm⟩
  rw [he, show 1 * n / 18446744073709551616 = 0 by omega, show 1 * n % 18446744073709551616 = n by omega]; rfl

set_option maxRecDepth 100000 in
set_option maxHeartbeats 2000000 in
theorem repeat_pos (b o c n : Nat) (x : UInt8) (hn : 0 < n) (hn2 : n ≤ 4096) (w : World) (hx : w.cell? ⟨b, o, none⟩ = some (.int .u8 (x.toNat : Int))) :
    Calls Tryz.prog 163 #[.slice (some ⟨b, o, none⟩) 1 c, .int .i64 n] w fun e W' => ∃ v, e = .returned v ∧ Ow W' w.heap.size 5 v (B8 (List.replicate n x)) ∧ Below w.heap.size w W' := by
  obtain ⟨cs, hrunM, hle, hmx0⟩ := Lib.run_makeNoZero (P := Tryz.prog) w #[3] 37 5 Tryz.underlying37 n (by omega)
  have hcm := hmx0 (by unfold maxLen; omega)
  have hcall : (callFunc 127 #[.int .i64 (n : Int)]).run Tryz.prog w = .ok (.value (.slice (some ⟨w.heap.size, 0, none⟩) n cs.size)) ((w.alloc (.cells cs 5)).drewN 2) := by
    rw [run_callFunc_extern Tryz.func127 (by kernel_rfl) (by kernel_rfl) (by kernel_rfl) (e := Extern.BytealgMakeNoZero.makeNoZero #[3] #[37]) (by kernel_rfl), hrunM]
    rfl
  have h0 : ((n : Int) == 0) = false := by simp; omega
  have h1 : ¬ ((n : Int) < 0) := by omega
  have h2 : ((n : Int) ≤ 8192) := by omega
  obtain ⟨g, hg⟩ : ∃ g, g = w.heap.size := ⟨_, rfl⟩
  have Hg := Lib.hid hg
  have Hcm := Lib.hid hcm
  clear hrunM hmx0 hcm
  rw [← hg] at hcall
  clear hg
  go_enter Tryz.func163, Tryz.ntmps163
  go_wp2_with (first | (go_at_call 194; refine (mul_one_any n hn2 _).mono ?_; rintro e w' ⟨rfl, rfl⟩) | (at_builtin; fail) | (refine wpList_copy_Sl (g := g) (off := 0) (dLen := n) (dCap := n) (A := some ⟨b, o, none⟩) (sLen := 1) (sCap := c) (cur := cs) (t := 5) (cs := [.int .u8 (x.toNat : Int)]) (B := g) elB rfl (.tmp 58) (.tmp 59) rfl rfl rfl ?_ ?_ ?_ ?_ ?_ ?_; rotate_left 5; intro w1 hw1; have Hw1 := Lib.hid hw1; clear hw1))
  · have hxs : (B8 (List.replicate n x)).length = n := by simp
    have hh0 : ((w.alloc (Obj.cells cs 5)).drewN 2).heap[g]? = some (.cells cs 5 (0, 0)) := by rw [Hg.out]; exact heap_alloc_new w _
    have hF0 : Fill w1 g 5 cs.size (B8 (List.replicate n x)) (0 + 1) := by
      have h := Fill.splice (k := 0) (m := 1) (xs := B8 (List.replicate n x)) (cs := [.int .u8 (x.toNat : Int)]) hh0 rfl (by omega) (by omega) (by omega) (by
        cases n with
        | zero => omega
        | succ n => simp [B8, List.replicate_succ])
      rw [Hw1.out]
      simpa using h
    have hb1 : Below w.heap.size w w1 := by
      rw [Hw1.out]; exact below_setRow' (below_drewN' ((Below.refl _ w).alloc (Nat.le_refl _) _) 2) (by have := Hg.out; omega) _
    clear hh0 hcall hx Hw1
    go_loopw [10] (fun i wr => ∃ k : Nat, 1 ≤ k ∧ k ≤ n ∧ i = .int .i64 k ∧ Fill wr g 5 cs.size (B8 (List.replicate n x)) k ∧ Below w.heap.size w wr) (fun i _ => n - (intOf i).toNat)
    case atStart => exact ⟨1, by omega, by omega, rfl, by simpa using hF0, hb1⟩
    case round =>
      clear hF0 hb1
      obtain ⟨k, hk1, hk2, rfl, hF, hB⟩ := hrel
      by_cases hlt : k < n
      · have hmx : Tryz.prog.follows .mixedOrders = true := by kernel_rfl
        obtain ⟨cur, hh, hsz, hc⟩ := hF
        have hmin : min (k : Int) (n : Int) = (k : Int) := by omega
        have hnk : ¬ n = k := by omega
        have hgw : w.heap.size ≤ g := by have := Hg.out; omega
        have Hc := Lib.hid hc
        have Hh := Lib.hid hh
        have Hsz := Lib.hid hsz
        clear hc hh hsz
        go_wp2_with (at_builtin; fail)
        refine wp_region_plan [(0, 0), (1, 0), (2, 0), (3, 0), (4, 0), (5, 0), (6, 0), (7, 2), (8, 2), (9, 2)] 7 hmx (by kernel_rfl) (by intro c a d v w h; cases d <;> exact h) ?_
        repeat ((first | (refine wpPlan_pure rfl (fun K hK => ?_)) | (refine wpPlan_quiet rfl (fun K hK => ?_))); go_simp; (first | (refine hK _ ?_) | (simp only [IntWalk.iteOmega]; go_simp; refine hK _ ?_) | (go_bits; go_simp; refine hK _ ?_)); clear hK K; (try go_bits))
        refine wpPlan_loud rfl rfl (fun K hK => ?_)
        refine wp_copy_Sl (g := g) (off := k) (dLen := n - k) (dCap := n - k) (A := some ⟨g, 0, none⟩) (sLen := k) (sCap := n) (cur := cur) (t := 5) (cs := B8 (List.replicate (min k (n - k)) x)) (B := wr.heap.size) elB (.tmp 70) (.tmp 73) rfl rfl rfl Hh.out ?_ ?_ ?_ (B8_oneCell _) ?_
        · simp [Nat.min_def]
        · intro _
          refine ⟨g, 0, rfl, (Array.getElem?_eq_some_iff.1 Hh.out).1, fun j hj => ?_⟩
          have hj2 : j < k := by simp at hj; omega
          have e : wr.drew.cell? ⟨g, 0 + j, none⟩ = cur[0 + j]? := cell_of_row wr g (0 + j) cur _ _ Hh.out
          rw [e, Nat.zero_add, Hc.out j hj2]
          simp [B8, List.getElem?_replicate]; omega
        · have := Hsz.out; simp; omega
        obtain ⟨w2, hw2⟩ : ∃ w2, w2 = wr.drew.setRow g (cur.toList.take k ++ B8 (List.replicate (min k (n - k)) x) ++ cur.toList.drop (k + (B8 (List.replicate (min k (n - k)) x)).length)).toArray := ⟨_, rfl⟩
        rw [← hw2]
        have hF2 : Fill w2 g 5 cs.size (B8 (List.replicate n x)) (k + min k (n - k)) := by
          rw [hw2]
          refine Fill.splice (w := wr.drew) Hh.out Hsz.out Hc.out (by omega) (by rw [hxs]; omega) ?_
          simp [B8]
        have hB2 : Below w.heap.size w w2 := by rw [hw2]; exact below_setRow' hB.drew hgw _
        have hl : ((B8 (List.replicate (min k (n - k)) x)).length : Int) = ((min k (n - k) : Nat) : Int) := by simp
        rw [hl]
        obtain ⟨m, hm⟩ : ∃ m, m = min k (n - k) := ⟨_, rfl⟩
        rw [← hm] at hF2 ⊢
        have hm1 : 1 ≤ m := by omega
        have hm2 : k + m ≤ n := by omega
        clear hw2 hm hl
        refine hK _ _ ⟨.inl (by decide), ?_⟩
        clear hK K
        refine wpPlan_loud rfl rfl (fun K hK => ?_)
        go_wp2
        refine ⟨.inl (by decide), ?_⟩
        refine wpPlan_loud rfl rfl (fun K hK => ?_)
        go_wp2
        refine ⟨.inl (by decide), wpPlan_nil ?_⟩
        go_wp2
        refine ⟨⟨k + m, by omega, by omega, by go_num, hF2, hB2⟩, by simp [intOf]; omega⟩
      · obtain rfl : k = n := by omega
        go_wp2
        go_ret
        obtain ⟨cur, hh, hsz, hc⟩ := hF
        have hgw := Hg.out
        refine ⟨_, rfl, ⟨some ⟨g, 0, none⟩, k, by simp, by simp, by unfold maxLen; omega, fun _ => ⟨g, cur, rfl, by omega, hh, ?_, ?_⟩⟩, hB⟩
        · omega
        · apply List.ext_getElem?
          intro i
          rw [hxs, List.getElem?_take]
          by_cases hi : i < k
          · rw [if_pos hi, Array.getElem?_toList]; exact hc i hi
          · rw [if_neg hi, List.getElem?_eq_none (by omega)]
  · rw [Hg.out]; exact heap_alloc_new w _
  · have : Nat.min 1 n = 1 := Nat.min_eq_left (by omega)
    simp [this]
  · intro _
    refine ⟨b, o, rfl, by have := block_lt_of_cell hx; rw [Hg.out]; exact this, fun j hj => ?_⟩
    have : j = 0 := by simpa using hj
    subst this
    exact (World.cell?_alloc_lt w _ _ (block_lt_of_cell hx)).trans hx
  · simp; omega
  · intro v hv; simp at hv; subst hv; rfl
end Go.Proofs.YtcjioogololnoaaGreatDoor

/-! text.Base58, walked. -/
namespace Go.Proofs.YtcjioogololnoaaGreatDoor
open Go.RowKit Go.Shelf
attribute [local go_sem] Oper.semAt_some

theorem repeat_any (b o c n : Nat) (x : UInt8) (hn2 : n ≤ 4096) (w : World) (hx : w.cell? ⟨b, o, none⟩ = some (.int .u8 (x.toNat : Int))) :
    Calls Tryz.prog 163 #[.slice (some ⟨b, o, none⟩) 1 c, .int .i64 n] w fun e W' => ∃ v, e = .returned v ∧ Ow W' w.heap.size 5 v (B8 (List.replicate n x)) ∧ Below w.heap.size w W' := by
  by_cases h : n = 0
  · subst h; exact repeat_zero _ _ _ _
  · exact repeat_pos b o c n x (by omega) hn2 w hx

set_option maxRecDepth 100000 in
set_option maxHeartbeats 8000000 in
theorem base58_in (F : Fence) (hFw : F = Fence.wide) (hF : ∀ k, F.fn k) (hro : F.round = none) (hdp : F.depth = none) (n : Nat) (hn : 3 ≤ n) (A : Option Addr) (cap : Nat) (bs : List UInt8) (hl : bs.length ≤ 300) (w : World) (hs : Sl w w.heap.size A (B8 bs)) :
    CallsIn F n Tryz.prog 123 #[.slice A bs.length cap] w fun e W' => e = .returned (.string ⟨(b58L bs).toArray⟩) ∧ Below w.heap.size w W' := by
  have h1 : 1 ≤ n := by omega
  refine callsIn_of_wp_marks Tryz.func123 rfl (hF _) ?_ hro
  simp only [Tryz.ntmps123, List.size_toArray, List.length_cons, List.length_nil, Nat.reduceAdd, Nat.reduceSub, Array.replicate_succ, Array.replicate_zero, List.push_toArray, List.append_toArray, List.nil_append, List.cons_append]
  gi_wp2
  gi_loop [3, 4, 5, 13] (fun z _ _ i => ∃ k : Nat, k ≤ bs.length ∧ z = .int .i64 bs.length ∧ i = .int .i64 k ∧ ∀ j (h : j < bs.length), j < k → bs[j] = 0) (fun _ _ _ i => bs.length - (intOf i).toNat)
  case atStart => exact ⟨0, Nat.zero_le _, rfl, rfl, fun j _ h => by omega⟩
  case round =>
    obtain ⟨k, hk, rfl, rfl, hz⟩ := hrel
    have Hz := Lib.hid hz
    clear hz
    by_cases hcont : ∃ h : k < bs.length, bs[k] = 0
    · obtain ⟨hlt, h0⟩ := hcont
      obtain ⟨b, o, rfl, _, hc⟩ := hs.at_ hlt
      have hck := hc k hlt
      rw [h0] at hck
      clear hc
      have H0 := Lib.hid h0
      clear h0
      gi_wp2
      refine ⟨⟨k + 1, by omega, rfl, by go_num, fun j hj hjk => ?_⟩, by simp [intOf]; omega⟩
      by_cases e : j = k
      · subst e; exact H0.out
      · exact Hz.out j hj (by omega)
    · have hlz : lz bs = k := lz_of bs k hk Hz.out (fun h e => hcont ⟨h, e⟩)
      have Hlz := Lib.hid hlz
      by_cases hlt : k < bs.length
      · obtain ⟨b, o, rfl, _, hc⟩ := hs.at_ hlt
        have hck := hc k hlt
        have hne : ((bs[k].toNat : Int) != 0) = true := by simp; exact fun e => hcont ⟨hlt, UInt8.toNat_inj.1 (by simpa using e)⟩
        clear hc hlz hcont
        gi_wp2_with fail
        subst hFw
        refine ⟨trivial, ?_⟩
        obtain ⟨W1, hW1⟩ : ∃ W1, W1 = w.alloc (.cells #[.int .u8 (49 : UInt8).toNat] 5) := ⟨_, rfl⟩
        have hcl : W1.cell? ⟨w.heap.size, 0, none⟩ = some (.int .u8 ((49 : UInt8).toNat : Int)) := by rw [hW1]; exact World.cell?_alloc_new _ _ _ 0
        have hsz1 : W1.heap.size = w.heap.size + 1 := by rw [hW1]; simp
        have hb01 : Below w.heap.size w W1 := by rw [hW1]; exact (Below.refl _ w).alloc (Nat.le_refl _) _
        change CallsIn _ _ _ _ _ (w.alloc (.cells #[.int .u8 (((49 : UInt8).toNat : Nat) : Int)] 5)) _
        rw [← hW1]
        refine callsIn_wide.2 ((repeat_any _ _ _ (k) 49 (by omega) W1 hcl).mono ?_)
        rintro e w1 ⟨v, rfl, ho, hb1⟩
        obtain ⟨Av, cv, rfl⟩ : ∃ Av cv, v = .slice Av (k) cv := by obtain ⟨Av, cv, e, _⟩ := ho; exact ⟨Av, cv, by simpa using e⟩
        gi_wp2_with fail
        have hHk : k ≤ 300 := by omega
        have how : Ow w1 w.heap.size 5 (.slice Av (k) cv) (B8 (List.replicate (k) 49)) := ho.mono (by omega)
        have hb1w : Below w.heap.size w w1 := hb01.trans (hb1.mono (by omega))
        clear ho hb1 hb01 hcl hW1 hsz1
        obtain ⟨B, hB⟩ : ∃ B, B = w1.heap.size := ⟨_, rfl⟩
        obtain ⟨W2, hW2⟩ : ∃ W2, W2 = w1.alloc (.cells #[.slice Av (k) cv] 37) := ⟨_, rfl⟩
        have hbx : Boxed W2 B 37 (.slice Av (k) cv) := by rw [hW2, hB]; exact Boxed.new _ _ _
        have hs2 : W2.heap.size = B + 1 := by rw [hW2, hB]; simp
        have hws : w.heap.size ≤ B := by rw [hB]; exact hb1w.size
        have hb02 : Below w.heap.size w W2 := by rw [hW2]; exact hb1w.alloc (by omega) _
        have ho2 : Ow W2 w.heap.size 5 (.slice Av (k) cv) (B8 (List.replicate (k) 49)) := by rw [hW2]; exact how.alloc _
        rw [← hW2]
        clear how hb1w hW2
        have hsl := (hs.below hb02).mono (show w.heap.size ≤ W2.heap.size by omega)
        refine callsIn_wide.2 ((turned_any _ _ bs W2 hsl (by omega)).mono ?_)
        rintro e w3 ⟨v, rfl, ho3, hb3⟩
        obtain ⟨A3, c3, rfl⟩ : ∃ A3 c3, v = .slice A3 bs.reverse.length c3 := by obtain ⟨Av, cv, e, _⟩ := ho3; exact ⟨Av, cv, by simpa using e⟩
        have hsl3 := ho3.sl
        have hb13 : bs.reverse.length ≤ 4096 := by simp; omega
        rw [← hB]
        have HB := Lib.hid hB
        clear hB
        gi_wp2_with fail
        have hbs := base_any 256 58 (by omega) (by omega) (by omega) (by omega) A3 c3 bs.reverse hb13 w3 hsl3
        rw [List.length_reverse] at hbs
        refine callsIn_wide.2 (hbs.mono ?_)
        clear hbs
        rintro e w4 ⟨v, rfl, ho4, hb4⟩
        rw [List.reverse_reverse] at ho4
        obtain ⟨ds, hds⟩ : ∃ ds, ds = baseL 256 58 bs := ⟨_, rfl⟩
        rw [← hds] at ho4
        have hdl : ds.length ≤ 8192 := by rw [hds]; have := baseL_len 256 58 (by omega) (by omega) bs; omega
        have hdlt : ∀ d ∈ ds, d.toNat < 58 := by rw [hds]; exact baseL_lt 256 58 (by omega) (by omega) bs
        have Hds := Lib.hid hds
        clear hds
        obtain ⟨A4, c4, rfl⟩ : ∃ A4 c4, v = .slice A4 ds.length c4 := by obtain ⟨Av, cv, e, _⟩ := ho4; exact ⟨Av, cv, by simpa using e⟩
        gi_wp2_with (gi_at_call 164; refine (bwdB_in Fence.wide hF hro _ _ _ _ _).mono ?_; rintro e w' ⟨rfl, rfl⟩)
        obtain ⟨Bs, hBs⟩ : ∃ Bs, Bs = w4.heap.size := ⟨_, rfl⟩
        obtain ⟨W0, hW0⟩ : ∃ W0, W0 = w4.alloc (.cells #[.slice A4 ds.length c4] 37) := ⟨_, rfl⟩
        rw [← hW0, ← hBs]
        have k3 := hb3.size
        have k4 := hb4.size
        have hb24 : Below W2.heap.size W2 W0 := by rw [hW0]; exact (hb3.trans (hb4.mono k3)).alloc (by omega) _
        have b0 : Boxed W0 B 37 (.slice Av (k) cv) := (hb24.block B (by omega)).trans hbx
        have b1 : Boxed W0 Bs 37 (.slice A4 ds.length c4) := by rw [hW0, hBs]; exact Boxed.new _ _ _
        have ho5 : Ow W0 w.heap.size 5 (.slice Av (k) cv) (B8 (List.replicate (k) 49)) := ho2.below hb24 (Nat.le_refl _)
        have hs0 : W0.heap.size = Bs + 1 := by rw [hW0, hBs]; simp
        have hsl4 : Sl W0 Bs A4 (B8 ds) := by rw [hW0, hBs]; exact ho4.sl.alloc (Nat.le_refl _) _
        obtain ⟨gA, hgA0, hgA1, hgA⟩ := ho4.rowAt (by omega)
        rw [B8_length] at hgA
        have hgAB : B < gA := by omega
        have hgAs : gA < W0.heap.size := by omega
        clear hgA0 hgA1
        have hb00 : Below w.heap.size w W0 := hb02.trans (hb24.mono (by omega))
        have hBs4 : B < Bs := by omega
        have hne0 : ∀ g, rowOf (.slice Av (k) cv) = some g → g ≠ gA := fun g hg => by have := ho2.row g hg; omega
        clear hb24 hbx ho2 hW0 hBs hb02 ho4 hb4 hb3 ho3 hsl3 k3 k4 hs2
        refine wpIn_rangeFunc_ownG (a₁ := ?fr1) hro h1 (gf := 195) (lb := #[.pointer (some ⟨Bs, 0, none⟩)]) rfl (hF _) (enters_of Tryz.func195 (by kernel_rfl) rfl)
          (bwdB_stopsK Fence.wide hF hro (n - 1) (by omega) Bs Bs (Keep3 w.heap.size Bs gA) (Keep3.refl _ _ _) Keep3.trans (fun h => h.1.2) A4 c4 ds (by omega) (α := {x : Nat × UInt8 // x.2.toNat < 58}) (·.1) (fun j h => ⟨⟨(j, ds[j]), hdlt _ (List.getElem_mem h)⟩, rfl⟩) W0 (fun W h => ⟨⟨h.mono (by omega), h.block Bs (by omega)⟩, h.block gA hgAs⟩) b1.cell (fun _ h => hsl4.keep3 (by rw [B8_length]; exact hgA) h))
          Keep3.trans (Keep3.b (by omega) (by omega) hgAs) (Below.refl _ _) (fun _ => rfl)
          (fun pre W => (∃ v, Boxed W B 37 v ∧ Ow W w.heap.size 5 v (B8 (List.replicate (k) 49 ++ pre.map fun x => let58 x.1.2)) ∧ (∀ g, rowOf v = some g → g ≠ gA) ∧ Boxed W Bs 37 (.slice A4 ds.length c4)) ∧ Below w.heap.size W0 W)
          (fun _ _ _ => False)
          (OwnFrom.and (Go.Own.from (fun s A B row hs hg hr => let ⟨v, hv, ho, hne, hq⟩ := hs; ⟨v, boxed_others hv hg hr, ho.others hg hr, hne, boxed_others hq hg hr⟩) _) (ownFrom_below (by omega) (by omega)))
          (fun _ _ _ _ _ hs _ _ => hs)
          ⟨⟨_, b0, by simpa using ho5, hne0, b1⟩, Below.refl _ _⟩
          ?assign ?body ?done ?stop
        case assign =>
          intro l x W K hK
          gi_wp2
          exact hK
        case stop =>
          rintro D c pre W _ _ h _
          exact h.elim
        case done =>
          rintro D ys W hD hys ⟨⟨v, h2, ho, _, _⟩, hB⟩ hK
          have c2 := h2.cell
          have hmap : (ys.map fun x => let58 x.1.2) = ds.reverse.map let58 := by
            rw [← bwd_bytes ds, ← hys]; simp [Function.comp_def]
          rw [hmap] at ho
          clear hys hmap
          obtain ⟨r, hr⟩ : ∃ r, r = List.replicate (k) 49 ++ ds.reverse.map let58 := ⟨_, rfl⟩
          have hrb : r = b58L bs := by rw [hr, b58L, Hlz.out, ← Hds.out]
          rw [← hr] at ho
          clear hr
          obtain ⟨Ar, cr, rfl⟩ : ∃ Ar cr, v = .slice Ar r.length cr := by obtain ⟨A', c', e, _⟩ := ho; exact ⟨A', c', by simpa using e⟩
          have hstr := run_str_Sl (P := Tryz.prog) W 37 9 5 (by kernel_rfl) (by kernel_rfl) (by kernel_rfl) W.heap.size Ar cr r ho.sl
          have Hrb := Lib.hid hrb
          clear hrb
          gi_wp2
          refine ⟨by simp, .inl ⟨_, _, rfl, run_takeDeferred hK, ?_⟩⟩
          refine ⟨_, results_tmp rfl _ _ _, by rw [← Hrb.out]; rfl, ?_⟩
          exact hb00.trans (hB.trans (belowK_b (w := W0) (by omega) W D _ _ hD hK rfl rfl))
        case body =>
          clear hsl4 b0 b1 ho5 hne0 hb00 hs
          rintro l pre ⟨x, hx⟩ W ⟨⟨v, h2, ho, hne, hq⟩, hBW⟩ hpre
          have hd : 1 ≤ n - 1 - 1 := by omega
          have c2 := h2.cell
          have f2 := h2.frozen
          have hx58 : x.2.toNat < 58 := hx
          have hx58i : (x.2.toNat : Int) < 58 := by omega
          obtain ⟨y, hy⟩ : ∃ y, y = let58 x.2 := ⟨_, rfl⟩
          have hlet : ∀ h, (⟨letters58.toArray⟩ : ByteArray)[x.2.toNat]'h = y := fun h => by rw [hy]; exact letters58_at x.2 h
          simp only [letters58] at hlet
          have Hy := Lib.hid hy
          clear hy
          obtain ⟨ys, hys⟩ : ∃ ys, ys = List.replicate (k) 49 ++ pre.map (fun x : {x : Nat × UInt8 // x.2.toNat < 58} => let58 x.1.2) := ⟨_, rfl⟩
          rw [← hys] at ho
          have hyl : ys.length ≤ 16384 := by rw [hys]; simp; omega
          obtain ⟨Ay, cy, rfl⟩ : ∃ Ay cy, v = .slice Ay ys.length cy := by obtain ⟨Ay, cy, e, _⟩ := ho; exact ⟨Ay, cy, by simpa using e⟩
          have Hys := Lib.hid hys
          clear hys
          have hmx : Tryz.prog.follows .mixedOrders = true := by kernel_rfl
          have hneB := ho.row_ne_box h2 (by decide)
          have hrow := ho.row
          have hneS0 := ho.row_ne_box hq (by decide)
          gi_wp2
          refine wpIn_region_plan [(0, 1), (1, 0), (2, 0), (3, 2), (4, 2), (5, 2)] 4 (fun _ => trivial) hmx (by kernel_rfl) (by intro c a d v w h; cases d <;> exact h) ?_
          repeat ((first | (refine wpPlan_pure rfl (fun K hK => ?_)) | (refine wpPlan_quiet rfl (fun K hK => ?_))); go_simp; (first | (refine hK _ ?_) | (simp only [IntWalk.iteOmega]; go_simp; refine hK _ ?_) | (go_bits; go_simp; refine hK _ ?_)); clear hK K; (try go_bits))
          refine wpPlanIn_loud rfl rfl (fun K hK => ?_)
          gi_wp2
          refine ⟨.inr (ext_alloc_drew _ _), ?_⟩
          refine wpPlanIn_loud rfl rfl (fun K hK => ?_)
          refine wpIn_append_Ow (F := Fence.wide.inRound l) (v := .slice Ay ys.length cy) (m := 1) (c := 1) (fun _ => trivial) elB (.tmp 32) (.tmp 35) rfl rfl (ho.alloc _).drew rfl (Sl.one W.drew _ _).drew rfl ?_ ?_ ?_ ?_ ?_
          · intro u hu; simp at hu; subst hu; rfl
          · simp [maxLen]; omega
          · simp; omega
          · have := hBW.size; simp; omega
          intro v' w1 ho1 hg1 hr1
          have hws' : w.heap.size ≤ B := hws
          have hneS : rowOf (.slice Ay ys.length cy) ≠ some Bs := fun e => hneS0 Bs e rfl
          have hwsz := hBW.size
          have h2' := Boxed.kept (boxed_drew (h2.alloc _)) hg1 (by intro e; exact hneB B e.symm rfl)
          have c2' := h2'.cell
          have f2' := h2'.frozen
          have hrlt : ∀ g, rowOf (.slice Ay ys.length cy) = some g → w.heap.size ≤ g := fun g hg => (hrow g hg).1
          have k1 : KeepsOthers W w1 := (KeepsOthers.alloc W _).trans ((KeepsOthers.drew _).trans ((ho.alloc _).drew.keepsOthers hg1 rfl))
          have bl : Below w.heap.size W w1 := ((Below.refl _ W).alloc (by omega) _).drew.grown hg1 (by simp; omega) hrlt
          obtain ⟨Av', cv', rfl⟩ : ∃ Av' cv', v' = .slice Av' (ys.length + 1) cv' := by obtain ⟨A', c', e, _⟩ := ho1; exact ⟨A', c', by simpa using e⟩
          refine hK _ _ ⟨.inl (by decide), ?_⟩
          clear hK K
          refine wpPlanIn_loud rfl rfl (fun K hK => ?_)
          gi_wp2
          refine ⟨.inl (by decide), wpPlan_nil ?_⟩
          have hsz1 : W.heap.size < w1.heap.size := by have := hg1.size; simp at this; omega
          have hnB : ∀ g, rowOf (.slice Av' (ys.length + 1) cv') = some g → B ≠ g := fun g hg e => by
            subst e
            rcases hr1 with e | e
            · exact hneB B (e ▸ hg) rfl
            · rw [e] at hg; simp at hg; have := h2.lt; omega
          gi_wp2
          have hbk : Below w.heap.size W (w1.setCell ⟨B, 0, none⟩ (.slice Av' (ys.length + 1) cv')) := bl.setCell (p := ⟨B, 0, none⟩) hws' _
          refine ⟨(k1.trans (KeepsOthers.setCell _ _ _)).from _, ⟨⟨hbk, ?_⟩, ?_⟩, ⟨_, h2'.set _, ?_, ?_, ?_⟩, hBW.trans hbk⟩
          · exact (Below.heap_setCell w1 ⟨B, 0, none⟩ _ Bs (by show Bs ≠ B; omega)).trans ((hg1.block Bs (by simp; omega) (fun e => hneS e.symm)).trans (Below.heap_alloc W _ Bs (by omega)))
          · exact (Below.heap_setCell w1 ⟨B, 0, none⟩ _ gA (by show gA ≠ B; omega)).trans ((hg1.block gA (by simp; omega) (fun e => hne gA e.symm rfl)).trans (Below.heap_alloc W _ gA (by omega)))
          · have e : B8 ys ++ [Value.int .u8 (y.toNat : Int)] = B8 (List.replicate (k) 49 ++ (pre ++ [(⟨x, hx⟩ : {x : Nat × UInt8 // x.2.toNat < 58})]).map (fun x : {x : Nat × UInt8 // x.2.toNat < 58} => let58 x.1.2)) := by
              rw [List.map_append, ← List.append_assoc, ← Hys.out, B8_append, Hy.out]; rfl
            rw [← e]
            exact ho1.setCell (fun g hg => hnB g hg) _
          · intro g hg e
            subst e
            rcases hr1 with e | e
            · exact hne g (e ▸ hg) rfl
            · rw [e] at hg; simp at hg; omega
          · exact (Boxed.kept (boxed_drew (hq.alloc _)) hg1 (fun e => hneS e.symm)).other (by omega) _
      · have hke : k = bs.length := by omega
        subst hke
        clear hcont
        gi_wp2_with fail
        subst hFw
        refine ⟨trivial, ?_⟩
        obtain ⟨W1, hW1⟩ : ∃ W1, W1 = w.alloc (.cells #[.int .u8 (49 : UInt8).toNat] 5) := ⟨_, rfl⟩
        have hcl : W1.cell? ⟨w.heap.size, 0, none⟩ = some (.int .u8 ((49 : UInt8).toNat : Int)) := by rw [hW1]; exact World.cell?_alloc_new _ _ _ 0
        have hsz1 : W1.heap.size = w.heap.size + 1 := by rw [hW1]; simp
        have hb01 : Below w.heap.size w W1 := by rw [hW1]; exact (Below.refl _ w).alloc (Nat.le_refl _) _
        change CallsIn _ _ _ _ _ (w.alloc (.cells #[.int .u8 (((49 : UInt8).toNat : Nat) : Int)] 5)) _
        rw [← hW1]
        refine callsIn_wide.2 ((repeat_any _ _ _ (bs.length) 49 (by omega) W1 hcl).mono ?_)
        rintro e w1 ⟨v, rfl, ho, hb1⟩
        obtain ⟨Av, cv, rfl⟩ : ∃ Av cv, v = .slice Av (bs.length) cv := by obtain ⟨Av, cv, e, _⟩ := ho; exact ⟨Av, cv, by simpa using e⟩
        gi_wp2_with fail
        have hHk : bs.length ≤ 300 := by omega
        have how : Ow w1 w.heap.size 5 (.slice Av (bs.length) cv) (B8 (List.replicate (bs.length) 49)) := ho.mono (by omega)
        have hb1w : Below w.heap.size w w1 := hb01.trans (hb1.mono (by omega))
        clear ho hb1 hb01 hcl hW1 hsz1
        obtain ⟨B, hB⟩ : ∃ B, B = w1.heap.size := ⟨_, rfl⟩
        obtain ⟨W2, hW2⟩ : ∃ W2, W2 = w1.alloc (.cells #[.slice Av (bs.length) cv] 37) := ⟨_, rfl⟩
        have hbx : Boxed W2 B 37 (.slice Av (bs.length) cv) := by rw [hW2, hB]; exact Boxed.new _ _ _
        have hs2 : W2.heap.size = B + 1 := by rw [hW2, hB]; simp
        have hws : w.heap.size ≤ B := by rw [hB]; exact hb1w.size
        have hb02 : Below w.heap.size w W2 := by rw [hW2]; exact hb1w.alloc (by omega) _
        have ho2 : Ow W2 w.heap.size 5 (.slice Av (bs.length) cv) (B8 (List.replicate (bs.length) 49)) := by rw [hW2]; exact how.alloc _
        rw [← hW2]
        clear how hb1w hW2
        have hsl := (hs.below hb02).mono (show w.heap.size ≤ W2.heap.size by omega)
        refine callsIn_wide.2 ((turned_any _ _ bs W2 hsl (by omega)).mono ?_)
        rintro e w3 ⟨v, rfl, ho3, hb3⟩
        obtain ⟨A3, c3, rfl⟩ : ∃ A3 c3, v = .slice A3 bs.reverse.length c3 := by obtain ⟨Av, cv, e, _⟩ := ho3; exact ⟨Av, cv, by simpa using e⟩
        have hsl3 := ho3.sl
        have hb13 : bs.reverse.length ≤ 4096 := by simp; omega
        rw [← hB]
        have HB := Lib.hid hB
        clear hB
        gi_wp2_with fail
        have hbs := base_any 256 58 (by omega) (by omega) (by omega) (by omega) A3 c3 bs.reverse hb13 w3 hsl3
        rw [List.length_reverse] at hbs
        refine callsIn_wide.2 (hbs.mono ?_)
        clear hbs
        rintro e w4 ⟨v, rfl, ho4, hb4⟩
        rw [List.reverse_reverse] at ho4
        obtain ⟨ds, hds⟩ : ∃ ds, ds = baseL 256 58 bs := ⟨_, rfl⟩
        rw [← hds] at ho4
        have hdl : ds.length ≤ 8192 := by rw [hds]; have := baseL_len 256 58 (by omega) (by omega) bs; omega
        have hdlt : ∀ d ∈ ds, d.toNat < 58 := by rw [hds]; exact baseL_lt 256 58 (by omega) (by omega) bs
        have Hds := Lib.hid hds
        clear hds
        obtain ⟨A4, c4, rfl⟩ : ∃ A4 c4, v = .slice A4 ds.length c4 := by obtain ⟨Av, cv, e, _⟩ := ho4; exact ⟨Av, cv, by simpa using e⟩
        gi_wp2_with (gi_at_call 164; refine (bwdB_in Fence.wide hF hro _ _ _ _ _).mono ?_; rintro e w' ⟨rfl, rfl⟩)
        obtain ⟨Bs, hBs⟩ : ∃ Bs, Bs = w4.heap.size := ⟨_, rfl⟩
        obtain ⟨W0, hW0⟩ : ∃ W0, W0 = w4.alloc (.cells #[.slice A4 ds.length c4] 37) := ⟨_, rfl⟩
        rw [← hW0, ← hBs]
        have k3 := hb3.size
        have k4 := hb4.size
        have hb24 : Below W2.heap.size W2 W0 := by rw [hW0]; exact (hb3.trans (hb4.mono k3)).alloc (by omega) _
        have b0 : Boxed W0 B 37 (.slice Av (bs.length) cv) := (hb24.block B (by omega)).trans hbx
        have b1 : Boxed W0 Bs 37 (.slice A4 ds.length c4) := by rw [hW0, hBs]; exact Boxed.new _ _ _
        have ho5 : Ow W0 w.heap.size 5 (.slice Av (bs.length) cv) (B8 (List.replicate (bs.length) 49)) := ho2.below hb24 (Nat.le_refl _)
        have hs0 : W0.heap.size = Bs + 1 := by rw [hW0, hBs]; simp
        have hsl4 : Sl W0 Bs A4 (B8 ds) := by rw [hW0, hBs]; exact ho4.sl.alloc (Nat.le_refl _) _
        obtain ⟨gA, hgA0, hgA1, hgA⟩ := ho4.rowAt (by omega)
        rw [B8_length] at hgA
        have hgAB : B < gA := by omega
        have hgAs : gA < W0.heap.size := by omega
        clear hgA0 hgA1
        have hb00 : Below w.heap.size w W0 := hb02.trans (hb24.mono (by omega))
        have hBs4 : B < Bs := by omega
        have hne0 : ∀ g, rowOf (.slice Av (bs.length) cv) = some g → g ≠ gA := fun g hg => by have := ho2.row g hg; omega
        clear hb24 hbx ho2 hW0 hBs hb02 ho4 hb4 hb3 ho3 hsl3 k3 k4 hs2
        refine wpIn_rangeFunc_ownG (a₁ := ?fr2) hro h1 (gf := 195) (lb := #[.pointer (some ⟨Bs, 0, none⟩)]) rfl (hF _) (enters_of Tryz.func195 (by kernel_rfl) rfl)
          (bwdB_stopsK Fence.wide hF hro (n - 1) (by omega) Bs Bs (Keep3 w.heap.size Bs gA) (Keep3.refl _ _ _) Keep3.trans (fun h => h.1.2) A4 c4 ds (by omega) (α := {x : Nat × UInt8 // x.2.toNat < 58}) (·.1) (fun j h => ⟨⟨(j, ds[j]), hdlt _ (List.getElem_mem h)⟩, rfl⟩) W0 (fun W h => ⟨⟨h.mono (by omega), h.block Bs (by omega)⟩, h.block gA hgAs⟩) b1.cell (fun _ h => hsl4.keep3 (by rw [B8_length]; exact hgA) h))
          Keep3.trans (Keep3.b (by omega) (by omega) hgAs) (Below.refl _ _) (fun _ => rfl)
          (fun pre W => (∃ v, Boxed W B 37 v ∧ Ow W w.heap.size 5 v (B8 (List.replicate (bs.length) 49 ++ pre.map fun x => let58 x.1.2)) ∧ (∀ g, rowOf v = some g → g ≠ gA) ∧ Boxed W Bs 37 (.slice A4 ds.length c4)) ∧ Below w.heap.size W0 W)
          (fun _ _ _ => False)
          (OwnFrom.and (Go.Own.from (fun s A B row hs hg hr => let ⟨v, hv, ho, hne, hq⟩ := hs; ⟨v, boxed_others hv hg hr, ho.others hg hr, hne, boxed_others hq hg hr⟩) _) (ownFrom_below (by omega) (by omega)))
          (fun _ _ _ _ _ hs _ _ => hs)
          ⟨⟨_, b0, by simpa using ho5, hne0, b1⟩, Below.refl _ _⟩
          ?assign ?body ?done ?stop
        case assign =>
          intro l x W K hK
          gi_wp2
          exact hK
        case stop =>
          rintro D c pre W _ _ h _
          exact h.elim
        case done =>
          rintro D ys W hD hys ⟨⟨v, h2, ho, _, _⟩, hB⟩ hK
          have c2 := h2.cell
          have hmap : (ys.map fun x => let58 x.1.2) = ds.reverse.map let58 := by
            rw [← bwd_bytes ds, ← hys]; simp [Function.comp_def]
          rw [hmap] at ho
          clear hys hmap
          obtain ⟨r, hr⟩ : ∃ r, r = List.replicate (bs.length) 49 ++ ds.reverse.map let58 := ⟨_, rfl⟩
          have hrb : r = b58L bs := by rw [hr, b58L, Hlz.out, ← Hds.out]
          rw [← hr] at ho
          clear hr
          obtain ⟨Ar, cr, rfl⟩ : ∃ Ar cr, v = .slice Ar r.length cr := by obtain ⟨A', c', e, _⟩ := ho; exact ⟨A', c', by simpa using e⟩
          have hstr := run_str_Sl (P := Tryz.prog) W 37 9 5 (by kernel_rfl) (by kernel_rfl) (by kernel_rfl) W.heap.size Ar cr r ho.sl
          have Hrb := Lib.hid hrb
          clear hrb
          gi_wp2
          refine ⟨by simp, .inl ⟨_, _, rfl, run_takeDeferred hK, ?_⟩⟩
          refine ⟨_, results_tmp rfl _ _ _, by rw [← Hrb.out]; rfl, ?_⟩
          exact hb00.trans (hB.trans (belowK_b (w := W0) (by omega) W D _ _ hD hK rfl rfl))
        case body =>
          clear hsl4 b0 b1 ho5 hne0 hb00 hs
          rintro l pre ⟨x, hx⟩ W ⟨⟨v, h2, ho, hne, hq⟩, hBW⟩ hpre
          have hd : 1 ≤ n - 1 - 1 := by omega
          have c2 := h2.cell
          have f2 := h2.frozen
          have hx58 : x.2.toNat < 58 := hx
          have hx58i : (x.2.toNat : Int) < 58 := by omega
          obtain ⟨y, hy⟩ : ∃ y, y = let58 x.2 := ⟨_, rfl⟩
          have hlet : ∀ h, (⟨letters58.toArray⟩ : ByteArray)[x.2.toNat]'h = y := fun h => by rw [hy]; exact letters58_at x.2 h
          simp only [letters58] at hlet
          have Hy := Lib.hid hy
          clear hy
          obtain ⟨ys, hys⟩ : ∃ ys, ys = List.replicate (bs.length) 49 ++ pre.map (fun x : {x : Nat × UInt8 // x.2.toNat < 58} => let58 x.1.2) := ⟨_, rfl⟩
          rw [← hys] at ho
          have hyl : ys.length ≤ 16384 := by rw [hys]; simp; omega
          obtain ⟨Ay, cy, rfl⟩ : ∃ Ay cy, v = .slice Ay ys.length cy := by obtain ⟨Ay, cy, e, _⟩ := ho; exact ⟨Ay, cy, by simpa using e⟩
          have Hys := Lib.hid hys
          clear hys
          have hmx : Tryz.prog.follows .mixedOrders = true := by kernel_rfl
          have hneB := ho.row_ne_box h2 (by decide)
          have hrow := ho.row
          have hneS0 := ho.row_ne_box hq (by decide)
          gi_wp2
          refine wpIn_region_plan [(0, 1), (1, 0), (2, 0), (3, 2), (4, 2), (5, 2)] 4 (fun _ => trivial) hmx (by kernel_rfl) (by intro c a d v w h; cases d <;> exact h) ?_
          repeat ((first | (refine wpPlan_pure rfl (fun K hK => ?_)) | (refine wpPlan_quiet rfl (fun K hK => ?_))); go_simp; (first | (refine hK _ ?_) | (simp only [IntWalk.iteOmega]; go_simp; refine hK _ ?_) | (go_bits; go_simp; refine hK _ ?_)); clear hK K; (try go_bits))
          refine wpPlanIn_loud rfl rfl (fun K hK => ?_)
          gi_wp2
          refine ⟨.inr (ext_alloc_drew _ _), ?_⟩
          refine wpPlanIn_loud rfl rfl (fun K hK => ?_)
          refine wpIn_append_Ow (F := Fence.wide.inRound l) (v := .slice Ay ys.length cy) (m := 1) (c := 1) (fun _ => trivial) elB (.tmp 32) (.tmp 35) rfl rfl (ho.alloc _).drew rfl (Sl.one W.drew _ _).drew rfl ?_ ?_ ?_ ?_ ?_
          · intro u hu; simp at hu; subst hu; rfl
          · simp [maxLen]; omega
          · simp; omega
          · have := hBW.size; simp; omega
          intro v' w1 ho1 hg1 hr1
          have hws' : w.heap.size ≤ B := hws
          have hneS : rowOf (.slice Ay ys.length cy) ≠ some Bs := fun e => hneS0 Bs e rfl
          have hwsz := hBW.size
          have h2' := Boxed.kept (boxed_drew (h2.alloc _)) hg1 (by intro e; exact hneB B e.symm rfl)
          have c2' := h2'.cell
          have f2' := h2'.frozen
          have hrlt : ∀ g, rowOf (.slice Ay ys.length cy) = some g → w.heap.size ≤ g := fun g hg => (hrow g hg).1
          have k1 : KeepsOthers W w1 := (KeepsOthers.alloc W _).trans ((KeepsOthers.drew _).trans ((ho.alloc _).drew.keepsOthers hg1 rfl))
          have bl : Below w.heap.size W w1 := ((Below.refl _ W).alloc (by omega) _).drew.grown hg1 (by simp; omega) hrlt
          obtain ⟨Av', cv', rfl⟩ : ∃ Av' cv', v' = .slice Av' (ys.length + 1) cv' := by obtain ⟨A', c', e, _⟩ := ho1; exact ⟨A', c', by simpa using e⟩
          refine hK _ _ ⟨.inl (by decide), ?_⟩
          clear hK K
          refine wpPlanIn_loud rfl rfl (fun K hK => ?_)
          gi_wp2
          refine ⟨.inl (by decide), wpPlan_nil ?_⟩
          have hsz1 : W.heap.size < w1.heap.size := by have := hg1.size; simp at this; omega
          have hnB : ∀ g, rowOf (.slice Av' (ys.length + 1) cv') = some g → B ≠ g := fun g hg e => by
            subst e
            rcases hr1 with e | e
            · exact hneB B (e ▸ hg) rfl
            · rw [e] at hg; simp at hg; have := h2.lt; omega
          gi_wp2
          have hbk : Below w.heap.size W (w1.setCell ⟨B, 0, none⟩ (.slice Av' (ys.length + 1) cv')) := bl.setCell (p := ⟨B, 0, none⟩) hws' _
          refine ⟨(k1.trans (KeepsOthers.setCell _ _ _)).from _, ⟨⟨hbk, ?_⟩, ?_⟩, ⟨_, h2'.set _, ?_, ?_, ?_⟩, hBW.trans hbk⟩
          · exact (Below.heap_setCell w1 ⟨B, 0, none⟩ _ Bs (by show Bs ≠ B; omega)).trans ((hg1.block Bs (by simp; omega) (fun e => hneS e.symm)).trans (Below.heap_alloc W _ Bs (by omega)))
          · exact (Below.heap_setCell w1 ⟨B, 0, none⟩ _ gA (by show gA ≠ B; omega)).trans ((hg1.block gA (by simp; omega) (fun e => hne gA e.symm rfl)).trans (Below.heap_alloc W _ gA (by omega)))
          · have e : B8 ys ++ [Value.int .u8 (y.toNat : Int)] = B8 (List.replicate (bs.length) 49 ++ (pre ++ [(⟨x, hx⟩ : {x : Nat × UInt8 // x.2.toNat < 58})]).map (fun x : {x : Nat × UInt8 // x.2.toNat < 58} => let58 x.1.2)) := by
              rw [List.map_append, ← List.append_assoc, ← Hys.out, B8_append, Hy.out]; rfl
            rw [← e]
            exact ho1.setCell (fun g hg => hnB g hg) _
          · intro g hg e
            subst e
            rcases hr1 with e | e
            · exact hne g (e ▸ hg) rfl
            · rw [e] at hg; simp at hg; omega
          · exact (Boxed.kept (boxed_drew (hq.alloc _)) hg1 (fun e => hneS e.symm)).other (by omega) _

theorem base58_any (A : Option Addr) (cap : Nat) (bs : List UInt8) (hl : bs.length ≤ 300) (w : World) (hs : Sl w w.heap.size A (B8 bs)) :
    Calls Tryz.prog 123 #[.slice A bs.length cap] w fun e W' => e = .returned (.string ⟨(b58L bs).toArray⟩) ∧ Below w.heap.size w W' :=
  (callsIn_wide (n := 3)).1 (base58_in Fence.wide rfl (fun _ => trivial) rfl rfl 3 (Nat.le_refl _) A cap bs hl w hs)
end Go.Proofs.YtcjioogololnoaaGreatDoor

/-! Plain facts on 32-bit words as the walk spells them. -/
namespace Go.Proofs.YtcjioogololnoaaGreatDoor
open Go

theorem bits_or32 (a b : Nat) (ha : a < 4294967296) (hb : b < 4294967296) : bits .or .u32 (a : Int) (b : Int) = ((a ||| b : Nat) : Int) := u32_or_nat a b ha hb

theorem rotl_spell (x : BitVec 32) (n : Nat) (h0 : 0 < n) (h1 : n < 32) :
    bits .or .u32 ((x.toNat : Int) * 2 ^ n % 4294967296) ((x.toNat : Int) / 2 ^ (32 - n)) = ((x.rotateLeft n).toNat : Int) := by
  have hx := x.isLt
  have e1 : ((x.toNat : Int) * 2 ^ n % 4294967296) = ((x.toNat * 2 ^ n % 4294967296 : Nat) : Int) := by simp
  have e2 : ((x.toNat : Int) / 2 ^ (32 - n)) = ((x.toNat / 2 ^ (32 - n) : Nat) : Int) := by simp
  rw [e1, e2, bits_or32 _ _ (Nat.mod_lt _ (by omega)) (Nat.lt_of_le_of_lt (Nat.div_le_self _ _) hx)]
  congr 1
  rw [BitVec.rotateLeft_def, BitVec.toNat_or, BitVec.toNat_shiftLeft, BitVec.toNat_ushiftRight, Nat.mod_eq_of_lt h1, Nat.shiftLeft_eq, Nat.shiftRight_eq_div_pow]

theorem rotr_rotl (x : BitVec 32) (n : Nat) (h0 : 0 < n) (h1 : n < 32) : x.rotateLeft (32 - n) = x.rotateRight n := by
  rw [BitVec.rotateLeft_def, BitVec.rotateRight_def, Nat.mod_eq_of_lt h1, Nat.mod_eq_of_lt (by omega), show 32 - (32 - n) = n by omega, BitVec.or_comm]

theorem wrapu64_neg (n : Nat) (h0 : 0 < n) (h1 : n < 32) : bits .and .u64 (IntKind.u64.wrap (-(n : Int))) 31 = ((32 - n : Nat) : Int) := by
  have : ∀ n : Fin 32, 0 < n.val → bits .and .u64 (IntKind.u64.wrap (-(n.val : Int))) 31 = ((32 - n.val : Nat) : Int) := by decide
  exact this ⟨n, h1⟩ h0
end Go.Proofs.YtcjioogololnoaaGreatDoor
