/- slices.Clone, Reverse, text.turned. -/
import Derived.Test.YtkiigonikeeikaaGreatDoorU1
import Derived.Test.YtkiigonikeeikaaGreatDoorU2
import Derived.Lib.LazyBuf

/-! slices.Clone, Reverse, text.turned. -/
namespace Go.Proofs.YtkiigonikeeikaaGreatDoor
open Go.RowKit

/-- Turned round from both ends, k places. -/
def rv (xs : List UInt8) (k : Nat) : List UInt8 := (List.range xs.length).map fun m => if m < k ∨ xs.length - k ≤ m then xs.getD (xs.length - 1 - m) 0 else xs.getD m 0
theorem rv_len (xs : List UInt8) (k : Nat) : (rv xs k).length = xs.length := by simp [rv]
theorem rv_get (xs : List UInt8) (k m : Nat) (h : m < (rv xs k).length) : (rv xs k)[m] = if m < k ∨ xs.length - k ≤ m then xs.getD (xs.length - 1 - m) 0 else xs.getD m 0 := by simp [rv]
theorem rv_zero (xs : List UInt8) : rv xs 0 = xs := by
  apply List.ext_getElem (by simp [rv])
  intro i h1 h2
  rw [rv_get, if_neg (by omega)]
  simp [h2]
theorem rv_end (xs : List UInt8) (k : Nat) (h : xs.length ≤ 2 * k + 1) : rv xs k = xs.reverse := by
  apply List.ext_getElem (by simp [rv])
  intro i h1 h2
  have hi : i < xs.length := by simpa using h2
  rw [rv_get, List.getElem_reverse]
  by_cases hc : i < k ∨ xs.length - k ≤ i
  · rw [if_pos hc, List.getD_eq_getElem?_getD, List.getElem?_eq_getElem (by omega)]; rfl
  · rw [if_neg hc, List.getD_eq_getElem?_getD, List.getElem?_eq_getElem hi]
    have e : xs.length - 1 - i = i := by omega
    simp only [e]; rfl
theorem rv_step (xs : List UInt8) (k : Nat) (h : k + 1 < xs.length - k) : ((rv xs k).set k (xs.getD (xs.length - 1 - k) 0)).set (xs.length - 1 - k) (xs.getD k 0) = rv xs (k + 1) := by
  apply List.ext_getElem (by simp [rv])
  intro i h1 h2
  have hi : i < xs.length := by simpa [rv] using h2
  rw [rv_get, List.getElem_set, List.getElem_set]
  by_cases e1 : xs.length - 1 - k = i
  · subst e1; rw [if_pos rfl, if_pos (by omega)]; congr 1; omega
  · rw [if_neg e1]
    by_cases e2 : k = i
    · subst e2; rw [if_pos rfl, if_pos (by omega)]
    · rw [if_neg e2, rv_get]
      by_cases hc : i < k ∨ xs.length - k ≤ i
      · rw [if_pos hc, if_pos (by omega)]
      · rw [if_neg hc, if_neg (by omega)]

set_option maxHeartbeats 2000000 in
theorem clone_any (A : Option Addr) (c : Nat) (bs : List UInt8) (w : World) (hs : Sl w w.heap.size A (B8 bs)) (hl : bs.length ≤ 1048576) :
    Calls Tryz.prog 39 #[.slice A bs.length c] w fun e W' => ∃ v, e = .returned v ∧ Ow W' w.heap.size 5 v (B8 bs) ∧ Below w.heap.size w W' := by
  have hnil := fun w => Lib.run_eql_slice_nil (P := Tryz.prog) w 23 5 A bs.length c 0 0 Tryz.underlying23
  by_cases hb : bs = []
  · subst hb
    simp only [List.length_nil] at hnil ⊢
    clear hl hs
    cases A with
    | none =>
      go_enter Tryz.func39, Tryz.ntmps39
      go_wp2
      go_ret
      exact ⟨_, rfl, Ow.nil_ _ _ _ _, Below.refl _ _⟩
    | some ad =>
      go_enter Tryz.func39, Tryz.ntmps39
      go_wp2_with (at_builtin; refine wpList_append_Ow (m := 0) (c := c) (base := w.heap.size) (xs := []) (v := .slice (some ⟨w.heap.size, 0, none⟩) 0 0) (A := some ad) (B := w.heap.size) (news := []) elB rfl (.tmp 5) (.tmp 6) rfl rfl (Ow.nil_ _ _ _ _) rfl Sl.nil rfl (by simp) (by simp) (by simp) (by simp) ?_; intro v1 w1 ho1 hg1 hr1)
      go_ret
      exact ⟨v1, rfl, ho1, ((Below.refl _ w).alloc (Nat.le_refl _) _).grown hg1 (by simp) (by simp [rowOf])⟩
  · have Hl := Lib.hid hl
    obtain ⟨b, o, rfl, _⟩ := hs (by simpa using List.length_pos_iff.2 hb)
    have Hb := Lib.hid hb
    clear hl hb
    go_enter Tryz.func39, Tryz.ntmps39
    go_wp2_with (at_builtin; refine wpList_append_Ow (m := bs.length) (c := c) (base := w.heap.size) (xs := []) (v := .slice (some ⟨w.heap.size, 0, none⟩) 0 0) (A := some ⟨b, o, none⟩) (B := w.heap.size) (news := B8 bs) elB rfl (.tmp 5) (.tmp 6) rfl rfl (Ow.nil_ _ _ _ _) rfl (hs.alloc (Nat.le_refl _) _) (B8_length _) (B8_oneCell _) (by have := Hl.out; simp [maxLen]; omega) (by have := Hl.out; simp; omega) (by simp) ?_; intro v1 w1 ho1 hg1 hr1)
    go_ret
    exact ⟨v1, rfl, by simpa using ho1, ((Below.refl _ w).alloc (Nat.le_refl _) _).grown hg1 (by simp) (by simp [rowOf])⟩

set_option maxHeartbeats 2000000 in
theorem reverse_row (g o c : Nat) (l1 l3 : List Value) (E : Nat) (bs : List UInt8) (w : World) (hh : w.heap[g]? = some (.cells (l1 ++ B8 bs ++ l3).toArray E (0, 0))) (ho : l1.length = o) (hl : bs.length ≤ 4096) :
    Calls Tryz.prog 63 #[.slice (some ⟨g, o, none⟩) bs.length c] w fun e W' => e = .returned (.tuple #[]) ∧ W'.heap[g]? = some (.cells (l1 ++ B8 bs.reverse ++ l3).toArray E (0, 0)) ∧ w.grownBy W' (some g) := by
  have Ho := Lib.hid ho
  have Hh := Lib.hid hh
  clear ho hh
  go_enter Tryz.func63, Tryz.ntmps63
  go_wp2
  go_loopw [2, 3] (fun i j wr => ∃ k : Nat, (2 * k ≤ bs.length + 1 ∧ (0 < k → 2 * k ≤ bs.length)) ∧ i = .int .i64 k ∧ j = .int .i64 ((bs.length : Int) - 1 - (k : Int)) ∧ wr.heap[g]? = some (.cells (l1 ++ B8 (rv bs k) ++ l3).toArray E (0, 0)) ∧ w.grownBy wr (some g)) (fun i _ _ => bs.length + 1 - (intOf i).toNat)
  case atStart => exact ⟨0, by omega, rfl, by go_num, by rw [rv_zero]; exact Hh.out, World.grownBy.refl _ _⟩
  case round =>
    obtain ⟨k, hk, rfl, rfl, hh, hg⟩ := hrel
    by_cases hlt : k + 1 < bs.length - k
    · obtain ⟨m, hm⟩ : ∃ m, m = bs.length - 1 - k := ⟨_, rfl⟩
      have hm1 : m < bs.length := by omega
      have hkm : k < m := by omega
      have e1 : (bs.length : Int) - 1 - (k : Int) = (m : Int) := by omega
      have hk1 : k < bs.length := by omega
      have cell : ∀ j (hj : j < bs.length), wr.cell? ⟨g, o + j, none⟩ = some (.int .u8 (((rv bs k)[j]'(by rw [rv_len]; exact hj)).toNat : Int)) := fun j hj => by
        rw [cell_of_row wr g (o + j) _ _ _ hh]
        have h1 := Ho.out
        subst h1
        simp [B8, List.getElem?_append_right, List.getElem?_append_left, rv_len, hj]
      have ck := cell k hk1
      have cm := cell m hm1
      have fr : ∀ j, wr.frozen? ⟨g, o + j, none⟩ = false := fun j => frozen_of_row wr g (o + j) _ _ hh
      have fk := fr k
      have fm := fr m
      rw [e1]
      have Hm := Lib.hid hm
      have Hh := Lib.hid hh
      clear cell fr hm e1 hh
      have hmx : Tryz.prog.follows .mixedOrders = true := by kernel_rfl
      go_wp2_with fail
      refine wp_region_plan [(0, 0), (1, 0), (2, 0), (3, 0), (4, 0), (5, 0), (6, 0), (7, 1), (8, 0), (9, 0), (10, 0), (11, 1), (12, 0), (13, 2), (14, 2), (15, 2)] 13 hmx (by kernel_rfl) (by intro c a d v w h; cases d <;> exact h) ?_
      repeat ((first | (refine wpPlan_pure rfl (fun K hK => ?_)) | (refine wpPlan_quiet rfl (fun K hK => ?_))); go_simp; (first | (refine hK _ ?_) | (simp only [IntWalk.iteOmega]; go_simp; refine hK _ ?_) | (go_bits; go_simp; refine hK _ ?_)); clear hK K; (try go_bits))
      refine wpPlan_loud rfl rfl (fun K hK => ?_)
      go_wp2
      refine ⟨.inl (by decide), ?_⟩
      refine wpPlan_loud rfl rfl (fun K hK => ?_)
      go_wp2
      refine ⟨.inl (by decide), ?_⟩
      refine wpPlan_loud rfl rfl (fun K hK => ?_)
      go_wp2
      refine ⟨.inl (by decide), wpPlan_nil ?_⟩
      go_wp2
      have hm := Hm.out
      have v1 : (rv bs k)[m]'(by rw [rv_len]; exact hm1) = bs.getD (bs.length - 1 - k) 0 := by rw [rv_get, if_neg (by omega), hm]
      have v2 : (rv bs k)[k]'(by rw [rv_len]; exact hk1) = bs.getD k 0 := by rw [rv_get, if_neg (by omega)]
      have st : l1 ++ B8 (rv bs (k + 1)) ++ l3 = ((l1 ++ B8 (rv bs k) ++ l3).set (o + k) (.int .u8 (((rv bs k)[m]'(by rw [rv_len]; exact hm1)).toNat : Int))).set (o + m) (.int .u8 (((rv bs k)[k]'(by rw [rv_len]; exact hk1)).toNat : Int)) := by
        have h1 := Ho.out
        subst h1
        rw [v1, v2, ← rv_step bs k hlt, ← hm]
        rw [List.append_assoc, List.append_assoc, List.set_append_right _ _ (by omega), List.set_append_right _ _ (by omega)]
        simp only [Nat.add_sub_cancel_left]
        rw [List.set_append_left _ _ (by simp [rv_len]; omega), List.set_append_left _ _ (by simp [rv_len]; omega)]
        simp [B8, List.map_set]
      refine ⟨⟨k + 1, by omega, by go_num, by go_num, ?_, ?_⟩, by simp [intOf]; omega⟩
      · rw [st]
        exact (heap_setCell_same _ g (o + m) _ _ _ (heap_setCell_same wr g (o + k) _ _ _ Hh.out)).trans (by simp)
      · refine World.grownBy.trans hg ⟨rfl, rfl, rfl, by simp [World.setCell, World.drew], fun j hj hne => ?_⟩
        have hne' : j ≠ g := fun e => hne (by rw [e])
        exact (Below.heap_setCell _ ⟨g, o + m, none⟩ _ j hne').trans (Below.heap_setCell wr ⟨g, o + k, none⟩ _ j hne')
    · have e1 : ¬ ((k : Int) < (bs.length : Int) - 1 - (k : Int)) := by omega
      go_wp2
      go_end0
      exact ⟨rfl, by rw [rv_end bs k (by omega)] at hh; simpa using hh, hg⟩

set_option maxHeartbeats 400000 in
theorem reverse_empty (A : Option Addr) (c : Nat) (w : World) :
    Calls Tryz.prog 63 #[.slice A 0 c] w fun e W' => e = .returned (.tuple #[]) ∧ w = W' := by
  go_enter Tryz.func63, Tryz.ntmps63
  go_wp2
  go_loop [2, 3] (fun i j => i = .int .i64 0 ∧ j = .int .i64 (-1)) (fun _ _ => 0)
  case atStart => exact ⟨rfl, rfl⟩
  case round =>
    obtain ⟨rfl, rfl⟩ := hrel
    go_wp2
    go_end0
    exact ⟨rfl, rfl⟩

/-- Reversed in place, an owned slice. -/
theorem reverse_ow (base E : Nat) (A : Option Addr) (n c : Nat) (bs : List UInt8) (w : World) (h : Ow w base E (.slice A n c) (B8 bs)) (hl : bs.length ≤ 4096) :
    Calls Tryz.prog 63 #[.slice A n c] w fun e W' => e = .returned (.tuple #[]) ∧ Ow W' base E (.slice A n c) (B8 bs.reverse) ∧ w.grownBy W' (rowOf (.slice A n c)) := by
  have h0 := h
  obtain ⟨A', c', e, h1, h2, h3⟩ := h
  injection e with e1 e2 e3; subst e1 e2 e3
  simp only [B8_length] at h0 h1 h3 ⊢
  by_cases hc : c = 0
  · have hb : bs = [] := List.eq_nil_of_length_eq_zero (by omega)
    subst hb
    refine (reverse_empty A c w).mono fun e W' ⟨he, hw⟩ => ?_
    subst hw
    exact ⟨he, h0, World.grownBy.refl _ _⟩
  · obtain ⟨g, cur, rfl, hb, hh, hs, ht⟩ := h3 (by omega)
    have hcur : cur = ([] ++ B8 bs ++ cur.toList.drop bs.length).toArray := by
      apply Array.ext'
      simp only [List.nil_append]
      rw [← ht, List.take_append_drop]
    rw [hcur] at hh
    have hr : rowOf (.slice (some ⟨g, 0, none⟩) bs.length c) = some g := by simp [rowOf, hc]
    refine (reverse_row g 0 c [] (cur.toList.drop bs.length) E bs w hh rfl hl).mono fun e W' ⟨he, hh', hg⟩ => ⟨he, ?_, by rw [hr]; exact hg⟩
    refine ⟨_, c, by simp, by simpa using h1, h2, fun _ => ⟨g, _, rfl, hb, hh', by simp; omega, by simp [List.take_append, List.take_of_length_le]⟩⟩

set_option maxHeartbeats 400000 in
theorem turned_any (A : Option Addr) (c : Nat) (bs : List UInt8) (w : World) (hs : Sl w w.heap.size A (B8 bs)) (hl : bs.length ≤ 4096) :
    Calls Tryz.prog 71 #[.slice A bs.length c] w fun e W' => ∃ v, e = .returned v ∧ Ow W' w.heap.size 5 v (B8 bs.reverse) ∧ Below w.heap.size w W' := by
  go_enter Tryz.func71, Tryz.ntmps71
  go_wp2_with fail
  refine (clone_any A c bs w hs (by omega)).mono ?_
  rintro e w1 ⟨v, rfl, ho, hb⟩
  obtain ⟨A1, c1, rfl⟩ : ∃ A1 c1, v = .slice A1 bs.length c1 := by obtain ⟨A1, c1, e, _⟩ := ho; exact ⟨A1, c1, by simpa using e⟩
  go_wp2_with fail
  refine (reverse_ow _ _ _ _ _ bs w1 ho hl).mono ?_
  rintro e w2 ⟨rfl, ho2, hg2⟩
  have hrow := ho.row
  have hsz := hb.size
  go_wp2
  go_ret
  exact ⟨_, rfl, ho2, hb.grown hg2 hsz (fun g hg => (hrow g hg).1)⟩
end Go.Proofs.YtkiigonikeeikaaGreatDoor
