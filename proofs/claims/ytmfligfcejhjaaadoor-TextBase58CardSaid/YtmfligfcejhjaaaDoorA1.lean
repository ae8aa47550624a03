/- Small functions of the references and the laws, walked. -/
import Derived.Test.YtmfligfcejhjaaaDoorRows
import Derived.WalkKit
import Derived.WalkSpells
import Derived.WalkLawsBesides
import Derived.Lib.Hide
import Derived.BigQuiet
import Derived.Deep.QuietTactic
import Derived.Test.YtmfligfcejhjaaaDoorM
namespace Go.Proofs.YtmfligfcejhjaaaDoor
open Go.RowKit

def placeZ (l : List UInt8) (c : UInt8) : Int := if c ∈ l then (l.idxOf c : Int) else -1

set_option maxHeartbeats 400000 in
theorem equal_any (A C : Option Addr) (n m : Nat) (a b : List UInt8) (w : World) (ha : Sl w w.heap.size A (B8 a)) (hb : Sl w w.heap.size C (B8 b)) :
    Calls Tryd.prog 14 #[.slice A a.length n, .slice C b.length m] w fun e w' => e = .returned (.bool (a == b)) ∧ w = w' := by
  have e1 := run_str_Sl (P := Tryd.prog) w 22 9 5 Tryd.underlying22 Tryd.underlying5 Tryd.underlying9 _ A n a ha
  have e2 := run_str_Sl (P := Tryd.prog) w 22 9 5 Tryd.underlying22 Tryd.underlying5 Tryd.underlying9 _ C m b hb
  clear ha hb
  go_enter Tryd.func14, Tryd.ntmps14
  go_wp2
  go_ret
  exact ⟨rfl, rfl⟩

set_option maxHeartbeats 400000 in
theorem short_any (A : Option Addr) (k c : Nat) (a : List UInt8) (w : World) (ha : a.length ≤ c) (hc : c ≤ maxLen) (hk : k ≤ maxLen) :
    Calls Tryd.prog 5 #[.slice A a.length c, .int .i64 k] w fun e w' => (∃ c', e = .returned (.slice A (a.take k).length c') ∧ (a.take k).length ≤ c' ∧ c' ≤ maxLen) ∧ w = w' := by
  unfold maxLen at *
  go_enter Tryd.func5, Tryd.ntmps5
  go_wp2
  · go_ret
    rename_i h
    exact ⟨⟨c, by rw [List.length_take, Nat.min_eq_left (by omega)]; rfl, by rw [List.length_take]; omega, by omega⟩, rfl⟩
  · go_ret
    rename_i h
    exact ⟨⟨c, by rw [List.take_of_length_le (by omega)]; rfl, by rw [List.length_take]; omega, by omega⟩, rfl⟩

theorem placeZ_found (l : List UInt8) (c : UInt8) (k : Nat) (h : k < l.length) (hn : c ∉ l.take k) (he : l[k] = c) : placeZ l c = (k : Int) := by
  have hm : c ∈ l := he ▸ List.getElem_mem h
  unfold placeZ
  rw [if_pos hm]
  have : l = l.take k ++ c :: l.drop (k + 1) := by rw [← he, List.getElem_cons_drop, List.take_append_drop]
  rw [this, List.idxOf_append, if_neg hn]
  simp; omega
theorem placeZ_none (l : List UInt8) (c : UInt8) (hn : c ∉ l) : placeZ l c = -1 := by unfold placeZ; rw [if_neg hn]
theorem not_mem_take_succ (l : List UInt8) (c : UInt8) (k : Nat) (h : k < l.length) (hn : c ∉ l.take k) (he : l[k] ≠ c) : c ∉ l.take (k + 1) := by
  rw [List.take_succ_eq_append_getElem h]; simp only [List.mem_append, List.mem_singleton, not_or]; exact ⟨hn, fun e => he e.symm⟩

set_option maxHeartbeats 400000 in
theorem place_any (s : ByteArray) (c : Nat) (hc : c < 256) (w : World) (hs : s.size ≤ maxLen) :
    Calls Tryd.prog 30 #[.string s, .int .u8 c] w fun e w' => e = .returned (.int .i64 (placeZ s.data.toList (UInt8.ofNat c))) ∧ w = w' := by
  unfold maxLen at hs
  go_enter Tryd.func30, Tryd.ntmps30
  go_wp2
  go_loop [5] (fun i => ∃ k : Nat, k ≤ s.size ∧ i = .int .i64 k ∧ UInt8.ofNat c ∉ s.data.toList.take k) (fun i => s.size - (intOf i).toNat)
  case atStart => exact ⟨0, Nat.zero_le _, rfl, by simp⟩
  case round =>
    obtain ⟨k, hk, rfl, hn⟩ := hrel
    by_cases hlt : k < s.size
    · have hl : k < s.data.toList.length := by simpa using hlt
      go_wp2
      · go_ret
        rename_i h _
        exact ⟨by rw [placeZ_found s.data.toList _ k hl hn (by
          have h1 : (s[k].toNat : Int) = c := by simpa using h
          have h2 : s[k].toNat = c := by omega
          rw [← h2]; simp; rfl)]; rfl, rfl⟩
      · rename_i h
        refine ⟨⟨k + 1, by omega, by go_num, not_mem_take_succ _ _ k hl hn (fun e => ?_)⟩, by simp [intOf]; omega⟩
        have h2 : s[k] = UInt8.ofNat c := e
        rw [h2] at h
        simp at h
        omega
    · go_wp2
      go_ret
      exact ⟨by rw [placeZ_none s.data.toList _ (by rw [List.take_of_length_le (by simp; omega)] at hn; exact hn)]; rfl, rfl⟩

def spareB (b : List UInt8) : List UInt8 := b ++ (List.range 9).map fun i => UInt8.ofNat (201 + b.length + i)
theorem spareB_len (b : List UInt8) : (spareB b).length = b.length + 9 := by simp [spareB]
theorem spareB_lo (b : List UInt8) (k : Nat) (h : k < b.length) (h' : k < (spareB b).length) : (spareB b)[k] = b[k] := by simp [spareB, List.getElem_append, h]
theorem spareB_hi (b : List UInt8) (k : Nat) (h : b.length ≤ k) (h' : k < (spareB b).length) : (spareB b)[k] = UInt8.ofNat (201 + k) := by
  have h2 := h'
  rw [spareB_len] at h2
  simp only [spareB, List.getElem_append]
  rw [dif_neg (by omega)]; simp only [List.getElem_map, List.getElem_range]; congr 1; omega

set_option maxHeartbeats 2000000 in
theorem kept_any (A C : Option Addr) (n m : Nat) (a b : List UInt8) (w : World) (ha : Sl w w.heap.size A (B8 a)) (hb : Sl w w.heap.size C (B8 b)) (hab : a = spareB b) (hlb : b.length ≤ 4096) :
    Calls Tryd.prog 11 #[.slice A a.length n, .slice C b.length m] w fun e w' => e = .returned (.bool true) ∧ ∃ n, w' = w.drewN n := by
  have hl : a.length = b.length + 9 := by rw [hab, spareB_len]
  have lo : ∀ k (h : k < b.length) (h' : k < a.length), a[k] = b[k] := fun k h h' => by subst hab; exact spareB_lo b k h h'
  have hi : ∀ k (h : b.length ≤ k) (h' : k < a.length), (a[k].toNat : Int) = (201 + (k : Int)) % 256 := fun k h h' => by subst hab; rw [spareB_hi b k h h']; simp
  have Lo := Lib.hid lo
  have Hi := Lib.hid hi
  clear lo hi hab
  have hne : (((a.length : Int) != (b.length : Int) + 9)) = false := by simp; omega
  have H := Lib.hid hl
  have hl1 : a.length ≤ b.length + 9 := by omega
  have hl2 : b.length + 9 ≤ a.length := by omega
  clear hl
  go_enter Tryd.func11, Tryd.ntmps11
  go_wp2
  go_loopw [5] (fun i wr => ∃ k : Nat, k ≤ a.length ∧ i = .int .i64 k ∧ ∃ n, wr = w.drewN n) (fun i _ => a.length - (intOf i).toNat)
  case atStart => exact ⟨0, Nat.zero_le _, rfl, 0, rfl⟩
  case round =>
    obtain ⟨k, hk, rfl, nd, rfl⟩ := hrel
    by_cases hlt : k < a.length
    · obtain ⟨ba, oa, rfl, hba, hca⟩ := ha.at_ hlt
      have hck := hca k hlt
      clear hca
      by_cases hkb : k < b.length
      · obtain ⟨bb, ob, rfl, hbb, hcb⟩ := hb.at_ hkb
        have hckb := hcb k hkb
        have hd1 : decide (k < b.length) = true := by simp; omega
        clear hcb
        have he1 : ((a[k].toNat : Int) != (b[k].toNat : Int)) = false := by rw [Lo.out k hkb hlt]; simp
        have hd2 : decide (b.length ≤ k) = false := by simp; omega
        go_wp2_with fail
        go_quiet (fail)
        go_wp2
        exact ⟨⟨k + 1, by omega, by go_num, _, rfl⟩, by simp [intOf]; omega⟩
      · have hd1 : decide (k < b.length) = false := by simp; omega
        have hd2 : decide (b.length ≤ k) = true := by simp; omega
        have he1 : ((a[k].toNat : Int) != (201 + (k : Int)) % 256) = false := by rw [Hi.out k (by omega) hlt]; simp
        go_wp2_with fail
        go_quiet (fail)
        go_wp2
        exact ⟨⟨k + 1, by omega, by go_num, _, rfl⟩, by simp [intOf]; omega⟩
    · go_wp2
      go_ret
      exact ⟨rfl, _, rfl⟩

theorem u8_info : (Tryd.prog.info? 5).map (fun i => (i.zero, i.size, i.bytes)) = some (some (.int .u8 0), 1, 1) := by kernel_rfl

theorem elB : El Tryd.prog 22 5 (.int .u8 0) 1 := ⟨Tryd.underlying22, by kernel_rfl, rfl⟩

set_option maxHeartbeats 2000000 in
theorem spare_any (A : Option Addr) (n : Nat) (b : List UInt8) (w : World) (hb : Sl w w.heap.size A (B8 b)) (hl : b.length ≤ 4096) :
    Calls Tryd.prog 6 #[.slice A b.length n] w fun e w' =>
      e = .returned (.tuple #[.slice (some ⟨w.heap.size, 0, none⟩) b.length (b.length + 9), .slice (some ⟨w.heap.size, 0, none⟩) (b.length + 9) (b.length + 9)]) ∧
      w'.heap[w.heap.size]? = some (.cells (B8 (spareB b)).toArray 5 (0, 0)) ∧ Below w.heap.size w w' := by
  obtain ⟨i0, hi, hz0, hz1, hz2⟩ := info_parts u8_info
  have hmk := run_makeN (P := Tryd.prog) 22 5 i0 _ 1 Tryd.underlying22 hi hz0 hz1 hz2 rfl .i64 .i64 ((b.length : Int) + 9) ((b.length : Int) + 9) (b.length + 9) (b.length + 9) (by omega) (by omega) (Nat.le_refl _) (by omega) (by unfold maxLen; omega)
  clear hi hz0 hz1 hz2
  go_enter Tryd.func6, Tryd.ntmps6
  go_wp2
  obtain ⟨g, hg⟩ : ∃ g, g = w.heap.size := ⟨_, rfl⟩
  rw [← hg]
  have Hg := Lib.hid hg
  go_loopw [5] (fun i wr => ∃ k : Nat, k ≤ b.length + 9 ∧ i = .int .i64 k ∧ Fill wr g 5 (b.length + 9) (B8 (spareB b)) k ∧ Below g w wr) (fun i _ => b.length + 9 - (intOf i).toNat)
  case atStart => 
    refine ⟨0, by omega, rfl, by rw [hg]; exact Fill.new' _ _ _ _ _, (Below.refl _ _).alloc (by omega) _⟩
  case round =>
    obtain ⟨k, hk, rfl, hF, hB⟩ := hrel
    rw [← hg] at hb
    clear hg
    by_cases hlt : k < b.length + 9
    · obtain ⟨v, hcell⟩ := hF.cell hlt
      have hfr := hF.frozen k
      by_cases hkb : k < b.length
      · have hb1 := hb.below hB
        obtain ⟨bb, ob, rfl, hbb, hcb⟩ := hb1.at_ hkb
        have hckb := hcb k hkb
        clear hcb hb hb1
        go_wp2
        refine ⟨⟨k + 1, by omega, by go_num, (hF.put (Nat.le_refl _) _).set hlt ?_, (hB.setCell (Nat.le_refl _) _).setCell (Nat.le_refl _) _⟩, by simp [intOf]; omega⟩
        rw [List.getElem?_eq_getElem (by simp [spareB_len]; omega), B8_get, spareB_lo b k hkb]
      · go_wp2
        refine ⟨⟨k + 1, by omega, by go_num, hF.set hlt ?_, hB.setCell (Nat.le_refl _) _⟩, by simp [intOf]; omega⟩
        rw [List.getElem?_eq_getElem (by simp [spareB_len]; omega), B8_get, spareB_hi b k (by omega)]
        simp
    · go_wp2
      have hk2 : k = b.length + 9 := by omega
      subst hk2
      have hg := Hg.out
      subst hg
      go_ret2
      exact ⟨rfl, hF.done (by simp [spareB_len]), hB⟩
end Go.Proofs.YtmfligfcejhjaaaDoor
