/- text.noughts: how many of one byte stand at the beginning. -/
import Derived.Test.YtmfligfcejhjaaaDoorA1
import Derived.Test.YtmfligfcejhjaaaDoorR
import Derived.Shelf.RegionOpen
namespace Go.Proofs.YtmfligfcejhjaaaDoor
open Go.RowKit Go.Shelf

theorem Sl.cutf {w : World} {B : Nat} {A : Option Addr} {xs : List Value} (h : Sl w B A xs) {k cap : Nat} (f : Addr → Addr) (hf : ∀ b o, f ⟨b, o, none⟩ = ⟨b, o + k, none⟩) (hc : xs.length ≤ cap) (hk : k ≤ xs.length) :
    Sl w B (if cap = k then A else A.map f) (xs.drop k) := fun hn => by
  have hk' : k < xs.length := by simp at hn; omega
  obtain ⟨b, o, rfl, hb, hcell⟩ := h (by omega)
  rw [if_neg (by omega)]
  refine ⟨b, o + k, by simp [hf], hb, fun j hj => ?_⟩
  have := hcell (k + j) (by simp at hj; omega)
  rw [Nat.add_assoc, this]
  simp
theorem dropWhile_at (bs : List UInt8) (x : UInt8) (k : Nat) (h : k ≤ bs.length) (hall : ∀ j (hj : j < bs.length), j < k → bs[j] = x) (hend : ∀ (hk : k < bs.length), bs[k] ≠ x) : (bs.dropWhile (· == x)).length = bs.length - k := by
  induction bs generalizing k with
  | nil => simp
  | cons b bs ih =>
    cases k with
    | zero =>
      have := hend (by simp)
      rw [List.dropWhile_cons_of_neg (by simpa using this)]; simp
    | succ k =>
      have h0 := hall 0 (by simp) (by omega)
      rw [List.dropWhile_cons_of_pos (by simpa using h0), ih k (by simpa using h) (fun j hj hjk => by
        have := hall (j + 1) (by simpa using hj) (by omega); simpa using this) (fun hk => by have := hend (by simpa using hk); simpa using this)]
      simp

set_option maxRecDepth 100000 in
set_option maxHeartbeats 2000000 in
theorem trimByte_any (A : Option Addr) (c : Nat) (bs : List UInt8) (x : UInt8) (w : World) (hs : Sl w w.heap.size A (B8 bs)) (hbc : bs.length ≤ c) :
    Calls Tryd.prog 56 #[.slice A bs.length c, .int .u8 (x.toNat : Int)] w fun e W' => ∃ A' c', e = .returned (.slice A' (bs.dropWhile (· == x)).length c') ∧ W' = w := by
  have Hbc := Lib.hid hbc
  obtain ⟨N, hN⟩ : ∃ N, N = bs.length := ⟨_, rfl⟩
  rw [← hN]
  have HN := Lib.hid hN
  clear hbc hN
  have hx8 := x.toNat_lt
  go_enter Tryd.func56, Tryd.ntmps56
  go_wp2_with fail
  go_loopw [0] (fun v wr => ∃ k A' c' r, wr = w ∧ Hid (r + k = N) ∧ v = .slice A' r c' ∧ r ≤ c' ∧ (∀ j (hj : j < bs.length), j < k → bs[j] = x) ∧ Sl w w.heap.size A' (B8 (bs.drop k))) (fun v _ => match v with | .slice _ n _ => n | _ => 0)
  case atStart => exact ⟨0, A, c, N, rfl, Lib.hid rfl, rfl, by have := Hbc.out; have := HN.out; omega, fun j _ h => absurd h (by omega), hs⟩
  case round =>
    obtain ⟨k, A', c', r, rfl, Hr, rfl, hrc, hall, hsk⟩ := hrel
    have hlen : (bs.drop k).length = r := by have := Hr.out; have := HN.out; simp; omega
    by_cases hr0 : 0 < r
    · have hkb : k < bs.length := by have := Hr.out; have := HN.out; omega
      obtain ⟨b, o, rfl, hb, hcl⟩ := hsk (by simp; omega)
      have h0 := hcl 0 (by simp; omega)
      rw [B8_get, Nat.add_zero] at h0
      simp only [List.getElem_drop, Nat.add_zero] at h0
      obtain ⟨y, hy⟩ : ∃ y, y = bs[k] := ⟨_, rfl⟩
      rw [← hy] at h0
      have hy8 := y.toNat_lt
      have Hhc := Lib.hid hcl
      have Hy := Lib.hid hy
      have Hlen := Lib.hid hlen
      have Hall := Lib.hid hall
      clear hcl hy hlen hall
      by_cases hxy : y = x
      · have exy : (y.toNat : Int) = (x.toNat : Int) := by rw [hxy]
        go_wp2_with fail
        refine ⟨⟨k + 1, _, c' - 1, r - 1, trivial, Lib.hid (by have := Hr.out; omega), rfl, by omega, fun j hj hjk => ?_, fun hn => ?_⟩, by simp; omega⟩
        · by_cases hjk' : j < k
          · exact Hall.out j hj hjk'
          · obtain rfl : j = k := by omega
            rw [← Hy.out, hxy]
        · have hn' : k + 1 < bs.length := by simp at hn; omega
          have := Hr.out
          have := HN.out
          rw [if_neg (by omega)]
          refine ⟨b, o + 1, rfl, hb, fun j hj => ?_⟩
          have hj' : j < bs.length - (k + 1) := by simpa using hj
          have h1 := Hhc.out (j + 1) (by simp; omega)
          rw [show o + 1 + j = o + (j + 1) by omega, h1]
          simp only [B8_get, List.getElem_drop, show k + (j + 1) = k + 1 + j by omega]
      · have exy : ¬ (y.toNat : Int) = (x.toNat : Int) := fun e => hxy (UInt8.toNat_inj.1 (by omega))
        go_wp2_with fail
        go_ret
        refine ⟨some ⟨b, o, none⟩, c', ?_, rfl⟩
        show Ending.returned (.slice (some ⟨b, o, none⟩) r c') = _
        rw [dropWhile_at bs x k (by omega) Hall.out (fun hk => by rw [← Hy.out]; exact hxy), show bs.length - k = r from by have := Hr.out; have := HN.out; omega]
    · obtain rfl : r = 0 := by omega
      have hkb : k = bs.length := by have := Hr.out; have := HN.out; omega
      have Hkb := Lib.hid hkb
      have Hall := Lib.hid hall
      clear hkb hall
      go_wp2_with fail
      go_ret
      refine ⟨none, 0, ?_, rfl⟩
      show Ending.returned (.slice none 0 0) = _
      rw [dropWhile_at bs x k (by have := Hkb.out; omega) Hall.out (fun hk => absurd hk (by have := Hkb.out; omega)), show bs.length - k = 0 from by have := Hkb.out; omega]

set_option maxRecDepth 100000 in
set_option maxHeartbeats 2000000 in
theorem trimLeft_any (A : Option Addr) (c : Nat) (bs : List UInt8) (w : World) (hs : Sl w w.heap.size A (B8 bs)) (hbc : bs.length ≤ c) :
    Calls Tryd.prog 44 #[.slice A bs.length c, .string ⟨#[49]⟩] w fun e W' => ∃ A' c', e = .returned (.slice A' (bs.dropWhile (· == 49)).length c') ∧ W' = w := by
  by_cases hb : bs = []
  · subst hb
    go_enter Tryd.func44, Tryd.ntmps44
    go_wp2_with fail
    go_ret
    exact ⟨_, _, rfl, rfl⟩
  · have hbl : 0 < bs.length := List.length_pos_iff.2 hb
    go_enter Tryd.func44, Tryd.ntmps44
    go_wp2_with fail
    refine (trimByte_any A c bs 49 w hs hbc).mono ?_
    rintro e w' ⟨A', c', rfl, rfl⟩
    go_wp2_with fail
    go_ret
    exact ⟨_, _, rfl, rfl⟩

set_option maxRecDepth 100000 in
set_option maxHeartbeats 2000000 in
theorem noughts_any (A : Option Addr) (c : Nat) (bs : List UInt8) (w : World) (hs : Sl w w.heap.size A (B8 bs)) (hbc : bs.length ≤ c) (hl : bs.length ≤ 4096) :
    Calls Tryd.prog 27 #[.slice A bs.length c, .int .u8 49] w fun e W' => e = .returned (.int .i64 ((bs.length - (bs.dropWhile (· == 49)).length : Nat) : Int)) ∧ Below w.heap.size w W' := by
  have hdl : (bs.dropWhile (· == 49)).length ≤ bs.length := (List.dropWhile_sublist _).length_le
  have hS1 : Sl (w.alloc (.cells #[.int .u8 49] 5)) (w.heap.size + 1) (some ⟨w.heap.size, 0, none⟩) (B8 [49]) := Sl.one w _ _
  have hstr := run_str_Sl (P := Tryd.prog) (w.alloc (.cells #[.int .u8 49] 5)) 22 9 5 (by kernel_rfl) (by kernel_rfl) (by kernel_rfl) _ _ 1 [49] hS1
  simp only [List.length_cons, List.length_nil, Nat.zero_add] at hstr
  have hB1 : Below w.heap.size w (w.alloc (.cells #[.int .u8 49] 5)) := (Below.refl _ w).alloc (Nat.le_refl _) _
  have hs1 := (hs.below hB1).mono hB1.size
  obtain ⟨D, hD⟩ : ∃ D, D = (bs.dropWhile (· == 49)).length := ⟨_, rfl⟩
  have htrim := trimLeft_any A c bs (w.alloc (.cells #[.int .u8 49] 5)) hs1 hbc
  rw [← hD] at hdl htrim ⊢
  have Htrim := Lib.hid htrim
  have HD := Lib.hid hD
  have Hbc := Lib.hid hbc
  clear hD htrim hs1 hs hS1 hbc
  go_enter Tryd.func27, Tryd.ntmps27
  go_wp2_with fail
  refine Htrim.out.mono ?_
  rintro e w' ⟨A', c', rfl, rfl⟩
  go_wp2_with fail
  go_ret
  refine ⟨?_, hB1⟩
  show Ending.returned (.int .i64 ((bs.length : Int) - (D : Int))) = _
  rw [Int.ofNat_sub hdl]
end Go.Proofs.YtmfligfcejhjaaaDoor
