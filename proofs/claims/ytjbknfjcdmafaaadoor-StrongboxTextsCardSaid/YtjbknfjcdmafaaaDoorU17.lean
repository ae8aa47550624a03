/- The reference's step and sum of bech32. | The reference's Bech32. | strings.ToLower where nothing is great; text.plain. | text.FromBech32 of what Bech32 wrote. -/
import Derived.Test.YtjbknfjcdmafaaaDoorU16
import Derived.Test.YtjbknfjcdmafaaaDoorU15
import Derived.Test.YtjbknfjcdmafaaaDoorU11

/-! The reference's step and sum of bech32. -/
namespace Go.Proofs.YtjbknfjcdmafaaaDoor
open Go.RowKit Go.Shelf

theorem st_c (x : BitVec 64) (y : UInt8) : bits .xor .u64 ((x.toNat : Int) % 33554432 * 32) (y.toNat : Int) = ((((x &&& 0x1ffffff) <<< 5) ^^^ v64 y).toNat : Int) := by
  have h := sb_c x y
  have h1 : bits .and .u64 (x.toNat : Int) 33554431 = (x.toNat : Int) % 33554432 := by
    refine (u64_and_nat x.toNat 33554431 x.isLt (by omega)).trans ?_
    rw [show (33554431 : Nat) = 2 ^ 25 - 1 from rfl, Nat.and_two_pow_sub_one_eq_mod]; rfl
  rw [h1, IntKind.wrap_u64, Int.emod_eq_of_lt (by omega) (by omega)] at h
  exact h
theorem st_bit (b : BitVec 64) (q : Nat) : (b >>> q) &&& 1 = 1 ↔ b.toNat / 2 ^ q % 2 = 1 := by
  have e : ((b >>> q) &&& 1).toNat = b.toNat / 2 ^ q % 2 := by
    rw [BitVec.toNat_and, BitVec.toNat_ushiftRight, Nat.shiftRight_eq_div_pow, show (1 : BitVec 64).toNat = 2 ^ 1 - 1 from rfl, Nat.and_two_pow_sub_one_eq_mod, Nat.pow_one]
  rw [← e]
  constructor
  · intro h; rw [h]; rfl
  · intro h; exact BitVec.eq_of_toNat_eq h

set_option maxRecDepth 100000 in
set_option maxHeartbeats 4000000 in
theorem rstep_any (x : BitVec 64) (y : UInt8) (w : World) :
    Calls Tryd.prog 41 #[.int .u64 (x.toNat : Int), .int .u8 (y.toNat : Int)] w fun e W' => e = .returned (.int .u64 ((bStep x y).toNat : Int)) ∧ Below w.heap.size w W' := by
  have hx64 := x.isLt
  have hy8 := y.toNat_lt
  go_enter Tryd.func41, Tryd.ntmps41
  go_wp2_with fail
  rw [st_c x y, sb_b x]
  obtain ⟨c0, hc0⟩ : ∃ c0, c0 = ((x &&& 0x1ffffff) <<< 5) ^^^ v64 y := ⟨_, rfl⟩
  obtain ⟨b0, hb0⟩ : ∃ b0, b0 = x >>> 25 := ⟨_, rfl⟩
  rw [← hc0, ← hb0]
  obtain ⟨wA, hwA⟩ : ∃ wA, wA = w.alloc (Obj.cells #[Value.int IntKind.u64 996825010, Value.int IntKind.u64 642813549, Value.int IntKind.u64 513874426, Value.int IntKind.u64 1027748829, Value.int IntKind.u64 705979059] 54) := ⟨_, rfl⟩
  rw [← hwA]
  have hbA : Below w.heap.size w wA := by rw [hwA]; exact (Below.refl _ _).alloc (Nat.le_refl _) _
  have hcl : ∀ q, q < 5 → wA.cell? ⟨w.heap.size, q, none⟩ = some (.int .u64 ((bAdd.getD q 0).toNat : Int)) := by
    intro q hq
    rw [hwA, cell_of_row _ _ _ _ _ (0, 0) (heap_alloc_new w _)]
    have hq5 : q = 0 ∨ q = 1 ∨ q = 2 ∨ q = 3 ∨ q = 4 := by omega
    rcases hq5 with rfl | rfl | rfl | rfl | rfl <;> rfl
  have hres : bStep x y = bAddTo b0 c0 5 := by rw [hb0, hc0]; rfl
  have Hcl := Lib.hid hcl
  have Hres := Lib.hid hres
  have hb64 := b0.isLt
  clear hc0 hb0 hwA hcl hres
  go_loopw [0, 6, 7] (fun cv bv i wr => ∃ q : Nat, wr = wA ∧ q ≤ 5 ∧ i = .int .i64 q ∧ cv = .int .u64 ((bAddTo b0 c0 q).toNat : Int) ∧ bv = .int .u64 ((b0.toNat / 2 ^ q : Nat) : Int)) (fun _ _ i _ => 5 - (intOf i).toNat)
  case atStart => exact ⟨0, rfl, Nat.zero_le _, rfl, rfl, by rw [Nat.pow_zero, Nat.div_one]⟩
  case round =>
    obtain ⟨q, rfl, hq, rfl, rfl, rfl⟩ := hrel
    obtain ⟨z, hz⟩ : ∃ z, z = bAddTo b0 c0 q := ⟨_, rfl⟩
    obtain ⟨n, hn⟩ : ∃ n, n = b0.toNat / 2 ^ q := ⟨_, rfl⟩
    rw [← hz, ← hn]
    have hz64 := z.isLt
    have hn64 : n < 18446744073709551616 := by rw [hn]; exact Nat.lt_of_le_of_lt (Nat.div_le_self _ _) (by omega)
    have hnx : n / 2 = b0.toNat / 2 ^ (q + 1) := by rw [hn, Nat.div_div_eq_div_mul, Nat.pow_succ]
    have Hz := Lib.hid hz
    have Hn := Lib.hid hn
    have Hnx := Lib.hid hnx
    clear hz hn hnx
    by_cases hlt : q < 5
    · have hcell := Hcl.out q hlt
      obtain ⟨av, hav⟩ : ∃ av, av = bAdd.getD q 0 := ⟨_, rfl⟩
      rw [← hav] at hcell
      have hav64 := av.isLt
      have Hav := Lib.hid hav
      clear hav
      by_cases h1 : n % 2 = 1
      · have hb : (b0 >>> q) &&& 1 = 1 := (st_bit b0 q).2 (by rw [← Hn.out]; exact h1)
        have h1' : (n : Int) % 2 = 1 := by omega
        have Hb := Lib.hid hb
        clear h1 hb
        go_wp2_with fail
        refine ⟨⟨q + 1, trivial, by omega, rfl, ?_, ?_⟩, by simp [intOf]; omega⟩
        · rw [bAddTo, if_pos Hb.out, ← Hz.out, ← Hav.out, sp_x]
        · rw [← Hnx.out]; rfl
      · have hb : ¬ ((b0 >>> q) &&& 1 = 1) := fun e => h1 (by rw [Hn.out]; exact (st_bit b0 q).1 e)
        have h1' : (n : Int) % 2 = 0 := by omega
        have Hb := Lib.hid hb
        clear h1 hb
        go_wp2_with fail
        refine ⟨⟨q + 1, trivial, by omega, rfl, ?_, ?_⟩, by simp [intOf]; omega⟩
        · rw [bAddTo, if_neg Hb.out, ← Hz.out]
        · rw [← Hnx.out]; rfl
    · obtain rfl : q = 5 := by omega
      go_wp2_with fail
      go_ret
      rw [Hres.out, ← Hz.out]
      exact ⟨rfl, hbA⟩

set_option maxRecDepth 100000 in
set_option maxHeartbeats 4000000 in
theorem rbsum_any (s : ByteArray) (A : Option Addr) (c : Nat) (D : List UInt8) (w : World) (hs : Sl w w.heap.size A (B8 D)) (hl : D.length ≤ 4096) (hsz : s.size ≤ 4096) :
    Calls Tryd.prog 29 #[.string s, .slice A D.length c] w fun e W' => e = .returned (.int .u64 ((bech (spreadL s.data.toList ++ D)).toNat : Int)) ∧ Below w.heap.size w W' := by
  have hS : s.data.toList.length = s.size := by simp
  obtain ⟨S, hSS⟩ : ∃ S, S = s.data.toList := ⟨_, rfl⟩
  rw [← hSS] at hS ⊢
  obtain ⟨H, hH⟩ : ∃ H, H = S.map (fun c => UInt8.ofNat (c.toNat / 32)) := ⟨_, rfl⟩
  obtain ⟨L, hL⟩ : ∃ L, L = S.map (fun c => UInt8.ofNat (c.toNat % 32)) := ⟨_, rfl⟩
  have hHl : H.length = s.size := by rw [hH, List.length_map, hS]
  have hLl : L.length = s.size := by rw [hL, List.length_map, hS]
  have hfin : bech (spreadL S ++ D) = (H ++ [0] ++ L ++ D).foldl bStep 1 := by rw [hH, hL]; rfl
  have hat : ∀ (j : Nat) (h : j < s.size), H[j]? = some (UInt8.ofNat (s[j].toNat / 32)) ∧ L[j]? = some (UInt8.ofNat (s[j].toNat % 32)) := fun j h => by
    have : S[j]? = some s[j] := by rw [hSS]; simp [h]; rfl
    rw [hH, hL, List.getElem?_map, List.getElem?_map, this]
    exact ⟨rfl, rfl⟩
  have Hfin := Lib.hid hfin
  have Hat := Lib.hid hat
  have HHl := Lib.hid hHl
  have HLl := Lib.hid hLl
  clear hSS hS hH hL hHl hLl hfin hat
  go_enter Tryd.func29, Tryd.ntmps29
  go_wp2_with fail
  go_loopw [5, 6] (fun cv i wr => ∃ k : Nat, k ≤ s.size ∧ i = .int .i64 k ∧ cv = .int .u64 (((H.take k).foldl bStep 1).toNat : Int) ∧ Below w.heap.size w wr) (fun _ i _ => s.size - (intOf i).toNat)
  case atStart => exact ⟨0, Nat.zero_le _, rfl, rfl, Below.refl _ _⟩
  case round =>
    obtain ⟨k, hk, rfl, rfl, hb⟩ := hrel
    obtain ⟨z, hz⟩ : ∃ z, z = (H.take k).foldl bStep 1 := ⟨_, rfl⟩
    rw [← hz]
    have Hz := Lib.hid hz
    have hzB := hb.size
    clear hz
    by_cases hlt : k < s.size
    · obtain ⟨y, hy⟩ : ∃ y, y = UInt8.ofNat (s[k].toNat / 32) := ⟨_, rfl⟩
      have hy8 := s[k].toNat_lt
      have e1 : (s[k].toNat : Int) / 32 = (y.toNat : Int) := by rw [hy]; simp; omega
      have hnx : (H.take (k + 1)).foldl bStep 1 = bStep z y := by
        rw [List.take_add_one, (Hat.out k hlt).1, ← hy, List.foldl_append, ← Hz.out]; rfl
      have Hnx := Lib.hid hnx
      clear hy hnx
      go_wp2_with (go_at_call 41; refine (rstep_any z y _).mono ?_; rintro e w1 ⟨rfl, hb1⟩)
      exact ⟨⟨k + 1, by omega, rfl, by rw [Hnx.out], hb.trans (hb1.mono hzB)⟩, by simp [intOf]; omega⟩
    · obtain rfl : k = s.size := by omega
      have hzH : z = H.foldl bStep 1 := by rw [Hz.out, List.take_of_length_le (by rw [HHl.out]; exact Nat.le_refl _)]
      have HzH := Lib.hid hzH
      clear hzH
      go_wp2_with (go_at_call 41; refine (rstep_any z 0 _).mono ?_; rintro e w1 ⟨rfl, hb1⟩)
      have hb1' := hb.trans (hb1.mono hzB)
      have HzH : Hid (bStep z 0 = (H ++ [0]).foldl bStep 1) := Lib.hid (by rw [List.foldl_append, ← HzH.out]; rfl)
      obtain ⟨z0, hz0⟩ : ∃ z0, z0 = bStep z 0 := ⟨_, rfl⟩
      rw [← hz0] at HzH ⊢
      clear hz0 hb hb1 hzB
      go_loopw [5, 7] (fun cv i wr => ∃ k : Nat, k ≤ s.size ∧ i = .int .i64 k ∧ cv = .int .u64 (((L.take k).foldl bStep z0).toNat : Int) ∧ Below w.heap.size w wr) (fun _ i _ => s.size - (intOf i).toNat)
      case atStart => exact ⟨0, Nat.zero_le _, rfl, rfl, hb1'⟩
      case round =>
        clear hb1'
        obtain ⟨k, hk, rfl, rfl, hb⟩ := hrel
        obtain ⟨z, hz⟩ : ∃ z, z = (L.take k).foldl bStep z0 := ⟨_, rfl⟩
        rw [← hz]
        have Hz := Lib.hid hz
        have hzB := hb.size
        clear hz
        by_cases hlt : k < s.size
        · obtain ⟨y, hy⟩ : ∃ y, y = UInt8.ofNat (s[k].toNat % 32) := ⟨_, rfl⟩
          have hy8 := s[k].toNat_lt
          have e1 : (s[k].toNat : Int) % 32 = (y.toNat : Int) := by rw [hy]; simp; omega
          have hnx : (L.take (k + 1)).foldl bStep z0 = bStep z y := by
            rw [List.take_add_one, (Hat.out k hlt).2, ← hy, List.foldl_append, ← Hz.out]; rfl
          have Hnx := Lib.hid hnx
          clear hy hnx
          go_wp2_with (go_at_call 41; refine (rstep_any z y _).mono ?_; rintro e w1 ⟨rfl, hb1⟩)
          exact ⟨⟨k + 1, by omega, rfl, by rw [Hnx.out], hb.trans (hb1.mono hzB)⟩, by simp [intOf]; omega⟩
        · obtain rfl : k = s.size := by omega
          have hzL : z = (H ++ [0] ++ L).foldl bStep 1 := by rw [Hz.out, List.take_of_length_le (by rw [HLl.out]; exact Nat.le_refl _), HzH.out, ← List.foldl_append]
          have HzL := Lib.hid hzL
          clear hzL
          go_wp2_with fail
          go_loopw [5, 8] (fun cv i wr => ∃ k : Nat, k ≤ D.length ∧ i = .int .i64 k ∧ cv = .int .u64 (((D.take k).foldl bStep z).toNat : Int) ∧ Below w.heap.size w wr) (fun _ i _ => D.length - (intOf i).toNat)
          case atStart => exact ⟨0, Nat.zero_le _, rfl, rfl, hb⟩
          case round =>
            clear hb
            obtain ⟨k, hk, rfl, rfl, hb⟩ := hrel
            obtain ⟨z2, hz2⟩ : ∃ z2, z2 = (D.take k).foldl bStep z := ⟨_, rfl⟩
            rw [← hz2]
            have Hz2 := Lib.hid hz2
            have hzB := hb.size
            clear hz2
            by_cases hlt : k < D.length
            · obtain ⟨y, hy⟩ : ∃ y, y = D[k] := ⟨_, rfl⟩
              have hy8 := y.toNat_lt
              obtain ⟨b9, o9, rfl, hb9, hcl9⟩ := hs.at_ hlt
              have hcell : wr.cell? ⟨b9, o9 + k, none⟩ = some (.int .u8 (y.toNat : Int)) := by rw [hb.cell (p := ⟨b9, o9 + k, none⟩) hb9, hcl9 k hlt, hy]
              have hnx : (D.take (k + 1)).foldl bStep z = bStep z2 y := by
                rw [List.take_succ_eq_append_getElem hlt, List.foldl_append, ← Hz2.out, hy]; rfl
              have Hnx := Lib.hid hnx
              clear hy hnx hcl9
              go_wp2_with (go_at_call 41; refine (rstep_any z2 y _).mono ?_; rintro e w1 ⟨rfl, hb1⟩)
              exact ⟨⟨k + 1, by omega, rfl, by rw [Hnx.out], hb.trans (hb1.mono hzB)⟩, by simp [intOf]; omega⟩
            · have hzD : z2 = (H ++ [0] ++ L ++ D).foldl bStep 1 := by rw [Hz2.out, List.take_of_length_le (by omega), HzL.out, ← List.foldl_append]
              have HzD := Lib.hid hzD
              clear hzD
              go_wp2_with fail
              go_ret
              rw [Hfin.out, ← HzD.out]
              exact ⟨rfl, hb⟩
end Go.Proofs.YtjbknfjcdmafaaaDoor

/-! The reference's Bech32. -/
namespace Go.Proofs.YtjbknfjcdmafaaaDoor
open Go.RowKit Go.Shelf

theorem Sl.row (w : World) (cs : List Value) (E : TypeId) : Sl (w.alloc (.cells cs.toArray E)) (w.heap.size + 1) (some ⟨w.heap.size, 0, none⟩) cs := fun _ =>
  ⟨w.heap.size, 0, rfl, by omega, fun j hj => by
    rw [Nat.zero_add, cell_of_row _ _ _ _ _ (0, 0) (heap_alloc_new w _)]
    simp [hj]⟩

set_option maxRecDepth 100000 in
set_option maxHeartbeats 4000000 in
theorem rbech32_any (s : ByteArray) (A : Option Addr) (c : Nat) (D : List UInt8) (m : Bool) (w : World) (hs : Sl w w.heap.size A (B8 D)) (h32 : ∀ x ∈ D, x.toNat < 32) (hl : D.length ≤ 4096) (hsz : s.size ≤ maxLen) :
    Calls Tryd.prog 12 #[.string s, .slice A D.length c, .bool m] w fun e W' => e = .returned (.tuple #[.string ⟨(b32 s.data.toList D (conK m)).2.toArray⟩, .int .i64 ((b32 s.data.toList D (conK m)).1 : Int)]) ∧ Below w.heap.size w W' := by
  unfold maxLen at hsz
  have hS : s.data.toList.length = s.size := by simp
  obtain ⟨S, hSS⟩ : ∃ S, S = s.data.toList := ⟨_, rfl⟩
  rw [← hSS] at hS ⊢
  obtain ⟨F, hF⟩ : ∃ F, F = b32 S D (conK m) := ⟨_, rfl⟩
  rw [← hF]
  have HSS := Lib.hid hSS
  have HS := Lib.hid hS
  have HF := Lib.hid hF
  have H32 := Lib.hid h32
  clear hSS hS hF h32
  by_cases h83 : 83 < s.size
  · have hFv : F = (2, []) := by rw [HF.out, b32, if_pos (.inl (by rw [HS.out]; exact h83))]
    have HFv := Lib.hid hFv
    clear hFv
    go_enter Tryd.func12, Tryd.ntmps12
    go_wp2_with fail
    go_ret2
    rw [HFv.out]
    exact ⟨rfl, Below.refl _ _⟩
  by_cases h90 : 90 < s.size + D.length + 7
  · have hFv : F = (2, []) := by rw [HF.out, b32, if_pos (.inr (by rw [HS.out]; exact h90))]
    have HFv := Lib.hid hFv
    clear hFv
    go_enter Tryd.func12, Tryd.ntmps12
    go_wp2_with fail
    go_ret2
    rw [HFv.out]
    exact ⟨rfl, Below.refl _ _⟩
  have hFv : F = if goodH S then (0, S ++ [49] ++ (D ++ lets6 (bech (spreadL S ++ D ++ List.replicate 6 0) ^^^ conK m) 6).map let32) else (3, []) := by rw [HF.out, b32, if_neg (by rw [HS.out]; omega)]
  have HF := Lib.hid hFv
  clear hFv
  by_cases he : S = []
  · have hFv : F = (3, []) := by rw [HF.out, he]; rfl
    have hte : s.toList.isEmpty = true := by rw [ByteArray.toList_eq, ← HSS.out, he]; rfl
    have HFv := Lib.hid hFv
    have He := Lib.hid he
    clear hFv he
    go_enter Tryd.func12, Tryd.ntmps12
    go_wp2_with fail
    go_ret2
    rw [HFv.out]
    exact ⟨rfl, Below.refl _ _⟩
  have hie : S.isEmpty = false := by cases S with | nil => exact absurd rfl he | cons => rfl
  have hte : s.toList.isEmpty = false := by rw [ByteArray.toList_eq, ← HSS.out, hie]
  have Hie := Lib.hid hie
  clear hie he
  go_enter Tryd.func12, Tryd.ntmps12
  go_wp2_with fail
  clear hte
  go_loopw [8] (fun i wr => ∃ k : Nat, wr = w ∧ k ≤ s.size ∧ i = .int .i64 k ∧ Hid (badK S k = false)) (fun i _ => s.size - (intOf i).toNat)
  case atStart => exact ⟨0, rfl, Nat.zero_le _, rfl, Lib.hid (by simp [badK, Hie.out])⟩
  case round =>
    obtain ⟨k, rfl, hk, rfl, Hbk⟩ := hrel
    by_cases hlt : k < s.size
    · obtain ⟨y, hy⟩ : ∃ y, y = s[k] := ⟨_, rfl⟩
      have hyS : S[k]? = some y := by rw [HSS.out, hy]; simp [hlt]; rfl
      have hnx := badK_succ S k y hyS
      rw [Hbk.out, Bool.false_or] at hnx
      have Hnx := Lib.hid hnx
      have hs1 : ∀ h, s[k]'h = y := fun h => hy.symm
      have hy8 := y.toNat_lt
      have hbadF : okc y = false → F = (3, []) := fun h => by
        rw [HF.out, if_neg]
        intro hg
        have h2 : S.all okc = true := by unfold goodH at hg; simp only [Bool.and_eq_true] at hg; exact hg.2
        rw [List.all_eq_true] at h2
        have h3 := h2 y (List.mem_of_getElem? hyS)
        rw [h] at h3; cases h3
      have HbadF := Lib.hid hbadF
      clear hnx hyS hy hbadF
      by_cases h1 : y.toNat < 33
      · have hFv := HbadF.out (by simp [okc]; omega)
        have HFv := Lib.hid hFv
        clear hFv
        go_wp2_with fail
        go_ret2
        rw [HFv.out]
        exact ⟨rfl, Below.refl _ _⟩
      by_cases h2 : 126 < y.toNat
      · have hFv := HbadF.out (by simp [okc]; omega)
        have HFv := Lib.hid hFv
        clear hFv
        go_wp2_with fail
        go_ret2
        rw [HFv.out]
        exact ⟨rfl, Below.refl _ _⟩
      by_cases h3 : 65 ≤ y.toNat
      · by_cases h4 : y.toNat ≤ 90
        · have hFv := HbadF.out (by simp [okc]; omega)
          have HFv := Lib.hid hFv
          clear hFv
          go_wp2_with fail
          go_ret2
          rw [HFv.out]
          exact ⟨rfl, Below.refl _ _⟩
        · have hok : okc y = true := by simp [okc]; omega
          rw [hok] at Hnx
          clear hok
          go_wp2_with fail
          exact ⟨⟨k + 1, trivial, by omega, rfl, Lib.hid (by rw [Hnx.out]; rfl)⟩, by simp [intOf]; omega⟩
      · have hok : okc y = true := by simp [okc]; omega
        rw [hok] at Hnx
        clear hok
        go_wp2_with fail
        exact ⟨⟨k + 1, trivial, by omega, rfl, Lib.hid (by rw [Hnx.out]; rfl)⟩, by simp [intOf]; omega⟩
    · obtain rfl : k = s.size := by omega
      have hgt : goodH S = true := by have := Hbk.out; rw [badK_all S _ (by rw [HS.out]; exact Nat.le_refl _)] at this; simpa using this
      have hFv : F = (0, S ++ [49] ++ (D ++ lets6 (bech (spreadL S ++ D ++ List.replicate 6 0) ^^^ conK m) 6).map let32) := by rw [HF.out, if_pos hgt]
      have HFv := Lib.hid hFv
      have hsum0 : s ++ (⟨#[49]⟩ : ByteArray) = ⟨(S ++ [49]).toArray⟩ := by
        apply ByteArray.ext
        rw [ByteArray.data_append, HSS.out]
        apply Array.ext'
        simp
      clear hFv hgt HF Hbk
      go_wp2_with fail
      clear hsum0
      obtain ⟨w0, rfl⟩ : ∃ w0, w0 = wr := ⟨_, rfl⟩
      go_loopw [9, 10] (fun t i wr => ∃ k : Nat, k ≤ D.length ∧ i = .int .i64 k ∧ t = .string ⟨(S ++ [49] ++ (D.take k).map let32).toArray⟩ ∧ Below w0.heap.size w0 wr) (fun _ i _ => D.length - (intOf i).toNat)
      case atStart => exact ⟨0, Nat.zero_le _, rfl, by simp, Below.refl _ _⟩
      case round =>
        obtain ⟨k, hk, rfl, rfl, hb⟩ := hrel
        obtain ⟨T, hT⟩ : ∃ T, T = S ++ [49] ++ (D.take k).map let32 := ⟨_, rfl⟩
        rw [← hT]
        have HT := Lib.hid hT
        have hTl : T.length ≤ 200 := by rw [hT]; simp [HS.out]; omega
        have hzb := hb.size
        clear hT
        by_cases hlt : k < D.length
        · obtain ⟨y, hy⟩ : ∃ y, y = D[k] := ⟨_, rfl⟩
          have hy32 : y.toNat < 32 := H32.out y (by rw [hy]; exact List.getElem_mem _)
          obtain ⟨b9, o9, rfl, hb9, hcl9⟩ := hs.at_ hlt
          have hcell : wr.cell? ⟨b9, o9 + k, none⟩ = some (.int .u8 (y.toNat : Int)) := by rw [hb.cell (p := ⟨b9, o9 + k, none⟩) hb9, hcl9 k hlt, hy]
          have hlet : ∀ h, (⟨letters32.toArray⟩ : ByteArray)[y.toNat]'h = let32 y := fun h => letters32_at y h
          obtain ⟨l, hl'⟩ : ∃ l, l = let32 y := ⟨_, rfl⟩
          rw [← hl'] at hlet
          simp only [letters32] at hlet
          have hnew : T ++ [l] = S ++ [49] ++ (D.take (k + 1)).map let32 := by
            rw [HT.out, hl', hy, List.take_succ_eq_append_getElem hlt, List.map_append, List.append_assoc (S ++ [49])]; rfl
          have Hnew := Lib.hid hnew
          have hS1 : Sl (wr.alloc (.cells #[.int .u8 (l.toNat : Int)] 5)) (wr.heap.size + 1) (some ⟨wr.heap.size, 0, none⟩) (B8 [l]) := Sl.one wr _ _
          have hstr := run_str_Sl (P := Tryd.prog) (wr.alloc (.cells #[.int .u8 (l.toNat : Int)] 5)) 22 9 5 (by kernel_rfl) (by kernel_rfl) (by kernel_rfl) _ _ 1 [l] hS1
          simp only [List.length_cons, List.length_nil, Nat.zero_add] at hstr
          have hsum : ((⟨T.toArray⟩ : ByteArray) ++ (⟨#[l]⟩ : ByteArray)) = ⟨(T ++ [l]).toArray⟩ := by
            apply ByteArray.ext
            simp
          clear hnew hl' hy hcl9 hS1
          go_wp2_with fail
          exact ⟨⟨k + 1, by omega, rfl, by rw [Hnew.out], hb.alloc hzb _⟩, by simp [intOf]; omega⟩
        · obtain rfl : k = D.length := by omega
          have hTD : T = S ++ [49] ++ D.map let32 := by rw [HT.out, List.take_of_length_le (Nat.le_refl _)]
          have HTD := Lib.hid hTD
          have hsr := (hs.below hb).mono hzb
          clear hTD
          go_wp2_with (first | (at_builtin; go_loud (refine wpList_append_Ow (m := 6) (c := 6) (base := w0.heap.size) (xs := B8 D) (v := .slice A2 D.length c2) (A := some ⟨w2.heap.size, 0, none⟩) (B := w2.heap.size + 1) (news := B8 [0, 0, 0, 0, 0, 0]) elB rfl (.tmp 80) (.tmp 81) rfl rfl (ho2.alloc _) rfl (Sl.row w2 (B8 [0, 0, 0, 0, 0, 0]) _) rfl (B8_oneCell _) (by rw [B8_length]; simp [maxLen]; omega) (by rw [B8_length]; omega) (by have := hb2.size; simp; omega) ?_); intro v3 w3 ho3 hg3 hr3; rw [← B8_append] at ho3; have hb3 := (hb2.alloc hb2.size (.cells (B8 [0, 0, 0, 0, 0, 0]).toArray 5)).grown hg3 (by have := hb2.size; simp; omega) (fun r hr => (ho2.row r hr).1)) | (at_builtin; go_loud (refine wpList_append_Ow (m := D.length) (c := c) (base := w0.heap.size) (xs := []) (v := .slice (some ⟨wr.heap.size, 0, none⟩) 0 0) (A := A) (B := wr.heap.size) (news := B8 D) elB rfl (.tmp 78) (.tmp 79) rfl rfl (Ow.nil_ _ _ _ _) rfl (hsr.alloc (Nat.le_refl _) _) (B8_length _) (B8_oneCell _) (by rw [List.length_nil]; simp [maxLen]; omega) (by rw [List.length_nil]; omega) (by simp; omega) ?_); intro v2 w2 ho2 hg2 hr2; rw [List.nil_append] at ho2; obtain ⟨A2, c2, rfl, hc2, hc2'⟩ := own_form ho2; have hb2 : Below w0.heap.size w0 w2 := (hb.alloc hzb _).grown hg2 (by simp; omega) (fun r hr => by simp [rowOf] at hr)))
          obtain ⟨MM, hMM⟩ : ∃ MM, MM = D ++ [0, 0, 0, 0, 0, 0] := ⟨_, rfl⟩
          rw [← hMM] at ho3
          have hMl : MM.length ≤ 200 := by rw [hMM, List.length_append]; simp; omega
          obtain ⟨A3, c3, rfl, hc3, hc3'⟩ := own_form ho3
          have hz3 := hb3.size
          refine (rbsum_any s A3 c3 MM w3 ho3.sl (by omega) (by omega)).mono ?_
          rintro e w4 ⟨rfl, hb4⟩
          have hb4' := hb3.trans (hb4.mono hz3)
          have hP : bech (spreadL s.data.toList ++ MM) = bech (spreadL S ++ D ++ List.replicate 6 0) := by rw [hMM, HSS.out, List.append_assoc]; rfl
          rw [hP]
          obtain ⟨P0, hP0⟩ : ∃ P0, P0 = bech (spreadL S ++ D ++ List.replicate 6 0) := ⟨_, rfl⟩
          rw [← hP0] at HFv ⊢
          have hP64 := P0.isLt
          obtain ⟨Q0, hQ0⟩ : ∃ Q0, Q0 = P0 ^^^ conK m := ⟨_, rfl⟩
          rw [← hQ0] at HFv
          have HQ0 := Lib.hid hQ0
          have hQ64 := Q0.isLt
          clear hP hP0 hQ0 hMM hMl ho3 hg3 hr3 hg2 hr2 ho2 hb2 hb3 hb4 hb hz3 hsr hc2 hc2' hc3 hc3' hzb
          cases m with
          | true =>
            have hx1 : bits .xor .u64 (P0.toNat : Int) 734539939 = (Q0.toNat : Int) := by rw [HQ0.out]; exact sp_x P0 (conK true)
            go_wp2_with fail
            clear hx1
            obtain ⟨T0, hT0⟩ : ∃ T0, T0 = T := ⟨_, rfl⟩
            go_loopw [9, 12] (fun t i wr => ∃ j : Nat, wr.heap.size ≥ w4.heap.size ∧ j ≤ 6 ∧ i = .int .i64 (5 - (j : Int)) ∧ t = .string ⟨(T ++ (lets6 Q0 j).map let32).toArray⟩ ∧ Below w0.heap.size w0 wr) (fun _ i _ => ((match i with | .int _ n => n | _ => 0) + 1).toNat)
            case atStart => exact ⟨0, Nat.le_refl _, Nat.zero_le _, rfl, by simp [lets6], hb4'⟩
            case round =>
              clear hb4'
              obtain ⟨j, _, hj, rfl, rfl, hb⟩ := hrel
              obtain ⟨U, hU⟩ : ∃ U, U = T ++ (lets6 Q0 j).map let32 := ⟨_, rfl⟩
              rw [← hU]
              have HU := Lib.hid hU
              have hUl : U.length ≤ 300 := by rw [hU]; simp [lets6_length]; omega
              have hzb := hb.size
              clear hU
              by_cases hlt : j < 6
              · obtain ⟨e5, he5⟩ : ∃ e5, e5 = 5 - j := ⟨_, rfl⟩
                have ee : (5 : Int) - (j : Int) = (e5 : Int) := by omega
                rw [ee]
                obtain ⟨sh, hsh⟩ : ∃ sh, sh = 5 * e5 := ⟨_, rfl⟩
                have esh : (5 : Int) * (e5 : Int) = (sh : Int) := by omega
                have hsh25 : sh ≤ 25 := by omega
                obtain ⟨d, hd⟩ : ∃ d, d = Q0.toNat / 2 ^ sh % 32 := ⟨_, rfl⟩
                have hd32 : d < 32 := by omega
                have hsd : ((Q0.toNat : Int) / 2 ^ sh).tmod 32 = (d : Int) := by
                  have h1 : (Q0.toNat : Int) / 2 ^ sh = ((Q0.toNat / 2 ^ sh : Nat) : Int) := by rw [Int.natCast_ediv, Int.natCast_pow]; rfl
                  rw [h1, hd, Int.tmod_eq_emod_of_nonneg (Int.natCast_nonneg _), Int.natCast_emod]; rfl
                have hdn : (UInt8.ofNat d).toNat = d := by simp; omega
                have hlet : ∀ h, (⟨letters32.toArray⟩ : ByteArray)[d]'h = let32 (UInt8.ofNat d) := fun h => by
                  have := letters32_at (UInt8.ofNat d) (by rw [hdn]; exact h)
                  rw [← this]; congr 1; exact hdn.symm
                obtain ⟨l, hl'⟩ : ∃ l, l = let32 (UInt8.ofNat d) := ⟨_, rfl⟩
                rw [← hl'] at hlet
                simp only [letters32] at hlet
                have hnew : U ++ [l] = T ++ (lets6 Q0 (j + 1)).map let32 := by
                  rw [HU.out, hl', hd, hsh, he5, lets6_succ, List.map_append, List.append_assoc]; rfl
                have Hnew := Lib.hid hnew
                have hS1 : Sl (wr.alloc (.cells #[.int .u8 (l.toNat : Int)] 5)) (wr.heap.size + 1) (some ⟨wr.heap.size, 0, none⟩) (B8 [l]) := Sl.one wr _ _
                have hstr := run_str_Sl (P := Tryd.prog) (wr.alloc (.cells #[.int .u8 (l.toNat : Int)] 5)) 22 9 5 (by kernel_rfl) (by kernel_rfl) (by kernel_rfl) _ _ 1 [l] hS1
                simp only [List.length_cons, List.length_nil, Nat.zero_add] at hstr
                have hsum : ((⟨U.toArray⟩ : ByteArray) ++ (⟨#[l]⟩ : ByteArray)) = ⟨(U ++ [l]).toArray⟩ := by
                  apply ByteArray.ext
                  simp
                have Hee : Hid (e5 = 5 - j) := Lib.hid he5
                clear hnew hl' hd hsh hdn ee he5 hS1
                go_wp2_with fail
                refine ⟨⟨j + 1, by simp; omega, by omega, ?_, by rw [Hnew.out], hb.alloc hzb _⟩, by simp⟩
                have := Hee.out
                congr 1
                omega
              · obtain rfl : j = 6 := by omega
                go_wp2_with fail
                go_ret2
                rw [HFv.out, List.map_append, ← List.append_assoc, ← HTD.out, ← HU.out]
                exact ⟨rfl, hb⟩
          | false =>
            have hx1 : bits .xor .u64 (P0.toNat : Int) 1 = (Q0.toNat : Int) := by rw [HQ0.out]; exact sp_x P0 (conK false)
            go_wp2_with fail
            clear hx1
            obtain ⟨T0, hT0⟩ : ∃ T0, T0 = T := ⟨_, rfl⟩
            go_loopw [9, 12] (fun t i wr => ∃ j : Nat, wr.heap.size ≥ w4.heap.size ∧ j ≤ 6 ∧ i = .int .i64 (5 - (j : Int)) ∧ t = .string ⟨(T ++ (lets6 Q0 j).map let32).toArray⟩ ∧ Below w0.heap.size w0 wr) (fun _ i _ => ((match i with | .int _ n => n | _ => 0) + 1).toNat)
            case atStart => exact ⟨0, Nat.le_refl _, Nat.zero_le _, rfl, by simp [lets6], hb4'⟩
            case round =>
              clear hb4'
              obtain ⟨j, _, hj, rfl, rfl, hb⟩ := hrel
              obtain ⟨U, hU⟩ : ∃ U, U = T ++ (lets6 Q0 j).map let32 := ⟨_, rfl⟩
              rw [← hU]
              have HU := Lib.hid hU
              have hUl : U.length ≤ 300 := by rw [hU]; simp [lets6_length]; omega
              have hzb := hb.size
              clear hU
              by_cases hlt : j < 6
              · obtain ⟨e5, he5⟩ : ∃ e5, e5 = 5 - j := ⟨_, rfl⟩
                have ee : (5 : Int) - (j : Int) = (e5 : Int) := by omega
                rw [ee]
                obtain ⟨sh, hsh⟩ : ∃ sh, sh = 5 * e5 := ⟨_, rfl⟩
                have esh : (5 : Int) * (e5 : Int) = (sh : Int) := by omega
                have hsh25 : sh ≤ 25 := by omega
                obtain ⟨d, hd⟩ : ∃ d, d = Q0.toNat / 2 ^ sh % 32 := ⟨_, rfl⟩
                have hd32 : d < 32 := by omega
                have hsd : ((Q0.toNat : Int) / 2 ^ sh).tmod 32 = (d : Int) := by
                  have h1 : (Q0.toNat : Int) / 2 ^ sh = ((Q0.toNat / 2 ^ sh : Nat) : Int) := by rw [Int.natCast_ediv, Int.natCast_pow]; rfl
                  rw [h1, hd, Int.tmod_eq_emod_of_nonneg (Int.natCast_nonneg _), Int.natCast_emod]; rfl
                have hdn : (UInt8.ofNat d).toNat = d := by simp; omega
                have hlet : ∀ h, (⟨letters32.toArray⟩ : ByteArray)[d]'h = let32 (UInt8.ofNat d) := fun h => by
                  have := letters32_at (UInt8.ofNat d) (by rw [hdn]; exact h)
                  rw [← this]; congr 1; exact hdn.symm
                obtain ⟨l, hl'⟩ : ∃ l, l = let32 (UInt8.ofNat d) := ⟨_, rfl⟩
                rw [← hl'] at hlet
                simp only [letters32] at hlet
                have hnew : U ++ [l] = T ++ (lets6 Q0 (j + 1)).map let32 := by
                  rw [HU.out, hl', hd, hsh, he5, lets6_succ, List.map_append, List.append_assoc]; rfl
                have Hnew := Lib.hid hnew
                have hS1 : Sl (wr.alloc (.cells #[.int .u8 (l.toNat : Int)] 5)) (wr.heap.size + 1) (some ⟨wr.heap.size, 0, none⟩) (B8 [l]) := Sl.one wr _ _
                have hstr := run_str_Sl (P := Tryd.prog) (wr.alloc (.cells #[.int .u8 (l.toNat : Int)] 5)) 22 9 5 (by kernel_rfl) (by kernel_rfl) (by kernel_rfl) _ _ 1 [l] hS1
                simp only [List.length_cons, List.length_nil, Nat.zero_add] at hstr
                have hsum : ((⟨U.toArray⟩ : ByteArray) ++ (⟨#[l]⟩ : ByteArray)) = ⟨(U ++ [l]).toArray⟩ := by
                  apply ByteArray.ext
                  simp
                have Hee : Hid (e5 = 5 - j) := Lib.hid he5
                clear hnew hl' hd hsh hdn ee he5 hS1
                go_wp2_with fail
                refine ⟨⟨j + 1, by simp; omega, by omega, ?_, by rw [Hnew.out], hb.alloc hzb _⟩, by simp⟩
                have := Hee.out
                congr 1
                omega
              · obtain rfl : j = 6 := by omega
                go_wp2_with fail
                go_ret2
                rw [HFv.out, List.map_append, ← List.append_assoc, ← HTD.out, ← HU.out]
                exact ⟨rfl, hb⟩
end Go.Proofs.YtjbknfjcdmafaaaDoor

/-! strings.ToLower where nothing is great; text.plain. -/
namespace Go.Proofs.YtjbknfjcdmafaaaDoor
open Go.RowKit Go.Shelf

set_option maxRecDepth 100000 in
set_option maxHeartbeats 2000000 in
theorem toLower_any (s : ByteArray) (hsz : s.size ≤ maxLen) (hall : ∀ (j : Nat) (h : j < s.size), s[j].toNat < 128 ∧ (s[j].toNat < 65 ∨ 90 < s[j].toNat)) (w : World) :
    Calls Tryd.prog 42 #[.string s] w fun e w' => e = .returned (.string s) ∧ w' = w := by
  unfold maxLen at hsz
  have Hall := Lib.hid hall
  clear hall
  go_enter Tryd.func42, Tryd.ntmps42
  go_wp2
  go_loop [3, 4, 5] (fun z u i => ∃ k : Nat, k ≤ s.size ∧ i = .int .i64 k ∧ u = .bool false ∧ z = .bool true) (fun _ _ i => s.size - (intOf i).toNat)
  case atStart => exact ⟨0, Nat.zero_le _, rfl, rfl, rfl⟩
  case round =>
    obtain ⟨k, hk, rfl, rfl, rfl⟩ := hrel
    by_cases hlt : k < s.size
    · have h1 := (Hall.out k hlt).1
      rcases (Hall.out k hlt).2 with h2 | h2
      · go_wp2
        exact ⟨⟨k + 1, by omega, rfl, rfl, rfl⟩, by simp [intOf]; omega⟩
      · have h3 : 65 ≤ s[k].toNat := by omega
        go_wp2
        exact ⟨⟨k + 1, by omega, rfl, by congr 1; simp; omega, rfl⟩, by simp [intOf]; omega⟩
    · go_wp2
      go_ret
      exact ⟨rfl, rfl⟩

set_option maxRecDepth 100000 in
set_option maxHeartbeats 2000000 in
theorem plain_any (s : ByteArray) (hsz : s.size ≤ maxLen) (hall : ∀ (j : Nat) (h : j < s.size), 33 ≤ s[j].toNat ∧ s[j].toNat ≤ 126 ∧ (s[j].toNat < 65 ∨ 90 < s[j].toNat)) (w : World) :
    Calls Tryd.prog 30 #[.string s] w fun e w' => e = .returned (.tuple #[.string s, .bool true]) ∧ w' = w := by
  have hlow := toLower_any s hsz (fun j h => ⟨by have := hall j h; omega, (hall j h).2.2⟩)
  unfold maxLen at hsz
  have Hlow := Lib.hid hlow
  have Hall := Lib.hid hall
  clear hall hlow
  go_enter Tryd.func30, Tryd.ntmps30
  go_wp2
  go_loop [8] (fun i => ∃ k : Nat, k ≤ s.size ∧ i = .int .i64 k) (fun i => s.size - (intOf i).toNat)
  case atStart => exact ⟨0, Nat.zero_le _, rfl⟩
  case round =>
    obtain ⟨k, hk, rfl⟩ := hrel
    by_cases hlt : k < s.size
    · have h1 := (Hall.out k hlt).1
      have h2 := (Hall.out k hlt).2.1
      go_wp2
      exact ⟨⟨k + 1, by omega, rfl⟩, by simp [intOf]; omega⟩
    · go_wp2_with (go_at_call 42; refine (Hlow.out _).mono ?_; rintro e w' ⟨rfl, rfl⟩)
      go_ret2
      exact ⟨rfl, rfl⟩
end Go.Proofs.YtjbknfjcdmafaaaDoor

/-! text.FromBech32 of what Bech32 wrote. -/
namespace Go.Proofs.YtjbknfjcdmafaaaDoor
open Go.RowKit Go.Shelf

theorem let32_fine (y : UInt8) (h : y.toNat < 32) : 33 ≤ (let32 y).toNat ∧ (let32 y).toNat ≤ 126 ∧ ((let32 y).toNat < 65 ∨ 90 < (let32 y).toNat) ∧ (let32 y).toNat ≠ 49 ∧ placeZ letters32 (let32 y) = (y.toNat : Int) := by
  have : ∀ d : Fin 32, 33 ≤ (let32 (UInt8.ofNat d.val)).toNat ∧ (let32 (UInt8.ofNat d.val)).toNat ≤ 126 ∧ ((let32 (UInt8.ofNat d.val)).toNat < 65 ∨ 90 < (let32 (UInt8.ofNat d.val)).toNat) ∧ (let32 (UInt8.ofNat d.val)).toNat ≠ 49 ∧ placeZ letters32 (let32 (UInt8.ofNat d.val)) = (d.val : Int) := by decide
  have h2 := this ⟨y.toNat, h⟩
  simpa using h2

theorem results_tmp4 {fn : Func} {t u v x : Tmp} (h : fn.results = #[.tmp t, .tmp u, .tmp v, .tmp x]) (tmps : Array Value) (P : Program) (w : World) :
    (results fn tmps).run P w = .ok (.tuple #[tmps.getD t undef, tmps.getD u undef, tmps.getD v undef, tmps.getD x undef]) w := by
  simp [results, h]

set_option maxRecDepth 100000 in
set_option maxHeartbeats 4000000 in
theorem frombech_any (s : ByteArray) (S D : List UInt8) (m : Bool) (w : World) (hST : s.data.toList = S ++ [49] ++ (D ++ lets6 (bech (spreadL S ++ D ++ List.replicate 6 0) ^^^ conK m) 6).map let32) (hg : goodH S = true) (h32 : ∀ x ∈ D, x.toNat < 32) (hlen : S.length + D.length + 7 ≤ 90) :
    Calls Tryd.prog 13 #[.string s] w fun e W' => ∃ A, e = .returned (.tuple #[.string ⟨S.toArray⟩, .slice A D.length D.length, .bool m, .int .i64 0]) ∧ Sl W' W'.heap.size A (B8 D) ∧ Below w.heap.size w W' := by
  obtain ⟨M, hM⟩ : ∃ M, M = D ++ lets6 (bech (spreadL S ++ D ++ List.replicate 6 0) ^^^ conK m) 6 := ⟨_, rfl⟩
  rw [← hM] at hST
  have hMl : M.length = D.length + 6 := by rw [hM, List.length_append, lets6_length]
  have hM32 : ∀ y ∈ M, y.toNat < 32 := by
    intro y hy
    rw [hM] at hy
    rcases List.mem_append.1 hy with h | h
    · exact h32 y h
    · exact lets6_lt _ _ y h
  have hsum : bech (spreadL S ++ M) = conK m := by
    rw [hM, ← List.append_assoc]; exact bech_closes _ _ (conK_lt m)
  have hMD : M.take D.length = D := by rw [hM]; simp
  have hsz : s.size = S.length + 1 + M.length := by have h1 := congrArg List.length hST; simp at h1; omega
  have hS0 : 0 < S.length := by cases S with | nil => cases hg | cons => simp
  have hSok : ∀ c ∈ S, okc c = true := by
    unfold goodH at hg; simp only [Bool.and_eq_true] at hg
    exact List.all_eq_true.1 hg.2
  have hget : ∀ (j : Nat) (h : j < s.size), (S ++ [49] ++ M.map let32)[j]? = some s[j] := fun j h => by rw [← hST]; simp [h]; rfl
  have hlow : ∀ (j : Nat) (h : j < s.size), 33 ≤ s[j].toNat ∧ s[j].toNat ≤ 126 ∧ (s[j].toNat < 65 ∨ 90 < s[j].toNat) := by
    intro j h
    have hm := List.mem_of_getElem? (hget j h)
    simp only [List.mem_append, List.mem_singleton, List.mem_map] at hm
    rcases hm with (hm | hm) | ⟨y, hy, hm⟩
    · have := hSok _ hm
      simp [okc] at this
      omega
    · rw [hm]; decide
    · rw [← hm]
      have := let32_fine y (hM32 y hy)
      exact ⟨this.1, this.2.1, this.2.2.1⟩
  have hat : ∀ (h : S.length < s.size), s[S.length].toNat = 49 := fun h => by
    have h1 := hget S.length h
    rw [List.getElem?_append_left (by simp), List.getElem?_append_right (Nat.le_refl _)] at h1
    simp at h1
    rw [← h1]; rfl
  have hbeh : ∀ (q : Nat) (h : S.length + 1 + q < s.size) (hq : q < M.length), s[S.length + 1 + q] = let32 M[q] := fun q h hq => by
    have h1 := hget (S.length + 1 + q) h
    rw [List.getElem?_append_right (by simp)] at h1
    simp [hq] at h1
    exact h1.symm
  have hlast : ∀ (j : Nat) (h : j < s.size), S.length < j → s[j].toNat ≠ 49 := by
    intro j h hj
    obtain ⟨q, rfl⟩ : ∃ q, j = S.length + 1 + q := ⟨j - S.length - 1, by omega⟩
    have hq : q < M.length := by omega
    rw [hbeh q h hq]
    exact (let32_fine _ (hM32 _ (List.getElem_mem _))).2.2.2.1
  have hplain := plain_any s (by simp [maxLen]; omega) hlow
  have hlasti := lastIndex_any s 49 S.length (by simp [maxLen]; omega) (by omega) (hat (by omega)) hlast
  obtain ⟨n, hn⟩ : ∃ n, n = S.length := ⟨_, rfl⟩
  obtain ⟨N, hN⟩ : ∃ N, N = M.length := ⟨_, rfl⟩
  rw [← hn, ← hN] at hsz
  rw [← hn] at hlasti hlen hS0
  rw [← hN] at hMl
  have hs1 : s.size ≤ n + 1 + N := by omega
  have hs2 : n + 1 + N ≤ s.size := by omega
  have hN1 : N ≤ D.length + 6 := by omega
  have hN2 : D.length + 6 ≤ N := by omega
  have Hplain := Lib.hid hplain
  have Hlasti := Lib.hid hlasti
  have hbeh' : ∀ (q : Nat) (h : n + 1 + q < s.size) (hq : q < M.length), s[n + 1 + q] = let32 M[q] := by subst hn; exact hbeh
  have Hbeh := Lib.hid hbeh'
  have HM32 := Lib.hid hM32
  have HMD := Lib.hid hMD
  have Hsum := Lib.hid hsum
  have HST := Lib.hid hST
  have Hn := Lib.hid hn
  have HN := Lib.hid hN
  clear hplain hlasti hbeh hbeh' hM32 hMD hsum hST hn hN hlast hat hlow hget hSok hsz hMl hM hg h32
  go_enter Tryd.func13, Tryd.ntmps13
  go_wp2_with fail
  refine (Hplain.out _).mono ?_
  rintro e w' ⟨rfl, rfl⟩
  go_wp2_with fail
  refine (Hlasti.out _).mono ?_
  rintro e w' ⟨rfl, rfl⟩
  go_wp2_with fail
  obtain ⟨wZ, rfl⟩ : ∃ wZ, wZ = w' := ⟨_, rfl⟩
  go_loopw [8, 9] (fun v i wr => ∃ q : Nat, q ≤ N ∧ i = .int .i64 ((n + 1 + q : Nat) : Int) ∧ Ow wr wZ.heap.size 5 v (B8 (M.take q)) ∧ Below wZ.heap.size wZ wr) (fun _ i _ => s.size - (intOf i).toNat)
  case atStart => exact ⟨0, Nat.zero_le _, rfl, Ow.nil_ _ _ _ _, Below.refl _ _⟩
  case round =>
    obtain ⟨q, hq, rfl, ho, hb⟩ := hrel
    obtain ⟨L, hL⟩ : ∃ L, L = M.take q := ⟨_, rfl⟩
    have hLl : L.length = q := by rw [hL]; have := HN.out; simp; omega
    rw [← hL] at ho
    obtain ⟨Al, cl, rfl, hcl, hcl'⟩ := own_form ho
    rw [hLl] at ho hcl ⊢
    have HLl := Lib.hid hLl
    have HL := Lib.hid hL
    have hz := hb.size
    obtain ⟨m0, hm0⟩ : ∃ m0, m0 = n + 1 + q := ⟨_, rfl⟩
    rw [← hm0]
    have hm1 : m0 ≤ n + 1 + q := by omega
    have hm2 : n + 1 + q ≤ m0 := by omega
    have Hm0 := Lib.hid hm0
    clear hL hLl
    by_cases hlt : q < N
    · have hqM : q < M.length := by rw [← HN.out]; exact hlt
      have hms : m0 < s.size := by omega
      obtain ⟨y, hy⟩ : ∃ y, y = M[q] := ⟨_, rfl⟩
      have hy32 : y.toNat < 32 := HM32.out y (by rw [hy]; exact List.getElem_mem _)
      have hay : s[m0] = let32 y := by subst hm0; rw [hy]; exact Hbeh.out q hms hqM
      have hix := Tryd.strings_IndexByte ⟨letters32.toArray⟩ (s[m0].toNat : Int)
      rw [show (⟨letters32.toArray⟩ : ByteArray).data.toList = letters32 from rfl, indexByte_placeZ, show ((s[m0].toNat : Int)).toNat.toUInt8 = let32 y from by rw [hay]; simp, (let32_fine y hy32).2.2.2.2] at hix
      have Hix := Lib.hid hix
      have ha8 := s[m0].toNat_lt
      have hnew : L ++ [y] = M.take (q + 1) := by rw [HL.out, hy, List.take_succ_eq_append_getElem hqM]
      have Hnew := Lib.hid hnew
      have Hm0 := Lib.hid hm0
      clear hix hay hy hnew hm0
      go_wp2_with (first | (go_at_call 32; refine (Hix.out _).mono ?_; rintro e w' ⟨rfl, hww⟩; rw [hww]; clear hww) | (at_builtin; go_loud (refine wpList_append_Ow (m := 1) (c := 1) (base := wZ.heap.size) (xs := B8 L) (v := .slice Al q cl) (A := some ⟨wr.heap.size, 0, none⟩) (B := wr.heap.size + 1) (news := [.int .u8 (y.toNat : Int)]) elB rfl (.tmp 50) (.tmp 53) rfl rfl (ho.alloc _) rfl (Sl.one wr _ _) rfl (by simp; rfl) (by rw [B8_length, HLl.out]; simp [maxLen]; omega) (by rw [B8_length, HLl.out]; omega) (by have := hb.size; simp; omega) ?_); intro v3 w3 ho3 hg3 hr3))
      rw [b8_snoc L _ y rfl, Hnew.out] at ho3
      refine ⟨⟨q + 1, by omega, ?_, ho3, push_below hb (Nat.le_refl _) ho hg3⟩, by simp [intOf]; omega⟩
      have := Hm0.out
      congr 1
      omega
    · obtain rfl : q = N := by omega
      have hLM : L = M := by rw [HL.out]; exact List.take_of_length_le (by rw [← HN.out]; omega)
      rw [hLM] at ho
      obtain ⟨gD, rfl, _⟩ := ho.at_ (j := 0) (by rw [B8_length, ← HN.out]; omega)
      have hmx : Tryd.prog.follows .mixedOrders = true := by kernel_rfl
      have hms : m0 = s.size := by omega
      clear hLM HL Hm0 hm0
      go_wp2_with fail
      refine wp_region_plan [(1, 0), (2, 0), (3, 0), (5, 0), (0, 2), (4, 2), (6, 2), (7, 2), (8, 2)] 6 hmx (by kernel_rfl) (by intro c a d v w h; cases d <;> exact h) ?_
      repeat ((first | (refine wpPlan_pure rfl (fun K hK => ?_)) | (refine wpPlan_quiet rfl (fun K hK => ?_))); go_simp; (first | (refine hK _ ?_) | (simp only [IntWalk.iteOmega]; go_simp; refine hK _ ?_) | (go_bits; go_simp; refine hK _ ?_)); clear hK K; (try go_bits))
      refine wpPlan_loud rfl rfl (fun K hK => ?_)
      go_wp2_with fail
      refine (bech_any _).mono ?_
      rintro e w3 ⟨rfl, hb3⟩
      go_wp2_with fail
      refine ⟨.inr (ext_of_below hb3), ?_⟩
      have hb3 : Below wr.heap.size wr w3 := ⟨hb3.os, hb3.tape, hb3.output, hb3.size, hb3.block⟩
      have ho3 := ho.below hb3 (Nat.le_refl _)
      have hb3' := hb.trans (hb3.mono hz)
      clear ho hb hb3
      refine wpPlan_loud rfl rfl (fun K hK => ?_)
      go_wp2_with fail
      have hexS : s.extract 0 n = ⟨S.toArray⟩ := by
        apply ByteArray.ext
        apply Array.ext'
        have h1 := HST.out
        have h2 := Hn.out
        rw [ByteArray.data_extract, Array.toList_extract, h1, h2]
        simp
      have HexS := Lib.hid hexS
      have hsp := spread_any (s.extract 0 n) w3 (by rw [hexS]; show S.length ≤ 2000; rw [← Hn.out]; omega)
      rw [show (s.extract 0 n).data.toList = S by rw [hexS]] at hsp
      clear hexS
      refine hsp.mono ?_
      clear hsp
      rintro e w4 ⟨v4, rfl, ho4, hb4⟩
      obtain ⟨A4, c4, rfl, hc4, hc4'⟩ := own_form ho4
      obtain ⟨n4, hn4⟩ : ∃ n4, n4 = (spreadL S).length := ⟨_, rfl⟩
      have hn4l : n4 ≤ 200 := by rw [hn4, spreadL_length, ← Hn.out]; omega
      rw [← hn4] at ho4 hc4 ⊢
      have Hn4 := Lib.hid hn4
      clear hn4
      have hz3 := hb3'.size
      have hd4 := ho3.below hb4 (Nat.le_refl _)
      have hb4' := hb3'.trans (hb4.mono hz3)
      have hz4 := hb4.size
      go_wp2_with fail
      refine ⟨.inr (ext_of_below hb4), ?_⟩
      have hrow3 := ho3.row
      clear hb4 ho3 hb3'
      refine wpPlan_loud rfl rfl (fun K hK => ?_)
      refine wp_append_Ow (m := q) (c := cl) (base := w3.heap.size) (xs := B8 (spreadL S)) (v := .slice A4 n4 c4) (A := some ⟨gD, 0, none⟩) (B := w4.heap.size) (news := B8 M) elB (.tmp 59) (.tmp 60) rfl rfl ho4 rfl hd4.sl (by rw [B8_length]; exact HN.out.symm) (B8_oneCell _) (by rw [B8_length, ← Hn4.out]; simp [maxLen]; omega) (by rw [B8_length, ← Hn4.out]; omega) hz4 ?_
      intro v5 w5 ho5 hg5 hr5
      rw [← B8_append] at ho5
      have hd5 := hd4.kept hg5 (fun r hr e => by have h1 := (ho4.row r e).1; have h2 := (hrow3 r hr).2; omega)
      have hb5' : Below wZ.heap.size wZ w5 := hb4'.grown hg5 hb4'.size (fun r hr => by have := (ho4.row r hr).1; omega)
      refine (show K (Act.put _ (some 61) v5) w5 from ?_)
      conv in (Act.put _ (some 61) v5) => simp [Act.put]
      refine hK _ _ ⟨.inl (by decide), ?_⟩
      clear hK K
      obtain ⟨ALL, hALL⟩ : ∃ X, X = spreadL S ++ M := ⟨_, rfl⟩
      rw [← hALL] at ho5
      obtain ⟨A5, c5, rfl, hc5, hc5'⟩ := own_form ho5
      have hAl : ALL.length ≤ 400 := by rw [hALL, List.length_append, ← Hn4.out, ← HN.out]; omega
      have hA0 : 0 < ALL.length := by rw [hALL, List.length_append, spreadL_length]; omega
      have hbK : bech (ALL ++ List.replicate 0 0) = conK m := by rw [hALL, List.replicate_zero, List.append_nil]; exact Hsum.out
      have HbK := Lib.hid hbK
      clear hALL hg5 hr5 ho4 hd4 hb4' hbK
      refine wpPlan_loud rfl rfl (fun K hK => ?_)
      go_wp2_with fail
      refine (brun0_any A5 c5 ALL w5 ho5.sl (by omega) hA0).mono ?_
      rintro e w6 ⟨rfl, hb6⟩
      rw [HbK.out]
      go_wp2_with fail
      refine ⟨.inl (by decide), ?_⟩
      have hd6 := hd5.below hb6 (Nat.le_refl _)
      have hb6' := hb5'.trans (hb6.mono hb5'.size)
      clear hd5 hb5' hb6 ho5
      have e6 : (q : Int) - 6 = (D.length : Int) := by omega
      refine wpPlan_loud rfl rfl (fun K hK => ?_)
      cases m with
      | true =>
        rw [show ((conK true).toNat : Int) = 734539939 from rfl]
        go_wp2_with fail
        refine ⟨.inl (by decide), ?_⟩
        refine wpPlan_nil ?_
        go_wp2_with fail
        refine wp_region_plan [(0, 0), (1, 0), (2, 0), (3, 0), (4, 0), (5, 0), (6, 0), (7, 0), (9, 0), (10, 0), (8, 2), (11, 0), (12, 0), (13, 0), (14, 0)] 15 hmx (by kernel_rfl) (by intro c a d v w h; cases d <;> exact h) ?_
        repeat ((first | (refine wpPlan_pure rfl (fun K hK => ?_)) | (refine wpPlan_quiet rfl (fun K hK => ?_))); go_simp; (first | (refine hK _ ?_) | (simp only [IntWalk.iteOmega]; go_simp; refine hK _ ?_) | (go_bits; go_simp; refine hK _ ?_)); clear hK K; (try go_bits))
        refine wpPlan_loud rfl rfl (fun K hK => ?_)
        go_wp2_with fail
        refine (clip_any (some ⟨gD, 0, none⟩) D.length cl _ (by omega)).mono ?_
        rintro e w7 ⟨rfl, rfl⟩
        go_wp2_with fail
        refine ⟨.inr (Ext.refl _), ?_⟩
        repeat ((first | (refine wpPlan_pure rfl (fun K hK => ?_)) | (refine wpPlan_quiet rfl (fun K hK => ?_))); go_simp; (first | (refine hK _ ?_) | (simp only [IntWalk.iteOmega]; go_simp; refine hK _ ?_) | (go_bits; go_simp; refine hK _ ?_)); clear hK K; (try go_bits))
        refine wpPlan_nil ?_
        go_wp2_with fail
        refine bodyPost_ret (results_tmp4 rfl _ _ _) rfl ?_
        refine ⟨some ⟨gD, 0, none⟩, ?_, ?_, ?_⟩
        · rw [← HexS.out]; rfl
        · rw [← HMD.out, B8_take]; exact hd6.sl.take _
        · exact hb6'.drew
      | false =>
        rw [show ((conK false).toNat : Int) = 1 from rfl]
        go_wp2_with fail
        refine ⟨.inl (by decide), ?_⟩
        refine wpPlan_nil ?_
        go_wp2_with fail
        refine wp_region_plan [(0, 0), (1, 0), (2, 0), (3, 0), (4, 0), (5, 0), (6, 0), (7, 0), (9, 0), (10, 0), (8, 2), (11, 0), (12, 0), (13, 0), (14, 0)] 15 hmx (by kernel_rfl) (by intro c a d v w h; cases d <;> exact h) ?_
        repeat ((first | (refine wpPlan_pure rfl (fun K hK => ?_)) | (refine wpPlan_quiet rfl (fun K hK => ?_))); go_simp; (first | (refine hK _ ?_) | (simp only [IntWalk.iteOmega]; go_simp; refine hK _ ?_) | (go_bits; go_simp; refine hK _ ?_)); clear hK K; (try go_bits))
        refine wpPlan_loud rfl rfl (fun K hK => ?_)
        go_wp2_with fail
        refine (clip_any (some ⟨gD, 0, none⟩) D.length cl _ (by omega)).mono ?_
        rintro e w7 ⟨rfl, rfl⟩
        go_wp2_with fail
        refine ⟨.inr (Ext.refl _), ?_⟩
        repeat ((first | (refine wpPlan_pure rfl (fun K hK => ?_)) | (refine wpPlan_quiet rfl (fun K hK => ?_))); go_simp; (first | (refine hK _ ?_) | (simp only [IntWalk.iteOmega]; go_simp; refine hK _ ?_) | (go_bits; go_simp; refine hK _ ?_)); clear hK K; (try go_bits))
        refine wpPlan_nil ?_
        go_wp2_with fail
        refine bodyPost_ret (results_tmp4 rfl _ _ _) rfl ?_
        refine ⟨some ⟨gD, 0, none⟩, ?_, ?_, ?_⟩
        · rw [← HexS.out]; rfl
        · rw [← HMD.out, B8_take]; exact hd6.sl.take _
        · exact hb6'.drew
end Go.Proofs.YtjbknfjcdmafaaaDoor
