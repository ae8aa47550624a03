/- text.noughts: how many of one byte stand at the beginning. | Base conversion, digit by digit: plain facts. | Base 58: plain facts. | text.base, walked. -/
import Derived.Test.YtkiigonikeeikaaGreatDoorU1
import Derived.Test.YtkiigonikeeikaaGreatDoorU2
import Derived.Shelf.RegionOpen
import Derived.BigQuiet
import Derived.Sort.QuietIn
import Derived.Stop.RegionWithIn
import Derived.Deep.QuietTactic
import Derived.StillTailTactics
import Derived.Deep.RegionHeld3
import Derived.Deep.RegionWith

/-! text.noughts: how many of one byte stand at the beginning. -/
namespace Go.Proofs.YtkiigonikeeikaaGreatDoor
open Go.RowKit Go.Shelf

theorem Sl.cutf {w : World} {B : Nat} {A : Option Addr} {xs : List Value} (h : Sl w B A xs) {k cap : Nat} (f : Addr → Addr) (hf : ∀ b o, f ⟨b, o, none⟩ = ⟨b, o + k, none⟩) (hc : xs.length ≤ cap) (hk : k ≤ xs.length) :
    Sl w B (if cap = k then A else A.map f) (xs.drop k) := fun hn => by
  have hk' : k < xs.length := by simp at hn; omega
  obtain ⟨b, o, rfl, hb, hcell⟩ := h (by omega)
  rw [if_neg (by omega)]
  refine ⟨b, o + k, by simp [hf], hb, fun j hj => ?_⟩
  have := hcell (k + j) (by simp at hj; omega)
  rw [Nat.add_assoc, this]
  simp
theorem dropWhile_at (bs : List UInt8) (x : UInt8) (k : Nat) (h : k ≤ bs.length) (hall : ∀ j (hj : j < bs.length), j < k → bs[j] = x) (hend : ∀ (hk : k < bs.length), bs[k] ≠ x) : (bs.dropWhile (· == x)).length = bs.length - k := by
  induction bs generalizing k with
  | nil => simp
  | cons b bs ih =>
    cases k with
    | zero =>
      have := hend (by simp)
      rw [List.dropWhile_cons_of_neg (by simpa using this)]; simp
    | succ k =>
      have h0 := hall 0 (by simp) (by omega)
      rw [List.dropWhile_cons_of_pos (by simpa using h0), ih k (by simpa using h) (fun j hj hjk => by
        have := hall (j + 1) (by simpa using hj) (by omega); simpa using this) (fun hk => by have := hend (by simpa using hk); simpa using this)]
      simp

set_option maxRecDepth 100000 in
set_option maxHeartbeats 2000000 in
theorem trimByte_any (A : Option Addr) (c : Nat) (bs : List UInt8) (x : UInt8) (w : World) (hs : Sl w w.heap.size A (B8 bs)) (hbc : bs.length ≤ c) :
    Calls Tryz.prog 105 #[.slice A bs.length c, .int .u8 (x.toNat : Int)] w fun e W' => ∃ A' c', e = .returned (.slice A' (bs.dropWhile (· == x)).length c') ∧ W' = w := by
  have Hbc := Lib.hid hbc
  obtain ⟨N, hN⟩ : ∃ N, N = bs.length := ⟨_, rfl⟩
  rw [← hN]
  have HN := Lib.hid hN
  clear hbc hN
  have hx8 := x.toNat_lt
  go_enter Tryz.func105, Tryz.ntmps105
  go_wp2_with fail
  go_loopw [0] (fun v wr => ∃ k A' c' r, wr = w ∧ Hid (r + k = N) ∧ v = .slice A' r c' ∧ r ≤ c' ∧ (∀ j (hj : j < bs.length), j < k → bs[j] = x) ∧ Sl w w.heap.size A' (B8 (bs.drop k))) (fun v _ => match v with | .slice _ n _ => n | _ => 0)
  case atStart => exact ⟨0, A, c, N, rfl, Lib.hid rfl, rfl, by have := Hbc.out; have := HN.out; omega, fun j _ h => absurd h (by omega), hs⟩
  case round =>
    obtain ⟨k, A', c', r, rfl, Hr, rfl, hrc, hall, hsk⟩ := hrel
    have hlen : (bs.drop k).length = r := by have := Hr.out; have := HN.out; simp; omega
    by_cases hr0 : 0 < r
    · have hkb : k < bs.length := by have := Hr.out; have := HN.out; omega
      obtain ⟨b, o, rfl, hb, hcl⟩ := hsk (by simp; omega)
      have h0 := hcl 0 (by simp; omega)
      rw [B8_get, Nat.add_zero] at h0
      simp only [List.getElem_drop, Nat.add_zero] at h0
      obtain ⟨y, hy⟩ : ∃ y, y = bs[k] := ⟨_, rfl⟩
      rw [← hy] at h0
      have hy8 := y.toNat_lt
      have Hhc := Lib.hid hcl
      have Hy := Lib.hid hy
      have Hlen := Lib.hid hlen
      have Hall := Lib.hid hall
      clear hcl hy hlen hall
      by_cases hxy : y = x
      · have exy : (y.toNat : Int) = (x.toNat : Int) := by rw [hxy]
        go_wp2_with fail
        refine ⟨⟨k + 1, _, c' - 1, r - 1, trivial, Lib.hid (by have := Hr.out; omega), rfl, by omega, fun j hj hjk => ?_, fun hn => ?_⟩, by simp; omega⟩
        · by_cases hjk' : j < k
          · exact Hall.out j hj hjk'
          · obtain rfl : j = k := by omega
            rw [← Hy.out, hxy]
        · have hn' : k + 1 < bs.length := by simp at hn; omega
          have := Hr.out
          have := HN.out
          rw [if_neg (by omega)]
          refine ⟨b, o + 1, rfl, hb, fun j hj => ?_⟩
          have hj' : j < bs.length - (k + 1) := by simpa using hj
          have h1 := Hhc.out (j + 1) (by simp; omega)
          rw [show o + 1 + j = o + (j + 1) by omega, h1]
          simp only [B8_get, List.getElem_drop, show k + (j + 1) = k + 1 + j by omega]
      · have exy : ¬ (y.toNat : Int) = (x.toNat : Int) := fun e => hxy (UInt8.toNat_inj.1 (by omega))
        go_wp2_with fail
        go_ret
        refine ⟨some ⟨b, o, none⟩, c', ?_, rfl⟩
        show Ending.returned (.slice (some ⟨b, o, none⟩) r c') = _
        rw [dropWhile_at bs x k (by omega) Hall.out (fun hk => by rw [← Hy.out]; exact hxy), show bs.length - k = r from by have := Hr.out; have := HN.out; omega]
    · obtain rfl : r = 0 := by omega
      have hkb : k = bs.length := by have := Hr.out; have := HN.out; omega
      have Hkb := Lib.hid hkb
      have Hall := Lib.hid hall
      clear hkb hall
      go_wp2_with fail
      go_ret
      refine ⟨none, 0, ?_, rfl⟩
      show Ending.returned (.slice none 0 0) = _
      rw [dropWhile_at bs x k (by have := Hkb.out; omega) Hall.out (fun hk => absurd hk (by have := Hkb.out; omega)), show bs.length - k = 0 from by have := Hkb.out; omega]

set_option maxRecDepth 100000 in
set_option maxHeartbeats 2000000 in
theorem trimLeft_any (A : Option Addr) (c : Nat) (bs : List UInt8) (w : World) (hs : Sl w w.heap.size A (B8 bs)) (hbc : bs.length ≤ c) :
    Calls Tryz.prog 90 #[.slice A bs.length c, .string ⟨#[49]⟩] w fun e W' => ∃ A' c', e = .returned (.slice A' (bs.dropWhile (· == 49)).length c') ∧ W' = w := by
  by_cases hb : bs = []
  · subst hb
    go_enter Tryz.func90, Tryz.ntmps90
    go_wp2_with fail
    go_ret
    exact ⟨_, _, rfl, rfl⟩
  · have hbl : 0 < bs.length := List.length_pos_iff.2 hb
    go_enter Tryz.func90, Tryz.ntmps90
    go_wp2_with fail
    refine (trimByte_any A c bs 49 w hs hbc).mono ?_
    rintro e w' ⟨A', c', rfl, rfl⟩
    go_wp2_with fail
    go_ret
    exact ⟨_, _, rfl, rfl⟩

set_option maxRecDepth 100000 in
set_option maxHeartbeats 2000000 in
theorem noughts_any (A : Option Addr) (c : Nat) (bs : List UInt8) (w : World) (hs : Sl w w.heap.size A (B8 bs)) (hbc : bs.length ≤ c) (hl : bs.length ≤ 4096) :
    Calls Tryz.prog 72 #[.slice A bs.length c, .int .u8 49] w fun e W' => e = .returned (.int .i64 ((bs.length - (bs.dropWhile (· == 49)).length : Nat) : Int)) ∧ Below w.heap.size w W' := by
  have hdl : (bs.dropWhile (· == 49)).length ≤ bs.length := (List.dropWhile_sublist _).length_le
  have hS1 : Sl (w.alloc (.cells #[.int .u8 49] 5)) (w.heap.size + 1) (some ⟨w.heap.size, 0, none⟩) (B8 [49]) := Sl.one w _ _
  have hstr := run_str_Sl (P := Tryz.prog) (w.alloc (.cells #[.int .u8 49] 5)) 23 9 5 (by kernel_rfl) (by kernel_rfl) (by kernel_rfl) _ _ 1 [49] hS1
  simp only [List.length_cons, List.length_nil, Nat.zero_add] at hstr
  have hB1 : Below w.heap.size w (w.alloc (.cells #[.int .u8 49] 5)) := (Below.refl _ w).alloc (Nat.le_refl _) _
  have hs1 := (hs.below hB1).mono hB1.size
  obtain ⟨D, hD⟩ : ∃ D, D = (bs.dropWhile (· == 49)).length := ⟨_, rfl⟩
  have htrim := trimLeft_any A c bs (w.alloc (.cells #[.int .u8 49] 5)) hs1 hbc
  rw [← hD] at hdl htrim ⊢
  have Htrim := Lib.hid htrim
  have HD := Lib.hid hD
  have Hbc := Lib.hid hbc
  clear hD htrim hs1 hs hS1 hbc
  go_enter Tryz.func72, Tryz.ntmps72
  go_wp2_with fail
  refine Htrim.out.mono ?_
  rintro e w' ⟨A', c', rfl, rfl⟩
  go_wp2_with fail
  go_ret
  refine ⟨?_, hB1⟩
  show Ending.returned (.int .i64 ((bs.length : Int) - (D : Int))) = _
  rw [Int.ofNat_sub hdl]
end Go.Proofs.YtkiigonikeeikaaGreatDoor

/-! Base conversion, digit by digit: plain facts. -/
namespace Go.Proofs.YtkiigonikeeikaaGreatDoor

/-- What is left of a carry, its digits from the lowest on. -/
def pushes (t : Nat) : Nat → Nat → List UInt8
  | 0, _ => []
  | fuel + 1, c => if c = 0 then [] else UInt8.ofNat (c % t) :: pushes t fuel (c / t)
/-- The digits of xs times f plus a carry, as many as there were; what is left. -/
def mid (f t : Nat) : List UInt8 → Nat → List UInt8 × Nat
  | [], c => ([], c)
  | x :: xs, c => (UInt8.ofNat ((c + x.toNat * f) % t) :: (mid f t xs ((c + x.toNat * f) / t)).1, (mid f t xs ((c + x.toNat * f) / t)).2)
def baseStep (f t : Nat) (xs : List UInt8) (c : Nat) : List UInt8 := (mid f t xs c).1 ++ pushes t (mid f t xs c).2 (mid f t xs c).2
def baseL (f t : Nat) (l : List UInt8) : List UInt8 := l.foldl (fun out d => baseStep f t out d.toNat) []
theorem baseL_snoc (f t : Nat) (l : List UInt8) (d : UInt8) : baseL f t (l ++ [d]) = baseStep f t (baseL f t l) d.toNat := by simp [baseL]

theorem pushes_fuel (t : Nat) (ht : 2 ≤ t) : ∀ (m n c : Nat), c ≤ m → c ≤ n → pushes t m c = pushes t n c := by
  intro m
  induction m with
  | zero => intro n c h1 h2; cases n with
    | zero => rfl
    | succ n => simp [pushes, show c = 0 by omega]
  | succ m ih =>
    intro n c h1 h2
    by_cases hc : c = 0
    · subst hc; cases n <;> simp [pushes]
    · cases n with
      | zero => omega
      | succ n =>
        simp only [pushes, hc, if_false]
        have : c / t < c := Nat.div_lt_self (by omega) (by omega)
        rw [ih n (c / t) (by omega) (by omega)]
theorem pushes_pos (t c : Nat) (ht : 2 ≤ t) (hc : 0 < c) : pushes t c c = UInt8.ofNat (c % t) :: pushes t (c / t) (c / t) := by
  obtain ⟨m, rfl⟩ : ∃ m, c = m + 1 := ⟨c - 1, by omega⟩
  simp only [pushes, Nat.add_eq_zero_iff, Nat.one_ne_zero, and_false, if_false]
  have : (m + 1) / t < m + 1 := Nat.div_lt_self (by omega) (by omega)
  rw [pushes_fuel t ht m ((m + 1) / t) _ (by omega) (Nat.le_refl _)]
theorem pushes_zero (t : Nat) : pushes t 0 0 = [] := rfl
theorem pushes_len (t : Nat) (ht : 2 ≤ t) : ∀ (k c : Nat), c < 2 ^ k → (pushes t c c).length ≤ k := by
  intro k
  induction k with
  | zero => intro c hc; simp at hc; subst hc; simp [pushes]
  | succ k ih =>
    intro c hc
    by_cases h0 : c = 0
    · subst h0; simp [pushes]
    · rw [pushes_pos t c ht (by omega)]
      have h1 : c / t ≤ c / 2 := Nat.div_le_div_left ht (by omega)
      have h2 : c / 2 < 2 ^ k := by rw [Nat.pow_succ] at hc; omega
      have := ih (c / t) (by omega)
      simp; omega
theorem mid_snoc (f t : Nat) : ∀ (xs : List UInt8) (y : UInt8) (c : Nat),
    mid f t (xs ++ [y]) c = ((mid f t xs c).1 ++ [UInt8.ofNat (((mid f t xs c).2 + y.toNat * f) % t)], ((mid f t xs c).2 + y.toNat * f) / t)
  | [], y, c => by simp [mid]
  | x :: xs, y, c => by simp only [List.cons_append, mid, mid_snoc f t xs y]
theorem mid_len (f t : Nat) : ∀ (xs : List UInt8) (c : Nat), (mid f t xs c).1.length = xs.length
  | [], c => rfl
  | x :: xs, c => by simp [mid, mid_len f t xs]
theorem mid_le (f t : Nat) (hf : f ≤ 256) (ht : 2 ≤ t) : ∀ (xs : List UInt8) (c : Nat), c ≤ 65536 → (mid f t xs c).2 ≤ 65536
  | [], c, h => h
  | x :: xs, c, h => by
    simp only [mid]
    refine mid_le f t hf ht xs _ ?_
    have hx := x.toNat_lt
    have h1 : x.toNat * f ≤ 255 * 256 := Nat.mul_le_mul (by omega) hf
    have h2 : (c + x.toNat * f) / t ≤ (c + x.toNat * f) / 2 := Nat.div_le_div_left ht (by omega)
    omega
theorem baseStep_len (f t : Nat) (hf : f ≤ 256) (ht : 2 ≤ t) (xs : List UInt8) (c : Nat) (hc : c ≤ 65536) : (baseStep f t xs c).length ≤ xs.length + 17 := by
  unfold baseStep
  have h1 := mid_le f t hf ht xs c hc
  have h2 := pushes_len t ht 17 (mid f t xs c).2 (by omega)
  rw [List.length_append, mid_len]; omega
theorem baseL_len (f t : Nat) (hf : f ≤ 256) (ht : 2 ≤ t) (l : List UInt8) : (baseL f t l).length ≤ 17 * l.length := by
  have : ∀ (l : List UInt8) (xs : List UInt8), (l.foldl (fun out d => baseStep f t out d.toNat) xs).length ≤ xs.length + 17 * l.length := by
    intro l
    induction l with
    | nil => intro xs; simp
    | cons d l ih =>
      intro xs
      have h1 := ih (baseStep f t xs d.toNat)
      have h2 := baseStep_len f t hf ht xs d.toNat (by have := d.toNat_lt; omega)
      simp only [List.foldl_cons, List.length_cons]; omega
  unfold baseL
  simpa using this l []
end Go.Proofs.YtkiigonikeeikaaGreatDoor

/-! Base 58: plain facts. -/
namespace Go.Proofs.YtkiigonikeeikaaGreatDoor

def letters58 : List UInt8 := [49, 50, 51, 52, 53, 54, 55, 56, 57, 65, 66, 67, 68, 69, 70, 71, 72, 74, 75, 76, 77, 78, 80, 81, 82, 83, 84, 85, 86, 87, 88, 89, 90, 97, 98, 99, 100, 101, 102, 103, 104, 105, 106, 107, 109, 110, 111, 112, 113, 114, 115, 116, 117, 118, 119, 120, 121, 122]
def let58 (d : UInt8) : UInt8 := letters58.getD d.toNat 0
theorem letters58_at (d : UInt8) (h : d.toNat < (⟨letters58.toArray⟩ : ByteArray).size) : (⟨letters58.toArray⟩ : ByteArray)[d.toNat] = let58 d := by
  have h' : d.toNat < letters58.length := h
  show letters58.toArray[d.toNat]'(by simpa using h') = _
  simp [let58, h']
/-- How many noughts at the beginning. -/
def lz : List UInt8 → Nat
  | [] => 0
  | b :: bs => if b = 0 then lz bs + 1 else 0
theorem lz_le : ∀ bs : List UInt8, lz bs ≤ bs.length
  | [] => by simp [lz]
  | b :: bs => by have := lz_le bs; simp only [lz]; split <;> simp <;> omega
theorem lz_of : ∀ (bs : List UInt8) (k : Nat) (_ : k ≤ bs.length) (_ : ∀ j (h : j < bs.length), j < k → bs[j] = 0) (_ : ∀ h : k < bs.length, bs[k] ≠ 0), lz bs = k
  | [], k, hk, _, _ => by simp at hk; subst hk; rfl
  | b :: bs, 0, _, _, hn => by have := hn (by simp); simp at this; simp [lz, this]
  | b :: bs, k + 1, hk, hz, hn => by
    have h0 : b = 0 := hz 0 (by simp) (by omega)
    have := lz_of bs k (by simpa using hk) (fun j h hj => by have := hz (j + 1) (by simpa using h) (by omega); simpa using this) (fun h => by have := hn (by simpa using h); simpa using this)
    simp [lz, h0, this]
theorem pushes_lt (t : Nat) (ht : 0 < t) (ht2 : t ≤ 256) : ∀ (n c : Nat), ∀ d ∈ pushes t n c, d.toNat < t
  | 0, c => by simp [pushes]
  | n + 1, c => by
    intro d hd
    unfold pushes at hd
    split at hd
    · simp at hd
    · simp only [List.mem_cons] at hd
      rcases hd with rfl | hd
      · have := Nat.mod_lt c ht
        simp; rw [Nat.mod_eq_of_lt (by omega)]; omega
      · exact pushes_lt t ht ht2 n _ d hd
theorem mid_lt (f t : Nat) (ht : 0 < t) (ht2 : t ≤ 256) : ∀ (xs : List UInt8) (c : Nat), ∀ d ∈ (mid f t xs c).1, d.toNat < t
  | [], c => by simp [mid]
  | x :: xs, c => by
    intro d hd
    simp only [mid, List.mem_cons] at hd
    rcases hd with rfl | hd
    · have := Nat.mod_lt (c + x.toNat * f) ht
      simp; rw [Nat.mod_eq_of_lt (by omega)]; omega
    · exact mid_lt f t ht ht2 xs _ d hd
theorem baseStep_lt (f t : Nat) (ht : 0 < t) (ht2 : t ≤ 256) (xs : List UInt8) (c : Nat) : ∀ d ∈ baseStep f t xs c, d.toNat < t := by
  intro d hd
  simp only [baseStep, List.mem_append] at hd
  rcases hd with hd | hd
  · exact mid_lt f t ht ht2 _ _ d hd
  · exact pushes_lt t ht ht2 _ _ d hd
theorem baseL_lt (f t : Nat) (ht : 0 < t) (ht2 : t ≤ 256) (l : List UInt8) : ∀ d ∈ baseL f t l, d.toNat < t := by
  rcases List.eq_nil_or_concat l with rfl | ⟨l', d0, rfl⟩
  · simp [baseL]
  · rw [List.concat_eq_append, baseL_snoc]
    exact baseStep_lt f t ht ht2 _ _
def b58L (bs : List UInt8) : List UInt8 := List.replicate (lz bs) 49 ++ (baseL 256 58 bs).reverse.map let58
end Go.Proofs.YtkiigonikeeikaaGreatDoor

/-! text.base, walked. -/
namespace Go.Proofs.YtkiigonikeeikaaGreatDoor
open Go.RowKit Go.Shelf
attribute [local go_sem] Oper.semAt_some


set_option maxRecDepth 100000 in
set_option maxHeartbeats 4000000 in
theorem base_in (F : Fence) (hF : ∀ k, F.fn k) (hro : F.round = none) (n : Nat) (hn : 3 ≤ n) (f t : Nat) (hf : 1 ≤ f) (hf2 : f ≤ 256) (ht : 2 ≤ t) (ht2 : t ≤ 256) (A : Option Addr) (cap : Nat) (bs : List UInt8) (hl : bs.length ≤ 4096) (w : World) (hs : Sl w w.heap.size A (B8 bs)) :
    CallsIn F n Tryz.prog 70 #[.slice A bs.length cap, .int .i64 f, .int .i64 t] w fun e W' => ∃ v, e = .returned v ∧ Ow W' w.heap.size 5 v (B8 (baseL f t bs.reverse)) ∧ Below w.heap.size w W' := by
  have h1 : 1 ≤ n := by omega
  obtain ⟨i0, hi, hz0, hz1, hz2⟩ := info_parts u8_info
  refine callsIn_of_wp_marks Tryz.func70 rfl (hF _) ?_ hro
  simp only [Tryz.ntmps70, List.size_toArray, List.length_cons, List.length_nil, Nat.reduceAdd, Nat.reduceSub, Array.replicate_succ, Array.replicate_zero, List.push_toArray, List.append_toArray, List.nil_append, List.cons_append]
  gi_wp2_with (gi_at_call 69; refine (bwdB_in F hF hro _ _ _ _ _).mono ?_; rintro e w' ⟨rfl, rfl⟩)
  obtain ⟨B, hB⟩ : ∃ B, B = w.heap.size := ⟨_, rfl⟩
  rw [← hB] at hs ⊢
  obtain ⟨W0, hW0⟩ : ∃ W0, W0 = (((w.alloc (Obj.cells #[Value.int IntKind.i64 f] 3)).alloc (Obj.cells #[Value.int IntKind.i64 t] 3)).alloc (Obj.cells #[Value.slice none 0 0] 23)).alloc (Obj.cells #[Value.slice A bs.length cap] 23) := ⟨_, rfl⟩
  rw [← hW0]
  have b0 : Boxed W0 B 3 (.int .i64 f) := by rw [hW0, hB]; exact (((Boxed.new w _ _).alloc _).alloc _).alloc _
  have b1 : Boxed W0 (B + 1) 3 (.int .i64 t) := by rw [hW0, hB]; have := (((Boxed.new (w.alloc (Obj.cells #[Value.int IntKind.i64 f] 3)) 3 (.int .i64 t)).alloc (Obj.cells #[Value.slice none 0 0] 23)).alloc (Obj.cells #[Value.slice A bs.length cap] 23)); simpa using this
  have b2 : Boxed W0 (B + 2) 23 (.slice none 0 0) := by rw [hW0, hB]; have := (Boxed.new ((w.alloc (Obj.cells #[Value.int IntKind.i64 f] 3)).alloc (Obj.cells #[Value.int IntKind.i64 t] 3)) 23 (.slice none 0 0)).alloc (Obj.cells #[Value.slice A bs.length cap] 23); simpa using this
  have b3 : Boxed W0 (B + 3) 23 (.slice A bs.length cap) := by rw [hW0, hB]; have := (Boxed.new (((w.alloc (Obj.cells #[Value.int IntKind.i64 f] 3)).alloc (Obj.cells #[Value.int IntKind.i64 t] 3)).alloc (Obj.cells #[Value.slice none 0 0] 23)) 23 (.slice A bs.length cap)); simpa using this
  have hsz : W0.heap.size = B + 4 := by rw [hW0, hB]; simp
  have hB0 : Below B w W0 := by rw [hW0, hB]; exact ((((Below.refl _ w).alloc (Nat.le_refl _) _).alloc (by simp) _).alloc (by simp; omega) _).alloc (by simp; omega) _
  have HB := Lib.hid hB
  have hBle : B ≤ w.heap.size := by omega
  have hBge : w.heap.size ≤ B := by omega
  clear hW0 hB
  refine wpIn_rangeFunc_ownG hro h1 (gf := 89) (lb := #[.pointer (some ⟨B + 3, 0, none⟩)]) rfl (hF _) (enters_of Tryz.func89 (by kernel_rfl) rfl)
    (bwdB_stops F hF hro (n - 1) (by omega) (B + 3) B A cap bs (by omega) W0 (by omega) (by omega) b3.cell (hs.below hB0)) keepK_t (keepK_b (by omega) (by omega)) (Below.refl _ _) (fun _ => rfl)
    (fun pre W => (Boxed W B 3 (.int .i64 f) ∧ Boxed W (B + 1) 3 (.int .i64 t) ∧ ∃ v, Boxed W (B + 2) 23 v ∧ Ow W (B + 4) 5 v (B8 (baseL f t (pre.map (·.2))))) ∧ Below B W0 W)
    (fun _ _ _ => False)
    (OwnFrom.and (Go.Own.from (fun s A B row hs hg hr => ⟨boxed_others hs.1 hg hr, boxed_others hs.2.1 hg hr, let ⟨v, hv, ho⟩ := hs.2.2; ⟨v, boxed_others hv hg hr, ho.others hg hr⟩⟩) _) (ownFrom_below (by omega) (by omega)))
    (fun _ _ _ _ _ hs _ _ => hs)
    ⟨⟨b0, b1, _, b2, Ow.nil_ _ _ _ _⟩, Below.refl _ _⟩
    (fun x => { tmps := #[.slice A bs.length cap, .int .i64 f, .int .i64 t, undef, .pointer (some ⟨B, 0, none⟩), .pointer (some ⟨B + 1, 0, none⟩), .slice none 0 0, .pointer (some ⟨B + 2, 0, none⟩), undef, .int .u8 (x.2.toNat : Int), undef, undef, undef, .slice A bs.length cap, .func (.func 89) #[] #[.pointer (some ⟨B + 3, 0, none⟩)], .int .i64 (x.1 : Int), .int .u8 (x.2.toNat : Int), undef, undef, undef, undef, undef, undef, undef, undef, undef, undef, undef, undef, undef, undef, undef, undef, undef, undef, undef, undef, undef, undef, undef, undef, undef, undef, undef, undef, undef, undef, undef, undef, undef, undef, undef, undef, undef, undef, undef], defers := [] }) ?assign ?body ?done ?stop
  case assign =>
    intro l x W K hK
    gi_wp2
    exact hK
  case body =>
    have hsz0 : B + 4 ≤ W0.heap.size := by omega
    clear hs b0 b1 b2 b3 hB0 hsz
    rintro l pre x W ⟨⟨h0, h1, v, h2, ho⟩, hBW⟩ hpre
    have hd : 1 ≤ n - 1 - 1 := by omega
    have c0 := h0.cell
    have c1 := h1.cell
    have c2 := h2.cell
    have f2 := h2.frozen
    obtain ⟨xs, hxs⟩ : ∃ xs, xs = baseL f t (pre.map (·.2)) := ⟨_, rfl⟩
    rw [← hxs] at ho
    have hxl : xs.length ≤ 69632 := by rw [hxs]; have := baseL_len f t hf2 ht (pre.map (·.2)); simp at this; omega
    have Hxs := Lib.hid hxs
    clear hxs
    obtain ⟨Av, cv, rfl⟩ : ∃ Av cv, v = .slice Av xs.length cv := by obtain ⟨Av, cv, e, _⟩ := ho; exact ⟨Av, cv, by simpa using e⟩
    have hx2 := x.2.toNat_lt
    have hd2 : x.2.toNat ≤ 65536 := by omega
    obtain ⟨d, hdd⟩ : ∃ d, d = x.2.toNat := ⟨_, rfl⟩
    rw [← hdd] at hd2
    have Hd := Lib.hid hdd
    gi_wp2
    rw [← hdd]
    clear hdd hx2
    gi_loopw [10, 21] (fun cr i wr => ∃ k c : Nat, k ≤ xs.length ∧ i = .int .i64 k ∧ cr = .int .i64 c ∧ c ≤ 65536 ∧ Hid (c = (mid f t (xs.take k) d).2) ∧ Boxed wr B 3 (.int .i64 f) ∧ Boxed wr (B + 1) 3 (.int .i64 t) ∧
        Boxed wr (B + 2) 23 (.slice Av xs.length cv) ∧ Ow wr (B + 4) 5 (.slice Av xs.length cv) (B8 ((mid f t (xs.take k) d).1 ++ xs.drop k)) ∧ Below B W0 wr ∧ Keep B (B + 3) W wr ∧ KeepsOthers W wr) (fun _ i _ => xs.length - (intOf i).toNat)
    case atStart => exact ⟨0, d, Nat.zero_le _, rfl, rfl, hd2, rfl, h0, h1, h2, by simpa [mid] using ho, hBW, Keep.refl _ _ _, KeepsOthers.refl _⟩
    case round =>
      clear h0 h1 h2 c0 c1 c2 f2 ho hBW
      obtain ⟨k, c, hk, rfl, rfl, hc, Hc, h0, h1, h2, ho, hBW, hWW, hKO⟩ := hrel
      have c0 := h0.cell
      have c1 := h1.cell
      have c2 := h2.cell
      have f2 := h2.frozen
      by_cases hlt : k < xs.length
      · obtain ⟨m, hm⟩ : ∃ m, m = (mid f t (xs.take k) d).1 := ⟨_, rfl⟩
        have hml : m.length = k := by rw [hm, mid_len, List.length_take]; omega
        rw [← hm] at ho
        have Hm := Lib.hid hm
        clear hm
        obtain ⟨g, rfl, hg, hrow, hcell, hfr⟩ := ho.at_ (j := k) (by simp; omega)
        have hv : (B8 (m ++ xs.drop k))[k]'(by simp; omega) = .int .u8 (xs[k].toNat : Int) := by
          rw [B8_get, List.getElem_append_right (by omega)]
          simp [hml]
        rw [hv] at hcell
        have hxk := xs[k].toNat_lt
        have Hml := Lib.hid hml
        clear hv hml
        have Hrow := Lib.hid hrow
        clear hrow
        have b1 : 0 ≤ (xs[k].toNat : Int) * (f : Int) := by exact Int.mul_nonneg (by omega) (by omega)
        have b2 : (xs[k].toNat : Int) * (f : Int) ≤ 65280 := by
          have : xs[k].toNat * f ≤ 255 * 256 := Nat.mul_le_mul (by omega) hf2
          have h : ((xs[k].toNat * f : Nat) : Int) ≤ 65280 := by omega
          rwa [Int.natCast_mul] at h
        gi_wp2
        have hmx : Tryz.prog.follows .mixedOrders = true := by kernel_rfl
        refine wpIn_region_plan [(0, 1), (1, 0), (2, 0), (3, 1), (4, 0), (5, 0), (6, 0), (7, 2)] 7 (fun _ => hF _) hmx (by kernel_rfl) (by intro c a d v w h; cases d <;> exact h) ?_
        repeat ((first | (refine wpPlan_pure rfl (fun K hK => ?_)) | (refine wpPlan_quiet rfl (fun K hK => ?_))); go_simp; (first | (refine hK _ ?_) | (simp only [IntWalk.iteOmega]; go_simp; refine hK _ ?_) | (go_bits; go_simp; refine hK _ ?_)); clear hK K; (try go_bits))
        refine wpPlanIn_loud rfl rfl (fun K hK => ?_)
        gi_wp2
        refine ⟨.inl (by decide), wpPlan_nil ?_⟩
        gi_wp2
        have Bw : B ≤ (⟨g, k, none⟩ : Addr).block := by show B ≤ g; omega
        refine ⟨⟨k + 1, (c + xs[k].toNat * f) / t, by omega, by go_num, by simp, ?_, ?_, boxed_far h0 (p := ⟨g, k, none⟩) (by show B ≠ g; omega) _, boxed_far h1 (p := ⟨g, k, none⟩) (by show B + 1 ≠ g; omega) _, boxed_far h2 (p := ⟨g, k, none⟩) (by show B + 2 ≠ g; omega) _, ?_, hBW.setCell Bw _ |>.drew, keepK_t hWW ⟨((Below.refl B wr).setCell Bw _).drew, Below.heap_setCell wr ⟨g, k, none⟩ _ (B + 3) (by show B + 3 ≠ g; omega)⟩, hKO.trans ((KeepsOthers.setCell _ _ _).trans (KeepsOthers.drew _))⟩, by simp [intOf]; omega⟩
        · have := Nat.div_le_div_left (a := c + xs[k].toNat * f) ht (by omega)
          have hb : xs[k].toNat * f ≤ 255 * 256 := Nat.mul_le_mul (by omega) hf2
          omega
        · show _ = _
          rw [List.take_succ_eq_append_getElem hlt, mid_snoc, ← Hc.out]
        · have hs := ho.store k (by have := ho.len; simp at this; omega) (.int .u8 ((((c : Int) + (xs[k].toNat : Int) * (f : Int)) % (t : Int)) % 256))
          have e : (B8 (m ++ xs.drop k)).set k (.int .u8 ((((c : Int) + (xs[k].toNat : Int) * (f : Int)) % (t : Int)) % 256)) = B8 ((mid f t (xs.take (k + 1)) d).1 ++ xs.drop (k + 1)) := by
            rw [List.take_succ_eq_append_getElem hlt, mid_snoc, ← Hc.out, ← Hm.out]
            have hd : xs.drop k = xs[k] :: xs.drop (k + 1) := by rw [List.getElem_cons_drop]
            rw [hd]
            simp only [B8, List.map_append, List.map_cons]
            rw [List.set_append_right _ _ (by simp [Hml.out])]
            simp [Hml.out]
          rw [e] at hs
          exact hs
      · obtain rfl : k = xs.length := by omega
        rw [List.take_length, List.drop_length, List.append_nil] at ho
        rw [List.take_length] at Hc
        gi_wp2
        obtain ⟨fin, hfin⟩ : ∃ fin, fin = baseStep f t xs d := ⟨_, rfl⟩
        have hfl : fin.length ≤ 69649 := by rw [hfin]; have := baseStep_len f t hf2 ht xs d hd2; omega
        have Hfin := Lib.hid hfin
        clear hfin
        gi_loopw [10] (fun cr wq => ∃ (c : Nat) (v : Value) (ys : List UInt8), cr = .int .i64 c ∧ c ≤ 65536 ∧ Hid (ys ++ pushes t c c = fin) ∧ Boxed wq B 3 (.int .i64 f) ∧ Boxed wq (B + 1) 3 (.int .i64 t) ∧
          Boxed wq (B + 2) 23 v ∧ Ow wq (B + 4) 5 v (B8 ys) ∧ Below B W0 wq ∧ Keep B (B + 3) W wq ∧ KeepsOthers W wq) (fun cr _ => (intOf cr).toNat)
        case atStart => exact ⟨c, _, _, rfl, hc, by rw [Hfin.out]; unfold baseStep; rw [← Hc.out]; rfl, h0, h1, h2, ho, hBW, hWW, hKO⟩
        case round =>
          clear h0 h1 h2 c0 c1 c2 f2 ho hBW hWW hKO Hc hc hk hlt
          obtain ⟨c, v, ys, rfl, hc, hfe, h0, h1, h2, ho, hBW, hWW, hKO⟩ := hrel
          have hyl : ys.length ≤ 69649 := by have := congrArg List.length hfe.out; simp at this; omega
          have c0 := h0.cell
          have c1 := h1.cell
          have c2 := h2.cell
          have f2 := h2.frozen
          obtain ⟨Ay, cy, rfl⟩ : ∃ Ay cy, v = .slice Ay ys.length cy := by obtain ⟨Ay, cy, e, _⟩ := ho; exact ⟨Ay, cy, by simpa using e⟩
          by_cases hc0 : 0 < c
          · have hmx : Tryz.prog.follows .mixedOrders = true := by kernel_rfl
            have hne := ho.row_ne_box h2 (by decide)
            have hne0 := ho.row_ne_box h0 (by decide)
            have hne1 := ho.row_ne_box h1 (by decide)
            have hrow := ho.row
            have hq0 : (0 : Int) ≤ (c : Int) / (t : Int) := Int.ediv_nonneg (by omega) (by omega)
            have hq1 : (c : Int) / (t : Int) ≤ 65536 := by have := Int.ediv_le_self (a := (c : Int)) (t : Int) (by omega); omega
            gi_wp2
            refine wpIn_region_plan [(0, 1), (1, 0), (2, 1), (3, 0), (4, 0), (5, 2), (6, 2), (7, 2)] 6 (fun _ => hF _) hmx (by kernel_rfl) (by intro c a d v w h; cases d <;> exact h) ?_
            repeat ((first | (refine wpPlan_pure rfl (fun K hK => ?_)) | (refine wpPlan_quiet rfl (fun K hK => ?_))); go_simp; (first | (refine hK _ ?_) | (simp only [IntWalk.iteOmega]; go_simp; refine hK _ ?_) | (go_bits; go_simp; refine hK _ ?_)); clear hK K; (try go_bits))
            refine wpPlanIn_loud rfl rfl (fun K hK => ?_)
            gi_wp2
            refine ⟨.inr (ext_alloc_drew _ _), ?_⟩
            refine wpPlanIn_loud rfl rfl (fun K hK => ?_)
            refine wpIn_append_Ow (F := F.inRound l) (v := .slice Ay ys.length cy) (m := 1) (c := 1) (fun _ => hF _) elB (.tmp 48) (.tmp 53) rfl rfl (ho.alloc _).drew rfl (Sl.one wr _ _).drew rfl ?_ ?_ ?_ ?_ ?_
            · intro u hu; simp at hu; subst hu; rfl
            · simp [maxLen]; omega
            · simp; omega
            · have := hBW.size; simp; omega
            intro v' w1 ho1 hg1 hr1
            have hgB : ∀ g, rowOf (.slice Ay ys.length cy) = some g → B + 4 ≤ g := fun g hg => by have := hrow g hg; omega
            have hn1 : ∀ b, b < wr.heap.size → (∀ g, rowOf (.slice Ay ys.length cy) = some g → g ≠ b) → some b ≠ rowOf (.slice Ay ys.length cy) := fun b _ h e => h b e.symm rfl
            have h0' : Boxed w1 B 3 (.int .i64 f) := (boxed_drew (h0.alloc _)).kept hg1 (hn1 _ h0.lt hne0)
            have h1' : Boxed w1 (B + 1) 3 (.int .i64 t) := (boxed_drew (h1.alloc _)).kept hg1 (hn1 _ h1.lt hne1)
            have h2' := Boxed.kept (boxed_drew (h2.alloc _)) hg1 (hn1 _ h2.lt hne)
            have c1' := h1'.cell
            have c2' := h2'.cell
            have f2' := h2'.frozen
            have k1 : KeepsOthers wr w1 := (KeepsOthers.alloc wr _).trans ((KeepsOthers.drew _).trans ((ho.alloc _).drew.keepsOthers hg1 rfl))
            have hws := hBW.size
            have bl : Below B wr w1 := ((Below.refl B wr).alloc (by omega) _).drew.grown hg1 (by simp; omega) (fun g hg => by have := hgB g hg; omega)
            have ho2 : ∀ u, Ow (w1.setCell ⟨B + 2, 0, none⟩ u) (B + 4) 5 v' (B8 (ys ++ [UInt8.ofNat (c % t)])) := fun u => by
              rw [B8_append, B8_one]
              have e : ((c : Int) % (t : Int) % 256) = ((UInt8.ofNat (c % t)).toNat : Int) := by simp
              rw [← e]
              exact ho1.setCell (fun g hg => by have := ho1.row g hg; show B + 2 ≠ g; omega) u
            obtain ⟨Av', cv', rfl⟩ : ∃ Av' cv', v' = .slice Av' (ys.length + 1) cv' := by obtain ⟨A', c', e, _⟩ := ho1; exact ⟨A', c', by simpa using e⟩
            refine hK _ _ ⟨.inl (by decide), ?_⟩
            clear hK K
            refine wpPlanIn_loud rfl rfl (fun K hK => ?_)
            gi_wp2
            refine ⟨.inl (by decide), wpPlan_nil ?_⟩
            gi_wp2
            refine ⟨⟨c / t, .slice Av' (ys.length + 1) cv', ys ++ [UInt8.ofNat (c % t)], by simp, ?_, ?_, h0'.other (by omega) _, h1'.other (by omega) _, ?_, ?_, ?_, ?_, ?_⟩, ?_⟩
            · exact Nat.le_trans (Nat.div_le_self c t) hc
            · show _ = _
              rw [← hfe.out, pushes_pos t c ht hc0]; simp
            · simpa using h2'.set _
            · simpa using ho2 _
            · exact (hBW.trans bl).setCell (p := ⟨B + 2, 0, none⟩) (by show B ≤ B + 2; omega) _
            · exact keepK_t hWW ⟨bl.setCell (p := ⟨B + 2, 0, none⟩) (by show B ≤ B + 2; omega) _, (Below.heap_setCell w1 ⟨B + 2, 0, none⟩ _ (B + 3) (by show B + 3 ≠ B + 2; omega)).trans ((hg1.block (B + 3) (by simp; omega) (fun e => by have := hgB _ e.symm; omega)).trans (Below.heap_alloc wr _ (B + 3) (by omega)))⟩
            · exact hKO.trans (k1.trans (KeepsOthers.setCell _ _ _))
            · have : c / t < c := Nat.div_lt_self hc0 (by omega)
              simp [intOf]; omega
          · obtain rfl : c = 0 := by omega
            gi_wp2
            refine ⟨hKO.from _, hWW, ⟨h0, h1, _, h2, ?_⟩, hBW⟩
            have e : ys = baseL f t ((pre ++ [x]).map (·.2)) := by
              have := hfe.out
              rw [pushes_zero, List.append_nil, Hfin.out, Hxs.out, Hd.out] at this
              rw [this]; simp [baseL_snoc]
            rw [← e]; exact ho
  case done =>
    rintro D ys W hD rfl ⟨⟨_, _, v, h2, ho⟩, hB⟩ hK
    have c2 := h2.cell
    gi_wp2
    refine ⟨by simp, .inl ⟨_, _, rfl, run_takeDeferred hK, ?_⟩⟩
    refine ⟨_, results_tmp rfl _ _ _, v, rfl, ?_, ?_⟩
    · rw [bwd_bytes] at ho
      rw [← HB.out]
      exact (ho.others (grownBy_putObj' _ D (.deferred none)) (fun r e => by cases e; exact ⟨_, hK, rfl⟩)).mono (by omega)
    · rw [← HB.out]
      exact hB0.trans (hB.trans (belowK_b (w := W0) (by omega) W D _ _ hD hK rfl rfl))
  case stop =>
    rintro D c pre W _ _ h _
    exact h.elim

theorem base_any (f t : Nat) (hf : 1 ≤ f) (hf2 : f ≤ 256) (ht : 2 ≤ t) (ht2 : t ≤ 256) (A : Option Addr) (cap : Nat) (bs : List UInt8) (hl : bs.length ≤ 4096) (w : World) (hs : Sl w w.heap.size A (B8 bs)) :
    Calls Tryz.prog 70 #[.slice A bs.length cap, .int .i64 f, .int .i64 t] w fun e W' => ∃ v, e = .returned v ∧ Ow W' w.heap.size 5 v (B8 (baseL f t bs.reverse)) ∧ Below w.heap.size w W' :=
  (callsIn_wide (n := 3)).1 (base_in Fence.wide (fun _ => trivial) rfl 3 (Nat.le_refl _) f t hf hf2 ht ht2 A cap bs hl w hs)
end Go.Proofs.YtkiigonikeeikaaGreatDoor
