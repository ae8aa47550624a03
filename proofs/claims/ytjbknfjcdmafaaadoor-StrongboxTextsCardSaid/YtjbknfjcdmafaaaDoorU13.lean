/- Base 58: there and back, plain. | The law TextBase58. | text.digit, text.FromHex of what Hex wrote; the reference's Digit and Hex. | text.FromHex of what Hex wrote. -/
import Derived.Test.YtjbknfjcdmafaaaDoorU12
import Derived.Test.YtjbknfjcdmafaaaDoorU11
import Derived.Test.YtjbknfjcdmafaaaDoorU10
import Derived.Test.YtjbknfjcdmafaaaDoorU9

/-! Base 58: there and back, plain. -/
namespace Go.Proofs.YtjbknfjcdmafaaaDoor
open Go.RowKit

theorem horner_front (f : Nat) (l : List UInt8) : ∀ z : Nat, horner f (List.replicate z 0 ++ l) = horner f l
  | 0 => rfl
  | z + 1 => by
    rw [List.replicate_succ, List.cons_append]
    have h := horner_front f l z
    unfold horner at h ⊢
    rw [List.foldl_cons]
    simpa using h
theorem horner_lt (f : Nat) (hf : 1 ≤ f) (l : List UInt8) (hl : ∀ d ∈ l, d.toNat < f) : horner f l < f ^ l.length := by
  induction hn : l.length generalizing l with
  | zero => rw [List.length_eq_zero_iff.1 hn]; simp [horner]
  | succ n ih =>
    rcases List.eq_nil_or_concat l with rfl | ⟨l', d0, rfl⟩
    · simp at hn
    · rw [List.concat_eq_append] at hn hl ⊢
      rw [horner_snoc, Nat.pow_succ]
      have h1 := ih l' (fun d hd => hl d (by simp [hd])) (by simpa using hn)
      have h2 := hl d0 (by simp)
      have h3 : (horner f l' + 1) * f ≤ f ^ n * f := Nat.mul_le_mul_right f h1
      rw [Nat.add_mul] at h3
      omega
theorem pushes_lenT (t : Nat) (ht : 2 ≤ t) : ∀ (k c : Nat), c < t ^ k → (pushes t c c).length ≤ k
  | 0, c, h => by
    obtain rfl : c = 0 := by simpa using h
    simp [pushes]
  | k + 1, c, h => by
    by_cases h0 : c = 0
    · subst h0; simp [pushes]
    · rw [pushes_pos t c ht (by omega), List.length_cons]
      have := pushes_lenT t ht k (c / t) (by rw [Nat.div_lt_iff_lt_mul (by omega)]; rwa [← Nat.pow_succ])
      omega
theorem pow_256_58 (m : Nat) : 256 ^ m ≤ 58 ^ (3 * ((m + 1) / 2)) := by
  have h1 : 256 ^ m ≤ 256 ^ (2 * ((m + 1) / 2)) := Nat.pow_le_pow_right (by omega) (by omega)
  have h2 : 256 ^ (2 * ((m + 1) / 2)) ≤ 58 ^ (3 * ((m + 1) / 2)) := by
    rw [Nat.pow_mul, Nat.pow_mul]
    exact Nat.pow_le_pow_left (by decide) _
  omega
/-- The noughts in front, and the rest. -/
theorem lz_split : ∀ b : List UInt8, ∃ r, b = List.replicate (lz b) 0 ++ r ∧ ∀ d, r.head? = some d → d.toNat ≠ 0
  | [] => ⟨[], rfl, by simp⟩
  | x :: b => by
    by_cases hx : x = 0
    · obtain ⟨r, h1, h2⟩ := lz_split b
      refine ⟨r, ?_, h2⟩
      simp only [lz, if_pos hx, List.replicate_succ, List.cons_append]
      rw [← h1, hx]
    · refine ⟨x :: b, by simp [lz, hx], ?_⟩
      intro d hd e
      simp at hd
      subst hd
      exact hx (UInt8.toNat_inj.1 (by simpa using e))
theorem lz_replicate (z : Nat) (r : List UInt8) (h : ∀ d, r.head? = some d → d.toNat ≠ 0) : lz (List.replicate z 0 ++ r) = z := by
  induction z with
  | zero =>
    match r, h with
    | [], _ => rfl
    | x :: r, h =>
      have := h x rfl
      have hx : x ≠ 0 := fun e => this (by simp [e])
      simp [lz, hx]
  | succ z ih => simp [List.replicate_succ, lz, ih]

theorem dig_let (d : UInt8) (hd : d.toNat < 58) : dig58 (let58 d) = d := by
  have h : ∀ k : Fin 58, dig58 (let58 (UInt8.ofNat k.val)) = UInt8.ofNat k.val := by decide
  have := h ⟨d.toNat, hd⟩
  simpa using this
theorem let_mem (d : UInt8) (hd : d.toNat < 58) : let58 d ∈ letters58 := by
  have h : ∀ k : Fin 58, let58 (UInt8.ofNat k.val) ∈ letters58 := by decide
  have := h ⟨d.toNat, hd⟩
  simpa using this
theorem let_dig (c : UInt8) (hc : c ∈ letters58) : let58 (dig58 c) = c := by
  have h : ∀ c ∈ letters58, let58 (dig58 c) = c := by decide
  exact h c hc
theorem dig_zero (c : UInt8) (hc : c ∈ letters58) (h0 : (dig58 c).toNat = 0) : c = 49 := by
  have h : ∀ c ∈ letters58, (dig58 c).toNat = 0 → c = 49 := by decide
  exact h c hc h0
theorem let_one (d : UInt8) (hd : d.toNat < 58) (h : let58 d = 49) : d.toNat = 0 := by
  have hh : ∀ k : Fin 58, let58 (UInt8.ofNat k.val) = 49 → k.val = 0 := by decide
  have := hh ⟨d.toNat, hd⟩ (by simpa using h)
  exact this
theorem drop_ones (z : Nat) (r : List UInt8) (h : ∀ d, r.head? = some d → d ≠ 49) : (List.replicate z 49 ++ r).dropWhile (· == 49) = r := by
  induction z with
  | zero =>
    match r, h with
    | [], _ => rfl
    | x :: r, h =>
      have := h x rfl
      simp [this]
  | succ z ih => simp [List.replicate_succ, ih]
theorem byte_lt (l : List UInt8) : ∀ d ∈ l, d.toNat < 256 := fun d _ => d.toNat_lt

/-- WRITTEN AND READ BACK. -/
theorem from_to (b : List UInt8) (hb : b.length ≤ 124) : fromS (b58L b) = (0, b) := by
  obtain ⟨r, h1, h2⟩ := lz_split b
  obtain ⟨z, hz⟩ : ∃ z, z = lz b := ⟨_, rfl⟩
  rw [← hz] at h1
  obtain ⟨V, hV⟩ : ∃ V, V = horner 256 r := ⟨_, rfl⟩
  have hVb : horner 256 b = V := by rw [h1, horner_front, hV]
  have hbl : z + r.length = b.length := by rw [h1]; simp
  have hD : baseL 256 58 b = pushes 58 V V := by rw [baseL_pushes 256 58 (by omega) (by omega) (by omega), hVb]
  obtain ⟨D, hDD⟩ : ∃ D, D = pushes 58 V V := ⟨_, rfl⟩
  have hdig : ∀ d ∈ D, d.toNat < 58 := by rw [hDD]; exact pushes_digits 58 (by omega) (by omega) V
  have htop : ∀ d, D.reverse.head? = some d → d.toNat ≠ 0 := by rw [hDD]; exact pushes_top 58 (by omega) (by omega) V V (Nat.le_refl _)
  have hlen : D.length ≤ 3 * ((r.length + 1) / 2) := by
    rw [hDD]
    exact pushes_lenT 58 (by omega) _ _ (Nat.lt_of_lt_of_le (by rw [hV]; exact horner_lt 256 (by omega) r (byte_lt r)) (pow_256_58 _))
  have hs : b58L b = List.replicate z 49 ++ D.reverse.map let58 := by rw [b58L, ← hz, hD, hDD]
  have hsl : (b58L b).length = z + D.length := by rw [hs]; simp
  have hall : ∀ c ∈ b58L b, c ∈ letters58 := by
    intro c hc
    rw [hs, List.mem_append] at hc
    rcases hc with hc | hc
    · rw [(List.mem_replicate.1 hc).2]; decide
    · obtain ⟨d, hd, rfl⟩ := List.mem_map.1 hc
      exact let_mem d (hdig d (List.mem_reverse.1 hd))
  have hdrop : (b58L b).dropWhile (· == 49) = D.reverse.map let58 := by
    rw [hs]
    refine drop_ones z _ ?_
    intro d hd e
    rw [List.head?_map] at hd
    obtain ⟨x, hx, hxd⟩ := Option.map_eq_some_iff.1 hd
    exact htop x hx (let_one x (hdig x (List.mem_reverse.1 (List.mem_of_mem_head? hx))) (by rw [hxd, e]))
  have hmap : (b58L b).map dig58 = List.replicate z 0 ++ D.reverse := by
    rw [hs, List.map_append, List.map_replicate, List.map_map]
    congr 1
    conv => rhs; rw [← List.map_id D.reverse]
    exact List.map_congr_left fun d hd => dig_let d (hdig d (List.mem_reverse.1 hd))
  have hback : baseL 58 256 ((b58L b).map dig58) = r.reverse := by
    rw [baseL_pushes 58 256 (by omega) (by omega) (by omega), hmap, horner_front, hDD, horner_pushes 58 (by omega) (by omega) V V (Nat.le_refl _), hV]
    exact (pushes_horner 256 (by omega) r (byte_lt r) h2).1
  rw [fromS, if_neg (by omega), if_pos hall, hback, hdrop, hsl, List.reverse_reverse]
  rw [show z + D.length - (D.reverse.map let58).length = z from by simp, ← h1]
theorem fromC_to (b : List UInt8) (hb : b.length ≤ 120) : fromC (b58L (checked b)) = (0, b) := by
  have h := from_to (checked b) (by rw [checked_length]; omega)
  have hl := checked_length b
  unfold fromC
  rw [h]
  simp only [ne_eq, not_true_eq_false, if_false, hl]
  rw [if_neg (by omega), show b.length + 4 - 4 = b.length from by omega]
  have ht : (checked b).take b.length = b := by rw [checked]; simp
  have hd : (checked b).drop b.length = (sha (sha b)).take 4 := by rw [checked]; simp
  rw [ht, hd, if_pos rfl]
/-- READ AND WRITTEN AGAIN. -/
theorem to_from (s : List UInt8) (h : (fromS s).1 = 0) : b58L (fromS s).2 = s := by
  unfold fromS at h ⊢
  split at h
  · simp at h
  rename_i h250
  split at h
  case isFalse => simp at h
  rename_i hall
  rw [if_neg h250, if_pos hall]
  clear h
  obtain ⟨t, ht⟩ : ∃ t, t = s.dropWhile (· == 49) := ⟨_, rfl⟩
  obtain ⟨z, hz⟩ : ∃ z, z = s.length - t.length := ⟨_, rfl⟩
  have hs : s = List.replicate z 49 ++ t := by rw [hz, ht]; exact dropWhile_split s
  have hthead : ∀ d, t.head? = some d → d ≠ 49 := by
    intro d hd
    have := List.head?_dropWhile_not (· == 49) s
    rw [← ht, hd] at this
    simpa using this
  have htall : ∀ c ∈ t, c ∈ letters58 := fun c hc => hall c (by rw [hs]; simp [hc])
  have hmap : s.map dig58 = List.replicate z 0 ++ t.map dig58 := by
    rw [hs, List.map_append, List.map_replicate]; rfl
  obtain ⟨W, hW⟩ : ∃ W, W = horner 58 (t.map dig58) := ⟨_, rfl⟩
  have hbase : baseL 58 256 (s.map dig58) = pushes 256 W W := by
    rw [baseL_pushes 58 256 (by omega) (by omega) (by omega), hmap, horner_front, hW]
  show b58L (List.replicate (s.length - (s.dropWhile (· == 49)).length) 0 ++ (baseL 58 256 (s.map dig58)).reverse) = s
  rw [hbase, ← ht, ← hz, b58L, lz_replicate z _ (pushes_top 256 (by omega) (by omega) W W (Nat.le_refl _))]
  rw [baseL_pushes 256 58 (by omega) (by omega) (by omega), horner_front, horner_pushes 256 (by omega) (by omega) W W (Nat.le_refl _), hW]
  rw [(pushes_horner 58 (by omega) (t.map dig58) (fun d hd => by obtain ⟨c, hc, rfl⟩ := List.mem_map.1 hd; exact dig58_lt c (htall c hc)) (fun d hd e => by
    rw [List.head?_map] at hd
    obtain ⟨c, hc, rfl⟩ := Option.map_eq_some_iff.1 hd
    exact hthead c hc (dig_zero c (htall c (List.mem_of_mem_head? hc)) e))).1]
  rw [List.reverse_reverse, List.map_map]
  conv => rhs; rw [hs]
  congr 1
  conv => rhs; rw [← List.map_id t]
  exact List.map_congr_left fun c hc => let_dig c (htall c hc)
end Go.Proofs.YtjbknfjcdmafaaaDoor

/-! The law TextBase58. -/
namespace Go.Proofs.YtjbknfjcdmafaaaDoor
open Go.RowKit Go.Shelf

theorem spare_sl {w' : World} {g : Nat} {b : List UInt8} (h : w'.heap[g]? = some (.cells (B8 (spareB b)).toArray 5 (0, 0))) : Sl w' w'.heap.size (some ⟨g, 0, none⟩) (B8 (spareB b)) := fun _ =>
  ⟨g, 0, rfl, (Array.getElem?_eq_some_iff.1 h).1, fun j hj => by rw [Nat.zero_add, Lib.cell_of_heap h]; simp [hj]⟩
theorem b8_take (b : List UInt8) (n : Nat) : B8 (b.take n) = (B8 b).take n := by simp [B8]
theorem spare_take (b : List UInt8) : (spareB b).take b.length = b := by
  apply List.ext_getElem
  · simp [spareB_len]
  · intro j h1 h2
    rw [List.getElem_take, spareB_lo b j h2]

theorem len_of_from {s b : List UInt8} (h : fromS s = (0, b)) : s.length ≤ 250 := by
  by_cases h1 : 250 < s.length
  · rw [fromS, if_pos h1] at h; simp at h
  · omega
theorem len_of_fromC {s b : List UInt8} (h : fromC s = (0, b)) : s.length ≤ 250 := by
  by_cases h1 : 250 < s.length
  · have : (fromS s).1 = 2 := by rw [fromS, if_pos h1]
    rw [fromC, if_pos (by omega), this] at h; simp at h
  · omega
theorem size_mk (l : List UInt8) : (⟨l.toArray⟩ : ByteArray).size = l.length := by simp [ByteArray.size]
end Go.Proofs.YtjbknfjcdmafaaaDoor

/-! text.digit, text.FromHex of what Hex wrote; the reference's Digit and Hex. -/
namespace Go.Proofs.YtjbknfjcdmafaaaDoor
open Go.RowKit Go.Shelf

theorem hexd_small (d : Nat) (hd : d < 16) : (hexd d).toNat < 65 ∨ 70 < (hexd d).toNat := by
  have : ∀ d : Fin 16, (hexd d.val).toNat < 65 ∨ 70 < (hexd d.val).toNat := by decide
  exact this ⟨d, hd⟩
theorem hexd_place (d : Nat) (hd : d < 16) : placeZ hexLetters (hexd d) = (d : Int) := by
  have : ∀ d : Fin 16, placeZ hexLetters (hexd d.val) = (d.val : Int) := by decide
  exact this ⟨d, hd⟩

set_option maxRecDepth 100000 in
set_option maxHeartbeats 2000000 in
theorem digit_any (d : Nat) (y : UInt8) (hd : d < 16) (hy : y = hexd d) (w : World) :
    Calls Tryd.prog 14 #[.int .u8 (y.toNat : Int)] w fun e w' => e = .returned (.int .i64 (d : Int)) ∧ w' = w := by
  have hix := Tryd.strings_IndexByte ⟨hexLetters.toArray⟩ (y.toNat : Int)
  rw [show (⟨hexLetters.toArray⟩ : ByteArray).data.toList = hexLetters from rfl, indexByte_placeZ, show ((y.toNat : Int)).toNat.toUInt8 = y from by simp, hy, hexd_place d hd, ← hy] at hix
  have hs := hexd_small d hd
  rw [← hy] at hs
  have Hix := Lib.hid hix
  have hy8 := y.toNat_lt
  clear hix hy
  by_cases h65 : 65 ≤ y.toNat
  · have h70 : 70 < y.toNat := by omega
    clear hs
    go_enter Tryd.func14, Tryd.ntmps14
    go_wp2_with (go_at_call 32; refine (Hix.out _).mono ?_; rintro e w' ⟨rfl, hww⟩; rw [hww]; clear hww)
    go_ret
    exact ⟨rfl, rfl⟩
  · have h65' : y.toNat < 65 := by omega
    clear hs h65
    go_enter Tryd.func14, Tryd.ntmps14
    go_wp2_with (go_at_call 32; refine (Hix.out _).mono ?_; rintro e w' ⟨rfl, hww⟩; rw [hww]; clear hww)
    go_ret
    exact ⟨rfl, rfl⟩

theorem hexd_def (d : Nat) (hd : d < 16) : (hexd d).toNat = if d < 10 then 48 + d else 87 + d := by
  have : ∀ d : Fin 16, (hexd d.val).toNat = if d.val < 10 then 48 + d.val else 87 + d.val := by decide
  exact this ⟨d, hd⟩

set_option maxHeartbeats 2000000 in
theorem rdigit_any (d : Nat) (hd : d < 16) (w : World) :
    Calls Tryd.prog 23 #[.int .u8 (d : Int)] w fun e w' => e = .returned (.int .u8 ((hexd d).toNat : Int)) ∧ w' = w := by
  have hdef := hexd_def d hd
  by_cases h : d < 10
  · rw [if_pos h] at hdef
    have H := Lib.hid hdef
    clear hdef
    go_enter Tryd.func23, Tryd.ntmps23
    go_wp2
    go_ret
    exact ⟨by rw [H.out]; push_cast; rfl, rfl⟩
  · rw [if_neg h] at hdef
    have H := Lib.hid hdef
    clear hdef
    go_enter Tryd.func23, Tryd.ntmps23
    go_wp2
    go_ret
    refine ⟨?_, rfl⟩
    have h2 : ((hexd d).toNat : Int) = 97 + (d : Int) - 10 := by rw [H.out]; omega
    rw [h2]
    rfl
end Go.Proofs.YtjbknfjcdmafaaaDoor

/-! text.FromHex of what Hex wrote. -/
namespace Go.Proofs.YtjbknfjcdmafaaaDoor
open Go.RowKit Go.Shelf

theorem hexL_at : ∀ (bs : List UInt8) (k : Nat) (h : k < bs.length), (hexL bs)[2 * k]? = some (hexd (bs[k].toNat / 16)) ∧ (hexL bs)[2 * k + 1]? = some (hexd (bs[k].toNat % 16))
  | b :: bs, 0, _ => ⟨rfl, rfl⟩
  | b :: bs, k + 1, h => by
    have := hexL_at bs k (by simpa using h)
    exact this
theorem or_hex (a b : Nat) (ha : a < 16) (hb : b < 16) : bits .or .i64 ((a : Int) * 16) (b : Int) = ((a * 16 + b : Nat) : Int) := by
  have : ∀ (a b : Fin 16), bits .or .i64 ((a.val : Int) * 16) (b.val : Int) = ((a.val * 16 + b.val : Nat) : Int) := by decide
  exact this ⟨a, ha⟩ ⟨b, hb⟩

set_option maxRecDepth 100000 in
set_option maxHeartbeats 4000000 in
theorem fromhex_any (s : ByteArray) (bs : List UInt8) (w : World) (hs : s.data.toList = hexL bs) (hl : bs.length ≤ 4096) :
    Calls Tryd.prog 4 #[.string s] w fun e W' => ∃ v, e = .returned (.tuple #[v, .int .i64 0]) ∧ Ow W' w.heap.size 5 v (B8 bs) ∧ Below w.heap.size w W' := by
  have hS : s.size = 2 * bs.length := by have h1 := congrArg List.length hs; rw [hexL_length] at h1; simpa using h1
  have hat : ∀ (j : Nat) (h : j < s.size), (hexL bs)[j]? = some s[j] := fun j h => by rw [← hs]; simp [h]; rfl
  obtain ⟨n, hn⟩ : ∃ n, n = bs.length := ⟨_, rfl⟩
  rw [← hn] at hS
  have hS1 : s.size ≤ 2 * n := by omega
  have hS2 : 2 * n ≤ s.size := by omega
  have hmod : (s.size : Int) % 2 = 0 := by omega
  have hn4 : n ≤ 4096 := by omega
  have Hat := Lib.hid hat
  have Hn := Lib.hid hn
  clear hs hS hat hn hl
  go_enter Tryd.func4, Tryd.ntmps4
  go_wp2_with fail
  clear hmod
  go_loopw [4, 5] (fun v i wr => ∃ k : Nat, k ≤ n ∧ i = .int .i64 ((2 * k : Nat) : Int) ∧ Ow wr w.heap.size 5 v (B8 (bs.take k)) ∧ Below w.heap.size w wr) (fun _ i _ => 2 * n - (intOf i).toNat)
  case atStart => exact ⟨0, Nat.zero_le _, rfl, Ow.nil_ _ _ _ _, Below.refl _ _⟩
  case round =>
    obtain ⟨k, hk, rfl, ho, hb⟩ := hrel
    obtain ⟨m, hm⟩ : ∃ m, m = 2 * k := ⟨_, rfl⟩
    obtain ⟨L, hL⟩ : ∃ L, L = bs.take k := ⟨_, rfl⟩
    have hLl : L.length = k := by rw [hL]; have := Hn.out; simp; omega
    rw [← hm]
    rw [← hL] at ho
    obtain ⟨Al, cl, rfl, hcl, hcl'⟩ := own_form ho
    rw [hLl] at ho hcl ⊢
    have HLl := Lib.hid hLl
    have hm1 : m ≤ 2 * k := by omega
    have hm2 : 2 * k ≤ m := by omega
    by_cases hlt : k < n
    · have hkb : k < bs.length := by rw [← Hn.out]; exact hlt
      have hms : m < s.size := by omega
      have hms1 : m + 1 < s.size := by omega
      obtain ⟨y, hy⟩ : ∃ y, y = bs[k] := ⟨_, rfl⟩
      obtain ⟨d1, hd1⟩ : ∃ d1, d1 = y.toNat / 16 := ⟨_, rfl⟩
      obtain ⟨d2, hd2⟩ : ∃ d2, d2 = y.toNat % 16 := ⟨_, rfl⟩
      have hy8 := y.toNat_lt
      have hd16 : d1 < 16 := by omega
      have hd26 : d2 < 16 := by omega
      obtain ⟨a1, ha1⟩ : ∃ a1, a1 = s[m] := ⟨_, rfl⟩
      obtain ⟨a2, ha2⟩ : ∃ a2, a2 = s[m + 1] := ⟨_, rfl⟩
      have hpair := hexL_at bs k hkb
      rw [← hm, Hat.out m hms, Hat.out (m + 1) hms1, ← hy, ← hd1, ← hd2, ← ha1, ← ha2] at hpair
      have e1 : a1 = hexd d1 := by simpa using hpair.1
      have e2 : a2 = hexd d2 := by simpa using hpair.2
      have hda := digit_any d1 a1 hd16 e1
      have hdb := digit_any d2 a2 hd26 e2
      have hor := or_hex d1 d2 hd16 hd26
      obtain ⟨z, hz⟩ : ∃ z, z = d1 * 16 + d2 := ⟨_, rfl⟩
      rw [← hz] at hor
      have hzy : z = y.toNat := by omega
      have hz256 : z < 256 := by omega
      have hnew : L ++ [UInt8.ofNat z] = bs.take (k + 1) := by
        rw [hL, List.take_succ_eq_append_getElem hkb, ← hy, hzy]; simp
      have Hnew := Lib.hid hnew
      have Hda := Lib.hid hda
      have Hdb := Lib.hid hdb
      have hs1 : ∀ h, s[m]'h = a1 := fun h => ha1.symm
      have hs2 : ∀ h, s[m + 1]'h = a2 := fun h => ha2.symm
      have hmx : Tryd.prog.follows .mixedOrders = true := by kernel_rfl
      have Hm := Lib.hid hm
      clear hpair e1 e2 hnew hzy hz hd1 hd2 hda hdb hy hL hLl ha1 ha2 hm
      go_wp2_with fail
      refine wp_region_plan [(0, 0), (1, 0), (2, 0), (4, 0), (5, 0), (6, 0), (7, 0), (3, 2), (8, 2), (9, 0), (10, 0)] 11 hmx (by kernel_rfl) (by intro c a d v w h; cases d <;> exact h) ?_
      repeat ((first | (refine wpPlan_pure rfl (fun K hK => ?_)) | (refine wpPlan_quiet rfl (fun K hK => ?_))); go_simp; (first | (refine hK _ ?_) | (simp only [IntWalk.iteOmega]; go_simp; refine hK _ ?_) | (go_bits; go_simp; refine hK _ ?_)); clear hK K; (try go_bits))
      refine wpPlan_loud rfl rfl (fun K hK => ?_)
      go_wp2_with fail
      refine (Hda.out _).mono ?_
      rintro e w' ⟨rfl, rfl⟩
      go_wp2_with fail
      refine ⟨.inr (Ext.refl _), ?_⟩
      refine wpPlan_loud rfl rfl (fun K hK => ?_)
      go_wp2_with fail
      refine (Hdb.out _).mono ?_
      rintro e w' ⟨rfl, rfl⟩
      go_wp2_with fail
      refine ⟨.inr (Ext.refl _), ?_⟩
      repeat ((first | (refine wpPlan_pure rfl (fun K hK => ?_)) | (refine wpPlan_quiet rfl (fun K hK => ?_))); go_simp; (first | (refine hK _ ?_) | (simp only [IntWalk.iteOmega]; go_simp; refine hK _ ?_) | (go_bits; go_simp; refine hK _ ?_)); clear hK K; (try go_bits))
      refine wpPlan_nil ?_
      go_wp2_with (at_builtin; go_loud (refine wpList_append_Ow (m := 1) (c := 1) (base := w.heap.size) (xs := B8 L) (v := .slice Al k cl) (A := some ⟨wr.heap.size, 0, none⟩) (B := wr.heap.size + 1) (news := [.int .u8 (z : Int)]) elB rfl (.tmp 33) (.tmp 39) rfl rfl (ho.drew.alloc _) rfl (Sl.one wr.drew _ _) rfl (by simp; rfl) (by rw [B8_length, HLl.out]; simp [maxLen]; omega) (by rw [B8_length, HLl.out]; omega) (by have := hb.size; simp; omega) ?_); intro v3 w3 ho3 hg3 hr3)
      rw [b8_snoc L _ (UInt8.ofNat z) (by simp; omega), Hnew.out] at ho3
      refine ⟨⟨k + 1, by omega, ?_, ho3, push_below hb.drew (Nat.le_refl _) ho.drew hg3⟩, by simp [intOf]; omega⟩
      have e : ((m : Int) + 2) = ((2 * (k + 1) : Nat) : Int) := by omega
      rw [e]
    · have hL2 : L = bs := by rw [hL]; exact List.take_of_length_le (by have := Hn.out; omega)
      rw [hL2] at ho
      clear hL2 hL hLl
      go_wp2_with fail
      go_ret2
      exact ⟨_, rfl, ho, hb⟩
end Go.Proofs.YtjbknfjcdmafaaaDoor
