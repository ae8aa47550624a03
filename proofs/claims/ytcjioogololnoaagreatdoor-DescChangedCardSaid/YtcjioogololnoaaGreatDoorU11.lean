/- Base conversion to a greater base: no more digits than there were. | text.FromBase58. | Steps of a path, plain. -/
import Derived.Test.YtcjioogololnoaaGreatDoorU3
import Derived.Test.YtcjioogololnoaaGreatDoorU2
import Derived.Test.YtcjioogololnoaaGreatDoorU5
import Derived.Test.YtcjioogololnoaaGreatDoorU10
import Derived.Test.YtcjioogololnoaaGreatDoorShelf
import Derived.Lib.ConvBytes
import Derived.Lib.ItoaNum

/-! Base conversion to a greater base: no more digits than there were. -/
namespace Go.Proofs.YtcjioogololnoaaGreatDoor

theorem carry_lt (f t c x : Nat) (hf : 1 ≤ f) (ht : 1 ≤ t) (hc : c < f) (hx : x < t) : (c + x * f) / t < f := by
  rw [Nat.div_lt_iff_lt_mul (by omega)]
  have h1 : x * f ≤ (t - 1) * f := Nat.mul_le_mul_right f (by omega)
  have h2 : (t - 1) * f + f = t * f := by rw [← Nat.succ_mul]; congr 1; omega
  have h3 : f * t = t * f := Nat.mul_comm _ _
  omega
theorem mid_carry (f t : Nat) (hf : 1 ≤ f) (ht : 1 ≤ t) : ∀ (xs : List UInt8) (c : Nat), (∀ x ∈ xs, x.toNat < t) → c < f → (mid f t xs c).2 < f
  | [], c, _, h => h
  | x :: xs, c, hx, h => by
    simp only [mid]
    exact mid_carry f t hf ht xs _ (fun y hy => hx y (by simp [hy])) (carry_lt f t c x.toNat hf ht h (hx x (by simp)))
theorem pushes_one (t : Nat) (ht : 2 ≤ t) (c : Nat) (hc : c < t) : (pushes t c c).length ≤ 1 := by
  by_cases h : c = 0
  · subst h; simp [pushes]
  · rw [pushes_pos t c ht (by omega), Nat.div_eq_of_lt hc]; simp [pushes]
theorem baseL_len1 (f t : Nat) (hf : 1 ≤ f) (hft : f ≤ t) (ht : 2 ≤ t) (ht2 : t ≤ 256) (l : List UInt8) (hl : ∀ d ∈ l, d.toNat < f) : (baseL f t l).length ≤ l.length := by
  induction hn : l.length generalizing l with
  | zero => rw [List.length_eq_zero_iff.1 hn]; simp [baseL]
  | succ n ih =>
    rcases List.eq_nil_or_concat l with rfl | ⟨l', d0, rfl⟩
    · simp [baseL]
    · rw [List.concat_eq_append] at hl hn ⊢
      have ih := ih l' (fun d hd => hl d (by simp [hd])) (by simpa using hn)
      rw [baseL_snoc, baseStep, List.length_append, mid_len]
      have h1 := mid_carry f t hf (by omega) (baseL f t l') d0.toNat (baseL_lt f t (by omega) ht2 l') (hl d0 (by simp))
      have h2 := pushes_one t ht _ (show (mid f t (baseL f t l') d0.toNat).2 < t by omega)
      omega
end Go.Proofs.YtcjioogololnoaaGreatDoor

/-! text.FromBase58. -/
namespace Go.Proofs.YtcjioogololnoaaGreatDoor
open Go.RowKit Go.Shelf

def dig58 (c : UInt8) : UInt8 := UInt8.ofNat (letters58.idxOf c)
theorem indexByte_placeZ (l : List UInt8) (c : UInt8) : Lib.indexByte l c = placeZ l c := by
  induction l with
  | nil => rfl
  | cons x l ih =>
    unfold placeZ at ih ⊢
    rw [Lib.indexByte, List.idxOf_cons]
    by_cases h : x = c
    · subst h; simp
    · have hb : (x == c) = false := by simpa using h
      have hc : ¬ c = x := fun e => h e.symm
      rw [hb, ih]
      by_cases hm : c ∈ l
      · simp only [hm, hc, or_true, if_true, List.mem_cons, beq_iff_eq, Bool.false_eq_true, if_false, cond_false]
        rw [if_neg (by omega)]; rfl
      · simp [hm, hc]
theorem str_bytes (s : ByteArray) (w : World) : ∃ wB cB, (convert 9 37 (.string s)).run Tryz.prog w = .ok (.slice (some ⟨w.heap.size, 0, none⟩) s.size cB) wB ∧ Below w.heap.size w wB ∧
    Sl wB wB.heap.size (some ⟨w.heap.size, 0, none⟩) (B8 s.data.toList) ∧ s.size ≤ cB ∧ wB.heap.size = w.heap.size + 1 := by
  refine ⟨_, _, Lib.run_convert_string_bytes (P := Tryz.prog) w 9 37 5 s (u := .string) (by kernel_rfl) (by kernel_rfl) (by kernel_rfl), ⟨rfl, rfl, rfl, ?_, fun k hk => Lib.bytesWorld_at_old w _ s k hk⟩, ?_, ?_, Lib.bytesWorld_size w _ s⟩
  · rw [Lib.bytesWorld_size]; omega
  · refine fun _ => ⟨_, 0, rfl, by rw [Lib.bytesWorld_size]; omega, fun j hj => ?_⟩
    have hj' : j < s.size := by simpa using hj
    rw [Nat.zero_add, Lib.bytesWorld_cell w _ s j hj', B8_get]
    simp [hj']
  · exact grownCap_ge _ _ _ _
/-- What a text is read as: 0, and bytes; or an error. -/
def fromS (s : List UInt8) : Nat × List UInt8 :=
  if 250 < s.length then (2, [])
  else if ∀ c ∈ s, c ∈ letters58 then (0, List.replicate (s.length - (s.dropWhile (· == 49)).length) 0 ++ (baseL 58 256 (s.map dig58)).reverse)
  else (3, [])

theorem dig58_lt (c : UInt8) (h : c ∈ letters58) : (dig58 c).toNat < 58 := by
  have : letters58.idxOf c < letters58.length := List.idxOf_lt_length_iff.2 h
  have h2 : letters58.length = 58 := rfl
  rw [dig58, UInt8.toNat_ofNat', Nat.mod_eq_of_lt (by omega)]; omega
set_option maxRecDepth 100000 in
set_option maxHeartbeats 4000000 in
theorem from58_any (s : ByteArray) (w : World) (hsz : s.size ≤ 4096) :
    Calls Tryz.prog 141 #[.string s] w fun e W' => ∃ v, e = .returned (.tuple #[v, .int .i64 ((fromS s.data.toList).1 : Int)]) ∧ Ow W' w.heap.size 5 v (B8 (fromS s.data.toList).2) ∧ Below w.heap.size w W' := by
  have hS : s.data.toList.length = s.size := by simp
  by_cases hbig : 250 < s.size
  · have hf : fromS s.data.toList = (2, []) := by rw [fromS, if_pos (by omega)]
    rw [hf]
    go_enter Tryz.func141, Tryz.ntmps141
    go_wp2_with fail
    go_ret2
    exact ⟨_, rfl, Ow.nil_ _ _ _ _, Below.refl _ _⟩
  · obtain ⟨S, hSS⟩ : ∃ S, S = s.data.toList := ⟨_, rfl⟩
    rw [← hSS] at hS ⊢
    obtain ⟨F, hF⟩ : ∃ F, F = fromS S := ⟨_, rfl⟩
    rw [← hF]
    have hsl : s.size ≤ 250 := by omega
    have HSS := Lib.hid hSS
    have HS := Lib.hid hS
    have HF := Lib.hid hF
    clear hSS hS hF
    go_enter Tryz.func141, Tryz.ntmps141
    go_wp2_with fail
    go_loopw [4, 13] (fun v i wr => ∃ k : Nat, k ≤ s.size ∧ i = .int .i64 k ∧ Ow wr w.heap.size 5 v (B8 ((S.take k).map dig58)) ∧ Hid (∀ c ∈ S.take k, c ∈ letters58) ∧ Below w.heap.size w wr) (fun _ i _ => s.size - (intOf i).toNat)
    case atStart => exact ⟨0, Nat.zero_le _, rfl, Ow.nil_ _ _ _ _, Lib.hid (by simp), Below.refl _ _⟩
    case round =>
      obtain ⟨k, hk, rfl, ho, Hall, hb⟩ := hrel
      obtain ⟨D, hD⟩ : ∃ D, D = (S.take k).map dig58 := ⟨_, rfl⟩
      have hDl : D.length = k := by rw [hD]; have := HS.out; simp; omega
      rw [← hD] at ho
      obtain ⟨Ad, cd, rfl, hcd, hcd'⟩ := own_form ho
      rw [hDl] at ho hcd ⊢
      have HD := Lib.hid hD
      have HDl := Lib.hid hDl
      clear hD hDl
      by_cases hlt : k < s.size
      · obtain ⟨y, hy⟩ : ∃ y, y = s[k] := ⟨_, rfl⟩
        have hyS : S[k]? = some y := by rw [HSS.out, hy]; simp [hlt]; rfl
        have hix := Tryz.strings_IndexByte ⟨letters58.toArray⟩ (s[k].toNat : Int)
        rw [show (⟨letters58.toArray⟩ : ByteArray).data.toList = letters58 from rfl, indexByte_placeZ, show ((s[k].toNat : Int)).toNat.toUInt8 = y from by rw [hy]; simp] at hix
        have HyS := Lib.hid hyS
        have Hix := Lib.hid hix
        have hy8 := s[k].toNat_lt
        clear hyS hix
        by_cases hm : y ∈ letters58
        · obtain ⟨d, hd⟩ : ∃ d, d = letters58.idxOf y := ⟨_, rfl⟩
          have hd58 : d < 58 := by rw [hd]; exact List.idxOf_lt_length_iff.2 hm
          have hpz : placeZ letters58 y = (d : Int) := by rw [placeZ, if_pos hm, hd]
          have Hd := Lib.hid hd
          have Hpz := Lib.hid hpz
          have Hm := Lib.hid hm
          clear hd hpz hm
          go_wp2_with (first | (go_at_call 32; refine (Hix.out _).mono ?_; rintro e w' ⟨rfl, hww⟩; rw [hww]; clear hww; rw [Hpz.out]) | (at_builtin; go_loud (refine wpList_append_Ow (m := 1) (c := 1) (base := w.heap.size) (xs := B8 D) (v := .slice Ad k cd) (A := some ⟨wr.heap.size, 0, none⟩) (B := wr.heap.size + 1) (news := [.int .u8 (d : Int)]) elB rfl (.tmp 22) (.tmp 25) rfl rfl (ho.alloc _) rfl (Sl.one wr _ _) rfl (by simp; rfl) (by rw [B8_length, HDl.out]; simp [maxLen]; omega) (by rw [B8_length, HDl.out]; omega) (by have := hb.size; simp; omega) ?_); intro v3 w3 ho3 hg3 hr3))
          have hdy : dig58 y = UInt8.ofNat d := by rw [dig58, ← Hd.out]
          rw [b8_snoc D _ (UInt8.ofNat d) (by simp; omega), ← hdy, HD.out, ← List.map_singleton, ← List.map_append] at ho3
          have htk : S.take k ++ [y] = S.take (k + 1) := by rw [List.take_add_one, HyS.out]; rfl
          rw [htk] at ho3
          refine ⟨⟨k + 1, by omega, rfl, ho3, Lib.hid ?_, push_below hb (Nat.le_refl _) ho hg3⟩, by simp [intOf]; omega⟩
          rw [← htk]
          intro c hc
          simp only [List.mem_append, List.mem_singleton] at hc
          rcases hc with hc | rfl
          · exact Hall.out c hc
          · exact Hm.out
        · have hpz : placeZ letters58 y = -1 := by rw [placeZ, if_neg hm]
          have Hpz := Lib.hid hpz
          have Hm := Lib.hid hm
          clear hpz hm
          go_wp2_with (go_at_call 32; refine (Hix.out _).mono ?_; rintro e w' ⟨rfl, hww⟩; rw [hww]; clear hww; rw [Hpz.out])
          go_ret2
          have hF : F = (3, []) := by
            rw [HF.out, fromS, if_neg (by have := HS.out; omega), if_neg]
            exact fun h => Hm.out (h y (List.mem_of_getElem? HyS.out))
          rw [hF]
          exact ⟨_, rfl, Ow.nil_ _ _ _ _, hb⟩
      · obtain rfl : k = s.size := by omega
        have hmx : Tryz.prog.follows .mixedOrders = true := by kernel_rfl
        obtain ⟨wB, cB, hconv, hBB, hSB, hcB, hzB⟩ := str_bytes s wr
        have hDS : D = S.map dig58 := by rw [HD.out, List.take_of_length_le (by have := HS.out; omega)]
        obtain ⟨z, hz⟩ : ∃ z, z = s.size - (S.dropWhile (· == 49)).length := ⟨_, rfl⟩
        have hno := noughts_any (some ⟨wr.heap.size, 0, none⟩) cB S wB (by rw [HSS.out]; exact hSB) (by have := HS.out; omega) (by have := HS.out; omega)
        rw [HS.out, ← hz] at hno
        have hzl : z ≤ 250 := by omega
        have hFv : F = (0, List.replicate z 0 ++ (baseL 58 256 D).reverse) := by
          have hall : ∀ c ∈ S, c ∈ letters58 := by have := Hall.out; rwa [List.take_of_length_le (by have := HS.out; omega)] at this
          rw [HF.out, fromS, if_neg (by have := HS.out; omega), if_pos hall, HS.out, ← hz, hDS]
        have Hno := Lib.hid hno
        have HFv := Lib.hid hFv
        have hoB := ho.below hBB (Nat.le_refl _)
        have hbB := hb.trans (hBB.mono hb.size)
        clear hno hFv hz hDS hSB ho
        go_wp2_with fail
        refine Hno.out.mono ?_
        rintro e w5 ⟨rfl, hB5⟩
        obtain ⟨i0, hi, hz0, hz1, hz2⟩ := info_parts u8_info
        have hmk := run_makeN (P := Tryz.prog) 37 5 i0 _ 1 Tryz.underlying37 hi hz0 hz1 hz2 rfl .i64 .i64 (z : Int) (z : Int) z z (by omega) (by omega) (Nat.le_refl _) (by omega) (by unfold maxLen; omega)
        have ho5 := hoB.below hB5 (Nat.le_refl _)
        have hb5 := hbB.trans (hB5.mono hbB.size)
        clear hconv hoB hbB hBB hB5 hcB hzB
        obtain ⟨G, hG⟩ : ∃ G, G = baseL 58 256 D := ⟨_, rfl⟩
        obtain ⟨m, hm⟩ : ∃ m, m = G.length := ⟨_, rfl⟩
        have hml : m ≤ 250 := by
          rw [hm, hG]
          refine Nat.le_trans (baseL_len1 58 256 (by omega) (by omega) (by omega) (by omega) D ?_) (by have := HDl.out; omega)
          rw [HD.out]
          intro d hd
          obtain ⟨c, hc, rfl⟩ := List.mem_map.1 hd
          exact dig58_lt c (Hall.out c hc)
        have hFv := HFv.out
        rw [← hG] at hFv
        have HFv := Lib.hid hFv
        have HT1 : Hid (∀ X, Sl X X.heap.size Ad (B8 D) → Calls Tryz.prog 166 #[.slice Ad s.size cd] X fun e W' => ∃ A c, e = .returned (.slice A s.size c) ∧ Ow W' X.heap.size 5 (.slice A s.size c) (B8 D.reverse) ∧ Below X.heap.size X W') := Lib.hid fun X hX => by
          have h := turned_any Ad cd D X hX (by have := HDl.out; omega)
          rw [HDl.out] at h
          refine h.mono ?_
          rintro e W' ⟨v, rfl, ho, hb⟩
          obtain ⟨A, c, rfl, _⟩ := own_form ho
          rw [List.length_reverse, HDl.out] at ho
          rw [List.length_reverse, HDl.out]
          exact ⟨A, c, rfl, ho, hb⟩
        have HBs : Hid (∀ X A c, Sl X X.heap.size A (B8 D.reverse) → Calls Tryz.prog 165 #[.slice A s.size c, .int .i64 58, .int .i64 256] X fun e W' => ∃ A' c', e = .returned (.slice A' m c') ∧ Ow W' X.heap.size 5 (.slice A' m c') (B8 G) ∧ Below X.heap.size X W') := Lib.hid fun X A c hX => by
          have h := base_any 58 256 (by omega) (by omega) (by omega) (by omega) A c D.reverse (by rw [List.length_reverse, HDl.out]; omega) X hX
          rw [List.length_reverse, HDl.out, List.reverse_reverse, ← hG] at h
          refine h.mono ?_
          rintro e W' ⟨v, rfl, ho, hb⟩
          obtain ⟨A, c, rfl, _⟩ := own_form ho
          rw [← hm] at ho ⊢
          exact ⟨A, c, rfl, ho, hb⟩
        have HT2 : Hid (∀ X A c, Sl X X.heap.size A (B8 G) → Calls Tryz.prog 166 #[.slice A m c] X fun e W' => ∃ A c, e = .returned (.slice A m c) ∧ Ow W' X.heap.size 5 (.slice A m c) (B8 G.reverse) ∧ Below X.heap.size X W') := Lib.hid fun X A c hX => by
          have h := turned_any A c G X hX (by omega)
          rw [← hm] at h
          refine h.mono ?_
          rintro e W' ⟨v, rfl, ho, hb⟩
          obtain ⟨A, c, rfl, _⟩ := own_form ho
          rw [List.length_reverse, ← hm] at ho ⊢
          exact ⟨A, c, rfl, ho, hb⟩
        have HmG : Hid (G.length = m) := Lib.hid hm.symm
        have hoD := ho5
        have hz5 := hb5.size
        clear hFv hm hG ho5
        go_wp2_with fail
        refine wp_region_tree _ 6 _ hmx (by kernel_rfl) (by intro c a d v w h; cases d <;> exact h) (snd_pre' (plainLaws _ (by intro c a d v w h; cases d <;> exact h)) (by kernel_rfl) 7 [(0, 0), (2, 0)] _ (by kernel_rfl) (snd_fork (plainLaws _ (by intro c a d v w h; cases d <;> exact h)) 1 3 6 _ (by kernel_rfl) (snd_plan (plainLaws _ (by intro c a d v w h; cases d <;> exact h)) (by kernel_rfl) [(3, 2), (4, 2), (5, 2), (6, 2), (7, 2), (8, 2)] _ (by kernel_rfl)) (snd_pre' (plainLaws _ (by intro c a d v w h; cases d <;> exact h)) (by kernel_rfl) 6 [] _ (by kernel_rfl) (snd_fork (plainLaws _ (by intro c a d v w h; cases d <;> exact h)) 1 4 5 _ (by kernel_rfl) (snd_plan (plainLaws _ (by intro c a d v w h; cases d <;> exact h)) (by kernel_rfl) [(4, 2), (5, 2), (6, 2), (7, 2), (8, 2)] _ (by kernel_rfl)) (snd_pre' (plainLaws _ (by intro c a d v w h; cases d <;> exact h)) (by kernel_rfl) 5 [] _ (by kernel_rfl) (snd_fork (plainLaws _ (by intro c a d v w h; cases d <;> exact h)) 1 5 4 _ (by kernel_rfl) (snd_plan (plainLaws _ (by intro c a d v w h; cases d <;> exact h)) (by kernel_rfl) [(5, 2), (6, 2), (7, 2), (8, 2)] _ (by kernel_rfl)) (snd_plan (plainLaws _ (by intro c a d v w h; cases d <;> exact h)) (by kernel_rfl) [(1, 2), (6, 2), (7, 2), (8, 2)] _ (by kernel_rfl)))))))) ?_
        repeat ((first | (refine wpPlan_pure rfl (fun K hK => ?_)) | (refine wpPlan_quiet rfl (fun K hK => ?_))); go_simp; (first | (refine hK _ ?_) | (simp only [IntWalk.iteOmega]; go_simp; refine hK _ ?_) | (go_bits; go_simp; refine hK _ ?_)); clear hK K; (try go_bits))
        refine forkC_mk rfl rfl rfl rfl (fun K hK => ?_) (fun K hK => ?_)
        · go_wp2_with fail
          refine ⟨ext_alloc_drew _ _, ?_⟩
          obtain ⟨W1, hW1⟩ : ∃ W, W = (w5.alloc (.cells (Array.replicate z (Value.int IntKind.u8 0)) 5)).drew := ⟨_, rfl⟩
          rw [← hW1]
          have hzO : Ow W1 w.heap.size 5 (.slice (some ⟨w5.heap.size, 0, none⟩) z z) (B8 (List.replicate z 0)) := by
            rw [hW1]
            have h := Ow.of_row (w := w5) (Array.replicate z (Value.int IntKind.u8 0)) 5 w.heap.size (by omega) (cap := z) (by simp) (by unfold maxLen; omega) z (Nat.le_refl _)
            rw [show (Array.replicate z (Value.int IntKind.u8 0)).toList.take z = B8 (List.replicate z 0) from by simp [B8]] at h
            exact h
          have hBW1 : Below w5.heap.size w5 W1 := by rw [hW1]; exact ((Below.refl _ _).alloc (Nat.le_refl _) _).drew
          have hzW1 := hBW1.size
          clear hW1
          refine wpPlan_loud rfl rfl (fun K hK => ?_)
          go_wp2_with fail
          refine (HT1.out W1 (hoD.below (hBW1) (Nat.le_refl _)).sl).mono ?_
          rintro e w6 ⟨A6, c6, rfl, hoT, hBw6⟩
          have hzw6 := hBw6.size
          go_wp2_with fail
          refine ⟨.inr (ext_of_below hBw6), ?_⟩
          refine wpPlan_loud rfl rfl (fun K hK => ?_)
          go_wp2_with fail
          refine (HBs.out w6 A6 c6 hoT.sl).mono ?_
          rintro e w7 ⟨A7, c7, rfl, hoG, hBw7⟩
          have hzw7 := hBw7.size
          go_wp2_with fail
          refine ⟨.inr (ext_of_below hBw7), ?_⟩
          refine wpPlan_loud rfl rfl (fun K hK => ?_)
          go_wp2_with fail
          refine (HT2.out w7 A7 c7 hoG.sl).mono ?_
          rintro e w8 ⟨A8, c8, rfl, hoR, hBw8⟩
          have hzw8 := hBw8.size
          go_wp2_with fail
          refine ⟨.inr (ext_of_below hBw8), ?_⟩
          refine wpPlan_loud rfl rfl (fun K hK => ?_)
          have hzO8 := (((hzO.below hBw6 (Nat.le_refl _)).below hBw7 (Nat.le_refl _)).below hBw8 (Nat.le_refl _))
          have hb8 : Below w.heap.size w w8 := (((hb5.trans (hBW1.mono (by omega))).trans (hBw6.mono (by omega))).trans (hBw7.mono (by omega))).trans (hBw8.mono (by omega))
          have hS8 : Sl w8 w8.heap.size A8 (B8 G.reverse) := hoR.sl
          refine wp_append_Ow (m := m) (c := c8) (base := w.heap.size) (xs := B8 (List.replicate z 0)) (v := .slice (some ⟨w5.heap.size, 0, none⟩) z z) (A := A8) (B := w8.heap.size) (news := B8 G.reverse) elB (.tmp 33) (.tmp 37) rfl rfl hzO8 rfl hS8 (by rw [B8_length, List.length_reverse]; exact HmG.out) (B8_oneCell _) (by rw [B8_length, List.length_replicate]; simp [maxLen]; omega) (by rw [B8_length, List.length_replicate]; omega) hb8.size ?_
          intro vZ wZ hoZ hgZ hrZ
          rw [← B8_append] at hoZ
          have hbZ : Below w.heap.size w wZ := hb8.grown hgZ hb8.size (fun r hr => (hzO8.row r hr).1)
          refine hK _ _ ⟨.inl (by decide), ?_⟩
          clear hK K hzO8 hb8 hS8
          go_simp
          refine wpPlan_loud rfl rfl (fun K hK => ?_)
          go_wp2_with fail
          refine ⟨.inl (by decide), ?_⟩
          refine wpPlan_loud rfl rfl (fun K hK => ?_)
          go_wp2_with fail
          refine ⟨.inl (by decide), ?_⟩
          refine wpPlan_nil ?_
          go_wp2_with fail
          go_ret2
          rw [HFv.out]
          exact ⟨_, rfl, hoZ, hbZ⟩
        · go_wp2_with fail
          refine (HT1.out (w5.drew) (hoD.below ((Below.refl _ _).drew) (Nat.le_refl _)).sl).mono ?_
          rintro e w6 ⟨A6, c6, rfl, hoT, hBw6⟩
          have hzw6 := hBw6.size
          go_wp2_with fail
          refine ⟨ext_of_below hBw6, ?_⟩
          have hb6 := hb5.drew.trans (hBw6.mono (by show w.heap.size ≤ w5.heap.size; omega))
          have hz5' : w5.drew.heap.size = w5.heap.size := rfl
          have hz6 := hb6.size
          refine forkC_mk rfl rfl rfl rfl (fun K hK => ?_) (fun K hK => ?_)
          · go_wp2_with fail
            refine ⟨ext_alloc _ _, ?_⟩
            obtain ⟨W7, hW7⟩ : ∃ W, W = w6.alloc (.cells (Array.replicate z (Value.int IntKind.u8 0)) 5) := ⟨_, rfl⟩
            rw [← hW7]
            have hzO : Ow W7 w.heap.size 5 (.slice (some ⟨w6.heap.size, 0, none⟩) z z) (B8 (List.replicate z 0)) := by
              rw [hW7]
              have h := Ow.of_row (w := w6) (Array.replicate z (Value.int IntKind.u8 0)) 5 w.heap.size (by omega) (cap := z) (by simp) (by unfold maxLen; omega) z (Nat.le_refl _)
              rw [show (Array.replicate z (Value.int IntKind.u8 0)).toList.take z = B8 (List.replicate z 0) from by simp [B8]] at h
              exact h
            have hBW7 : Below w6.heap.size w6 W7 := by rw [hW7]; exact (Below.refl _ _).alloc (Nat.le_refl _) _
            have hzW7 := hBW7.size
            clear hW7
            refine wpPlan_loud rfl rfl (fun K hK => ?_)
            go_wp2_with fail
            refine (HBs.out W7 A6 c6 (hoT.below hBW7 (Nat.le_refl _)).sl).mono ?_
            rintro e w8 ⟨A7, c7, rfl, hoG, hBw8⟩
            have hzw8 := hBw8.size
            go_wp2_with fail
            refine ⟨.inr (ext_of_below hBw8), ?_⟩
            refine wpPlan_loud rfl rfl (fun K hK => ?_)
            go_wp2_with fail
            refine (HT2.out w8 A7 c7 hoG.sl).mono ?_
            rintro e w9 ⟨A8, c8, rfl, hoR, hBw9⟩
            have hzw9 := hBw9.size
            go_wp2_with fail
            refine ⟨.inr (ext_of_below hBw9), ?_⟩
            refine wpPlan_loud rfl rfl (fun K hK => ?_)
            have hzO8 := ((hzO.below hBw8 (Nat.le_refl _)).below hBw9 (Nat.le_refl _))
            have hb8 : Below w.heap.size w w9 := ((hb6.trans (hBW7.mono (by omega))).trans (hBw8.mono (by omega))).trans (hBw9.mono (by omega))
            have hS8 : Sl w9 w9.heap.size A8 (B8 G.reverse) := hoR.sl
            refine wp_append_Ow (m := m) (c := c8) (base := w.heap.size) (xs := B8 (List.replicate z 0)) (v := .slice (some ⟨w6.heap.size, 0, none⟩) z z) (A := A8) (B := w9.heap.size) (news := B8 G.reverse) elB (.tmp 33) (.tmp 37) rfl rfl hzO8 rfl hS8 (by rw [B8_length, List.length_reverse]; exact HmG.out) (B8_oneCell _) (by rw [B8_length, List.length_replicate]; simp [maxLen]; omega) (by rw [B8_length, List.length_replicate]; omega) hb8.size ?_
            intro vZ wZ hoZ hgZ hrZ
            rw [← B8_append] at hoZ
            have hbZ : Below w.heap.size w wZ := hb8.grown hgZ hb8.size (fun r hr => (hzO8.row r hr).1)
            refine hK _ _ ⟨.inl (by decide), ?_⟩
            clear hK K hzO8 hb8 hS8
            go_simp
            refine wpPlan_loud rfl rfl (fun K hK => ?_)
            go_wp2_with fail
            refine ⟨.inl (by decide), ?_⟩
            refine wpPlan_loud rfl rfl (fun K hK => ?_)
            go_wp2_with fail
            refine ⟨.inl (by decide), ?_⟩
            refine wpPlan_nil ?_
            go_wp2_with fail
            go_ret2
            rw [HFv.out]
            exact ⟨_, rfl, hoZ, hbZ⟩
          · go_wp2_with fail
            refine (HBs.out w6 A6 c6 hoT.sl).mono ?_
            rintro e w7 ⟨A7, c7, rfl, hoG, hBw7⟩
            have hzw7 := hBw7.size
            go_wp2_with fail
            refine ⟨ext_of_below hBw7, ?_⟩
            have hb7 := hb6.trans (hBw7.mono (by omega))
            refine forkC_mk rfl rfl rfl rfl (fun K hK => ?_) (fun K hK => ?_)
            · go_wp2_with fail
              refine ⟨ext_alloc _ _, ?_⟩
              obtain ⟨W8, hW8⟩ : ∃ W, W = w7.alloc (.cells (Array.replicate z (Value.int IntKind.u8 0)) 5) := ⟨_, rfl⟩
              rw [← hW8]
              have hzO : Ow W8 w.heap.size 5 (.slice (some ⟨w7.heap.size, 0, none⟩) z z) (B8 (List.replicate z 0)) := by
                rw [hW8]
                have h := Ow.of_row (w := w7) (Array.replicate z (Value.int IntKind.u8 0)) 5 w.heap.size (by omega) (cap := z) (by simp) (by unfold maxLen; omega) z (Nat.le_refl _)
                rw [show (Array.replicate z (Value.int IntKind.u8 0)).toList.take z = B8 (List.replicate z 0) from by simp [B8]] at h
                exact h
              have hBW8 : Below w7.heap.size w7 W8 := by rw [hW8]; exact (Below.refl _ _).alloc (Nat.le_refl _) _
              have hzW8 := hBW8.size
              clear hW8
              refine wpPlan_loud rfl rfl (fun K hK => ?_)
              go_wp2_with fail
              refine (HT2.out W8 A7 c7 (hoG.below hBW8 (Nat.le_refl _)).sl).mono ?_
              rintro e w9 ⟨A8, c8, rfl, hoR, hBw9⟩
              have hzw9 := hBw9.size
              go_wp2_with fail
              refine ⟨.inr (ext_of_below hBw9), ?_⟩
              refine wpPlan_loud rfl rfl (fun K hK => ?_)
              have hzO8 := (hzO.below hBw9 (Nat.le_refl _))
              have hb8 : Below w.heap.size w w9 := (hb7.trans (hBW8.mono (by omega))).trans (hBw9.mono (by omega))
              have hS8 : Sl w9 w9.heap.size A8 (B8 G.reverse) := hoR.sl
              refine wp_append_Ow (m := m) (c := c8) (base := w.heap.size) (xs := B8 (List.replicate z 0)) (v := .slice (some ⟨w7.heap.size, 0, none⟩) z z) (A := A8) (B := w9.heap.size) (news := B8 G.reverse) elB (.tmp 33) (.tmp 37) rfl rfl hzO8 rfl hS8 (by rw [B8_length, List.length_reverse]; exact HmG.out) (B8_oneCell _) (by rw [B8_length, List.length_replicate]; simp [maxLen]; omega) (by rw [B8_length, List.length_replicate]; omega) hb8.size ?_
              intro vZ wZ hoZ hgZ hrZ
              rw [← B8_append] at hoZ
              have hbZ : Below w.heap.size w wZ := hb8.grown hgZ hb8.size (fun r hr => (hzO8.row r hr).1)
              refine hK _ _ ⟨.inl (by decide), ?_⟩
              clear hK K hzO8 hb8 hS8
              go_simp
              refine wpPlan_loud rfl rfl (fun K hK => ?_)
              go_wp2_with fail
              refine ⟨.inl (by decide), ?_⟩
              refine wpPlan_loud rfl rfl (fun K hK => ?_)
              go_wp2_with fail
              refine ⟨.inl (by decide), ?_⟩
              refine wpPlan_nil ?_
              go_wp2_with fail
              go_ret2
              rw [HFv.out]
              exact ⟨_, rfl, hoZ, hbZ⟩
            · go_wp2_with fail
              refine (HT2.out w7 A7 c7 hoG.sl).mono ?_
              rintro e w8 ⟨A8, c8, rfl, hoR, hBw8⟩
              have hzw8 := hBw8.size
              go_wp2_with fail
              refine ⟨ext_of_below hBw8, ?_⟩
              refine wpPlan_loud rfl rfl (fun K hK => ?_)
              go_wp2_with fail
              refine ⟨.inr (ext_alloc _ _), ?_⟩
              obtain ⟨W9, hW9⟩ : ∃ W, W = w8.alloc (.cells (Array.replicate z (Value.int IntKind.u8 0)) 5) := ⟨_, rfl⟩
              rw [← hW9]
              have hzO : Ow W9 w.heap.size 5 (.slice (some ⟨w8.heap.size, 0, none⟩) z z) (B8 (List.replicate z 0)) := by
                rw [hW9]
                have h := Ow.of_row (w := w8) (Array.replicate z (Value.int IntKind.u8 0)) 5 w.heap.size (by omega) (cap := z) (by simp) (by unfold maxLen; omega) z (Nat.le_refl _)
                rw [show (Array.replicate z (Value.int IntKind.u8 0)).toList.take z = B8 (List.replicate z 0) from by simp [B8]] at h
                exact h
              have hBW9 : Below w8.heap.size w8 W9 := by rw [hW9]; exact (Below.refl _ _).alloc (Nat.le_refl _) _
              have hzW9 := hBW9.size
              clear hW9
              refine wpPlan_loud rfl rfl (fun K hK => ?_)
              have hzO8 := hzO
              have hb8 : Below w.heap.size w W9 := (hb7.trans (hBw8.mono (by omega))).trans (hBW9.mono (by omega))
              have hS8 : Sl W9 W9.heap.size A8 (B8 G.reverse) := (hoR.below hBW9 (Nat.le_refl _)).sl
              refine wp_append_Ow (m := m) (c := c8) (base := w.heap.size) (xs := B8 (List.replicate z 0)) (v := .slice (some ⟨w8.heap.size, 0, none⟩) z z) (A := A8) (B := W9.heap.size) (news := B8 G.reverse) elB (.tmp 33) (.tmp 37) rfl rfl hzO8 rfl hS8 (by rw [B8_length, List.length_reverse]; exact HmG.out) (B8_oneCell _) (by rw [B8_length, List.length_replicate]; simp [maxLen]; omega) (by rw [B8_length, List.length_replicate]; omega) hb8.size ?_
              intro vZ wZ hoZ hgZ hrZ
              rw [← B8_append] at hoZ
              have hbZ : Below w.heap.size w wZ := hb8.grown hgZ hb8.size (fun r hr => (hzO8.row r hr).1)
              refine hK _ _ ⟨.inl (by decide), ?_⟩
              clear hK K hzO8 hb8 hS8
              go_simp
              refine wpPlan_loud rfl rfl (fun K hK => ?_)
              go_wp2_with fail
              refine ⟨.inl (by decide), ?_⟩
              refine wpPlan_loud rfl rfl (fun K hK => ?_)
              go_wp2_with fail
              refine ⟨.inl (by decide), ?_⟩
              refine wpPlan_nil ?_
              go_wp2_with fail
              go_ret2
              rw [HFv.out]
              exact ⟨_, rfl, hoZ, hbZ⟩
end Go.Proofs.YtcjioogololnoaaGreatDoor

/-! Steps of a path, plain. -/
namespace Go.Proofs.YtcjioogololnoaaGreatDoor
open Go

def isHardC (c : UInt8) : Bool := decide (c = 39) || (decide (c = 104) || decide (c = 72))
def digitC (c : UInt8) : Bool := decide (48 ≤ c.toNat) && decide (c.toNat ≤ 57)
/-- A number's digits, as far as 2^31. -/
def satV (l : List UInt8) : Nat := l.foldl (fun v c => min (v * 10 + (c.toNat - 48)) 2147483648) 0
theorem satV_snoc (l : List UInt8) (c : UInt8) : satV (l ++ [c]) = min (satV l * 10 + (c.toNat - 48)) 2147483648 := by simp [satV]
theorem satV_le (l : List UInt8) : satV l ≤ 2147483648 := by
  rcases List.eq_nil_or_concat l with rfl | ⟨l', c, rfl⟩
  · simp [satV]
  · rw [List.concat_eq_append, satV_snoc]; omega
/-- The number of a step: an error, and the number. -/
def stepNum (s : List UInt8) : Nat × Nat :=
  if s = [] ∨ (s.head? = some 48 ∧ 1 < s.length) then (3, 0)
  else if s.all digitC then (if satV s < 2147483648 then (0, satV s) else (2, 0)) else (3, 0)
/-- A step: an error, and the number. -/
def stepS (s : List UInt8) : Nat × Nat :=
  if s ≠ [] ∧ isHardC (s.getLastD 0) = true then (if (stepNum s.dropLast).1 = 0 then (0, (stepNum s.dropLast).2 + 2147483648) else ((stepNum s.dropLast).1, 0))
  else stepNum s
theorem stepNum_lt (s : List UInt8) : (stepNum s).2 < 2147483648 := by
  unfold stepNum
  split
  · decide
  · split
    · split
      · assumption
      · decide
    · decide
theorem stepS_lt (s : List UInt8) : (stepS s).2 < 4294967296 := by
  have h1 := stepNum_lt s
  have h2 := stepNum_lt s.dropLast
  unfold stepS
  split
  · split
    · show _ + _ < _; omega
    · show 0 < _; omega
  · omega
/-- Each step's number, if each is one. -/
def stepsOf : List (List UInt8) → Option (List Nat)
  | [] => some []
  | p :: ps => if (stepS p).1 = 0 then (stepsOf ps).map ((stepS p).2 :: ·) else none
def pathT : List Nat → List UInt8
  | [] => []
  | n :: ns => 47 :: (Lib.decDigits (n % 2147483648) ++ ((if 2147483648 ≤ n then [39] else []) ++ pathT ns))

end Go.Proofs.YtcjioogololnoaaGreatDoor
