/- text.FromBase58. | text.digit, text.FromHex of what Hex wrote; the reference's Digit and Hex. | Values of other bits, there and back, in plain Lean: by the number that they write. | text.Regroup: bytes as values of five bits. -/
import Derived.Test.YtkiigonikeeikaaGreatDoorU12
import Derived.Test.YtkiigonikeeikaaGreatDoorU13
import Derived.Test.YtkiigonikeeikaaGreatDoorU7
import Derived.Test.YtkiigonikeeikaaGreatDoorShelf
import Derived.Lib.ConvBytes
import Derived.Test.YtkiigonikeeikaaGreatDoorU11

/-! text.FromBase58. -/
namespace Go.Proofs.YtkiigonikeeikaaGreatDoor
open Go.RowKit Go.Shelf

def dig58 (c : UInt8) : UInt8 := UInt8.ofNat (letters58.idxOf c)
theorem indexByte_placeZ (l : List UInt8) (c : UInt8) : Lib.indexByte l c = placeZ l c := by
  induction l with
  | nil => rfl
  | cons x l ih =>
    unfold placeZ at ih ⊢
    rw [Lib.indexByte, List.idxOf_cons]
    by_cases h : x = c
    · subst h; simp
    · have hb : (x == c) = false := by simpa using h
      have hc : ¬ c = x := fun e => h e.symm
      rw [hb, ih]
      by_cases hm : c ∈ l
      · simp only [hm, hc, or_true, if_true, List.mem_cons, beq_iff_eq, Bool.false_eq_true, if_false, cond_false]
        rw [if_neg (by omega)]; rfl
      · simp [hm, hc]
theorem str_bytes (s : ByteArray) (w : World) : ∃ wB cB, (convert 9 23 (.string s)).run Tryz.prog w = .ok (.slice (some ⟨w.heap.size, 0, none⟩) s.size cB) wB ∧ Below w.heap.size w wB ∧
    Sl wB wB.heap.size (some ⟨w.heap.size, 0, none⟩) (B8 s.data.toList) ∧ s.size ≤ cB ∧ wB.heap.size = w.heap.size + 1 := by
  refine ⟨_, _, Lib.run_convert_string_bytes (P := Tryz.prog) w 9 23 5 s (u := .string) (by kernel_rfl) (by kernel_rfl) (by kernel_rfl), ⟨rfl, rfl, rfl, ?_, fun k hk => Lib.bytesWorld_at_old w _ s k hk⟩, ?_, ?_, Lib.bytesWorld_size w _ s⟩
  · rw [Lib.bytesWorld_size]; omega
  · refine fun _ => ⟨_, 0, rfl, by rw [Lib.bytesWorld_size]; omega, fun j hj => ?_⟩
    have hj' : j < s.size := by simpa using hj
    rw [Nat.zero_add, Lib.bytesWorld_cell w _ s j hj', B8_get]
    simp [hj']
  · exact grownCap_ge _ _ _ _
/-- What a text is read as: 0, and bytes; or an error. -/
def fromS (s : List UInt8) : Nat × List UInt8 :=
  if 250 < s.length then (2, [])
  else if ∀ c ∈ s, c ∈ letters58 then (0, List.replicate (s.length - (s.dropWhile (· == 49)).length) 0 ++ (baseL 58 256 (s.map dig58)).reverse)
  else (3, [])

theorem dig58_lt (c : UInt8) (h : c ∈ letters58) : (dig58 c).toNat < 58 := by
  have : letters58.idxOf c < letters58.length := List.idxOf_lt_length_iff.2 h
  have h2 : letters58.length = 58 := rfl
  rw [dig58, UInt8.toNat_ofNat', Nat.mod_eq_of_lt (by omega)]; omega
set_option maxRecDepth 100000 in
set_option maxHeartbeats 4000000 in
theorem from58_any (s : ByteArray) (w : World) (hsz : s.size ≤ 4096) :
    Calls Tryz.prog 40 #[.string s] w fun e W' => ∃ v, e = .returned (.tuple #[v, .int .i64 ((fromS s.data.toList).1 : Int)]) ∧ Ow W' w.heap.size 5 v (B8 (fromS s.data.toList).2) ∧ Below w.heap.size w W' := by
  have hS : s.data.toList.length = s.size := by simp
  by_cases hbig : 250 < s.size
  · have hf : fromS s.data.toList = (2, []) := by rw [fromS, if_pos (by omega)]
    rw [hf]
    go_enter Tryz.func40, Tryz.ntmps40
    go_wp2_with fail
    go_ret2
    exact ⟨_, rfl, Ow.nil_ _ _ _ _, Below.refl _ _⟩
  · obtain ⟨S, hSS⟩ : ∃ S, S = s.data.toList := ⟨_, rfl⟩
    rw [← hSS] at hS ⊢
    obtain ⟨F, hF⟩ : ∃ F, F = fromS S := ⟨_, rfl⟩
    rw [← hF]
    have hsl : s.size ≤ 250 := by omega
    have HSS := Lib.hid hSS
    have HS := Lib.hid hS
    have HF := Lib.hid hF
    clear hSS hS hF
    go_enter Tryz.func40, Tryz.ntmps40
    go_wp2_with fail
    go_loopw [4, 13] (fun v i wr => ∃ k : Nat, k ≤ s.size ∧ i = .int .i64 k ∧ Ow wr w.heap.size 5 v (B8 ((S.take k).map dig58)) ∧ Hid (∀ c ∈ S.take k, c ∈ letters58) ∧ Below w.heap.size w wr) (fun _ i _ => s.size - (intOf i).toNat)
    case atStart => exact ⟨0, Nat.zero_le _, rfl, Ow.nil_ _ _ _ _, Lib.hid (by simp), Below.refl _ _⟩
    case round =>
      obtain ⟨k, hk, rfl, ho, Hall, hb⟩ := hrel
      obtain ⟨D, hD⟩ : ∃ D, D = (S.take k).map dig58 := ⟨_, rfl⟩
      have hDl : D.length = k := by rw [hD]; have := HS.out; simp; omega
      rw [← hD] at ho
      obtain ⟨Ad, cd, rfl, hcd, hcd'⟩ := own_form ho
      rw [hDl] at ho hcd ⊢
      have HD := Lib.hid hD
      have HDl := Lib.hid hDl
      clear hD hDl
      by_cases hlt : k < s.size
      · obtain ⟨y, hy⟩ : ∃ y, y = s[k] := ⟨_, rfl⟩
        have hyS : S[k]? = some y := by rw [HSS.out, hy]; simp [hlt]; rfl
        have hix := Tryz.strings_IndexByte ⟨letters58.toArray⟩ (s[k].toNat : Int)
        rw [show (⟨letters58.toArray⟩ : ByteArray).data.toList = letters58 from rfl, indexByte_placeZ, show ((s[k].toNat : Int)).toNat.toUInt8 = y from by rw [hy]; simp] at hix
        have HyS := Lib.hid hyS
        have Hix := Lib.hid hix
        have hy8 := s[k].toNat_lt
        clear hyS hix
        by_cases hm : y ∈ letters58
        · obtain ⟨d, hd⟩ : ∃ d, d = letters58.idxOf y := ⟨_, rfl⟩
          have hd58 : d < 58 := by rw [hd]; exact List.idxOf_lt_length_iff.2 hm
          have hpz : placeZ letters58 y = (d : Int) := by rw [placeZ, if_pos hm, hd]
          have Hd := Lib.hid hd
          have Hpz := Lib.hid hpz
          have Hm := Lib.hid hm
          clear hd hpz hm
          go_wp2_with (first | (go_at_call 55; refine (Hix.out _).mono ?_; rintro e w' ⟨rfl, hww⟩; rw [hww]; clear hww; rw [Hpz.out]) | (at_builtin; go_loud (refine wpList_append_Ow (m := 1) (c := 1) (base := w.heap.size) (xs := B8 D) (v := .slice Ad k cd) (A := some ⟨wr.heap.size, 0, none⟩) (B := wr.heap.size + 1) (news := [.int .u8 (d : Int)]) elB rfl (.tmp 22) (.tmp 25) rfl rfl (ho.alloc _) rfl (Sl.one wr _ _) rfl (by simp; rfl) (by rw [B8_length, HDl.out]; simp [maxLen]; omega) (by rw [B8_length, HDl.out]; omega) (by have := hb.size; simp; omega) ?_); intro v3 w3 ho3 hg3 hr3))
          have hdy : dig58 y = UInt8.ofNat d := by rw [dig58, ← Hd.out]
          rw [b8_snoc D _ (UInt8.ofNat d) (by simp; omega), ← hdy, HD.out, ← List.map_singleton, ← List.map_append] at ho3
          have htk : S.take k ++ [y] = S.take (k + 1) := by rw [List.take_add_one, HyS.out]; rfl
          rw [htk] at ho3
          refine ⟨⟨k + 1, by omega, rfl, ho3, Lib.hid ?_, push_below hb (Nat.le_refl _) ho hg3⟩, by simp [intOf]; omega⟩
          rw [← htk]
          intro c hc
          simp only [List.mem_append, List.mem_singleton] at hc
          rcases hc with hc | rfl
          · exact Hall.out c hc
          · exact Hm.out
        · have hpz : placeZ letters58 y = -1 := by rw [placeZ, if_neg hm]
          have Hpz := Lib.hid hpz
          have Hm := Lib.hid hm
          clear hpz hm
          go_wp2_with (go_at_call 55; refine (Hix.out _).mono ?_; rintro e w' ⟨rfl, hww⟩; rw [hww]; clear hww; rw [Hpz.out])
          go_ret2
          have hF : F = (3, []) := by
            rw [HF.out, fromS, if_neg (by have := HS.out; omega), if_neg]
            exact fun h => Hm.out (h y (List.mem_of_getElem? HyS.out))
          rw [hF]
          exact ⟨_, rfl, Ow.nil_ _ _ _ _, hb⟩
      · obtain rfl : k = s.size := by omega
        have hmx : Tryz.prog.follows .mixedOrders = true := by kernel_rfl
        obtain ⟨wB, cB, hconv, hBB, hSB, hcB, hzB⟩ := str_bytes s wr
        have hDS : D = S.map dig58 := by rw [HD.out, List.take_of_length_le (by have := HS.out; omega)]
        obtain ⟨z, hz⟩ : ∃ z, z = s.size - (S.dropWhile (· == 49)).length := ⟨_, rfl⟩
        have hno := noughts_any (some ⟨wr.heap.size, 0, none⟩) cB S wB (by rw [HSS.out]; exact hSB) (by have := HS.out; omega) (by have := HS.out; omega)
        rw [HS.out, ← hz] at hno
        have hzl : z ≤ 250 := by omega
        have hFv : F = (0, List.replicate z 0 ++ (baseL 58 256 D).reverse) := by
          have hall : ∀ c ∈ S, c ∈ letters58 := by have := Hall.out; rwa [List.take_of_length_le (by have := HS.out; omega)] at this
          rw [HF.out, fromS, if_neg (by have := HS.out; omega), if_pos hall, HS.out, ← hz, hDS]
        have Hno := Lib.hid hno
        have HFv := Lib.hid hFv
        have hoB := ho.below hBB (Nat.le_refl _)
        have hbB := hb.trans (hBB.mono hb.size)
        clear hno hFv hz hDS hSB ho
        go_wp2_with fail
        refine Hno.out.mono ?_
        rintro e w5 ⟨rfl, hB5⟩
        obtain ⟨i0, hi, hz0, hz1, hz2⟩ := info_parts u8_info
        have hmk := run_makeN (P := Tryz.prog) 23 5 i0 _ 1 Tryz.underlying23 hi hz0 hz1 hz2 rfl .i64 .i64 (z : Int) (z : Int) z z (by omega) (by omega) (Nat.le_refl _) (by omega) (by unfold maxLen; omega)
        have ho5 := hoB.below hB5 (Nat.le_refl _)
        have hb5 := hbB.trans (hB5.mono hbB.size)
        clear hconv hoB hbB hBB hB5 hcB hzB
        obtain ⟨G, hG⟩ : ∃ G, G = baseL 58 256 D := ⟨_, rfl⟩
        obtain ⟨m, hm⟩ : ∃ m, m = G.length := ⟨_, rfl⟩
        have hml : m ≤ 250 := by
          rw [hm, hG]
          refine Nat.le_trans (baseL_len1 58 256 (by omega) (by omega) (by omega) (by omega) D ?_) (by have := HDl.out; omega)
          rw [HD.out]
          intro d hd
          obtain ⟨c, hc, rfl⟩ := List.mem_map.1 hd
          exact dig58_lt c (Hall.out c hc)
        have hFv := HFv.out
        rw [← hG] at hFv
        have HFv := Lib.hid hFv
        have HT1 : Hid (∀ X, Sl X X.heap.size Ad (B8 D) → Calls Tryz.prog 71 #[.slice Ad s.size cd] X fun e W' => ∃ A c, e = .returned (.slice A s.size c) ∧ Ow W' X.heap.size 5 (.slice A s.size c) (B8 D.reverse) ∧ Below X.heap.size X W') := Lib.hid fun X hX => by
          have h := turned_any Ad cd D X hX (by have := HDl.out; omega)
          rw [HDl.out] at h
          refine h.mono ?_
          rintro e W' ⟨v, rfl, ho, hb⟩
          obtain ⟨A, c, rfl, _⟩ := own_form ho
          rw [List.length_reverse, HDl.out] at ho
          rw [List.length_reverse, HDl.out]
          exact ⟨A, c, rfl, ho, hb⟩
        have HBs : Hid (∀ X A c, Sl X X.heap.size A (B8 D.reverse) → Calls Tryz.prog 70 #[.slice A s.size c, .int .i64 58, .int .i64 256] X fun e W' => ∃ A' c', e = .returned (.slice A' m c') ∧ Ow W' X.heap.size 5 (.slice A' m c') (B8 G) ∧ Below X.heap.size X W') := Lib.hid fun X A c hX => by
          have h := base_any 58 256 (by omega) (by omega) (by omega) (by omega) A c D.reverse (by rw [List.length_reverse, HDl.out]; omega) X hX
          rw [List.length_reverse, HDl.out, List.reverse_reverse, ← hG] at h
          refine h.mono ?_
          rintro e W' ⟨v, rfl, ho, hb⟩
          obtain ⟨A, c, rfl, _⟩ := own_form ho
          rw [← hm] at ho ⊢
          exact ⟨A, c, rfl, ho, hb⟩
        have HT2 : Hid (∀ X A c, Sl X X.heap.size A (B8 G) → Calls Tryz.prog 71 #[.slice A m c] X fun e W' => ∃ A c, e = .returned (.slice A m c) ∧ Ow W' X.heap.size 5 (.slice A m c) (B8 G.reverse) ∧ Below X.heap.size X W') := Lib.hid fun X A c hX => by
          have h := turned_any A c G X hX (by omega)
          rw [← hm] at h
          refine h.mono ?_
          rintro e W' ⟨v, rfl, ho, hb⟩
          obtain ⟨A, c, rfl, _⟩ := own_form ho
          rw [List.length_reverse, ← hm] at ho ⊢
          exact ⟨A, c, rfl, ho, hb⟩
        have HmG : Hid (G.length = m) := Lib.hid hm.symm
        have hoD := ho5
        have hz5 := hb5.size
        clear hFv hm hG ho5
        go_wp2_with fail
        refine wp_region_tree _ 6 _ hmx (by kernel_rfl) (by intro c a d v w h; cases d <;> exact h) (snd_pre' (plainLaws _ (by intro c a d v w h; cases d <;> exact h)) (by kernel_rfl) 7 [(0, 0), (2, 0)] _ (by kernel_rfl) (snd_fork (plainLaws _ (by intro c a d v w h; cases d <;> exact h)) 1 3 6 _ (by kernel_rfl) (snd_plan (plainLaws _ (by intro c a d v w h; cases d <;> exact h)) (by kernel_rfl) [(3, 2), (4, 2), (5, 2), (6, 2), (7, 2), (8, 2)] _ (by kernel_rfl)) (snd_pre' (plainLaws _ (by intro c a d v w h; cases d <;> exact h)) (by kernel_rfl) 6 [] _ (by kernel_rfl) (snd_fork (plainLaws _ (by intro c a d v w h; cases d <;> exact h)) 1 4 5 _ (by kernel_rfl) (snd_plan (plainLaws _ (by intro c a d v w h; cases d <;> exact h)) (by kernel_rfl) [(4, 2), (5, 2), (6, 2), (7, 2), (8, 2)] _ (by kernel_rfl)) (snd_pre' (plainLaws _ (by intro c a d v w h; cases d <;> exact h)) (by kernel_rfl) 5 [] _ (by kernel_rfl) (snd_fork (plainLaws _ (by intro c a d v w h; cases d <;> exact h)) 1 5 4 _ (by kernel_rfl) (snd_plan (plainLaws _ (by intro c a d v w h; cases d <;> exact h)) (by kernel_rfl) [(5, 2), (6, 2), (7, 2), (8, 2)] _ (by kernel_rfl)) (snd_plan (plainLaws _ (by intro c a d v w h; cases d <;> exact h)) (by kernel_rfl) [(1, 2), (6, 2), (7, 2), (8, 2)] _ (by kernel_rfl)))))))) ?_
        repeat ((first | (refine wpPlan_pure rfl (fun K hK => ?_)) | (refine wpPlan_quiet rfl (fun K hK => ?_))); go_simp; (first | (refine hK _ ?_) | (simp only [IntWalk.iteOmega]; go_simp; refine hK _ ?_) | (go_bits; go_simp; refine hK _ ?_)); clear hK K; (try go_bits))
        refine forkC_mk rfl rfl rfl rfl (fun K hK => ?_) (fun K hK => ?_)
        · go_wp2_with fail
          refine ⟨ext_alloc_drew _ _, ?_⟩
          obtain ⟨W1, hW1⟩ : ∃ W, W = (w5.alloc (.cells (Array.replicate z (Value.int IntKind.u8 0)) 5)).drew := ⟨_, rfl⟩
          rw [← hW1]
          have hzO : Ow W1 w.heap.size 5 (.slice (some ⟨w5.heap.size, 0, none⟩) z z) (B8 (List.replicate z 0)) := by
            rw [hW1]
            have h := Ow.of_row (w := w5) (Array.replicate z (Value.int IntKind.u8 0)) 5 w.heap.size (by omega) (cap := z) (by simp) (by unfold maxLen; omega) z (Nat.le_refl _)
            rw [show (Array.replicate z (Value.int IntKind.u8 0)).toList.take z = B8 (List.replicate z 0) from by simp [B8]] at h
            exact h
          have hBW1 : Below w5.heap.size w5 W1 := by rw [hW1]; exact ((Below.refl _ _).alloc (Nat.le_refl _) _).drew
          have hzW1 := hBW1.size
          clear hW1
          refine wpPlan_loud rfl rfl (fun K hK => ?_)
          go_wp2_with fail
          refine (HT1.out W1 (hoD.below (hBW1) (Nat.le_refl _)).sl).mono ?_
          rintro e w6 ⟨A6, c6, rfl, hoT, hBw6⟩
          have hzw6 := hBw6.size
          go_wp2_with fail
          refine ⟨.inr (ext_of_below hBw6), ?_⟩
          refine wpPlan_loud rfl rfl (fun K hK => ?_)
          go_wp2_with fail
          refine (HBs.out w6 A6 c6 hoT.sl).mono ?_
          rintro e w7 ⟨A7, c7, rfl, hoG, hBw7⟩
          have hzw7 := hBw7.size
          go_wp2_with fail
          refine ⟨.inr (ext_of_below hBw7), ?_⟩
          refine wpPlan_loud rfl rfl (fun K hK => ?_)
          go_wp2_with fail
          refine (HT2.out w7 A7 c7 hoG.sl).mono ?_
          rintro e w8 ⟨A8, c8, rfl, hoR, hBw8⟩
          have hzw8 := hBw8.size
          go_wp2_with fail
          refine ⟨.inr (ext_of_below hBw8), ?_⟩
          refine wpPlan_loud rfl rfl (fun K hK => ?_)
          have hzO8 := (((hzO.below hBw6 (Nat.le_refl _)).below hBw7 (Nat.le_refl _)).below hBw8 (Nat.le_refl _))
          have hb8 : Below w.heap.size w w8 := (((hb5.trans (hBW1.mono (by omega))).trans (hBw6.mono (by omega))).trans (hBw7.mono (by omega))).trans (hBw8.mono (by omega))
          have hS8 : Sl w8 w8.heap.size A8 (B8 G.reverse) := hoR.sl
          refine wp_append_Ow (m := m) (c := c8) (base := w.heap.size) (xs := B8 (List.replicate z 0)) (v := .slice (some ⟨w5.heap.size, 0, none⟩) z z) (A := A8) (B := w8.heap.size) (news := B8 G.reverse) elB (.tmp 33) (.tmp 37) rfl rfl hzO8 rfl hS8 (by rw [B8_length, List.length_reverse]; exact HmG.out) (B8_oneCell _) (by rw [B8_length, List.length_replicate]; simp [maxLen]; omega) (by rw [B8_length, List.length_replicate]; omega) hb8.size ?_
          intro vZ wZ hoZ hgZ hrZ
          rw [← B8_append] at hoZ
          have hbZ : Below w.heap.size w wZ := hb8.grown hgZ hb8.size (fun r hr => (hzO8.row r hr).1)
          refine hK _ _ ⟨.inl (by decide), ?_⟩
          clear hK K hzO8 hb8 hS8
          go_simp
          refine wpPlan_loud rfl rfl (fun K hK => ?_)
          go_wp2_with fail
          refine ⟨.inl (by decide), ?_⟩
          refine wpPlan_loud rfl rfl (fun K hK => ?_)
          go_wp2_with fail
          refine ⟨.inl (by decide), ?_⟩
          refine wpPlan_nil ?_
          go_wp2_with fail
          go_ret2
          rw [HFv.out]
          exact ⟨_, rfl, hoZ, hbZ⟩
        · go_wp2_with fail
          refine (HT1.out (w5.drew) (hoD.below ((Below.refl _ _).drew) (Nat.le_refl _)).sl).mono ?_
          rintro e w6 ⟨A6, c6, rfl, hoT, hBw6⟩
          have hzw6 := hBw6.size
          go_wp2_with fail
          refine ⟨ext_of_below hBw6, ?_⟩
          have hb6 := hb5.drew.trans (hBw6.mono (by show w.heap.size ≤ w5.heap.size; omega))
          have hz5' : w5.drew.heap.size = w5.heap.size := rfl
          have hz6 := hb6.size
          refine forkC_mk rfl rfl rfl rfl (fun K hK => ?_) (fun K hK => ?_)
          · go_wp2_with fail
            refine ⟨ext_alloc _ _, ?_⟩
            obtain ⟨W7, hW7⟩ : ∃ W, W = w6.alloc (.cells (Array.replicate z (Value.int IntKind.u8 0)) 5) := ⟨_, rfl⟩
            rw [← hW7]
            have hzO : Ow W7 w.heap.size 5 (.slice (some ⟨w6.heap.size, 0, none⟩) z z) (B8 (List.replicate z 0)) := by
              rw [hW7]
              have h := Ow.of_row (w := w6) (Array.replicate z (Value.int IntKind.u8 0)) 5 w.heap.size (by omega) (cap := z) (by simp) (by unfold maxLen; omega) z (Nat.le_refl _)
              rw [show (Array.replicate z (Value.int IntKind.u8 0)).toList.take z = B8 (List.replicate z 0) from by simp [B8]] at h
              exact h
            have hBW7 : Below w6.heap.size w6 W7 := by rw [hW7]; exact (Below.refl _ _).alloc (Nat.le_refl _) _
            have hzW7 := hBW7.size
            clear hW7
            refine wpPlan_loud rfl rfl (fun K hK => ?_)
            go_wp2_with fail
            refine (HBs.out W7 A6 c6 (hoT.below hBW7 (Nat.le_refl _)).sl).mono ?_
            rintro e w8 ⟨A7, c7, rfl, hoG, hBw8⟩
            have hzw8 := hBw8.size
            go_wp2_with fail
            refine ⟨.inr (ext_of_below hBw8), ?_⟩
            refine wpPlan_loud rfl rfl (fun K hK => ?_)
            go_wp2_with fail
            refine (HT2.out w8 A7 c7 hoG.sl).mono ?_
            rintro e w9 ⟨A8, c8, rfl, hoR, hBw9⟩
            have hzw9 := hBw9.size
            go_wp2_with fail
            refine ⟨.inr (ext_of_below hBw9), ?_⟩
            refine wpPlan_loud rfl rfl (fun K hK => ?_)
            have hzO8 := ((hzO.below hBw8 (Nat.le_refl _)).below hBw9 (Nat.le_refl _))
            have hb8 : Below w.heap.size w w9 := ((hb6.trans (hBW7.mono (by omega))).trans (hBw8.mono (by omega))).trans (hBw9.mono (by omega))
            have hS8 : Sl w9 w9.heap.size A8 (B8 G.reverse) := hoR.sl
            refine wp_append_Ow (m := m) (c := c8) (base := w.heap.size) (xs := B8 (List.replicate z 0)) (v := .slice (some ⟨w6.heap.size, 0, none⟩) z z) (A := A8) (B := w9.heap.size) (news := B8 G.reverse) elB (.tmp 33) (.tmp 37) rfl rfl hzO8 rfl hS8 (by rw [B8_length, List.length_reverse]; exact HmG.out) (B8_oneCell _) (by rw [B8_length, List.length_replicate]; simp [maxLen]; omega) (by rw [B8_length, List.length_replicate]; omega) hb8.size ?_
            intro vZ wZ hoZ hgZ hrZ
            rw [← B8_append] at hoZ
            have hbZ : Below w.heap.size w wZ := hb8.grown hgZ hb8.size (fun r hr => (hzO8.row r hr).1)
            refine hK _ _ ⟨.inl (by decide), ?_⟩
            clear hK K hzO8 hb8 hS8
            go_simp
            refine wpPlan_loud rfl rfl (fun K hK => ?_)
            go_wp2_with fail
            refine ⟨.inl (by decide), ?_⟩
            refine wpPlan_loud rfl rfl (fun K hK => ?_)
            go_wp2_with fail
            refine ⟨.inl (by decide), ?_⟩
            refine wpPlan_nil ?_
            go_wp2_with fail
            go_ret2
            rw [HFv.out]
            exact ⟨_, rfl, hoZ, hbZ⟩
          · go_wp2_with fail
            refine (HBs.out w6 A6 c6 hoT.sl).mono ?_
            rintro e w7 ⟨A7, c7, rfl, hoG, hBw7⟩
            have hzw7 := hBw7.size
            go_wp2_with fail
            refine ⟨ext_of_below hBw7, ?_⟩
            have hb7 := hb6.trans (hBw7.mono (by omega))
            refine forkC_mk rfl rfl rfl rfl (fun K hK => ?_) (fun K hK => ?_)
            · go_wp2_with fail
              refine ⟨ext_alloc _ _, ?_⟩
              obtain ⟨W8, hW8⟩ : ∃ W, W = w7.alloc (.cells (Array.replicate z (Value.int IntKind.u8 0)) 5) := ⟨_, rfl⟩
              rw [← hW8]
              have hzO : Ow W8 w.heap.size 5 (.slice (some ⟨w7.heap.size, 0, none⟩) z z) (B8 (List.replicate z 0)) := by
                rw [hW8]
                have h := Ow.of_row (w := w7) (Array.replicate z (Value.int IntKind.u8 0)) 5 w.heap.size (by omega) (cap := z) (by simp) (by unfold maxLen; omega) z (Nat.le_refl _)
                rw [show (Array.replicate z (Value.int IntKind.u8 0)).toList.take z = B8 (List.replicate z 0) from by simp [B8]] at h
                exact h
              have hBW8 : Below w7.heap.size w7 W8 := by rw [hW8]; exact (Below.refl _ _).alloc (Nat.le_refl _) _
              have hzW8 := hBW8.size
              clear hW8
              refine wpPlan_loud rfl rfl (fun K hK => ?_)
              go_wp2_with fail
              refine (HT2.out W8 A7 c7 (hoG.below hBW8 (Nat.le_refl _)).sl).mono ?_
              rintro e w9 ⟨A8, c8, rfl, hoR, hBw9⟩
              have hzw9 := hBw9.size
              go_wp2_with fail
              refine ⟨.inr (ext_of_below hBw9), ?_⟩
              refine wpPlan_loud rfl rfl (fun K hK => ?_)
              have hzO8 := (hzO.below hBw9 (Nat.le_refl _))
              have hb8 : Below w.heap.size w w9 := (hb7.trans (hBW8.mono (by omega))).trans (hBw9.mono (by omega))
              have hS8 : Sl w9 w9.heap.size A8 (B8 G.reverse) := hoR.sl
              refine wp_append_Ow (m := m) (c := c8) (base := w.heap.size) (xs := B8 (List.replicate z 0)) (v := .slice (some ⟨w7.heap.size, 0, none⟩) z z) (A := A8) (B := w9.heap.size) (news := B8 G.reverse) elB (.tmp 33) (.tmp 37) rfl rfl hzO8 rfl hS8 (by rw [B8_length, List.length_reverse]; exact HmG.out) (B8_oneCell _) (by rw [B8_length, List.length_replicate]; simp [maxLen]; omega) (by rw [B8_length, List.length_replicate]; omega) hb8.size ?_
              intro vZ wZ hoZ hgZ hrZ
              rw [← B8_append] at hoZ
              have hbZ : Below w.heap.size w wZ := hb8.grown hgZ hb8.size (fun r hr => (hzO8.row r hr).1)
              refine hK _ _ ⟨.inl (by decide), ?_⟩
              clear hK K hzO8 hb8 hS8
              go_simp
              refine wpPlan_loud rfl rfl (fun K hK => ?_)
              go_wp2_with fail
              refine ⟨.inl (by decide), ?_⟩
              refine wpPlan_loud rfl rfl (fun K hK => ?_)
              go_wp2_with fail
              refine ⟨.inl (by decide), ?_⟩
              refine wpPlan_nil ?_
              go_wp2_with fail
              go_ret2
              rw [HFv.out]
              exact ⟨_, rfl, hoZ, hbZ⟩
            · go_wp2_with fail
              refine (HT2.out w7 A7 c7 hoG.sl).mono ?_
              rintro e w8 ⟨A8, c8, rfl, hoR, hBw8⟩
              have hzw8 := hBw8.size
              go_wp2_with fail
              refine ⟨ext_of_below hBw8, ?_⟩
              refine wpPlan_loud rfl rfl (fun K hK => ?_)
              go_wp2_with fail
              refine ⟨.inr (ext_alloc _ _), ?_⟩
              obtain ⟨W9, hW9⟩ : ∃ W, W = w8.alloc (.cells (Array.replicate z (Value.int IntKind.u8 0)) 5) := ⟨_, rfl⟩
              rw [← hW9]
              have hzO : Ow W9 w.heap.size 5 (.slice (some ⟨w8.heap.size, 0, none⟩) z z) (B8 (List.replicate z 0)) := by
                rw [hW9]
                have h := Ow.of_row (w := w8) (Array.replicate z (Value.int IntKind.u8 0)) 5 w.heap.size (by omega) (cap := z) (by simp) (by unfold maxLen; omega) z (Nat.le_refl _)
                rw [show (Array.replicate z (Value.int IntKind.u8 0)).toList.take z = B8 (List.replicate z 0) from by simp [B8]] at h
                exact h
              have hBW9 : Below w8.heap.size w8 W9 := by rw [hW9]; exact (Below.refl _ _).alloc (Nat.le_refl _) _
              have hzW9 := hBW9.size
              clear hW9
              refine wpPlan_loud rfl rfl (fun K hK => ?_)
              have hzO8 := hzO
              have hb8 : Below w.heap.size w W9 := (hb7.trans (hBw8.mono (by omega))).trans (hBW9.mono (by omega))
              have hS8 : Sl W9 W9.heap.size A8 (B8 G.reverse) := (hoR.below hBW9 (Nat.le_refl _)).sl
              refine wp_append_Ow (m := m) (c := c8) (base := w.heap.size) (xs := B8 (List.replicate z 0)) (v := .slice (some ⟨w8.heap.size, 0, none⟩) z z) (A := A8) (B := W9.heap.size) (news := B8 G.reverse) elB (.tmp 33) (.tmp 37) rfl rfl hzO8 rfl hS8 (by rw [B8_length, List.length_reverse]; exact HmG.out) (B8_oneCell _) (by rw [B8_length, List.length_replicate]; simp [maxLen]; omega) (by rw [B8_length, List.length_replicate]; omega) hb8.size ?_
              intro vZ wZ hoZ hgZ hrZ
              rw [← B8_append] at hoZ
              have hbZ : Below w.heap.size w wZ := hb8.grown hgZ hb8.size (fun r hr => (hzO8.row r hr).1)
              refine hK _ _ ⟨.inl (by decide), ?_⟩
              clear hK K hzO8 hb8 hS8
              go_simp
              refine wpPlan_loud rfl rfl (fun K hK => ?_)
              go_wp2_with fail
              refine ⟨.inl (by decide), ?_⟩
              refine wpPlan_loud rfl rfl (fun K hK => ?_)
              go_wp2_with fail
              refine ⟨.inl (by decide), ?_⟩
              refine wpPlan_nil ?_
              go_wp2_with fail
              go_ret2
              rw [HFv.out]
              exact ⟨_, rfl, hoZ, hbZ⟩
end Go.Proofs.YtkiigonikeeikaaGreatDoor

/-! text.digit, text.FromHex of what Hex wrote; the reference's Digit and Hex. -/
namespace Go.Proofs.YtkiigonikeeikaaGreatDoor
open Go.RowKit Go.Shelf

theorem hexd_small (d : Nat) (hd : d < 16) : (hexd d).toNat < 65 ∨ 70 < (hexd d).toNat := by
  have : ∀ d : Fin 16, (hexd d.val).toNat < 65 ∨ 70 < (hexd d.val).toNat := by decide
  exact this ⟨d, hd⟩
theorem hexd_place (d : Nat) (hd : d < 16) : placeZ hexLetters (hexd d) = (d : Int) := by
  have : ∀ d : Fin 16, placeZ hexLetters (hexd d.val) = (d.val : Int) := by decide
  exact this ⟨d, hd⟩

theorem hexd_def (d : Nat) (hd : d < 16) : (hexd d).toNat = if d < 10 then 48 + d else 87 + d := by
  have : ∀ d : Fin 16, (hexd d.val).toNat = if d.val < 10 then 48 + d.val else 87 + d.val := by decide
  exact this ⟨d, hd⟩

end Go.Proofs.YtkiigonikeeikaaGreatDoor

/-! Values of other bits, there and back, in plain Lean: by the number that they write. -/
namespace Go.Proofs.YtkiigonikeeikaaGreatDoor

def val (b : Nat) (l : List UInt8) : Nat := l.foldl (fun a x => a * b + x.toNat) 0
theorem val_snoc (b : Nat) (l : List UInt8) (x : UInt8) : val b (l ++ [x]) = val b l * b + x.toNat := by simp [val]
theorem val_nil (b : Nat) : val b [] = 0 := rfl
theorem val_inj (b : Nat) : ∀ (n : Nat) (k l : List UInt8), k.length = n → l.length = n → (∀ x ∈ k, x.toNat < b) → (∀ x ∈ l, x.toNat < b) → val b k = val b l → k = l
  | 0, k, l, hk, hl, _, _, _ => by rw [List.eq_nil_of_length_eq_zero hk, List.eq_nil_of_length_eq_zero hl]
  | n + 1, k, l, hk, hl, hkb, hlb, h => by
    rcases List.eq_nil_or_concat k with rfl | ⟨k', x, rfl⟩
    · simp at hk
    rcases List.eq_nil_or_concat l with rfl | ⟨l', y, rfl⟩
    · simp at hl
    rw [List.concat_eq_append] at *
    rw [List.concat_eq_append] at *
    rw [val_snoc, val_snoc] at h
    have hx : x.toNat < b := hkb x (by simp)
    have hy : y.toNat < b := hlb y (by simp)
    have e1 : (val b k' * b + x.toNat) % b = x.toNat := by rw [Nat.add_comm, Nat.add_mul_mod_self_right]; exact Nat.mod_eq_of_lt hx
    have e2 : (val b l' * b + y.toNat) % b = y.toNat := by rw [Nat.add_comm, Nat.add_mul_mod_self_right]; exact Nat.mod_eq_of_lt hy
    have exy : x.toNat = y.toNat := by rw [← e1, ← e2, h]
    have hxy : x = y := UInt8.toNat_inj.1 exy
    have hv : val b k' = val b l' := by
      rw [exy] at h
      have h2 : val b k' * b = val b l' * b := by omega
      exact Nat.eq_of_mul_eq_mul_right (by omega) h2
    rw [hxy, val_inj b n k' l' (by simpa using hk) (by simpa using hl) (fun z hz => hkb z (by simp [hz])) (fun z hz => hlb z (by simp [hz])) hv]

/-- Bytes as values of five bits. -/
def Five (bs five : List UInt8) : Prop := (∀ x ∈ five, x.toNat < 32) ∧ ∃ p, p < 5 ∧ 5 * five.length = 8 * bs.length + p ∧ val 32 five = val 256 bs * 2 ^ p

/-- What is kept on the way: the values written, and the bits that are left, are the number that was read. -/
def Way (t : Nat) (X : Nat) (out : List UInt8) (b n : Nat) : Prop := val t out * 2 ^ n + b % 2 ^ n = X

theorem Way.take {t X : Nat} {out : List UInt8} {b n : Nat} (f v : Nat) (h : Way t X out b n) (hv : v < 2 ^ f) (hn : n + f ≤ 16) : Way t (X * 2 ^ f + v) out ((b * 2 ^ f + v) % 65536) (n + f) := by
  unfold Way at *
  have h1 : (b * 2 ^ f + v) % 65536 % 2 ^ (n + f) = (b * 2 ^ f + v) % 2 ^ (n + f) := by
    rw [show (65536 : Nat) = 2 ^ 16 from rfl]
    exact Nat.mod_mod_of_dvd _ (Nat.pow_dvd_pow 2 hn)
  have h2 : (b * 2 ^ f + v) % 2 ^ (n + f) = b % 2 ^ n * 2 ^ f + v := by
    rw [Nat.pow_add, Nat.mul_comm (2 ^ n), Nat.mod_mul]
    have e1 : (b * 2 ^ f + v) % 2 ^ f = v := by rw [Nat.add_comm, Nat.add_mul_mod_self_right]; exact Nat.mod_eq_of_lt hv
    have e2 : (b * 2 ^ f + v) / 2 ^ f = b := by
      rw [Nat.add_comm, Nat.add_mul_div_right _ _ (Nat.two_pow_pos f), Nat.div_eq_of_lt hv, Nat.zero_add]
    rw [e1, e2, Nat.mul_comm, Nat.add_comm]
  rw [h1, h2, ← h, Nat.pow_add, Nat.add_mul, Nat.mul_assoc]; omega

theorem Way.give {X : Nat} {out : List UInt8} {b n : Nat} (s m d : Nat) (x : UInt8) (h : Way (2 ^ s) X out b n) (hn : n = m + s) (hd : d = b / 2 ^ m % 2 ^ s) (hx : x.toNat = d) : Way (2 ^ s) X (out ++ [x]) b m := by
  unfold Way at *
  have h1 : b % 2 ^ n = b / 2 ^ m % 2 ^ s * 2 ^ m + b % 2 ^ m := by
    rw [hn, Nat.pow_add, Nat.mod_mul, Nat.mul_comm, Nat.add_comm]
  rw [val_snoc, hx, hd, ← h, h1, hn, Nat.pow_add, Nat.add_mul, Nat.mul_assoc, Nat.mul_comm (2 ^ s) (2 ^ m)]; omega

theorem val_take (b : Nat) (l : List UInt8) (k : Nat) (h : k < l.length) : val b (l.take (k + 1)) = val b (l.take k) * b + l[k].toNat := by
  rw [List.take_succ_eq_append_getElem h, val_snoc]

theorem five_end0 {bs five : List UInt8} {b : Nat} (h : Way 32 (val 256 bs) five b 0) (hl : 5 * five.length + 0 = 8 * bs.length) (h32 : ∀ x ∈ five, x.toNat < 32) : Five bs five := by
  refine ⟨h32, 0, by omega, by omega, ?_⟩
  unfold Way at h
  simpa [Nat.mod_one] using h
theorem five_end {bs five : List UInt8} {b n : Nat} (x : UInt8) (h : Way 32 (val 256 bs) five b n) (hn : n < 5) (hn0 : 0 < n) (hl : 5 * five.length + n = 8 * bs.length) (h32 : ∀ x ∈ five, x.toNat < 32) (hx : x.toNat = b % 2 ^ n * 2 ^ (5 - n)) : Five bs (five ++ [x]) := by
  have hb : b % 2 ^ n < 2 ^ n := Nat.mod_lt _ (Nat.two_pow_pos n)
  have hp : 2 ^ n * 2 ^ (5 - n) = 32 := by rw [← Nat.pow_add, show n + (5 - n) = 5 by omega]
  refine ⟨fun y hy => ?_, 5 - n, by omega, by simp; omega, ?_⟩
  · rcases List.mem_append.1 hy with hy | hy
    · exact h32 y hy
    · rw [List.mem_singleton.1 hy, hx, ← hp]
      exact Nat.mul_lt_mul_of_pos_right hb (Nat.two_pow_pos _)
  · unfold Way at h
    rw [val_snoc, hx, ← h, Nat.add_mul, Nat.mul_assoc, hp]

/-- The way back ends at the bytes, with nothing left. -/
theorem five_back {bs five out : List UInt8} {b n : Nat} (h5 : Five bs five) (h : Way 256 (val 32 five) out b n) (hl : 8 * out.length + n = 5 * five.length) (hn : n < 8) : out = bs ∧ n < 5 ∧ b % 2 ^ n = 0 := by
  obtain ⟨_, p, hp, hlen, hv⟩ := h5
  have hnp : n = p := by omega
  have hol : out.length = bs.length := by omega
  subst hnp
  unfold Way at h
  rw [hv] at h
  have hb : b % 2 ^ n < 2 ^ n := Nat.mod_lt _ (Nat.two_pow_pos n)
  have e1 : (val 256 out * 2 ^ n + b % 2 ^ n) % 2 ^ n = b % 2 ^ n := by rw [Nat.add_comm, Nat.add_mul_mod_self_right]; exact Nat.mod_eq_of_lt hb
  have e2 : b % 2 ^ n = 0 := by rw [← e1, h]; exact Nat.mul_mod_left _ _
  rw [e2, Nat.add_zero] at h
  have e3 := Nat.eq_of_mul_eq_mul_right (Nat.two_pow_pos n) h
  exact ⟨val_inj 256 bs.length out bs hol rfl (fun x _ => x.toNat_lt) (fun x _ => x.toNat_lt) e3, hp, e2⟩
end Go.Proofs.YtkiigonikeeikaaGreatDoor

/-! text.Regroup: bytes as values of five bits. -/
namespace Go.Proofs.YtkiigonikeeikaaGreatDoor
open Go.RowKit Go.Shelf

theorem ofInt_i64 (a : Nat) (ha : a < 9223372036854775808) : (BitVec.ofInt 64 (a : Int)).toNat = a := by
  rw [BitVec.ofInt_natCast, BitVec.toNat_ofNat]; exact Nat.mod_eq_of_lt (by omega)
theorem i64_and_nat (a b : Nat) (ha : a < 9223372036854775808) (hb : b < 9223372036854775808) : bits .and .i64 (a : Int) (b : Int) = ((a &&& b : Nat) : Int) := by
  have hx : a &&& b < 2 ^ 63 := Nat.and_lt_two_pow _ (by omega)
  show IntKind.i64.wrap ((BitVec.ofInt 64 (a : Int) &&& BitVec.ofInt 64 (b : Int)).toNat : Int) = _
  rw [BitVec.toNat_and, ofInt_i64 a ha, ofInt_i64 b hb, IntKind.wrap_i64]
  omega
theorem i64_or_nat (a b : Nat) (ha : a < 9223372036854775808) (hb : b < 9223372036854775808) : bits .or .i64 (a : Int) (b : Int) = ((a ||| b : Nat) : Int) := by
  have hx : a ||| b < 2 ^ 63 := Nat.or_lt_two_pow (by omega) (by omega)
  show IntKind.i64.wrap ((BitVec.ofInt 64 (a : Int) ||| BitVec.ofInt 64 (b : Int)).toNat : Int) = _
  rw [BitVec.toNat_or, ofInt_i64 a ha, ofInt_i64 b hb, IntKind.wrap_i64]
  omega
theorem rg_take (f B y : Nat) (hf : f ≤ 8) (hB : B < 65536) (hy : y < 2 ^ f) : bits .and .i64 (bits .or .i64 ((B * 2 ^ f : Nat) : Int) (y : Int)) 65535 = (((B * 2 ^ f + y) % 65536 : Nat) : Int) := by
  have h2 : 2 ^ f ≤ 256 := Nat.pow_le_pow_right (by omega) hf
  have h3 : B * 2 ^ f ≤ 65535 * 256 := Nat.mul_le_mul (by omega) h2
  have e : B * 2 ^ f ||| y = B * 2 ^ f + y := by rw [Nat.mul_comm]; exact (Nat.two_pow_add_eq_or_of_lt hy B).symm
  rw [i64_or_nat _ _ (by omega) (by omega), e]
  refine (i64_and_nat _ 65535 (by omega) (by omega)).trans ?_
  rw [show (65535 : Nat) = 2 ^ 16 - 1 from rfl, Nat.and_two_pow_sub_one_eq_mod]
theorem rg_give (s B m : Nat) (hs : s ≤ 8) (hB : B < 65536) : bits .and .i64 ((B : Int) / 2 ^ m) ((2 ^ s - 1 : Nat) : Int) = ((B / 2 ^ m % 2 ^ s : Nat) : Int) := by
  have h2 : 2 ^ s ≤ 256 := Nat.pow_le_pow_right (by omega) hs
  have h1 : (B : Int) / 2 ^ m = ((B / 2 ^ m : Nat) : Int) := by rw [Int.natCast_ediv, Int.natCast_pow]; rfl
  have h3 : B / 2 ^ m ≤ B := Nat.div_le_self _ _
  rw [h1, i64_and_nat _ _ (by omega) (by omega), Nat.and_two_pow_sub_one_eq_mod]

set_option maxRecDepth 100000 in
set_option maxHeartbeats 4000000 in
theorem regroup85_any (A : Option Addr) (c : Nat) (bs : List UInt8) (w : World) (hs : Sl w w.heap.size A (B8 bs)) (hl : bs.length ≤ 4096) :
    Calls Tryz.prog 26 #[.slice A bs.length c, .int .i64 8, .int .i64 5, .bool true] w fun e W' => ∃ v five, e = .returned (.tuple #[v, .int .i64 0]) ∧ Five bs five ∧ Ow W' w.heap.size 5 v (B8 five) ∧ Below w.heap.size w W' := by
  go_enter Tryz.func26, Tryz.ntmps26
  go_wp2_with fail
  go_loopw [10, 11, 12, 32] (fun v b n i wr => ∃ (k N B : Nat) (L : List UInt8), k ≤ bs.length ∧ i = .int .i64 k ∧ b = .int .i64 B ∧ n = .int .i64 N ∧ N < 5 ∧ B < 65536 ∧ 5 * L.length + N = 8 * k ∧ Hid (Way 32 (val 256 (bs.take k)) L B N ∧ ∀ x ∈ L, x.toNat < 32) ∧ Ow wr w.heap.size 5 v (B8 L) ∧ Below w.heap.size w wr) (fun _ _ _ i _ => bs.length - (intOf i).toNat)
  case atStart => exact ⟨0, 0, 0, [], Nat.zero_le _, rfl, rfl, rfl, by omega, by omega, rfl, Lib.hid ⟨rfl, by simp⟩, Ow.nil_ _ _ _ _, Below.refl _ _⟩
  case round =>
    obtain ⟨k, N, B, L, hk, rfl, rfl, rfl, hN, hB, hlen, HW, ho, hb⟩ := hrel
    obtain ⟨m, hm⟩ : ∃ m, m = L.length := ⟨_, rfl⟩
    obtain ⟨Al, cl, rfl, hcl, hcl'⟩ := own_form ho
    rw [← hm] at ho hcl hlen ⊢
    have hle1 : 5 * m + N ≤ 8 * k := by omega
    have hle2 : 8 * k ≤ 5 * m + N := by omega
    have Hm := Lib.hid hm
    have hz := hb.size
    by_cases hlt : k < bs.length
    · obtain ⟨y, hy⟩ : ∃ y, y = bs[k] := ⟨_, rfl⟩
      obtain ⟨b9, o9, rfl, hb9, hcl9⟩ := hs.at_ hlt
      have hcell : wr.cell? ⟨b9, o9 + k, none⟩ = some (.int .u8 (y.toNat : Int)) := by rw [hb.cell (p := ⟨b9, o9 + k, none⟩) hb9, hcl9 k hlt, hy]
      have hy8 := y.toNat_lt
      have hy0 : (y.toNat : Int) / 256 = 0 := by omega
      have Hy := Lib.hid hy
      clear hcl9 hm hlen hy
      go_wp2_with fail
      have htk := rg_take 8 B y.toNat (by omega) hB (by omega)
      obtain ⟨B1, hB1⟩ : ∃ B1, B1 = (B * 2 ^ 8 + y.toNat) % 65536 := ⟨_, rfl⟩
      rw [← hB1] at htk
      have htk' : bits .and .i64 (bits .or .i64 ((B : Int) * 256) (y.toNat : Int)) 65535 = (B1 : Int) := htk
      rw [htk']
      have hB65 : B1 < 65536 := by omega
      have HW1 : Hid (Way 32 (val 256 (bs.take (k + 1))) L B1 (N + 8) ∧ ∀ x ∈ L, x.toNat < 32) := Lib.hid ⟨by
        rw [val_take 256 bs k hlt, ← Hy.out, hB1]
        exact HW.out.1.take 8 y.toNat (by omega) (by omega), HW.out.2⟩
      clear htk htk' hB1 HW hcell hy0 Hy
      obtain ⟨wS, rfl⟩ : ∃ wS, wS = wr := ⟨_, rfl⟩
      go_loopw [10, 12] (fun v n wr => ∃ (N : Nat) (L : List UInt8), n = .int .i64 N ∧ N < 13 ∧ 5 * L.length + N = 8 * (k + 1) ∧ Hid (Way 32 (val 256 (bs.take (k + 1))) L B1 N ∧ ∀ x ∈ L, x.toNat < 32) ∧ Ow wr w.heap.size 5 v (B8 L) ∧ Below w.heap.size w wr) (fun _ n _ => (intOf n).toNat)
      case atStart => exact ⟨N + 8, L, rfl, by omega, by rw [← Hm.out]; omega, HW1, ho, hb⟩
      case round =>
        clear hN ho hb HW1 hcl hcl' Hm hle1 hle2 hz
        obtain ⟨N, L, rfl, hN, hlen, HW, ho, hb⟩ := hrel
        obtain ⟨m, hm⟩ : ∃ m, m = L.length := ⟨_, rfl⟩
        obtain ⟨Al, cl, rfl, hcl, hcl'⟩ := own_form ho
        rw [← hm] at ho hcl hlen ⊢
        have hle1 : 5 * m + N ≤ 8 * (k + 1) := by omega
        have hle2 : 8 * (k + 1) ≤ 5 * m + N := by omega
        have Hm := Lib.hid hm
        have hz := hb.size
        clear hlen hm
        by_cases h5 : 5 ≤ N
        · obtain ⟨M, hM⟩ : ∃ M, M = N - 5 := ⟨_, rfl⟩
          have eM : (N : Int) - 5 = (M : Int) := by omega
          have hgv := rg_give 5 B1 M (by omega) hB65
          obtain ⟨d, hd⟩ : ∃ d, d = B1 / 2 ^ M % 2 ^ 5 := ⟨_, rfl⟩
          rw [← hd] at hgv
          have hgv' : bits .and .i64 ((B1 : Int) / 2 ^ M) 31 = (d : Int) := hgv
          have hd32 : d < 32 := by omega
          have HM := Lib.hid hM
          have Hd := Lib.hid hd
          have hMN : M ≤ 12 := by omega
          have hmx : Tryz.prog.follows .mixedOrders = true := by kernel_rfl
          clear hgv hd hM
          go_wp2_with fail
          refine wp_region_plan [(0, 0), (1, 0), (2, 0), (3, 0), (4, 0), (5, 0), (6, 0), (7, 0), (8, 0), (9, 0), (10, 0), (11, 2), (12, 2), (13, 2)] 12 hmx (by kernel_rfl) (by intro c a d v w h; cases d <;> exact h) ?_
          repeat ((first | (refine wpPlan_pure rfl (fun K hK => ?_)) | (refine wpPlan_quiet rfl (fun K hK => ?_))); go_simp; (first | (refine hK _ ?_) | (simp only [IntWalk.iteOmega]; go_simp; refine hK _ ?_) | (go_bits; go_simp; refine hK _ ?_)); clear hK K; (try go_bits))
          refine wpPlan_loud rfl rfl (fun K hK => ?_)
          go_wp2_with fail
          refine ⟨.inr (ext_alloc_drew _ _), ?_⟩
          obtain ⟨w5, hw5⟩ : ∃ w5, w5 = (wr.alloc (.cells #[.int .u8 (d : Int)] 5)).drew := ⟨_, rfl⟩
          rw [← hw5]
          have hb5 : Below w.heap.size w w5 := by rw [hw5]; exact (hb.alloc hz _).drew
          have ho5 : Ow w5 w.heap.size 5 (.slice Al m cl) (B8 L) := by rw [hw5]; exact (ho.alloc _).drew
          have hn5 : Sl w5 (wr.heap.size + 1) (some ⟨wr.heap.size, 0, none⟩) [.int .u8 (d : Int)] := by rw [hw5]; exact (Sl.one wr _ _).drew
          have hz5 := hb5.size
          clear hw5
          refine wpPlan_loud rfl rfl (fun K hK => ?_)
          refine wp_append_Ow (m := 1) (c := 1) (base := w.heap.size) (xs := B8 L) (v := .slice Al m cl) (A := some ⟨wr.heap.size, 0, none⟩) (B := wr.heap.size + 1) (news := [.int .u8 (d : Int)]) elB (.tmp 57) (.tmp 68) rfl rfl ho5 rfl hn5 rfl (by simp; rfl) (by rw [B8_length, ← Hm.out]; simp [maxLen]; omega) (by rw [B8_length, ← Hm.out]; omega) hz5 ?_
          intro v6 w6 ho6 hg6 hr6
          have hb6 : Below w.heap.size w w6 := hb5.grown hg6 hz5 (fun r hr => (ho5.row r hr).1)
          refine (show K (Act.put _ (some 69) v6) w6 from ?_)
          conv in (Act.put _ (some 69) v6) => simp [Act.put]
          refine hK _ _ ⟨.inl (by decide), ?_⟩
          clear hK K
          rw [b8_snoc L _ (UInt8.ofNat d) (by simp; omega)] at ho6
          refine wpPlan_loud rfl rfl (fun K hK => ?_)
          refine Go.BigFrame.wp_assign (.tmp 69) rfl ?_
          refine (show K (Act.put _ (some 10) v6) w6 from ?_)
          conv in (Act.put _ (some 10) _) => simp [Act.put]
          refine hK _ _ ⟨.inl (by decide), ?_⟩
          clear hK K
          refine wpPlan_nil ?_
          clear ho ho5 hg6 hr6 hn5 hb5
          go_wp2_with fail
          exact ⟨⟨M, L ++ [UInt8.ofNat d], rfl, by omega, by rw [List.length_append, ← Hm.out]; simp; have := HM.out; omega, Lib.hid ⟨HW.out.1.give 5 M d _ (by have := HM.out; omega) Hd.out (by simp; omega), fun x hx => by
            rcases List.mem_append.1 hx with hx | hx
            · exact HW.out.2 x hx
            · rw [List.mem_singleton.1 hx]; simp; omega⟩, ho6, hb6⟩, by simp [intOf]; omega⟩
        · go_wp2_with fail
          exact ⟨⟨k + 1, N, B1, L, by omega, rfl, rfl, rfl, by omega, hB65, by rw [← Hm.out]; omega, HW, ho, hb⟩, by simp [intOf]; omega⟩
    · have hke : k = bs.length := by omega
      have htk : bs.take k = bs := by rw [hke]; exact List.take_of_length_le (Nat.le_refl _)
      rw [htk] at HW
      clear htk
      by_cases hN0 : N = 0
      · subst hN0
        have hB0 : bits .and .i64 (B : Int) 0 = 0 := (i64_and_nat B 0 (by omega) (by omega)).trans (by simp)
        have hfive : Five bs L := five_end0 HW.out.1 (by rw [← Hm.out]; omega) HW.out.2
        have HF := Lib.hid hfive
        clear hfive hm hke
        go_wp2_with fail
        go_ret2
        exact ⟨_, _, rfl, HF.out, ho, hb⟩
      · have hc : N = 1 ∨ N = 2 ∨ N = 3 ∨ N = 4 := by omega
        clear hN0 hN
        rcases hc with rfl | rfl | rfl | rfl
        ·
          obtain ⟨r, hr⟩ : ∃ r, r = B % 2 ^ 1 := ⟨_, rfl⟩
          have hB0 : bits .and .i64 (B : Int) 1 = (r : Int) := by
            rw [hr]
            refine (i64_and_nat B 1 (by omega) (by omega)).trans ?_
            rw [show (1 : Nat) = 2 ^ 1 - 1 from rfl, Nat.and_two_pow_sub_one_eq_mod]
          have hr32 : r ≤ 1 := by omega
          have hfive : Five bs (L ++ [UInt8.ofNat (r * 16)]) := five_end _ HW.out.1 (by omega) (by omega) (by rw [← Hm.out]; omega) HW.out.2 (by rw [← hr]; simp; omega)
          have HF := Lib.hid hfive
          clear hfive hm hke hr
          go_wp2_with (at_builtin; go_loud (refine wpList_append_Ow (m := 1) (c := 1) (base := w.heap.size) (xs := B8 L) (v := .slice Al m cl) (A := some ⟨wr.heap.size, 0, none⟩) (B := wr.heap.size + 1) (news := [.int .u8 ((r : Int) * 16)]) elB rfl (.tmp 82) (.tmp 89) rfl rfl (ho.alloc _) rfl (Sl.one wr _ _) rfl (by simp; rfl) (by rw [B8_length, ← Hm.out]; simp [maxLen]; omega) (by rw [B8_length, ← Hm.out]; omega) (by simp; omega) ?_); intro v3 w3 ho3 hg3 hr3)
          go_ret2
          rw [b8_snoc L _ (UInt8.ofNat (r * 16)) (by simp; omega)] at ho3
          exact ⟨_, _, rfl, HF.out, ho3, push_below hb (Nat.le_refl _) ho hg3⟩
        ·
          obtain ⟨r, hr⟩ : ∃ r, r = B % 2 ^ 2 := ⟨_, rfl⟩
          have hB0 : bits .and .i64 (B : Int) 3 = (r : Int) := by
            rw [hr]
            refine (i64_and_nat B 3 (by omega) (by omega)).trans ?_
            rw [show (3 : Nat) = 2 ^ 2 - 1 from rfl, Nat.and_two_pow_sub_one_eq_mod]
          have hr32 : r ≤ 3 := by omega
          have hfive : Five bs (L ++ [UInt8.ofNat (r * 8)]) := five_end _ HW.out.1 (by omega) (by omega) (by rw [← Hm.out]; omega) HW.out.2 (by rw [← hr]; simp; omega)
          have HF := Lib.hid hfive
          clear hfive hm hke hr
          go_wp2_with (at_builtin; go_loud (refine wpList_append_Ow (m := 1) (c := 1) (base := w.heap.size) (xs := B8 L) (v := .slice Al m cl) (A := some ⟨wr.heap.size, 0, none⟩) (B := wr.heap.size + 1) (news := [.int .u8 ((r : Int) * 8)]) elB rfl (.tmp 82) (.tmp 89) rfl rfl (ho.alloc _) rfl (Sl.one wr _ _) rfl (by simp; rfl) (by rw [B8_length, ← Hm.out]; simp [maxLen]; omega) (by rw [B8_length, ← Hm.out]; omega) (by simp; omega) ?_); intro v3 w3 ho3 hg3 hr3)
          go_ret2
          rw [b8_snoc L _ (UInt8.ofNat (r * 8)) (by simp; omega)] at ho3
          exact ⟨_, _, rfl, HF.out, ho3, push_below hb (Nat.le_refl _) ho hg3⟩
        ·
          obtain ⟨r, hr⟩ : ∃ r, r = B % 2 ^ 3 := ⟨_, rfl⟩
          have hB0 : bits .and .i64 (B : Int) 7 = (r : Int) := by
            rw [hr]
            refine (i64_and_nat B 7 (by omega) (by omega)).trans ?_
            rw [show (7 : Nat) = 2 ^ 3 - 1 from rfl, Nat.and_two_pow_sub_one_eq_mod]
          have hr32 : r ≤ 7 := by omega
          have hfive : Five bs (L ++ [UInt8.ofNat (r * 4)]) := five_end _ HW.out.1 (by omega) (by omega) (by rw [← Hm.out]; omega) HW.out.2 (by rw [← hr]; simp; omega)
          have HF := Lib.hid hfive
          clear hfive hm hke hr
          go_wp2_with (at_builtin; go_loud (refine wpList_append_Ow (m := 1) (c := 1) (base := w.heap.size) (xs := B8 L) (v := .slice Al m cl) (A := some ⟨wr.heap.size, 0, none⟩) (B := wr.heap.size + 1) (news := [.int .u8 ((r : Int) * 4)]) elB rfl (.tmp 82) (.tmp 89) rfl rfl (ho.alloc _) rfl (Sl.one wr _ _) rfl (by simp; rfl) (by rw [B8_length, ← Hm.out]; simp [maxLen]; omega) (by rw [B8_length, ← Hm.out]; omega) (by simp; omega) ?_); intro v3 w3 ho3 hg3 hr3)
          go_ret2
          rw [b8_snoc L _ (UInt8.ofNat (r * 4)) (by simp; omega)] at ho3
          exact ⟨_, _, rfl, HF.out, ho3, push_below hb (Nat.le_refl _) ho hg3⟩
        ·
          obtain ⟨r, hr⟩ : ∃ r, r = B % 2 ^ 4 := ⟨_, rfl⟩
          have hB0 : bits .and .i64 (B : Int) 15 = (r : Int) := by
            rw [hr]
            refine (i64_and_nat B 15 (by omega) (by omega)).trans ?_
            rw [show (15 : Nat) = 2 ^ 4 - 1 from rfl, Nat.and_two_pow_sub_one_eq_mod]
          have hr32 : r ≤ 15 := by omega
          have hfive : Five bs (L ++ [UInt8.ofNat (r * 2)]) := five_end _ HW.out.1 (by omega) (by omega) (by rw [← Hm.out]; omega) HW.out.2 (by rw [← hr]; simp; omega)
          have HF := Lib.hid hfive
          clear hfive hm hke hr
          go_wp2_with (at_builtin; go_loud (refine wpList_append_Ow (m := 1) (c := 1) (base := w.heap.size) (xs := B8 L) (v := .slice Al m cl) (A := some ⟨wr.heap.size, 0, none⟩) (B := wr.heap.size + 1) (news := [.int .u8 ((r : Int) * 2)]) elB rfl (.tmp 82) (.tmp 89) rfl rfl (ho.alloc _) rfl (Sl.one wr _ _) rfl (by simp; rfl) (by rw [B8_length, ← Hm.out]; simp [maxLen]; omega) (by rw [B8_length, ← Hm.out]; omega) (by simp; omega) ?_); intro v3 w3 ho3 hg3 hr3)
          go_ret2
          rw [b8_snoc L _ (UInt8.ofNat (r * 2)) (by simp; omega)] at ho3
          exact ⟨_, _, rfl, HF.out, ho3, push_below hb (Nat.le_refl _) ho hg3⟩
end Go.Proofs.YtkiigonikeeikaaGreatDoor
