/- text.Check58. | text.FromCheck58. | text.FromBech32 of what Bech32 wrote. | text.fits, text.Segwit and text.FromSegwit of a digest. -/
import Derived.Test.YtkiigonikeeikaaGreatDoorU14
import Derived.Test.YtkiigonikeeikaaGreatDoorU18
import Derived.Test.YtkiigonikeeikaaGreatDoorU10
import Derived.Test.YtkiigonikeeikaaGreatDoorU15

/-! text.Check58. -/
namespace Go.Proofs.YtkiigonikeeikaaGreatDoor
open Go.RowKit Go.Shelf

/-- Bytes with their check. -/
def checked (b : List UInt8) : List UInt8 := b ++ (sha (sha b)).take 4
theorem checked_length (b : List UInt8) : (checked b).length = b.length + 4 := by simp [checked, sha_length]

set_option maxRecDepth 100000 in
set_option maxHeartbeats 4000000 in
theorem check58_any (A : Option Addr) (c : Nat) (b : List UInt8) (w : World) (hs : Sl w w.heap.size A (B8 b)) (hl : b.length ≤ 280) (hbc : b.length ≤ c) (hc : c ≤ maxLen) :
    Calls Tryz.prog 14 #[.slice A b.length c] w fun e W' => e = .returned (.string ⟨(b58L (checked b)).toArray⟩) ∧ Below w.heap.size w W' := by
  have hmx : Tryz.prog.follows .mixedOrders = true := by kernel_rfl
  go_enter Tryz.func14, Tryz.ntmps14
  go_wp2_with fail
  refine (double_any A c b w hs (by omega) hbc hc).mono ?_
  rintro e w1 ⟨rfl, hB1⟩
  obtain ⟨h1, hh1⟩ : ∃ h1, h1 = sha (sha b) := ⟨_, rfl⟩
  have hl1 : h1.length = 32 := by rw [hh1]; exact sha_length _
  rw [← hh1]
  obtain ⟨oc, hoc⟩ : ∃ oc, oc = (B8 h1).toArray := ⟨_, rfl⟩
  have hocz : oc.size = 32 := by rw [hoc]; simp [hl1]
  have Hoinf : Hid ((Tryz.prog.info? 31).map (·.size) = some oc.size) := Lib.hid (by rw [hocz]; kernel_rfl)
  have Hocz : Hid ((Array.replicate 32 (Value.int .u8 0)).size = oc.size) := Lib.hid (by rw [hocz]; simp)
  have Hone : Hid (oc.all (·.oneCell') = true) := Lib.hid (by rw [hoc]; exact all_oneCell_toArray (B8_oneCell _))
  rw [← hoc]
  have Hoc := Lib.hid hoc
  have Hh1 := Lib.hid hh1
  have hz1 := hB1.size
  have hs1 := (hs.below hB1)
  clear hoc hh1 hocz hs
  go_wp2_with (refine wpList_store_row rfl 31 (.tmp 3) (.tmp 5) rfl w1.heap.size oc rfl rfl 31 _ (heap_alloc_new w1 _) Hoinf.out Hocz.out Hone.out ?_; rw [World.setRow_alloc_new])
  obtain ⟨w2, hw2⟩ : ∃ w2, w2 = w1.alloc (.cells oc 31) := ⟨_, rfl⟩
  obtain ⟨gh, hgh⟩ : ∃ gh, gh = w1.heap.size := ⟨_, rfl⟩
  rw [← hgh, ← hw2]
  have hB2 : Below w1.heap.size w1 w2 := by rw [hw2]; exact (Below.refl _ _).alloc (Nat.le_refl _) _
  have hz2 : w2.heap.size = w1.heap.size + 1 := by rw [hw2]; exact World.size_alloc _ _
  have hg2 : w2.heap[gh]? = some (.cells (B8 h1).toArray 31 (0, 0)) := by rw [hw2, ← Hoc.out, hgh]; exact heap_alloc_new w1 _
  have hs2 : Sl w2 w2.heap.size A (B8 b) := (hs1.below (hB2.mono hz1)).mono (by omega)
  have hgl : gh < w2.heap.size := by omega
  have hBw2 := hB1.trans (hB2.mono hz1)
  have Hg2 := Lib.hid hg2
  have Hs2 := Lib.hid hs2
  clear hg2 hw2 hs1 hs2 hgh Hoinf Hocz Hone Hoc
  refine wp_region_plan [(0, 0), (2, 0), (1, 2), (3, 2), (4, 2), (5, 2)] 3 hmx (by kernel_rfl) (by intro c a d v w h; cases d <;> exact h) ?_
  repeat ((first | (refine wpPlan_pure rfl (fun K hK => ?_)) | (refine wpPlan_quiet rfl (fun K hK => ?_))); go_simp; (first | (refine hK _ ?_) | (simp only [IntWalk.iteOmega]; go_simp; refine hK _ ?_) | (go_bits; go_simp; refine hK _ ?_)); clear hK K; (try go_bits))
  refine wpPlan_loud rfl rfl (fun K hK => ?_)
  go_wp2_with fail
  refine (clone_any A c b w2.drew Hs2.out (by omega)).mono ?_
  rintro e w3 ⟨v, rfl, ho, hb3⟩
  obtain ⟨Av, cv, rfl, hcv, hcv'⟩ := own_form ho
  go_wp2_with fail
  refine ⟨.inr (ext_of_below hb3), ?_⟩
  refine wpPlan_loud rfl rfl (fun K hK => ?_)
  have hb3' : Below w2.heap.size w2 w3 := ⟨hb3.os, hb3.tape, hb3.output, hb3.size, hb3.block⟩
  have hz3 := hb3'.size
  have hg3 := (hb3'.block gh hgl).trans Hg2.out
  have hS3 : Sl w3 w3.heap.size (some ⟨gh, 0, none⟩) (B8 (h1.take 4)) := fun _ => ⟨_, 0, rfl, by omega, fun j hj => by
    have hj4 : j < 4 := by simp at hj; omega
    rw [cell_of_row w3 _ _ _ _ (0, 0) hg3, Nat.zero_add, B8_get]
    simp [B8, hl1, show j < 32 by omega]⟩
  refine wp_append_Ow (m := 4) (c := 32) (base := w2.heap.size) (xs := B8 b) (v := .slice Av b.length cv) (A := some ⟨gh, 0, none⟩) (B := w3.heap.size) (news := B8 (h1.take 4)) elB (.tmp 7) (.tmp 8) rfl rfl ho rfl hS3 (by simp [hl1]) (B8_oneCell _) (by rw [B8_length]; simp [maxLen]; omega) (by rw [B8_length]; omega) hz3 ?_
  intro v4 w4 ho4 hg4 hr4
  rw [← B8_append, Hh1.out] at ho4
  have hb4 := hb3'.grown hg4 hz3 (fun r hr => (ho.row r hr).1)
  refine hK _ _ ⟨.inl (by decide), ?_⟩
  clear hK K
  obtain ⟨A4, c4, rfl, hc4, hc4'⟩ := own_form ho4
  have hlen : (b ++ (sha (sha b)).take 4).length = b.length + 4 := checked_length b
  go_simp
  refine wpPlan_loud rfl rfl (fun K hK => ?_)
  go_wp2_with fail
  have hb58 := base58_any A4 c4 (checked b) (by rw [checked_length]; omega) w4 ho4.sl
  rw [checked_length] at hb58
  refine hb58.mono ?_
  rintro e w5 ⟨rfl, hB5⟩
  go_wp2_with fail
  refine ⟨.inl (by decide), ?_⟩
  refine wpPlan_loud rfl rfl (fun K hK => ?_)
  go_wp2_with fail
  refine ⟨.inl (by decide), ?_⟩
  refine wpPlan_nil ?_
  go_wp2_with fail
  go_ret
  exact ⟨rfl, (hBw2.trans (hb4.mono (by omega))).trans (hB5.mono (by have := hb4.size; omega))⟩
end Go.Proofs.YtkiigonikeeikaaGreatDoor

/-! text.FromCheck58. -/
namespace Go.Proofs.YtkiigonikeeikaaGreatDoor
open Go.RowKit Go.Shelf

theorem baseL_zeros (f t z : Nat) (l : List UInt8) : baseL f t (List.replicate z 0 ++ l) = baseL f t l := by
  induction z with
  | zero => rfl
  | succ z ih => rw [List.replicate_succ, List.cons_append, ← ih]; rfl
theorem dropWhile_split (s : List UInt8) : s = List.replicate (s.length - (s.dropWhile (· == 49)).length) 49 ++ s.dropWhile (· == 49) := by
  induction s with
  | nil => rfl
  | cons c s ih =>
    by_cases h : c = 49
    · have hl : (s.dropWhile (· == 49)).length ≤ s.length := (List.dropWhile_sublist _).length_le
      rw [List.dropWhile_cons_of_pos (by simpa using h), List.length_cons, show s.length + 1 - (s.dropWhile (· == 49)).length = (s.length - (s.dropWhile (· == 49)).length) + 1 by omega, List.replicate_succ, List.cons_append, ← ih, h]
    · rw [List.dropWhile_cons_of_neg (by simpa using h)]; simp
theorem fromS_digits (s : List UInt8) : baseL 58 256 (s.map dig58) = baseL 58 256 ((s.dropWhile (· == 49)).map dig58) := by
  have h : s.map dig58 = List.replicate (s.length - (s.dropWhile (· == 49)).length) 0 ++ (s.dropWhile (· == 49)).map dig58 := by
    conv => lhs; rw [dropWhile_split s]
    rw [List.map_append, List.map_replicate]; rfl
  rw [h, baseL_zeros]
theorem fromS_len (s : List UInt8) : (fromS s).2.length ≤ 250 := by
  unfold fromS
  split
  · simp
  · rename_i h250
    split
    · rename_i hall
      rw [List.length_append, List.length_replicate, List.length_reverse, fromS_digits]
      have h1 := baseL_len1 58 256 (by omega) (by omega) (by omega) (by omega) ((s.dropWhile (· == 49)).map dig58) (fun d hd => by
        obtain ⟨c, hc, rfl⟩ := List.mem_map.1 hd
        exact dig58_lt c (hall c ((List.dropWhile_sublist _).subset hc)))
      rw [List.length_map] at h1
      have hl : (s.dropWhile (· == 49)).length ≤ s.length := (List.dropWhile_sublist _).length_le
      omega
    · simp
/-- What a text with a check is read as. -/
def fromC (s : List UInt8) : Nat × List UInt8 :=
  if (fromS s).1 ≠ 0 then ((fromS s).1, [])
  else if (fromS s).2.length < 4 then (4, [])
  else if (sha (sha ((fromS s).2.take ((fromS s).2.length - 4)))).take 4 = (fromS s).2.drop ((fromS s).2.length - 4) then (0, (fromS s).2.take ((fromS s).2.length - 4))
  else (5, [])
theorem fromS_err (s : List UInt8) : (fromS s).1 = 0 ∨ (fromS s).1 = 2 ∨ (fromS s).1 = 3 := by
  unfold fromS; split
  · simp
  · split <;> simp

set_option maxHeartbeats 400000 in
theorem bequal_any (A C : Option Addr) (n m : Nat) (a b : List UInt8) (w : World) (ha : Sl w w.heap.size A (B8 a)) (hb : Sl w w.heap.size C (B8 b)) :
    Calls Tryz.prog 41 #[.slice A a.length n, .slice C b.length m] w fun e w' => e = .returned (.bool (a == b)) ∧ w = w' := by
  have e1 := run_str_Sl (P := Tryz.prog) w 23 9 5 Tryz.underlying23 Tryz.underlying5 Tryz.underlying9 _ A n a ha
  have e2 := run_str_Sl (P := Tryz.prog) w 23 9 5 Tryz.underlying23 Tryz.underlying5 Tryz.underlying9 _ C m b hb
  clear ha hb
  go_enter Tryz.func41, Tryz.ntmps41
  go_wp2
  go_ret
  exact ⟨rfl, rfl⟩
set_option maxHeartbeats 400000 in
theorem clip_any (A : Option Addr) (n c : Nat) (w : World) (hnc : n ≤ c) :
    Calls Tryz.prog 42 #[.slice A n c] w fun e w' => e = .returned (.slice A n n) ∧ w = w' := by
  go_enter Tryz.func42, Tryz.ntmps42
  go_wp2
  go_ret
  exact ⟨rfl, rfl⟩

set_option maxRecDepth 100000 in
set_option maxHeartbeats 4000000 in
theorem fromc58_full (s : ByteArray) (w : World) (hsz : s.size ≤ 4096) :
    Calls Tryz.prog 15 #[.string s] w fun e W' => ∃ A c, e = .returned (.tuple #[.slice A (fromC s.data.toList).2.length c, .int .i64 ((fromC s.data.toList).1 : Int)]) ∧ Sl W' W'.heap.size A (B8 (fromC s.data.toList).2) ∧ ((fromC s.data.toList).2.length ≤ c ∧ c ≤ maxLen) ∧ Below w.heap.size w W' := by
  have hmx : Tryz.prog.follows .mixedOrders = true := by kernel_rfl
  obtain ⟨F, hF⟩ : ∃ F, F = fromC s.data.toList := ⟨_, rfl⟩
  obtain ⟨S, hS⟩ : ∃ S, S = s.data.toList := ⟨_, rfl⟩
  have hfrom := from58_any s w hsz
  rw [← hF]
  rw [← hS] at hfrom hF
  obtain ⟨E, hE⟩ : ∃ E, E = (fromS S).1 := ⟨_, rfl⟩
  obtain ⟨B, hB⟩ : ∃ B, B = (fromS S).2 := ⟨_, rfl⟩
  have hBl : B.length ≤ 250 := by rw [hB]; exact fromS_len S
  have hE5 : E = 0 ∨ E = 2 ∨ E = 3 := by rw [hE]; exact fromS_err S
  rw [fromC, ← hE, ← hB] at hF
  rw [← hE, ← hB] at hfrom
  have Hfrom := Lib.hid hfrom
  have HF := Lib.hid hF
  clear hfrom hF hS hE hB
  by_cases hE0 : E = 0
  · subst hE0
    go_enter Tryz.func15, Tryz.ntmps15
    go_wp2_with fail
    refine Hfrom.out.mono ?_
    rintro e w1 ⟨v, rfl, ho, hb⟩
    obtain ⟨Av, cv, rfl, hcv, hcv'⟩ := own_form ho
    obtain ⟨n, hn⟩ : ∃ n, n = B.length := ⟨_, rfl⟩
    rw [← hn]
    rw [← hn] at ho hcv hBl
    by_cases h4 : n < 4
    · have hFv : F = (4, []) := by rw [HF.out, if_neg (by simp), if_pos (by omega)]
      have HFv := Lib.hid hFv
      have Hn := Lib.hid hn
      clear hFv hn
      go_wp2_with fail
      go_ret2
      rw [HFv.out]
      exact ⟨none, 0, rfl, Sl.nil, ⟨Nat.le_refl _, Nat.zero_le _⟩, hb⟩
    · obtain ⟨m, hm⟩ : ∃ m, m = n - 4 := ⟨_, rfl⟩
      have em : (n : Int) - 4 = (m : Int) := by omega
      have hmn : m ≤ n := by omega
      have hmc : m ≤ cv := by omega
      have hSB : Sl w1 w1.heap.size Av (B8 B) := ho.sl
      have htk : (B.take m).length = m := by simp; omega
      have hdr : (B.drop m).length = 4 := by simp; omega
      have hdbl := double_any Av cv (B.take m) w1 (by rw [B8_take]; exact hSB.take m) (by omega) (by omega) hcv'
      rw [htk] at hdbl
      obtain ⟨h1, hh1⟩ : ∃ h1, h1 = sha (sha (B.take m)) := ⟨_, rfl⟩
      have hl1 : h1.length = 32 := by rw [hh1]; exact sha_length _
      rw [← hh1] at hdbl
      obtain ⟨oc, hoc⟩ : ∃ oc, oc = (B8 h1).toArray := ⟨_, rfl⟩
      have hocz : oc.size = 32 := by rw [hoc]; simp [hl1]
      have Hoinf : Hid ((Tryz.prog.info? 31).map (·.size) = some oc.size) := Lib.hid (by rw [hocz]; kernel_rfl)
      have Hocz : Hid ((Array.replicate 32 (Value.int .u8 0)).size = oc.size) := Lib.hid (by rw [hocz]; simp)
      have Hone : Hid (oc.all (·.oneCell') = true) := Lib.hid (by rw [hoc]; exact all_oneCell_toArray (B8_oneCell _))
      rw [← hoc] at hdbl
      have Hdbl := Lib.hid hdbl
      have Hoc := Lib.hid hoc
      have Hh1 := Lib.hid hh1
      have Hn := Lib.hid hn
      have Hm := Lib.hid hm
      have Htk := Lib.hid htk
      have Hdr := Lib.hid hdr
      clear hdbl hoc hh1 hocz hn hm htk hdr
      go_wp2_with fail
      refine Hdbl.out.mono ?_
      rintro e w2 ⟨rfl, hB2⟩
      have hz2 := hB2.size
      go_wp2_with (refine wpList_store_row rfl 31 (.tmp 7) (.tmp 24) rfl w2.heap.size oc rfl rfl 31 _ (heap_alloc_new w2 _) Hoinf.out Hocz.out Hone.out ?_; rw [World.setRow_alloc_new])
      obtain ⟨w3, hw3⟩ : ∃ w3, w3 = w2.alloc (.cells oc 31) := ⟨_, rfl⟩
      obtain ⟨gh, hgh⟩ : ∃ gh, gh = w2.heap.size := ⟨_, rfl⟩
      rw [← hgh, ← hw3]
      have hB3 : Below w2.heap.size w2 w3 := by rw [hw3]; exact (Below.refl _ _).alloc (Nat.le_refl _) _
      have hz3 : w3.heap.size = w2.heap.size + 1 := by rw [hw3]; exact World.size_alloc _ _
      have hg3 : w3.heap[gh]? = some (.cells (B8 h1).toArray 31 (0, 0)) := by rw [hw3, ← Hoc.out, hgh]; exact heap_alloc_new w2 _
      have hB13 := hB2.trans (hB3.mono hz2)
      have hS3 : Sl w3 w3.heap.size Av (B8 B) := (hSB.below hB13).mono (by omega)
      have hX3 : Sl w3 w3.heap.size (some ⟨gh, 0, none⟩) (B8 (h1.take 4)) := fun _ => ⟨_, 0, rfl, by omega, fun j hj => by
        have hj4 : j < 4 := by simp at hj; omega
        rw [cell_of_row w3 _ _ _ _ (0, 0) hg3, Nat.zero_add, B8_get]
        simp [B8, hl1, show j < 32 by omega]⟩
      have hb3 := hb.trans (hB13.mono hb.size)
      have hS3t : Sl w3 w3.heap.size Av (B8 (B.take m)) := by rw [B8_take]; exact hS3.take m
      have hY3 : Sl w3 w3.heap.size (Av.map fun x => x.add m) (B8 (B.drop m)) := by
        have h := hS3.cutf (k := m) (cap := cv) (fun x => x.add m) (fun b o => add_lit' b o m) (by rw [B8_length, ← Hn.out]; exact hcv) (by rw [B8_length, ← Hn.out]; exact hmn)
        rw [if_neg (by have := Hm.out; omega)] at h
        rw [B8_drop]; exact h
      have heq := bequal_any (some ⟨gh, 0, none⟩) (Av.map fun x => x.add m) 32 (cv - m) (h1.take 4) (B.drop m) w3.drew hX3 hY3
      rw [Hdr.out, show (h1.take 4).length = 4 by simp [hl1]] at heq
      have hnm : n - m = 4 := by have := Hm.out; omega
      have Heq := Lib.hid heq
      have HS3t := Lib.hid hS3t
      clear hg3 hw3 hgh Hoinf Hocz Hone Hoc hX3 hY3 hS3 heq hS3t ho hSB hz3
      have hF2 : F = if h1.take 4 = B.drop m then (0, B.take m) else (5, []) := by
        have hl4 : ¬ B.length < 4 := by have := Hn.out; omega
        rw [HF.out, if_neg (by simp), if_neg hl4, ← Hn.out, ← Hm.out, ← Hh1.out]
      have HF2 := Lib.hid hF2
      clear hF2
      refine wp_region_plan [(0, 0), (1, 0), (2, 0), (3, 0), (4, 2), (5, 0)] 6 hmx (by kernel_rfl) (by intro c a d v w h; cases d <;> exact h) ?_
      repeat ((first | (refine wpPlan_pure rfl (fun K hK => ?_)) | (refine wpPlan_quiet rfl (fun K hK => ?_))); go_simp; (first | (refine hK _ ?_) | (simp only [IntWalk.iteOmega]; go_simp; refine hK _ ?_) | (go_bits; go_simp; refine hK _ ?_)); clear hK K; (try go_bits))
      refine wpPlan_loud rfl rfl (fun K hK => ?_)
      go_wp2_with fail
      refine Heq.out.mono ?_
      rintro e w4 ⟨rfl, rfl⟩
      by_cases hq : h1.take 4 = B.drop m
      · have hFv : F = (0, B.take m) := by rw [HF2.out, if_pos hq]
        have HFv := Lib.hid hFv
        rw [show (h1.take 4 == B.drop m) = true by simpa using hq]
        clear hFv hq
        go_wp2_with fail
        refine ⟨(by first | exact .inr (Ext.refl _) | exact Ext.refl _), ?_⟩
        repeat ((first | (refine wpPlan_pure rfl (fun K hK => ?_)) | (refine wpPlan_quiet rfl (fun K hK => ?_))); go_simp; (first | (refine hK _ ?_) | (simp only [IntWalk.iteOmega]; go_simp; refine hK _ ?_) | (go_bits; go_simp; refine hK _ ?_)); clear hK K; (try go_bits))
        refine wpPlan_nil ?_
        go_wp2_with fail
        have hcl := clip_any Av m cv w3.drew hmc
        refine hcl.mono ?_
        rintro e w5 ⟨rfl, rfl⟩
        go_wp2_with fail
        go_ret2
        rw [HFv.out]
        refine ⟨Av, m, ?_, HS3t.out, ⟨?_, by omega⟩, hb3.drew⟩
        · rw [Htk.out]; rfl
        · exact Nat.le_of_eq Htk.out
      · have hFv : F = (5, []) := by rw [HF2.out, if_neg hq]
        have HFv := Lib.hid hFv
        rw [show (h1.take 4 == B.drop m) = false by simpa using hq]
        clear hFv hq
        go_wp2_with fail
        refine ⟨(by first | exact .inr (Ext.refl _) | exact Ext.refl _), ?_⟩
        repeat ((first | (refine wpPlan_pure rfl (fun K hK => ?_)) | (refine wpPlan_quiet rfl (fun K hK => ?_))); go_simp; (first | (refine hK _ ?_) | (simp only [IntWalk.iteOmega]; go_simp; refine hK _ ?_) | (go_bits; go_simp; refine hK _ ?_)); clear hK K; (try go_bits))
        refine wpPlan_nil ?_
        go_wp2_with fail
        go_ret2
        rw [HFv.out]
        exact ⟨none, 0, rfl, Sl.nil, ⟨Nat.le_refl _, Nat.zero_le _⟩, hb3.drew⟩
  · have hE0' : ¬ ((E : Int) = 0) := by omega
    go_enter Tryz.func15, Tryz.ntmps15
    go_wp2_with fail
    refine Hfrom.out.mono ?_
    rintro e w1 ⟨v, rfl, ho, hb⟩
    go_wp2_with fail
    go_ret2
    rw [HF.out, if_pos hE0]
    exact ⟨none, 0, rfl, Sl.nil, ⟨Nat.le_refl _, Nat.zero_le _⟩, hb⟩
theorem fromc58_any (s : ByteArray) (w : World) (hsz : s.size ≤ 4096) :
    Calls Tryz.prog 15 #[.string s] w fun e W' => ∃ A c, e = .returned (.tuple #[.slice A (fromC s.data.toList).2.length c, .int .i64 ((fromC s.data.toList).1 : Int)]) ∧ Sl W' W'.heap.size A (B8 (fromC s.data.toList).2) ∧ Below w.heap.size w W' :=
  (fromc58_full s w hsz).mono fun _ _ ⟨A, c, h1, h2, _, h3⟩ => ⟨A, c, h1, h2, h3⟩
end Go.Proofs.YtkiigonikeeikaaGreatDoor

/-! text.FromBech32 of what Bech32 wrote. -/
namespace Go.Proofs.YtkiigonikeeikaaGreatDoor
open Go.RowKit Go.Shelf

theorem let32_fine (y : UInt8) (h : y.toNat < 32) : 33 ≤ (let32 y).toNat ∧ (let32 y).toNat ≤ 126 ∧ ((let32 y).toNat < 65 ∨ 90 < (let32 y).toNat) ∧ (let32 y).toNat ≠ 49 ∧ placeZ letters32 (let32 y) = (y.toNat : Int) := by
  have : ∀ d : Fin 32, 33 ≤ (let32 (UInt8.ofNat d.val)).toNat ∧ (let32 (UInt8.ofNat d.val)).toNat ≤ 126 ∧ ((let32 (UInt8.ofNat d.val)).toNat < 65 ∨ 90 < (let32 (UInt8.ofNat d.val)).toNat) ∧ (let32 (UInt8.ofNat d.val)).toNat ≠ 49 ∧ placeZ letters32 (let32 (UInt8.ofNat d.val)) = (d.val : Int) := by decide
  have h2 := this ⟨y.toNat, h⟩
  simpa using h2

theorem results_tmp4 {fn : Func} {t u v x : Tmp} (h : fn.results = #[.tmp t, .tmp u, .tmp v, .tmp x]) (tmps : Array Value) (P : Program) (w : World) :
    (results fn tmps).run P w = .ok (.tuple #[tmps.getD t undef, tmps.getD u undef, tmps.getD v undef, tmps.getD x undef]) w := by
  simp [results, h]

set_option maxRecDepth 100000 in
set_option maxHeartbeats 4000000 in
theorem frombech_any (s : ByteArray) (S D : List UInt8) (m : Bool) (w : World) (hST : s.data.toList = S ++ [49] ++ (D ++ lets6 (bech (spreadL S ++ D ++ List.replicate 6 0) ^^^ conK m) 6).map let32) (hg : goodH S = true) (h32 : ∀ x ∈ D, x.toNat < 32) (hlen : S.length + D.length + 7 ≤ 90) :
    Calls Tryz.prog 28 #[.string s] w fun e W' => ∃ A, e = .returned (.tuple #[.string ⟨S.toArray⟩, .slice A D.length D.length, .bool m, .int .i64 0]) ∧ Sl W' W'.heap.size A (B8 D) ∧ Below w.heap.size w W' := by
  obtain ⟨M, hM⟩ : ∃ M, M = D ++ lets6 (bech (spreadL S ++ D ++ List.replicate 6 0) ^^^ conK m) 6 := ⟨_, rfl⟩
  rw [← hM] at hST
  have hMl : M.length = D.length + 6 := by rw [hM, List.length_append, lets6_length]
  have hM32 : ∀ y ∈ M, y.toNat < 32 := by
    intro y hy
    rw [hM] at hy
    rcases List.mem_append.1 hy with h | h
    · exact h32 y h
    · exact lets6_lt _ _ y h
  have hsum : bech (spreadL S ++ M) = conK m := by
    rw [hM, ← List.append_assoc]; exact bech_closes _ _ (conK_lt m)
  have hMD : M.take D.length = D := by rw [hM]; simp
  have hsz : s.size = S.length + 1 + M.length := by have h1 := congrArg List.length hST; simp at h1; omega
  have hS0 : 0 < S.length := by cases S with | nil => cases hg | cons => simp
  have hSok : ∀ c ∈ S, okc c = true := by
    unfold goodH at hg; simp only [Bool.and_eq_true] at hg
    exact List.all_eq_true.1 hg.2
  have hget : ∀ (j : Nat) (h : j < s.size), (S ++ [49] ++ M.map let32)[j]? = some s[j] := fun j h => by rw [← hST]; simp [h]; rfl
  have hlow : ∀ (j : Nat) (h : j < s.size), 33 ≤ s[j].toNat ∧ s[j].toNat ≤ 126 ∧ (s[j].toNat < 65 ∨ 90 < s[j].toNat) := by
    intro j h
    have hm := List.mem_of_getElem? (hget j h)
    simp only [List.mem_append, List.mem_singleton, List.mem_map] at hm
    rcases hm with (hm | hm) | ⟨y, hy, hm⟩
    · have := hSok _ hm
      simp [okc] at this
      omega
    · rw [hm]; decide
    · rw [← hm]
      have := let32_fine y (hM32 y hy)
      exact ⟨this.1, this.2.1, this.2.2.1⟩
  have hat : ∀ (h : S.length < s.size), s[S.length].toNat = 49 := fun h => by
    have h1 := hget S.length h
    rw [List.getElem?_append_left (by simp), List.getElem?_append_right (Nat.le_refl _)] at h1
    simp at h1
    rw [← h1]; rfl
  have hbeh : ∀ (q : Nat) (h : S.length + 1 + q < s.size) (hq : q < M.length), s[S.length + 1 + q] = let32 M[q] := fun q h hq => by
    have h1 := hget (S.length + 1 + q) h
    rw [List.getElem?_append_right (by simp)] at h1
    simp [hq] at h1
    exact h1.symm
  have hlast : ∀ (j : Nat) (h : j < s.size), S.length < j → s[j].toNat ≠ 49 := by
    intro j h hj
    obtain ⟨q, rfl⟩ : ∃ q, j = S.length + 1 + q := ⟨j - S.length - 1, by omega⟩
    have hq : q < M.length := by omega
    rw [hbeh q h hq]
    exact (let32_fine _ (hM32 _ (List.getElem_mem _))).2.2.2.1
  have hplain := plain_any s (by simp [maxLen]; omega) hlow
  have hlasti := lastIndex_any s 49 S.length (by simp [maxLen]; omega) (by omega) (hat (by omega)) hlast
  obtain ⟨n, hn⟩ : ∃ n, n = S.length := ⟨_, rfl⟩
  obtain ⟨N, hN⟩ : ∃ N, N = M.length := ⟨_, rfl⟩
  rw [← hn, ← hN] at hsz
  rw [← hn] at hlasti hlen hS0
  rw [← hN] at hMl
  have hs1 : s.size ≤ n + 1 + N := by omega
  have hs2 : n + 1 + N ≤ s.size := by omega
  have hN1 : N ≤ D.length + 6 := by omega
  have hN2 : D.length + 6 ≤ N := by omega
  have Hplain := Lib.hid hplain
  have Hlasti := Lib.hid hlasti
  have hbeh' : ∀ (q : Nat) (h : n + 1 + q < s.size) (hq : q < M.length), s[n + 1 + q] = let32 M[q] := by subst hn; exact hbeh
  have Hbeh := Lib.hid hbeh'
  have HM32 := Lib.hid hM32
  have HMD := Lib.hid hMD
  have Hsum := Lib.hid hsum
  have HST := Lib.hid hST
  have Hn := Lib.hid hn
  have HN := Lib.hid hN
  clear hplain hlasti hbeh hbeh' hM32 hMD hsum hST hn hN hlast hat hlow hget hSok hsz hMl hM hg h32
  go_enter Tryz.func28, Tryz.ntmps28
  go_wp2_with fail
  refine (Hplain.out _).mono ?_
  rintro e w' ⟨rfl, rfl⟩
  go_wp2_with fail
  refine (Hlasti.out _).mono ?_
  rintro e w' ⟨rfl, rfl⟩
  go_wp2_with fail
  obtain ⟨wZ, rfl⟩ : ∃ wZ, wZ = w' := ⟨_, rfl⟩
  go_loopw [8, 9] (fun v i wr => ∃ q : Nat, q ≤ N ∧ i = .int .i64 ((n + 1 + q : Nat) : Int) ∧ Ow wr wZ.heap.size 5 v (B8 (M.take q)) ∧ Below wZ.heap.size wZ wr) (fun _ i _ => s.size - (intOf i).toNat)
  case atStart => exact ⟨0, Nat.zero_le _, rfl, Ow.nil_ _ _ _ _, Below.refl _ _⟩
  case round =>
    obtain ⟨q, hq, rfl, ho, hb⟩ := hrel
    obtain ⟨L, hL⟩ : ∃ L, L = M.take q := ⟨_, rfl⟩
    have hLl : L.length = q := by rw [hL]; have := HN.out; simp; omega
    rw [← hL] at ho
    obtain ⟨Al, cl, rfl, hcl, hcl'⟩ := own_form ho
    rw [hLl] at ho hcl ⊢
    have HLl := Lib.hid hLl
    have HL := Lib.hid hL
    have hz := hb.size
    obtain ⟨m0, hm0⟩ : ∃ m0, m0 = n + 1 + q := ⟨_, rfl⟩
    rw [← hm0]
    have hm1 : m0 ≤ n + 1 + q := by omega
    have hm2 : n + 1 + q ≤ m0 := by omega
    have Hm0 := Lib.hid hm0
    clear hL hLl
    by_cases hlt : q < N
    · have hqM : q < M.length := by rw [← HN.out]; exact hlt
      have hms : m0 < s.size := by omega
      obtain ⟨y, hy⟩ : ∃ y, y = M[q] := ⟨_, rfl⟩
      have hy32 : y.toNat < 32 := HM32.out y (by rw [hy]; exact List.getElem_mem _)
      have hay : s[m0] = let32 y := by subst hm0; rw [hy]; exact Hbeh.out q hms hqM
      have hix := Tryz.strings_IndexByte ⟨letters32.toArray⟩ (s[m0].toNat : Int)
      rw [show (⟨letters32.toArray⟩ : ByteArray).data.toList = letters32 from rfl, indexByte_placeZ, show ((s[m0].toNat : Int)).toNat.toUInt8 = let32 y from by rw [hay]; simp, (let32_fine y hy32).2.2.2.2] at hix
      have Hix := Lib.hid hix
      have ha8 := s[m0].toNat_lt
      have hnew : L ++ [y] = M.take (q + 1) := by rw [HL.out, hy, List.take_succ_eq_append_getElem hqM]
      have Hnew := Lib.hid hnew
      have Hm0 := Lib.hid hm0
      clear hix hay hy hnew hm0
      go_wp2_with (first | (go_at_call 55; refine (Hix.out _).mono ?_; rintro e w' ⟨rfl, hww⟩; rw [hww]; clear hww) | (at_builtin; go_loud (refine wpList_append_Ow (m := 1) (c := 1) (base := wZ.heap.size) (xs := B8 L) (v := .slice Al q cl) (A := some ⟨wr.heap.size, 0, none⟩) (B := wr.heap.size + 1) (news := [.int .u8 (y.toNat : Int)]) elB rfl (.tmp 50) (.tmp 53) rfl rfl (ho.alloc _) rfl (Sl.one wr _ _) rfl (by simp; rfl) (by rw [B8_length, HLl.out]; simp [maxLen]; omega) (by rw [B8_length, HLl.out]; omega) (by have := hb.size; simp; omega) ?_); intro v3 w3 ho3 hg3 hr3))
      rw [b8_snoc L _ y rfl, Hnew.out] at ho3
      refine ⟨⟨q + 1, by omega, ?_, ho3, push_below hb (Nat.le_refl _) ho hg3⟩, by simp [intOf]; omega⟩
      have := Hm0.out
      congr 1
      omega
    · obtain rfl : q = N := by omega
      have hLM : L = M := by rw [HL.out]; exact List.take_of_length_le (by rw [← HN.out]; omega)
      rw [hLM] at ho
      obtain ⟨gD, rfl, _⟩ := ho.at_ (j := 0) (by rw [B8_length, ← HN.out]; omega)
      have hmx : Tryz.prog.follows .mixedOrders = true := by kernel_rfl
      have hms : m0 = s.size := by omega
      clear hLM HL Hm0 hm0
      go_wp2_with fail
      refine wp_region_plan [(1, 0), (2, 0), (3, 0), (5, 0), (0, 2), (4, 2), (6, 2), (7, 2), (8, 2)] 6 hmx (by kernel_rfl) (by intro c a d v w h; cases d <;> exact h) ?_
      repeat ((first | (refine wpPlan_pure rfl (fun K hK => ?_)) | (refine wpPlan_quiet rfl (fun K hK => ?_))); go_simp; (first | (refine hK _ ?_) | (simp only [IntWalk.iteOmega]; go_simp; refine hK _ ?_) | (go_bits; go_simp; refine hK _ ?_)); clear hK K; (try go_bits))
      refine wpPlan_loud rfl rfl (fun K hK => ?_)
      go_wp2_with fail
      refine (bech_any _).mono ?_
      rintro e w3 ⟨rfl, hb3⟩
      go_wp2_with fail
      refine ⟨.inr (ext_of_below hb3), ?_⟩
      have hb3 : Below wr.heap.size wr w3 := ⟨hb3.os, hb3.tape, hb3.output, hb3.size, hb3.block⟩
      have ho3 := ho.below hb3 (Nat.le_refl _)
      have hb3' := hb.trans (hb3.mono hz)
      clear ho hb hb3
      refine wpPlan_loud rfl rfl (fun K hK => ?_)
      go_wp2_with fail
      have hexS : s.extract 0 n = ⟨S.toArray⟩ := by
        apply ByteArray.ext
        apply Array.ext'
        have h1 := HST.out
        have h2 := Hn.out
        rw [ByteArray.data_extract, Array.toList_extract, h1, h2]
        simp
      have HexS := Lib.hid hexS
      have hsp := spread_any (s.extract 0 n) w3 (by rw [hexS]; show S.length ≤ 2000; rw [← Hn.out]; omega)
      rw [show (s.extract 0 n).data.toList = S by rw [hexS]] at hsp
      clear hexS
      refine hsp.mono ?_
      clear hsp
      rintro e w4 ⟨v4, rfl, ho4, hb4⟩
      obtain ⟨A4, c4, rfl, hc4, hc4'⟩ := own_form ho4
      obtain ⟨n4, hn4⟩ : ∃ n4, n4 = (spreadL S).length := ⟨_, rfl⟩
      have hn4l : n4 ≤ 200 := by rw [hn4, spreadL_length, ← Hn.out]; omega
      rw [← hn4] at ho4 hc4 ⊢
      have Hn4 := Lib.hid hn4
      clear hn4
      have hz3 := hb3'.size
      have hd4 := ho3.below hb4 (Nat.le_refl _)
      have hb4' := hb3'.trans (hb4.mono hz3)
      have hz4 := hb4.size
      go_wp2_with fail
      refine ⟨.inr (ext_of_below hb4), ?_⟩
      have hrow3 := ho3.row
      clear hb4 ho3 hb3'
      refine wpPlan_loud rfl rfl (fun K hK => ?_)
      refine wp_append_Ow (m := q) (c := cl) (base := w3.heap.size) (xs := B8 (spreadL S)) (v := .slice A4 n4 c4) (A := some ⟨gD, 0, none⟩) (B := w4.heap.size) (news := B8 M) elB (.tmp 59) (.tmp 60) rfl rfl ho4 rfl hd4.sl (by rw [B8_length]; exact HN.out.symm) (B8_oneCell _) (by rw [B8_length, ← Hn4.out]; simp [maxLen]; omega) (by rw [B8_length, ← Hn4.out]; omega) hz4 ?_
      intro v5 w5 ho5 hg5 hr5
      rw [← B8_append] at ho5
      have hd5 := hd4.kept hg5 (fun r hr e => by have h1 := (ho4.row r e).1; have h2 := (hrow3 r hr).2; omega)
      have hb5' : Below wZ.heap.size wZ w5 := hb4'.grown hg5 hb4'.size (fun r hr => by have := (ho4.row r hr).1; omega)
      refine (show K (Act.put _ (some 61) v5) w5 from ?_)
      conv in (Act.put _ (some 61) v5) => simp [Act.put]
      refine hK _ _ ⟨.inl (by decide), ?_⟩
      clear hK K
      obtain ⟨ALL, hALL⟩ : ∃ X, X = spreadL S ++ M := ⟨_, rfl⟩
      rw [← hALL] at ho5
      obtain ⟨A5, c5, rfl, hc5, hc5'⟩ := own_form ho5
      have hAl : ALL.length ≤ 400 := by rw [hALL, List.length_append, ← Hn4.out, ← HN.out]; omega
      have hA0 : 0 < ALL.length := by rw [hALL, List.length_append, spreadL_length]; omega
      have hbK : bech (ALL ++ List.replicate 0 0) = conK m := by rw [hALL, List.replicate_zero, List.append_nil]; exact Hsum.out
      have HbK := Lib.hid hbK
      clear hALL hg5 hr5 ho4 hd4 hb4' hbK
      refine wpPlan_loud rfl rfl (fun K hK => ?_)
      go_wp2_with fail
      refine (brun0_any A5 c5 ALL w5 ho5.sl (by omega) hA0).mono ?_
      rintro e w6 ⟨rfl, hb6⟩
      rw [HbK.out]
      go_wp2_with fail
      refine ⟨.inl (by decide), ?_⟩
      have hd6 := hd5.below hb6 (Nat.le_refl _)
      have hb6' := hb5'.trans (hb6.mono hb5'.size)
      clear hd5 hb5' hb6 ho5
      have e6 : (q : Int) - 6 = (D.length : Int) := by omega
      refine wpPlan_loud rfl rfl (fun K hK => ?_)
      cases m with
      | true =>
        rw [show ((conK true).toNat : Int) = 734539939 from rfl]
        go_wp2_with fail
        refine ⟨.inl (by decide), ?_⟩
        refine wpPlan_nil ?_
        go_wp2_with fail
        refine wp_region_plan [(0, 0), (1, 0), (2, 0), (3, 0), (4, 0), (5, 0), (6, 0), (7, 0), (9, 0), (10, 0), (8, 2), (11, 0), (12, 0), (13, 0), (14, 0)] 15 hmx (by kernel_rfl) (by intro c a d v w h; cases d <;> exact h) ?_
        repeat ((first | (refine wpPlan_pure rfl (fun K hK => ?_)) | (refine wpPlan_quiet rfl (fun K hK => ?_))); go_simp; (first | (refine hK _ ?_) | (simp only [IntWalk.iteOmega]; go_simp; refine hK _ ?_) | (go_bits; go_simp; refine hK _ ?_)); clear hK K; (try go_bits))
        refine wpPlan_loud rfl rfl (fun K hK => ?_)
        go_wp2_with fail
        refine (clip_any (some ⟨gD, 0, none⟩) D.length cl _ (by omega)).mono ?_
        rintro e w7 ⟨rfl, rfl⟩
        go_wp2_with fail
        refine ⟨.inr (Ext.refl _), ?_⟩
        repeat ((first | (refine wpPlan_pure rfl (fun K hK => ?_)) | (refine wpPlan_quiet rfl (fun K hK => ?_))); go_simp; (first | (refine hK _ ?_) | (simp only [IntWalk.iteOmega]; go_simp; refine hK _ ?_) | (go_bits; go_simp; refine hK _ ?_)); clear hK K; (try go_bits))
        refine wpPlan_nil ?_
        go_wp2_with fail
        refine bodyPost_ret (results_tmp4 rfl _ _ _) rfl ?_
        refine ⟨some ⟨gD, 0, none⟩, ?_, ?_, ?_⟩
        · rw [← HexS.out]; rfl
        · rw [← HMD.out, B8_take]; exact hd6.sl.take _
        · exact hb6'.drew
      | false =>
        rw [show ((conK false).toNat : Int) = 1 from rfl]
        go_wp2_with fail
        refine ⟨.inl (by decide), ?_⟩
        refine wpPlan_nil ?_
        go_wp2_with fail
        refine wp_region_plan [(0, 0), (1, 0), (2, 0), (3, 0), (4, 0), (5, 0), (6, 0), (7, 0), (9, 0), (10, 0), (8, 2), (11, 0), (12, 0), (13, 0), (14, 0)] 15 hmx (by kernel_rfl) (by intro c a d v w h; cases d <;> exact h) ?_
        repeat ((first | (refine wpPlan_pure rfl (fun K hK => ?_)) | (refine wpPlan_quiet rfl (fun K hK => ?_))); go_simp; (first | (refine hK _ ?_) | (simp only [IntWalk.iteOmega]; go_simp; refine hK _ ?_) | (go_bits; go_simp; refine hK _ ?_)); clear hK K; (try go_bits))
        refine wpPlan_loud rfl rfl (fun K hK => ?_)
        go_wp2_with fail
        refine (clip_any (some ⟨gD, 0, none⟩) D.length cl _ (by omega)).mono ?_
        rintro e w7 ⟨rfl, rfl⟩
        go_wp2_with fail
        refine ⟨.inr (Ext.refl _), ?_⟩
        repeat ((first | (refine wpPlan_pure rfl (fun K hK => ?_)) | (refine wpPlan_quiet rfl (fun K hK => ?_))); go_simp; (first | (refine hK _ ?_) | (simp only [IntWalk.iteOmega]; go_simp; refine hK _ ?_) | (go_bits; go_simp; refine hK _ ?_)); clear hK K; (try go_bits))
        refine wpPlan_nil ?_
        go_wp2_with fail
        refine bodyPost_ret (results_tmp4 rfl _ _ _) rfl ?_
        refine ⟨some ⟨gD, 0, none⟩, ?_, ?_, ?_⟩
        · rw [← HexS.out]; rfl
        · rw [← HMD.out, B8_take]; exact hd6.sl.take _
        · exact hb6'.drew
end Go.Proofs.YtkiigonikeeikaaGreatDoor

/-! text.fits, text.Segwit and text.FromSegwit of a digest. -/
namespace Go.Proofs.YtkiigonikeeikaaGreatDoor
open Go.RowKit Go.Shelf

theorem b32_fine {S D : List UInt8} {K : BitVec 64} (h : (b32 S D K).1 = 0) : (b32 S D K).2 = S ++ [49] ++ (D ++ lets6 (bech (spreadL S ++ D ++ List.replicate 6 0) ^^^ K) 6).map let32 ∧ goodH S = true ∧ S.length + D.length + 7 ≤ 90 := by
  unfold b32 at h ⊢
  by_cases h1 : 83 < S.length ∨ 90 < S.length + D.length + 7
  · rw [if_pos h1] at h; simp at h
  · rw [if_neg h1] at h ⊢
    by_cases h2 : goodH S = true
    · rw [if_pos h2]
      exact ⟨rfl, h2, by omega⟩
    · rw [if_neg h2] at h; simp at h
theorem string_back (s : ByteArray) : (⟨s.data.toList.toArray⟩ : ByteArray) = s := by
  apply ByteArray.ext
  simp

theorem five52 {h five : List UInt8} (hf : Five h five) (hl : h.length = 32) : five.length = 52 := by
  obtain ⟨_, p, hp, h1, _⟩ := hf
  omega

set_option maxHeartbeats 400000 in
theorem fits_32 (w : World) : Calls Tryz.prog 25 #[.int .i64 0, .int .i64 32] w fun e w' => e = .returned (.bool true) ∧ w' = w := by
  go_enter Tryz.func25, Tryz.ntmps25
  go_wp2
  go_ret
  exact ⟨rfl, rfl⟩

set_option maxRecDepth 100000 in
set_option maxHeartbeats 4000000 in
theorem segwit_any (s : ByteArray) (A : Option Addr) (c : Nat) (h : List UInt8) (hl : h.length = 32) (w : World) (hs : Sl w w.heap.size A (B8 h)) (hsz : s.size ≤ maxLen) :
    Calls Tryz.prog 8 #[.string s, .int .i64 0, .slice A 32 c] w fun e W' => ∃ five, Five h five ∧ e = .returned (.tuple #[.string ⟨(b32 s.data.toList (0 :: five) (conK false)).2.toArray⟩, .int .i64 ((b32 s.data.toList (0 :: five) (conK false)).1 : Int)]) ∧ Below w.heap.size w W' := by
  have hr := regroup85_any A c h w hs (by omega)
  rw [hl] at hr
  have Hr := Lib.hid hr
  have Hl := Lib.hid hl
  clear hr hl hs
  go_enter Tryz.func8, Tryz.ntmps8
  go_wp2_with (go_at_call 25; refine (fits_32 _).mono ?_; rintro e w' ⟨rfl, hw1⟩; rw [hw1]; clear hw1)
  refine Hr.out.mono ?_
  rintro e w1 ⟨v1, five, rfl, hfive, ho1, hb1⟩
  obtain ⟨A1, c1, rfl, hc1, hc1'⟩ := own_form ho1
  rw [five52 hfive Hl.out] at ho1 hc1 ⊢
  have hl1 := ho1.sl
  have H5 := Lib.hid hfive
  have Hn := Lib.hid (five52 hfive Hl.out)
  clear hfive ho1
  have hz1 := hb1.size
  have ho0 : Ow (w1.alloc (.cells #[.int .u8 0] 5)) w1.heap.size 5 (.slice (some ⟨w1.heap.size, 0, none⟩) 1 1) (B8 [0]) := Ow.new1 w1 _ _ _ (Nat.le_refl _)
  have hs0 : Sl (w1.alloc (.cells #[.int .u8 0] 5)) (w1.alloc (.cells #[.int .u8 0] 5)).heap.size A1 (B8 five) := (hl1.alloc (Nat.le_refl _) _).mono (by simp)
  have hb0 : Below w1.heap.size w1 (w1.alloc (.cells #[.int .u8 0] 5)) := (Below.refl _ _).alloc (Nat.le_refl _) _
  have hz0 := hb0.size
  go_wp2_with (at_builtin; go_loud (refine wpList_append_Ow (m := 52) (c := c1) (base := w1.heap.size) (xs := B8 [0]) (v := .slice (some ⟨w1.heap.size, 0, none⟩) 1 1) (A := A1) (news := B8 five) elB rfl (.tmp 29) (.tmp 30) rfl rfl ho0 rfl hs0 (by rw [B8_length]; exact Hn.out) (B8_oneCell _) (by rw [B8_length]; simp [maxLen]) (by rw [B8_length]; simp) hz0 ?_); intro v3 w3 ho3 hg3 hr3; rw [← B8_append] at ho3; obtain ⟨A3, c3, hv3, hc3, hc3'⟩ := own_form ho3; subst hv3)
  have hb3 : Below w.heap.size w w3 := hb1.trans ((hb0.grown hg3 hz0 (fun r hr => (ho0.row r hr).1)).mono hz1)
  have h32 : ∀ x ∈ (0 :: five), x.toNat < 32 := by
    intro x hx
    rcases List.mem_cons.1 hx with rfl | hx
    · decide
    · exact H5.out.1 x hx
  refine (bech32_any s A3 c3 (0 :: five) false w3 ho3.sl h32 (by rw [List.length_cons, Hn.out]; omega) hsz).mono ?_
  rintro e w4 ⟨rfl, hb4⟩
  have hb34 := hb3.trans (hb4.mono hb3.size)
  obtain ⟨F2, hF2⟩ : ∃ F2 : ByteArray, F2 = ⟨(b32 s.data.toList (0 :: five) (conK false)).2.toArray⟩ := ⟨_, rfl⟩
  obtain ⟨F1, hF1⟩ : ∃ F1, F1 = (b32 s.data.toList (0 :: five) (conK false)).1 := ⟨_, rfl⟩
  rw [← hF2, ← hF1]
  have HF2 := Lib.hid hF2
  have HF1 := Lib.hid hF1
  clear hF2 hF1
  go_wp2_with fail
  go_ret2
  exact ⟨five, H5.out, by rw [← HF2.out, ← HF1.out]; rfl, hb34⟩

set_option maxRecDepth 100000 in
set_option maxHeartbeats 4000000 in
theorem fromsegwit_any (s F2 : ByteArray) (h five : List UInt8) (hl : h.length = 32) (hf : Five h five) (h0 : (b32 s.data.toList (0 :: five) (conK false)).1 = 0) (hF2 : F2 = ⟨(b32 s.data.toList (0 :: five) (conK false)).2.toArray⟩) (w : World) :
    Calls Tryz.prog 9 #[.string s, .string F2] w fun e W' => ∃ A c, e = .returned (.tuple #[.int .i64 0, .slice A 32 c, .int .i64 0]) ∧ Sl W' W'.heap.size A (B8 h) ∧ 32 ≤ c ∧ c ≤ maxLen ∧ Below w.heap.size w W' := by
  obtain ⟨hok1, hok2, hok3⟩ := b32_fine h0
  have h32 : ∀ x ∈ (0 :: five), x.toNat < 32 := by
    intro x hx
    rcases List.mem_cons.1 hx with rfl | hx
    · decide
    · exact hf.1 x hx
  have hF := frombech_any F2 s.data.toList (0 :: five) false w (by rw [hF2, hok1]) hok2 h32 hok3
  have hn := five52 hf hl
  rw [string_back, List.length_cons, hn] at hF
  have HF := Lib.hid hF
  have Hn := Lib.hid hn
  have H5 := Lib.hid hf
  have Hl := Lib.hid hl
  clear hF hn hok1 hok2 hok3 h0 hF2 hf h32 hl
  go_enter Tryz.func9, Tryz.ntmps9
  go_wp2_with fail
  refine HF.out.mono ?_
  rintro e w1 ⟨A1, rfl, hs1, hb1⟩
  obtain ⟨b1, o1, rfl, hbl, hcells⟩ := hs1 (by simp)
  have c0 : w1.cell? ⟨b1, o1, none⟩ = some (.int .u8 0) := hcells 0 (by simp)
  have Sf : Sl w1 w1.heap.size (some ⟨b1, o1 + 1, none⟩) (B8 five) := fun _ => ⟨b1, o1 + 1, rfl, hbl, fun j hj => by
    have := hcells (j + 1) (by simp at hj ⊢; omega)
    rw [show o1 + 1 + j = o1 + (j + 1) by omega, this]
    rfl⟩
  clear hs1 hcells HF
  go_wp2_with fail
  have hr := regroup58_any (some ⟨b1, o1 + 1, none⟩) 52 h five w1 Sf H5.out (by rw [Hn.out]; omega)
  rw [Hn.out] at hr
  refine hr.mono ?_
  clear hr
  rintro e w2 ⟨v2, rfl, ho2, hb2⟩
  obtain ⟨A2, c2, rfl, hc2, hc2'⟩ := own_form ho2
  rw [Hl.out] at ho2 hc2 ⊢
  have hl2 := ho2.sl
  have c02 : w2.cell? ⟨b1, o1, none⟩ = some (.int .u8 0) := by rw [hb2.cell (p := ⟨b1, o1, none⟩) hbl]; exact c0
  have hb02 := hb1.trans (hb2.mono hb1.size)
  clear ho2 hb2 c0 Sf hb1
  go_wp2_with (go_at_call 25; refine (fits_32 _).mono ?_; rintro e w' ⟨rfl, hw1⟩; rw [hw1]; clear hw1)
  go_ret3
  exact ⟨A2, c2, rfl, hl2, hc2, hc2', hb02⟩
end Go.Proofs.YtkiigonikeeikaaGreatDoor
