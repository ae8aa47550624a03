/- text.Check58. | text.FromCheck58. | What a text is read as: a tree's key. Plain. -/
import Derived.Test.YtcjioogololnoaaGreatDoorU11
import Derived.Test.YtcjioogololnoaaGreatDoorU20

/-! text.Check58. -/
namespace Go.Proofs.YtcjioogololnoaaGreatDoor
open Go.RowKit Go.Shelf

/-- Bytes with their check. -/
def checked (b : List UInt8) : List UInt8 := b ++ (sha (sha b)).take 4
theorem checked_length (b : List UInt8) : (checked b).length = b.length + 4 := by simp [checked, sha_length]

set_option maxRecDepth 100000 in
set_option maxHeartbeats 4000000 in
theorem check58_any (A : Option Addr) (c : Nat) (b : List UInt8) (w : World) (hs : Sl w w.heap.size A (B8 b)) (hl : b.length ≤ 280) (hbc : b.length ≤ c) (hc : c ≤ maxLen) :
    Calls Tryz.prog 80 #[.slice A b.length c] w fun e W' => e = .returned (.string ⟨(b58L (checked b)).toArray⟩) ∧ Below w.heap.size w W' := by
  have hmx : Tryz.prog.follows .mixedOrders = true := by kernel_rfl
  go_enter Tryz.func80, Tryz.ntmps80
  go_wp2_with fail
  refine (double_any A c b w hs (by omega) hbc hc).mono ?_
  rintro e w1 ⟨rfl, hB1⟩
  obtain ⟨h1, hh1⟩ : ∃ h1, h1 = sha (sha b) := ⟨_, rfl⟩
  have hl1 : h1.length = 32 := by rw [hh1]; exact sha_length _
  rw [← hh1]
  obtain ⟨oc, hoc⟩ : ∃ oc, oc = (B8 h1).toArray := ⟨_, rfl⟩
  have hocz : oc.size = 32 := by rw [hoc]; simp [hl1]
  have Hoinf : Hid ((Tryz.prog.info? 168).map (·.size) = some oc.size) := Lib.hid (by rw [hocz]; kernel_rfl)
  have Hocz : Hid ((Array.replicate 32 (Value.int .u8 0)).size = oc.size) := Lib.hid (by rw [hocz]; simp)
  have Hone : Hid (oc.all (·.oneCell') = true) := Lib.hid (by rw [hoc]; exact all_oneCell_toArray (B8_oneCell _))
  rw [← hoc]
  have Hoc := Lib.hid hoc
  have Hh1 := Lib.hid hh1
  have hz1 := hB1.size
  have hs1 := (hs.below hB1)
  clear hoc hh1 hocz hs
  go_wp2_with (refine wpList_store_row rfl 168 (.tmp 3) (.tmp 5) rfl w1.heap.size oc rfl rfl 168 _ (heap_alloc_new w1 _) Hoinf.out Hocz.out Hone.out ?_; rw [World.setRow_alloc_new])
  obtain ⟨w2, hw2⟩ : ∃ w2, w2 = w1.alloc (.cells oc 168) := ⟨_, rfl⟩
  obtain ⟨gh, hgh⟩ : ∃ gh, gh = w1.heap.size := ⟨_, rfl⟩
  rw [← hgh, ← hw2]
  have hB2 : Below w1.heap.size w1 w2 := by rw [hw2]; exact (Below.refl _ _).alloc (Nat.le_refl _) _
  have hz2 : w2.heap.size = w1.heap.size + 1 := by rw [hw2]; exact World.size_alloc _ _
  have hg2 : w2.heap[gh]? = some (.cells (B8 h1).toArray 168 (0, 0)) := by rw [hw2, ← Hoc.out, hgh]; exact heap_alloc_new w1 _
  have hs2 : Sl w2 w2.heap.size A (B8 b) := (hs1.below (hB2.mono hz1)).mono (by omega)
  have hgl : gh < w2.heap.size := by omega
  have hBw2 := hB1.trans (hB2.mono hz1)
  have Hg2 := Lib.hid hg2
  have Hs2 := Lib.hid hs2
  clear hg2 hw2 hs1 hs2 hgh Hoinf Hocz Hone Hoc
  refine wp_region_plan [(0, 0), (2, 0), (1, 2), (3, 2), (4, 2), (5, 2)] 3 hmx (by kernel_rfl) (by intro c a d v w h; cases d <;> exact h) ?_
  repeat ((first | (refine wpPlan_pure rfl (fun K hK => ?_)) | (refine wpPlan_quiet rfl (fun K hK => ?_))); go_simp; (first | (refine hK _ ?_) | (simp only [IntWalk.iteOmega]; go_simp; refine hK _ ?_) | (go_bits; go_simp; refine hK _ ?_)); clear hK K; (try go_bits))
  refine wpPlan_loud rfl rfl (fun K hK => ?_)
  go_wp2_with fail
  refine (clone_any A c b w2.drew Hs2.out (by omega)).mono ?_
  rintro e w3 ⟨v, rfl, ho, hb3⟩
  obtain ⟨Av, cv, rfl, hcv, hcv'⟩ := own_form ho
  go_wp2_with fail
  refine ⟨.inr (ext_of_below hb3), ?_⟩
  refine wpPlan_loud rfl rfl (fun K hK => ?_)
  have hb3' : Below w2.heap.size w2 w3 := ⟨hb3.os, hb3.tape, hb3.output, hb3.size, hb3.block⟩
  have hz3 := hb3'.size
  have hg3 := (hb3'.block gh hgl).trans Hg2.out
  have hS3 : Sl w3 w3.heap.size (some ⟨gh, 0, none⟩) (B8 (h1.take 4)) := fun _ => ⟨_, 0, rfl, by omega, fun j hj => by
    have hj4 : j < 4 := by simp at hj; omega
    rw [cell_of_row w3 _ _ _ _ (0, 0) hg3, Nat.zero_add, B8_get]
    simp [B8, hl1, show j < 32 by omega]⟩
  refine wp_append_Ow (m := 4) (c := 32) (base := w2.heap.size) (xs := B8 b) (v := .slice Av b.length cv) (A := some ⟨gh, 0, none⟩) (B := w3.heap.size) (news := B8 (h1.take 4)) elB (.tmp 7) (.tmp 8) rfl rfl ho rfl hS3 (by simp [hl1]) (B8_oneCell _) (by rw [B8_length]; simp [maxLen]; omega) (by rw [B8_length]; omega) hz3 ?_
  intro v4 w4 ho4 hg4 hr4
  rw [← B8_append, Hh1.out] at ho4
  have hb4 := hb3'.grown hg4 hz3 (fun r hr => (ho.row r hr).1)
  refine hK _ _ ⟨.inl (by decide), ?_⟩
  clear hK K
  obtain ⟨A4, c4, rfl, hc4, hc4'⟩ := own_form ho4
  have hlen : (b ++ (sha (sha b)).take 4).length = b.length + 4 := checked_length b
  go_simp
  refine wpPlan_loud rfl rfl (fun K hK => ?_)
  go_wp2_with fail
  have hb58 := base58_any A4 c4 (checked b) (by rw [checked_length]; omega) w4 ho4.sl
  rw [checked_length] at hb58
  refine hb58.mono ?_
  rintro e w5 ⟨rfl, hB5⟩
  go_wp2_with fail
  refine ⟨.inl (by decide), ?_⟩
  refine wpPlan_loud rfl rfl (fun K hK => ?_)
  go_wp2_with fail
  refine ⟨.inl (by decide), ?_⟩
  refine wpPlan_nil ?_
  go_wp2_with fail
  go_ret
  exact ⟨rfl, (hBw2.trans (hb4.mono (by omega))).trans (hB5.mono (by have := hb4.size; omega))⟩
end Go.Proofs.YtcjioogololnoaaGreatDoor

/-! text.FromCheck58. -/
namespace Go.Proofs.YtcjioogololnoaaGreatDoor
open Go.RowKit Go.Shelf

theorem baseL_zeros (f t z : Nat) (l : List UInt8) : baseL f t (List.replicate z 0 ++ l) = baseL f t l := by
  induction z with
  | zero => rfl
  | succ z ih => rw [List.replicate_succ, List.cons_append, ← ih]; rfl
theorem dropWhile_split (s : List UInt8) : s = List.replicate (s.length - (s.dropWhile (· == 49)).length) 49 ++ s.dropWhile (· == 49) := by
  induction s with
  | nil => rfl
  | cons c s ih =>
    by_cases h : c = 49
    · have hl : (s.dropWhile (· == 49)).length ≤ s.length := (List.dropWhile_sublist _).length_le
      rw [List.dropWhile_cons_of_pos (by simpa using h), List.length_cons, show s.length + 1 - (s.dropWhile (· == 49)).length = (s.length - (s.dropWhile (· == 49)).length) + 1 by omega, List.replicate_succ, List.cons_append, ← ih, h]
    · rw [List.dropWhile_cons_of_neg (by simpa using h)]; simp
theorem fromS_digits (s : List UInt8) : baseL 58 256 (s.map dig58) = baseL 58 256 ((s.dropWhile (· == 49)).map dig58) := by
  have h : s.map dig58 = List.replicate (s.length - (s.dropWhile (· == 49)).length) 0 ++ (s.dropWhile (· == 49)).map dig58 := by
    conv => lhs; rw [dropWhile_split s]
    rw [List.map_append, List.map_replicate]; rfl
  rw [h, baseL_zeros]
theorem fromS_len (s : List UInt8) : (fromS s).2.length ≤ 250 := by
  unfold fromS
  split
  · simp
  · rename_i h250
    split
    · rename_i hall
      rw [List.length_append, List.length_replicate, List.length_reverse, fromS_digits]
      have h1 := baseL_len1 58 256 (by omega) (by omega) (by omega) (by omega) ((s.dropWhile (· == 49)).map dig58) (fun d hd => by
        obtain ⟨c, hc, rfl⟩ := List.mem_map.1 hd
        exact dig58_lt c (hall c ((List.dropWhile_sublist _).subset hc)))
      rw [List.length_map] at h1
      have hl : (s.dropWhile (· == 49)).length ≤ s.length := (List.dropWhile_sublist _).length_le
      omega
    · simp
/-- What a text with a check is read as. -/
def fromC (s : List UInt8) : Nat × List UInt8 :=
  if (fromS s).1 ≠ 0 then ((fromS s).1, [])
  else if (fromS s).2.length < 4 then (4, [])
  else if (sha (sha ((fromS s).2.take ((fromS s).2.length - 4)))).take 4 = (fromS s).2.drop ((fromS s).2.length - 4) then (0, (fromS s).2.take ((fromS s).2.length - 4))
  else (5, [])
theorem fromS_err (s : List UInt8) : (fromS s).1 = 0 ∨ (fromS s).1 = 2 ∨ (fromS s).1 = 3 := by
  unfold fromS; split
  · simp
  · split <;> simp

set_option maxHeartbeats 400000 in
theorem bequal_any (A C : Option Addr) (n m : Nat) (a b : List UInt8) (w : World) (ha : Sl w w.heap.size A (B8 a)) (hb : Sl w w.heap.size C (B8 b)) :
    Calls Tryz.prog 142 #[.slice A a.length n, .slice C b.length m] w fun e w' => e = .returned (.bool (a == b)) ∧ w = w' := by
  have e1 := run_str_Sl (P := Tryz.prog) w 37 9 5 Tryz.underlying37 Tryz.underlying5 Tryz.underlying9 _ A n a ha
  have e2 := run_str_Sl (P := Tryz.prog) w 37 9 5 Tryz.underlying37 Tryz.underlying5 Tryz.underlying9 _ C m b hb
  clear ha hb
  go_enter Tryz.func142, Tryz.ntmps142
  go_wp2
  go_ret
  exact ⟨rfl, rfl⟩
set_option maxHeartbeats 400000 in
theorem clip_any (A : Option Addr) (n c : Nat) (w : World) (hnc : n ≤ c) :
    Calls Tryz.prog 143 #[.slice A n c] w fun e w' => e = .returned (.slice A n n) ∧ w = w' := by
  go_enter Tryz.func143, Tryz.ntmps143
  go_wp2
  go_ret
  exact ⟨rfl, rfl⟩

set_option maxRecDepth 100000 in
set_option maxHeartbeats 4000000 in
theorem fromc58_full (s : ByteArray) (w : World) (hsz : s.size ≤ 4096) :
    Calls Tryz.prog 99 #[.string s] w fun e W' => ∃ A c, e = .returned (.tuple #[.slice A (fromC s.data.toList).2.length c, .int .i64 ((fromC s.data.toList).1 : Int)]) ∧ Sl W' W'.heap.size A (B8 (fromC s.data.toList).2) ∧ ((fromC s.data.toList).2.length ≤ c ∧ c ≤ maxLen) ∧ Below w.heap.size w W' := by
  have hmx : Tryz.prog.follows .mixedOrders = true := by kernel_rfl
  obtain ⟨F, hF⟩ : ∃ F, F = fromC s.data.toList := ⟨_, rfl⟩
  obtain ⟨S, hS⟩ : ∃ S, S = s.data.toList := ⟨_, rfl⟩
  have hfrom := from58_any s w hsz
  rw [← hF]
  rw [← hS] at hfrom hF
  obtain ⟨E, hE⟩ : ∃ E, E = (fromS S).1 := ⟨_, rfl⟩
  obtain ⟨B, hB⟩ : ∃ B, B = (fromS S).2 := ⟨_, rfl⟩
  have hBl : B.length ≤ 250 := by rw [hB]; exact fromS_len S
  have hE5 : E = 0 ∨ E = 2 ∨ E = 3 := by rw [hE]; exact fromS_err S
  rw [fromC, ← hE, ← hB] at hF
  rw [← hE, ← hB] at hfrom
  have Hfrom := Lib.hid hfrom
  have HF := Lib.hid hF
  clear hfrom hF hS hE hB
  by_cases hE0 : E = 0
  · subst hE0
    go_enter Tryz.func99, Tryz.ntmps99
    go_wp2_with fail
    refine Hfrom.out.mono ?_
    rintro e w1 ⟨v, rfl, ho, hb⟩
    obtain ⟨Av, cv, rfl, hcv, hcv'⟩ := own_form ho
    obtain ⟨n, hn⟩ : ∃ n, n = B.length := ⟨_, rfl⟩
    rw [← hn]
    rw [← hn] at ho hcv hBl
    by_cases h4 : n < 4
    · have hFv : F = (4, []) := by rw [HF.out, if_neg (by simp), if_pos (by omega)]
      have HFv := Lib.hid hFv
      have Hn := Lib.hid hn
      clear hFv hn
      go_wp2_with fail
      go_ret2
      rw [HFv.out]
      exact ⟨none, 0, rfl, Sl.nil, ⟨Nat.le_refl _, Nat.zero_le _⟩, hb⟩
    · obtain ⟨m, hm⟩ : ∃ m, m = n - 4 := ⟨_, rfl⟩
      have em : (n : Int) - 4 = (m : Int) := by omega
      have hmn : m ≤ n := by omega
      have hmc : m ≤ cv := by omega
      have hSB : Sl w1 w1.heap.size Av (B8 B) := ho.sl
      have htk : (B.take m).length = m := by simp; omega
      have hdr : (B.drop m).length = 4 := by simp; omega
      have hdbl := double_any Av cv (B.take m) w1 (by rw [B8_take]; exact hSB.take m) (by omega) (by omega) hcv'
      rw [htk] at hdbl
      obtain ⟨h1, hh1⟩ : ∃ h1, h1 = sha (sha (B.take m)) := ⟨_, rfl⟩
      have hl1 : h1.length = 32 := by rw [hh1]; exact sha_length _
      rw [← hh1] at hdbl
      obtain ⟨oc, hoc⟩ : ∃ oc, oc = (B8 h1).toArray := ⟨_, rfl⟩
      have hocz : oc.size = 32 := by rw [hoc]; simp [hl1]
      have Hoinf : Hid ((Tryz.prog.info? 168).map (·.size) = some oc.size) := Lib.hid (by rw [hocz]; kernel_rfl)
      have Hocz : Hid ((Array.replicate 32 (Value.int .u8 0)).size = oc.size) := Lib.hid (by rw [hocz]; simp)
      have Hone : Hid (oc.all (·.oneCell') = true) := Lib.hid (by rw [hoc]; exact all_oneCell_toArray (B8_oneCell _))
      rw [← hoc] at hdbl
      have Hdbl := Lib.hid hdbl
      have Hoc := Lib.hid hoc
      have Hh1 := Lib.hid hh1
      have Hn := Lib.hid hn
      have Hm := Lib.hid hm
      have Htk := Lib.hid htk
      have Hdr := Lib.hid hdr
      clear hdbl hoc hh1 hocz hn hm htk hdr
      go_wp2_with fail
      refine Hdbl.out.mono ?_
      rintro e w2 ⟨rfl, hB2⟩
      have hz2 := hB2.size
      go_wp2_with (refine wpList_store_row rfl 168 (.tmp 7) (.tmp 24) rfl w2.heap.size oc rfl rfl 168 _ (heap_alloc_new w2 _) Hoinf.out Hocz.out Hone.out ?_; rw [World.setRow_alloc_new])
      obtain ⟨w3, hw3⟩ : ∃ w3, w3 = w2.alloc (.cells oc 168) := ⟨_, rfl⟩
      obtain ⟨gh, hgh⟩ : ∃ gh, gh = w2.heap.size := ⟨_, rfl⟩
      rw [← hgh, ← hw3]
      have hB3 : Below w2.heap.size w2 w3 := by rw [hw3]; exact (Below.refl _ _).alloc (Nat.le_refl _) _
      have hz3 : w3.heap.size = w2.heap.size + 1 := by rw [hw3]; exact World.size_alloc _ _
      have hg3 : w3.heap[gh]? = some (.cells (B8 h1).toArray 168 (0, 0)) := by rw [hw3, ← Hoc.out, hgh]; exact heap_alloc_new w2 _
      have hB13 := hB2.trans (hB3.mono hz2)
      have hS3 : Sl w3 w3.heap.size Av (B8 B) := (hSB.below hB13).mono (by omega)
      have hX3 : Sl w3 w3.heap.size (some ⟨gh, 0, none⟩) (B8 (h1.take 4)) := fun _ => ⟨_, 0, rfl, by omega, fun j hj => by
        have hj4 : j < 4 := by simp at hj; omega
        rw [cell_of_row w3 _ _ _ _ (0, 0) hg3, Nat.zero_add, B8_get]
        simp [B8, hl1, show j < 32 by omega]⟩
      have hb3 := hb.trans (hB13.mono hb.size)
      have hS3t : Sl w3 w3.heap.size Av (B8 (B.take m)) := by rw [B8_take]; exact hS3.take m
      have hY3 : Sl w3 w3.heap.size (Av.map fun x => x.add m) (B8 (B.drop m)) := by
        have h := hS3.cutf (k := m) (cap := cv) (fun x => x.add m) (fun b o => add_lit' b o m) (by rw [B8_length, ← Hn.out]; exact hcv) (by rw [B8_length, ← Hn.out]; exact hmn)
        rw [if_neg (by have := Hm.out; omega)] at h
        rw [B8_drop]; exact h
      have heq := bequal_any (some ⟨gh, 0, none⟩) (Av.map fun x => x.add m) 32 (cv - m) (h1.take 4) (B.drop m) w3.drew hX3 hY3
      rw [Hdr.out, show (h1.take 4).length = 4 by simp [hl1]] at heq
      have hnm : n - m = 4 := by have := Hm.out; omega
      have Heq := Lib.hid heq
      have HS3t := Lib.hid hS3t
      clear hg3 hw3 hgh Hoinf Hocz Hone Hoc hX3 hY3 hS3 heq hS3t ho hSB hz3
      have hF2 : F = if h1.take 4 = B.drop m then (0, B.take m) else (5, []) := by
        have hl4 : ¬ B.length < 4 := by have := Hn.out; omega
        rw [HF.out, if_neg (by simp), if_neg hl4, ← Hn.out, ← Hm.out, ← Hh1.out]
      have HF2 := Lib.hid hF2
      clear hF2
      refine wp_region_plan [(0, 0), (1, 0), (2, 0), (3, 0), (4, 2), (5, 0)] 6 hmx (by kernel_rfl) (by intro c a d v w h; cases d <;> exact h) ?_
      repeat ((first | (refine wpPlan_pure rfl (fun K hK => ?_)) | (refine wpPlan_quiet rfl (fun K hK => ?_))); go_simp; (first | (refine hK _ ?_) | (simp only [IntWalk.iteOmega]; go_simp; refine hK _ ?_) | (go_bits; go_simp; refine hK _ ?_)); clear hK K; (try go_bits))
      refine wpPlan_loud rfl rfl (fun K hK => ?_)
      go_wp2_with fail
      refine Heq.out.mono ?_
      rintro e w4 ⟨rfl, rfl⟩
      by_cases hq : h1.take 4 = B.drop m
      · have hFv : F = (0, B.take m) := by rw [HF2.out, if_pos hq]
        have HFv := Lib.hid hFv
        rw [show (h1.take 4 == B.drop m) = true by simpa using hq]
        clear hFv hq
        go_wp2_with fail
        refine ⟨(by first | exact .inr (Ext.refl _) | exact Ext.refl _), ?_⟩
        repeat ((first | (refine wpPlan_pure rfl (fun K hK => ?_)) | (refine wpPlan_quiet rfl (fun K hK => ?_))); go_simp; (first | (refine hK _ ?_) | (simp only [IntWalk.iteOmega]; go_simp; refine hK _ ?_) | (go_bits; go_simp; refine hK _ ?_)); clear hK K; (try go_bits))
        refine wpPlan_nil ?_
        go_wp2_with fail
        have hcl := clip_any Av m cv w3.drew hmc
        refine hcl.mono ?_
        rintro e w5 ⟨rfl, rfl⟩
        go_wp2_with fail
        go_ret2
        rw [HFv.out]
        refine ⟨Av, m, ?_, HS3t.out, ⟨?_, by omega⟩, hb3.drew⟩
        · rw [Htk.out]; rfl
        · exact Nat.le_of_eq Htk.out
      · have hFv : F = (5, []) := by rw [HF2.out, if_neg hq]
        have HFv := Lib.hid hFv
        rw [show (h1.take 4 == B.drop m) = false by simpa using hq]
        clear hFv hq
        go_wp2_with fail
        refine ⟨(by first | exact .inr (Ext.refl _) | exact Ext.refl _), ?_⟩
        repeat ((first | (refine wpPlan_pure rfl (fun K hK => ?_)) | (refine wpPlan_quiet rfl (fun K hK => ?_))); go_simp; (first | (refine hK _ ?_) | (simp only [IntWalk.iteOmega]; go_simp; refine hK _ ?_) | (go_bits; go_simp; refine hK _ ?_)); clear hK K; (try go_bits))
        refine wpPlan_nil ?_
        go_wp2_with fail
        go_ret2
        rw [HFv.out]
        exact ⟨none, 0, rfl, Sl.nil, ⟨Nat.le_refl _, Nat.zero_le _⟩, hb3.drew⟩
  · have hE0' : ¬ ((E : Int) = 0) := by omega
    go_enter Tryz.func99, Tryz.ntmps99
    go_wp2_with fail
    refine Hfrom.out.mono ?_
    rintro e w1 ⟨v, rfl, ho, hb⟩
    go_wp2_with fail
    go_ret2
    rw [HF.out, if_pos hE0]
    exact ⟨none, 0, rfl, Sl.nil, ⟨Nat.le_refl _, Nat.zero_le _⟩, hb⟩
theorem fromc58_any (s : ByteArray) (w : World) (hsz : s.size ≤ 4096) :
    Calls Tryz.prog 99 #[.string s] w fun e W' => ∃ A c, e = .returned (.tuple #[.slice A (fromC s.data.toList).2.length c, .int .i64 ((fromC s.data.toList).1 : Int)]) ∧ Sl W' W'.heap.size A (B8 (fromC s.data.toList).2) ∧ Below w.heap.size w W' :=
  (fromc58_full s w hsz).mono fun _ _ ⟨A, c, h1, h2, _, h3⟩ => ⟨A, c, h1, h2, h3⟩
end Go.Proofs.YtcjioogololnoaaGreatDoor

/-! What a text is read as: a tree's key. Plain. -/
namespace Go.Proofs.YtcjioogololnoaaGreatDoor
open Go Go.RowKit Go.Shelf

def hkOf (b : List UInt8) : HKey := ⟨b.getD 4 0, (b.drop 5).take 4, beN ((b.drop 9).take 4), (b.drop 13).take 32, b.drop 45⟩
def hkHead (p : Bool) : Nat := if p then 76066276 else 76067358
def hkRoot (k : HKey) : Bool := decide (0 < k.depth.toNat) || (decide (k.finger = [0, 0, 0, 0]) && decide (k.child = 0))
def parseB (b : List UInt8) : Nat × HKey := if b.length = 78 then (if decide (beN (b.take 4) = hkHead (hkOf b).priv) && (hkOf b).good && hkRoot (hkOf b) then (0, hkOf b) else (3, hkZero)) else (2, hkZero)
def parseH (s : List UInt8) : Nat × HKey := if (fromC s).1 = 0 then parseB (fromC s).2 else ((fromC s).1, hkZero)
theorem hkOf_ok (b : List UInt8) (h : b.length = 78) : (hkOf b).Ok :=
  ⟨by simp [hkOf, h], by simp [hkOf, h], by simp [hkOf, h], by
    have := beN_lt ((b.drop 9).take 4)
    have h4 : ((b.drop 9).take 4).length = 4 := by simp [h]
    rw [h4] at this
    exact this⟩
theorem parseH_ok (s : List UInt8) : (parseH s).2.Ok := by
  unfold parseH
  split
  · unfold parseB
    split
    · split
      · exact hkOf_ok _ (by assumption)
      · exact hkZero_ok
    · exact hkZero_ok
  · exact hkZero_ok
end Go.Proofs.YtcjioogololnoaaGreatDoor
