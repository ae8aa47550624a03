/- ref03.Check58, FromCheck58. -/
import Derived.Test.YtmfligfcejhjaaaDoorQ2
import Derived.Test.YtmfligfcejhjaaaDoorT3
namespace Go.Proofs.YtmfligfcejhjaaaDoor
open Go.RowKit Go.Shelf

section
variable {P : Program} {ops : Array Oper} {Q : Act → World → Prop} {st : Nat → (Act → World → Prop) → Act → World → Prop} {N : Nat}
theorem wpPlan_str {i : Nat} {rest : List (Nat × Nat)} {o : Oper} {a : Act} {w : World} (ho : ops[i]? = some o) (hg : o.guard = none) (src dst E : TypeId) (x : Operand) (hop : o.op = .convert src dst x)
    (hs : P.underlying src = some (.slice E)) (he : P.underlying E = some (.int .u8)) (hd : P.underlying dst = some .string)
    (A : Option Addr) (n c : Nat) (bs : List UInt8) (hx : a.eval x = .slice A n c) (hn : bs.length = n) (hsl : Sl w w.heap.size A (B8 bs))
    (h : wpPlan P ops Q st N rest (a.put o.dst (.string ⟨bs.toArray⟩)) w) : wpPlan P ops Q st N ((i, 1) :: rest) a w := by
  simp only [wpPlan, if_true, ho, Nat.one_ne_zero, if_false]
  refine ⟨_, .inl ⟨by simp [Region.wanted, hg], fun w' hw' => ?_⟩, h⟩
  have hstr := run_str_Sl (P := P) w' src dst E hs he hd _ A c bs (hsl.below hw'.below)
  rw [hn] at hstr
  unfold execOp
  simp only [hop, hx, Sem.run_bind, hstr, Result.andThen_ok]
  rfl
end
set_option maxRecDepth 100000 in
set_option maxHeartbeats 4000000 in
theorem rcheck58_any (A : Option Addr) (c : Nat) (b : List UInt8) (w : World) (hs : Sl w w.heap.size A (B8 b)) (hl : b.length ≤ 280) (hbc : b.length ≤ c) (hc : c ≤ maxLen) :
    Calls Tryd.prog 10 #[.slice A b.length c] w fun e W' => e = .returned (.string ⟨(b58L (checked b)).toArray⟩) ∧ Below w.heap.size w W' := by
  have hmx : Tryd.prog.follows .mixedOrders = true := by kernel_rfl
  go_enter Tryd.func10, Tryd.ntmps10
  go_wp2_with fail
  refine (rdouble_any A c b w hs (by omega) hbc hc).mono ?_
  rintro e w1 ⟨rfl, hB1⟩
  obtain ⟨h1, hh1⟩ : ∃ h1, h1 = sha (sha b) := ⟨_, rfl⟩
  have hl1 : h1.length = 32 := by rw [hh1]; exact sha_length _
  rw [← hh1]
  obtain ⟨oc, hoc⟩ : ∃ oc, oc = (B8 h1).toArray := ⟨_, rfl⟩
  have hocz : oc.size = 32 := by rw [hoc]; simp [hl1]
  have Hoinf : Hid ((Tryd.prog.info? 42).map (·.size) = some oc.size) := Lib.hid (by rw [hocz]; kernel_rfl)
  have Hocz : Hid ((Array.replicate 32 (Value.int .u8 0)).size = oc.size) := Lib.hid (by rw [hocz]; simp)
  have Hone : Hid (oc.all (·.oneCell') = true) := Lib.hid (by rw [hoc]; exact all_oneCell_toArray (B8_oneCell _))
  rw [← hoc]
  have Hoc := Lib.hid hoc
  have Hh1 := Lib.hid hh1
  have hz1 := hB1.size
  have hs1 := (hs.below hB1)
  clear hoc hh1 hocz hs
  go_wp2_with (refine wpList_store_row rfl 42 (.tmp 3) (.tmp 5) rfl w1.heap.size oc rfl rfl 42 _ (heap_alloc_new w1 _) Hoinf.out Hocz.out Hone.out ?_; rw [World.setRow_alloc_new])
  obtain ⟨w2, hw2⟩ : ∃ w2, w2 = w1.alloc (.cells oc 42) := ⟨_, rfl⟩
  obtain ⟨gh, hgh⟩ : ∃ gh, gh = w1.heap.size := ⟨_, rfl⟩
  rw [← hgh, ← hw2]
  have hB2 : Below w1.heap.size w1 w2 := by rw [hw2]; exact (Below.refl _ _).alloc (Nat.le_refl _) _
  have hz2 : w2.heap.size = w1.heap.size + 1 := by rw [hw2]; exact World.size_alloc _ _
  have hg2 : w2.heap[gh]? = some (.cells (B8 h1).toArray 42 (0, 0)) := by rw [hw2, ← Hoc.out, hgh]; exact heap_alloc_new w1 _
  have hs2 : Sl w2 w2.heap.size A (B8 b) := (hs1.below (hB2.mono hz1)).mono (by omega)
  have hgl : gh < w2.heap.size := by omega
  have hBw2 := hB1.trans (hB2.mono hz1)
  have hz12 : w1.heap.size ≤ w2.heap.size := by omega
  clear hz2
  have Hg2 := Lib.hid hg2
  have Hs2 := Lib.hid hs2
  clear hg2 hw2 hs1 hs2 hgh Hoinf Hocz Hone Hoc
  refine wp_region_plan [(1, 0), (3, 0), (0, 2), (2, 2), (4, 2), (5, 2), (6, 2)] 4 hmx (by kernel_rfl) (by intro c a d v w h; cases d <;> exact h) ?_
  repeat ((first | (refine wpPlan_pure rfl (fun K hK => ?_)) | (refine wpPlan_quiet rfl (fun K hK => ?_))); go_simp; (first | (refine hK _ ?_) | (simp only [IntWalk.iteOmega]; go_simp; refine hK _ ?_) | (go_bits; go_simp; refine hK _ ?_)); clear hK K; (try go_bits))
  refine wpPlan_loud rfl rfl (fun K hK => ?_)
  go_wp2_with fail
  refine ⟨.inr (ext_alloc_drew _ _), ?_⟩
  refine wpPlan_loud rfl rfl (fun K hK => ?_)
  obtain ⟨w3, hw3⟩ : ∃ w3, w3 = (w2.alloc (.cells #[] 5)).drew := ⟨_, rfl⟩
  rw [← hw3]
  have hb3 : Below w2.heap.size w2 w3 := by rw [hw3]; exact ((Below.refl _ _).alloc (Nat.le_refl _) _).drew
  have hz3 := hb3.size
  have hs3 : Sl w3 w3.heap.size A (B8 b) := (Hs2.out.below hb3).mono hz3
  refine wp_append_Ow (m := b.length) (c := c) (base := w2.heap.size) (xs := []) (v := .slice (some ⟨w2.heap.size, 0, none⟩) 0 0) (A := A) (B := w3.heap.size) (news := B8 b) elB (.tmp 6) (.tmp 7) rfl rfl (Ow.nil_ _ _ _ _) rfl hs3 (B8_length _) (B8_oneCell _) (by simp [maxLen]; omega) (by simp; omega) hz3 ?_
  intro v4 w4 ho4 hg4 hr4
  rw [List.nil_append] at ho4
  obtain ⟨Av, cv, rfl, hcv, hcv'⟩ := own_form ho4
  have hb4 := hb3.grown hg4 hz3 (by simp [rowOf])
  have hz4 := hb4.size
  have hb34 : Below w3.heap.size w3 w4 := (Below.refl _ _).grown hg4 (Nat.le_refl _) (by simp [rowOf])
  refine hK _ _ ⟨.inr (by rw [← hw3]; exact ext_of_below hb34), ?_⟩
  clear hK K
  go_simp
  refine wpPlan_loud rfl rfl (fun K hK => ?_)
  have hg4' := (hb4.block gh hgl).trans Hg2.out
  have hS4 : Sl w4 w4.heap.size (some ⟨gh, 0, none⟩) (B8 (h1.take 4)) := fun _ => ⟨_, 0, rfl, by omega, fun j hj => by
    have hj4 : j < 4 := by simp at hj; omega
    rw [cell_of_row w4 _ _ _ _ (0, 0) hg4', Nat.zero_add, B8_get]
    simp [B8, hl1, show j < 32 by omega]⟩
  refine wp_append_Ow (m := 4) (c := 32) (base := w2.heap.size) (xs := B8 b) (v := .slice Av b.length cv) (A := some ⟨gh, 0, none⟩) (B := w4.heap.size) (news := B8 (h1.take 4)) elB (.tmp 8) (.tmp 9) rfl rfl ho4 rfl hS4 (by simp [hl1]) (B8_oneCell _) (by rw [B8_length]; simp [maxLen]; omega) (by rw [B8_length]; omega) hz4 ?_
  intro v5 w5 ho5 hg5 hr5
  rw [← B8_append, Hh1.out] at ho5
  have hb5 := hb4.grown hg5 hz4 (fun r hr => (ho4.row r hr).1)
  refine hK _ _ ⟨.inl (by decide), ?_⟩
  clear hK K
  obtain ⟨A5, c5, rfl, hc5, hc5'⟩ := own_form ho5
  have hlen : (b ++ (sha (sha b)).take 4).length = b.length + 4 := checked_length b
  go_simp
  refine wpPlan_loud rfl rfl (fun K hK => ?_)
  go_wp2_with fail
  have hb58 := rbase58_any A5 c5 (checked b) w5 ho5.sl (by rw [checked_length]; omega)
  rw [checked_length] at hb58
  refine hb58.mono ?_
  rintro e w6 ⟨rfl, hB6⟩
  go_wp2_with fail
  refine ⟨.inl (by decide), ?_⟩
  refine wpPlan_loud rfl rfl (fun K hK => ?_)
  go_wp2_with fail
  refine ⟨.inl (by decide), ?_⟩
  refine wpPlan_nil ?_
  go_wp2_with fail
  go_ret
  exact ⟨rfl, (hBw2.trans (hb5.mono (by omega))).trans (hB6.mono (by have := hb5.size; omega))⟩

set_option maxRecDepth 100000 in
set_option maxHeartbeats 4000000 in
theorem rfromc58_any (s : ByteArray) (w : World) (hsz : s.size ≤ 4096) :
    Calls Tryd.prog 16 #[.string s] w fun e W' => ∃ A c, e = .returned (.tuple #[.slice A (fromC s.data.toList).2.length c, .int .i64 ((fromC s.data.toList).1 : Int)]) ∧ Sl W' W'.heap.size A (B8 (fromC s.data.toList).2) ∧ Below w.heap.size w W' := by
  have hmx : Tryd.prog.follows .mixedOrders = true := by kernel_rfl
  obtain ⟨F, hF⟩ : ∃ F, F = fromC s.data.toList := ⟨_, rfl⟩
  obtain ⟨S, hS⟩ : ∃ S, S = s.data.toList := ⟨_, rfl⟩
  have hfrom := rfrom58_any s w hsz
  rw [← hF]
  rw [← hS] at hfrom hF
  obtain ⟨E, hE⟩ : ∃ E, E = (fromS S).1 := ⟨_, rfl⟩
  obtain ⟨B, hB⟩ : ∃ B, B = (fromS S).2 := ⟨_, rfl⟩
  have hBl : B.length ≤ 250 := by rw [hB]; exact fromS_len S
  have hE5 : E = 0 ∨ E = 2 ∨ E = 3 := by rw [hE]; exact fromS_err S
  rw [fromC, ← hE, ← hB] at hF
  rw [← hE, ← hB] at hfrom
  have Hfrom := Lib.hid hfrom
  have HF := Lib.hid hF
  clear hfrom hF hS hE hB
  by_cases hE0 : E = 0
  · subst hE0
    go_enter Tryd.func16, Tryd.ntmps16
    go_wp2_with fail
    refine Hfrom.out.mono ?_
    rintro e w1 ⟨v, rfl, ho, hb⟩
    obtain ⟨Av, cv, rfl, hcv, hcv'⟩ := own_form ho
    obtain ⟨n, hn⟩ : ∃ n, n = B.length := ⟨_, rfl⟩
    rw [← hn]
    rw [← hn] at ho hcv hBl
    by_cases h4 : n < 4
    · have hFv : F = (4, []) := by rw [HF.out, if_neg (by simp), if_pos (by omega)]
      have HFv := Lib.hid hFv
      have Hn := Lib.hid hn
      clear hFv hn
      go_wp2_with fail
      go_ret2
      rw [HFv.out]
      exact ⟨none, 0, rfl, Sl.nil, hb⟩
    · obtain ⟨m, hm⟩ : ∃ m, m = n - 4 := ⟨_, rfl⟩
      have em : (n : Int) - 4 = (m : Int) := by omega
      have hmn : m ≤ n := by omega
      have hmc : m ≤ cv := by omega
      have hSB : Sl w1 w1.heap.size Av (B8 B) := ho.sl
      have htk : (B.take m).length = m := by simp; omega
      have hdr : (B.drop m).length = 4 := by simp; omega
      have hdbl := rdouble_any Av cv (B.take m) w1 (by rw [B8_take]; exact hSB.take m) (by omega) (by omega) hcv'
      rw [htk] at hdbl
      obtain ⟨h1, hh1⟩ : ∃ h1, h1 = sha (sha (B.take m)) := ⟨_, rfl⟩
      have hl1 : h1.length = 32 := by rw [hh1]; exact sha_length _
      rw [← hh1] at hdbl
      obtain ⟨oc, hoc⟩ : ∃ oc, oc = (B8 h1).toArray := ⟨_, rfl⟩
      have hocz : oc.size = 32 := by rw [hoc]; simp [hl1]
      have Hoinf : Hid ((Tryd.prog.info? 42).map (·.size) = some oc.size) := Lib.hid (by rw [hocz]; kernel_rfl)
      have Hocz : Hid ((Array.replicate 32 (Value.int .u8 0)).size = oc.size) := Lib.hid (by rw [hocz]; simp)
      have Hone : Hid (oc.all (·.oneCell') = true) := Lib.hid (by rw [hoc]; exact all_oneCell_toArray (B8_oneCell _))
      rw [← hoc] at hdbl
      have Hdbl := Lib.hid hdbl
      have Hoc := Lib.hid hoc
      have Hh1 := Lib.hid hh1
      have Hn := Lib.hid hn
      have Hm := Lib.hid hm
      have Htk := Lib.hid htk
      have Hdr := Lib.hid hdr
      clear hdbl hoc hh1 hocz hn hm htk hdr
      go_wp2_with fail
      refine Hdbl.out.mono ?_
      rintro e w2 ⟨rfl, hB2⟩
      have hz2 := hB2.size
      go_wp2_with (refine wpList_store_row rfl 42 (.tmp 6) (.tmp 23) rfl w2.heap.size oc rfl rfl 42 _ (heap_alloc_new w2 _) Hoinf.out Hocz.out Hone.out ?_; rw [World.setRow_alloc_new])
      obtain ⟨w3, hw3⟩ : ∃ w3, w3 = w2.alloc (.cells oc 42) := ⟨_, rfl⟩
      obtain ⟨gh, hgh⟩ : ∃ gh, gh = w2.heap.size := ⟨_, rfl⟩
      rw [← hgh, ← hw3]
      have hB3 : Below w2.heap.size w2 w3 := by rw [hw3]; exact (Below.refl _ _).alloc (Nat.le_refl _) _
      have hz3 : w3.heap.size = w2.heap.size + 1 := by rw [hw3]; exact World.size_alloc _ _
      have hg3 : w3.heap[gh]? = some (.cells (B8 h1).toArray 42 (0, 0)) := by rw [hw3, ← Hoc.out, hgh]; exact heap_alloc_new w2 _
      have hB13 := hB2.trans (hB3.mono hz2)
      have hS3 : Sl w3 w3.heap.size Av (B8 B) := (hSB.below hB13).mono (by omega)
      have hX3 : Sl w3 w3.heap.size (some ⟨gh, 0, none⟩) (B8 (h1.take 4)) := fun _ => ⟨_, 0, rfl, by omega, fun j hj => by
        have hj4 : j < 4 := by simp at hj; omega
        rw [cell_of_row w3 _ _ _ _ (0, 0) hg3, Nat.zero_add, B8_get]
        simp [B8, hl1, show j < 32 by omega]⟩
      have hb3 := hb.trans (hB13.mono hb.size)
      have hS3t : Sl w3 w3.heap.size Av (B8 (B.take m)) := by rw [B8_take]; exact hS3.take m
      have hY3 : Sl w3 w3.heap.size (if cv = m then Av else Av.map fun x => x.add m) (B8 (B.drop m)) := by
        have h := hS3.cutf (k := m) (cap := cv) (fun x => x.add m) (fun b o => add_lit' b o m) (by rw [B8_length, ← Hn.out]; exact hcv) (by rw [B8_length, ← Hn.out]; exact hmn)
        rw [B8_drop]; exact h
      have hnm : n - m = 4 := by have := Hm.out; omega
      have HS3t := Lib.hid hS3t
      have HX3 := Lib.hid hX3
      have HY3 := Lib.hid hY3
      have hF2 : F = if h1.take 4 = B.drop m then (0, B.take m) else (5, []) := by
        have hl4 : ¬ B.length < 4 := by have := Hn.out; omega
        rw [HF.out, if_neg (by simp), if_neg hl4, ← Hn.out, ← Hm.out, ← Hh1.out]
      have HF2 := Lib.hid hF2
      have hl14 : (h1.take 4).length = 4 := by simp [hl1]
      clear hg3 hw3 hgh Hoinf Hocz Hone Hoc hX3 hY3 hS3 hS3t ho hSB hz3 hF2
      refine wp_region_plan [(0, 0), (1, 1), (2, 0), (3, 0), (4, 0), (5, 0), (6, 0), (7, 1), (8, 0)] 9 hmx (by kernel_rfl) (by intro c a d v w h; cases d <;> exact h) ?_
      repeat ((first | (refine wpPlan_pure rfl (fun K hK => ?_)) | (refine wpPlan_quiet rfl (fun K hK => ?_))); go_simp; (first | (refine hK _ ?_) | (simp only [IntWalk.iteOmega]; go_simp; refine hK _ ?_) | (go_bits; go_simp; refine hK _ ?_)); clear hK K; (try go_bits))
      refine wpPlan_str rfl rfl 22 9 5 (.tmp 24) rfl (by kernel_rfl) (by kernel_rfl) (by kernel_rfl) (some ⟨gh, 0, none⟩) 4 32 (h1.take 4) rfl hl14 HX3.out ?_
      go_simp
      repeat ((first | (refine wpPlan_pure rfl (fun K hK => ?_)) | (refine wpPlan_quiet rfl (fun K hK => ?_))); go_simp; (first | (refine hK _ ?_) | (simp only [IntWalk.iteOmega]; go_simp; refine hK _ ?_) | (go_bits; go_simp; refine hK _ ?_)); clear hK K; (try go_bits))
      refine wpPlan_str rfl rfl 22 9 5 (.tmp 30) rfl (by kernel_rfl) (by kernel_rfl) (by kernel_rfl) (if cv = m then Av else Av.map fun x => x.add m) 4 (cv - m) (B.drop m) rfl Hdr.out HY3.out ?_
      go_simp
      obtain ⟨l1, hs1⟩ : ∃ l, l = h1.take 4 := ⟨_, rfl⟩
      obtain ⟨l2, hs2⟩ : ∃ l, l = B.drop m := ⟨_, rfl⟩
      have hF3 := HF2.out
      rw [← hs1, ← hs2] at hF3 ⊢
      have HF3 := Lib.hid hF3
      clear hs1 hs2 hF3 HF2 HX3 HY3
      by_cases hq : l1 = l2
      · have hFv : F = (0, B.take m) := by rw [HF3.out, if_pos hq]
        have HFv := Lib.hid hFv
        subst hq
        clear hFv HF3
        repeat ((first | (refine wpPlan_pure rfl (fun K hK => ?_)) | (refine wpPlan_quiet rfl (fun K hK => ?_))); go_simp; (first | (refine hK _ ?_) | (simp only [IntWalk.iteOmega]; go_simp; refine hK _ ?_) | (go_bits; go_simp; refine hK _ ?_)); clear hK K; (try go_bits))
        refine wpPlan_nil ?_
        go_wp2_with fail
        go_ret2
        rw [HFv.out]
        refine ⟨Av, ⟨cv, ?_⟩, HS3t.out, hb3.drew⟩
        rw [Htk.out]; rfl
      · have hFv : F = (5, []) := by rw [HF3.out, if_neg hq]
        have HFv := Lib.hid hFv
        clear hFv HF3
        repeat ((first | (refine wpPlan_pure rfl (fun K hK => ?_)) | (refine wpPlan_quiet rfl (fun K hK => ?_))); go_simp; (first | (refine hK _ ?_) | (simp only [IntWalk.iteOmega]; go_simp; refine hK _ ?_) | (go_bits; go_simp; refine hK _ ?_)); clear hK K; (try go_bits))
        refine wpPlan_nil ?_
        go_wp2_with fail
        · go_ret2
          rw [HFv.out]
          exact ⟨none, ⟨0, rfl⟩, Sl.nil, hb3.drew⟩
        · exfalso
          have hb : (l1 == l2) = false := by simpa using hq
          simp_all
  · have hE0' : ¬ ((E : Int) = 0) := by omega
    go_enter Tryd.func16, Tryd.ntmps16
    go_wp2_with fail
    refine Hfrom.out.mono ?_
    rintro e w1 ⟨v, rfl, ho, hb⟩
    go_wp2_with fail
    go_ret2
    rw [HF.out, if_pos hE0]
    exact ⟨none, 0, rfl, Sl.nil, hb⟩
end Go.Proofs.YtmfligfcejhjaaaDoor
