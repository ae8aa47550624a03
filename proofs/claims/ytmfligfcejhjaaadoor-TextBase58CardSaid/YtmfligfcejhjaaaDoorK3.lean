/- text.Checksum. -/
import Derived.Test.YtmfligfcejhjaaaDoorK2
namespace Go.Proofs.YtmfligfcejhjaaaDoor
open Go.RowKit Go.Shelf

theorem keep_two {w w' : World} {base E : Nat} {v u : Value} {xs ys : List Value} (hv : Ow w base E v xs) (hne : ∀ r, rowOf v = some r → rowOf u ≠ some r) (hg : w.grownBy w' (rowOf u)) : Ow w' base E v xs :=
  hv.kept hg hne
theorem apart_new {w : World} {base E : Nat} {v u u' : Value} {xs : List Value} (hv : Ow w base E v xs) (hne : ∀ r, rowOf v = some r → rowOf u ≠ some r) (hu : rowOf u' = rowOf u ∨ rowOf u' = some w.heap.size) : ∀ r, rowOf v = some r → rowOf u' ≠ some r := by
  intro r hr e
  rcases hu with h | h
  · exact hne r hr (h ▸ e)
  · rw [h] at e; injection e with e
    have := (hv.row r hr).2; omega
theorem apart_grown {v u v' : Value} {r0 : Nat} (h : ∀ r, rowOf v = some r → rowOf u ≠ some r) (hv : rowOf v' = rowOf v ∨ rowOf v' = some r0) (hu : ∀ r, rowOf u = some r → r < r0) : ∀ r, rowOf v' = some r → rowOf u ≠ some r := by
  intro r hr e
  rcases hv with h1 | h1
  · exact h r (h1 ▸ hr) e
  · rw [h1] at hr; injection hr with hr
    have := hu r e; omega
theorem Ow.row_lt {w : World} {base E : Nat} {v : Value} {xs : List Value} (h : Ow w base E v xs) : ∀ r, rowOf v = some r → r < w.heap.size := fun r hr => (h.row r hr).2
theorem apart_symm {v u : Value} (h : ∀ r, rowOf v = some r → rowOf u ≠ some r) : ∀ r, rowOf u = some r → rowOf v ≠ some r := fun r hu hv => h r hv hu

theorem csVals_snoc (s : List UInt8) (c : UInt8) : csVals (s ++ [c]) = csStep (csVals s) c := by simp [csVals]
theorem csStep_short (V G : List UInt8) (c : UInt8) (h : G.length < 2) : csStep (V, G) c = (V ++ [UInt8.ofNat (posD c % 32)], G ++ [UInt8.ofNat (posD c / 32)]) := by
  unfold csStep
  match G, h with
  | [], _ => rfl
  | [g], _ => rfl
theorem csStep_full (V : List UInt8) (g0 g1 : UInt8) (c : UInt8) : csStep (V, [g0, g1]) c = (V ++ [UInt8.ofNat (posD c % 32)] ++ [UInt8.ofNat (9 * g0.toNat + 3 * g1.toNat + posD c / 32)], []) := rfl
theorem and31 (p : Nat) (h : p < 95) : bits .and .i64 (p : Int) 31 = ((p % 32 : Nat) : Int) := by
  have : ∀ p : Fin 95, bits .and .i64 (p.val : Int) 31 = ((p.val % 32 : Nat) : Int) := by decide
  exact this ⟨p, h⟩

theorem lettersL_lt (c : BitVec 64) (k : Nat) : ∀ d ∈ lettersL c k, d.toNat < 32 := by
  intro d hd
  obtain ⟨i, _, rfl⟩ := List.mem_map.1 hd
  rw [UInt8.toNat_ofNat']; omega
theorem letters32_at (d : UInt8) (h : d.toNat < (⟨letters32.toArray⟩ : ByteArray).size) : (⟨letters32.toArray⟩ : ByteArray)[d.toNat] = let32 d := by
  have h' : d.toNat < letters32.length := h
  show letters32.toArray[d.toNat]'(by simpa using h') = _
  simp [let32, h']

set_option maxRecDepth 100000 in
set_option maxHeartbeats 4000000 in
theorem checksum_any (s : ByteArray) (w : World) (hsz : s.size ≤ 2000) (hall : ∀ c ∈ s.data.toList, c ∈ inD) (h0 : 0 < s.size) :
    Calls Tryd.prog 17 #[.string s] w fun e W' => e = .returned (.tuple #[.string ⟨(checksum s.data.toList).toArray⟩, .int .i64 0]) ∧ Below w.heap.size w W' := by
  have hS : s.data.toList.length = s.size := by simp
  obtain ⟨S, hSS⟩ : ∃ S, S = s.data.toList := ⟨_, rfl⟩
  rw [← hSS] at hS hall ⊢
  have HSS := Lib.hid hSS
  have HS := Lib.hid hS
  have Hall := Lib.hid hall
  clear hSS hS hall
  go_enter Tryd.func17, Tryd.ntmps17
  go_wp2_with fail
  go_loopw [4, 5, 13] (fun v g i wr => ∃ k : Nat, k ≤ s.size ∧ i = .int .i64 k ∧ Ow wr w.heap.size 5 v (B8 (csVals (S.take k)).1) ∧ Ow wr w.heap.size 5 g (B8 (csVals (S.take k)).2) ∧ Hid ((∀ r, rowOf v = some r → rowOf g ≠ some r) ∧ (csVals (S.take k)).2.length ≤ 2 ∧ (csVals (S.take k)).1.length ≤ 2 * k ∧ (0 < k → 0 < (csVals (S.take k)).1.length)) ∧ Below w.heap.size w wr) (fun _ _ i _ => s.size - (intOf i).toNat)
  case atStart => exact ⟨0, Nat.zero_le _, rfl, Ow.nil_ _ _ _ _, Ow.nil_ _ _ _ _, Lib.hid ⟨by simp [rowOf], by simp [csVals], by simp [csVals], by simp⟩, Below.refl _ _⟩
  case round =>
    obtain ⟨k, hk, rfl, hov, hog, HI, hb⟩ := hrel
    obtain ⟨V, hV⟩ : ∃ V, V = (csVals (S.take k)).1 := ⟨_, rfl⟩
    obtain ⟨G, hG⟩ : ∃ G, G = (csVals (S.take k)).2 := ⟨_, rfl⟩
    have hI := HI.out
    rw [← hV, ← hG] at hI
    rw [← hV] at hov
    rw [← hG] at hog
    obtain ⟨Av, cv, rfl, hcv, hcv'⟩ := own_form hov
    obtain ⟨Ag, cg, rfl, hcg, hcg'⟩ := own_form hog
    have HI := Lib.hid hI
    obtain ⟨n, hn⟩ : ∃ n, n = V.length := ⟨_, rfl⟩
    have hnl : n ≤ 4096 := by rw [hn]; omega
    rw [← hn] at hov hcv ⊢
    have HV := Lib.hid hV
    have HG := Lib.hid hG
    have Hn := Lib.hid hn
    by_cases hlt : k < s.size
    · obtain ⟨y, hy⟩ : ∃ y, y = s[k] := ⟨_, rfl⟩
      have hyS : S[k]? = some y := by rw [HSS.out, hy]; simp [hlt]; rfl
      have hix := Tryd.strings_IndexByte ⟨inD.toArray⟩ (s[k].toNat : Int)
      rw [show (⟨inD.toArray⟩ : ByteArray).data.toList = inD from rfl, indexByte_placeZ, show ((s[k].toNat : Int)).toNat.toUInt8 = y from by rw [hy]; simp] at hix
      have hym : y ∈ inD := Hall.out y (List.mem_of_getElem? hyS)
      obtain ⟨p, hp⟩ : ∃ p, p = posD y := ⟨_, rfl⟩
      have hp95 : p < 95 := by rw [hp]; exact List.idxOf_lt_length_iff.2 hym
      have hpz : placeZ inD y = (p : Int) := by rw [placeZ, if_pos hym, hp]; rfl
      rw [hpz] at hix
      have Hix := Lib.hid hix
      have HyS := Lib.hid hyS
      have Hp := Lib.hid hp
      have hy8 := s[k].toNat_lt
      clear hV hG hn hI hyS hix hp hpz hym
      have hand : bits .and .i64 (p : Int) 31 = ((p % 32 : Nat) : Int) := and31 p hp95
      obtain ⟨lo, hlo⟩ : ∃ lo, lo = p % 32 := ⟨_, rfl⟩
      obtain ⟨hi, hhi⟩ : ∃ hi, hi = p / 32 := ⟨_, rfl⟩
      have ehi : (p : Int) / 32 = (hi : Int) := by omega
      rw [← hlo] at hand
      have hlo32 : lo < 32 := by omega
      have hhi3 : hi < 3 := by omega
      have Hlo := Lib.hid hlo
      have Hhi := Lib.hid hhi
      clear hlo hhi
      obtain ⟨gl, hgl⟩ : ∃ gl, gl = G.length := ⟨_, rfl⟩
      have hgl2 : gl ≤ 2 := by rw [hgl]; exact HI.out.2.1
      rw [← hgl] at hog hcg ⊢
      have Hgl := Lib.hid hgl
      have Hap : Hid (∀ r, rowOf (.slice Av n cv) = some r → rowOf (.slice Ag gl cg) ≠ some r) := Lib.hid (by rw [Hn.out, Hgl.out]; exact HI.out.1)
      clear hgl
      by_cases hg2 : gl < 2
      · go_wp2_with (first | (go_at_call 26; refine (Hix.out _).mono ?_; rintro e w' ⟨rfl, hww⟩; rw [hww]; clear hww) | (at_builtin; go_loud (refine wpList_append_Ow (m := 1) (c := 1) (base := w.heap.size) (xs := B8 V) (v := .slice Av n cv) (A := some ⟨wr.heap.size, 0, none⟩) (B := wr.heap.size + 1) (news := [.int .u8 (lo : Int)]) elB rfl (.tmp 22) (.tmp 26) rfl rfl (hov.alloc _) rfl (Sl.one wr _ _) rfl (by simp; rfl) (by rw [B8_length, ← Hn.out]; simp [maxLen]; omega) (by rw [B8_length, ← Hn.out]; omega) (by have := hb.size; simp; omega) ?_; intro v3 w3 ho3 hg3 hr3; have hb3 := push_below hb (Nat.le_refl _) hov hg3; have hog3 := (hog.alloc (.cells #[.int .u8 (lo : Int)] 5)).kept hg3 (apart_symm Hap.out); have Hap3 := Lib.hid (apart_grown Hap.out hr3 (hog.alloc (.cells #[.int .u8 (lo : Int)] 5)).row_lt); have hz3 := hb3.size; clear hr3 hg3)) | (at_builtin; go_loud (refine wpList_append_Ow (m := 1) (c := 1) (base := w.heap.size) (xs := B8 G) (v := .slice Ag gl cg) (A := some ⟨w3.heap.size, 0, none⟩) (B := w3.heap.size + 1) (news := [.int .u8 (hi : Int)]) elB rfl (.tmp 28) (.tmp 32) rfl rfl (hog3.alloc _) rfl (Sl.one w3 _ _) rfl (by simp; rfl) (by rw [B8_length, ← Hgl.out]; simp [maxLen]; omega) (by rw [B8_length, ← Hgl.out]; omega) (by simp; omega) ?_; intro v4 w4 ho4 hg4 hr4; have hb4 := push_below hb3 (Nat.le_refl _) hog3 hg4; have hov4 := (ho3.alloc (.cells #[.int .u8 (hi : Int)] 5)).kept hg4 Hap3.out; have Hap4 := Lib.hid (apart_symm (apart_grown (apart_symm Hap3.out) hr4 (ho3.alloc (.cells #[.int .u8 (hi : Int)] 5)).row_lt)); have hz4 := hb4.size; clear hr4 hg4; rw [b8_snoc V _ (UInt8.ofNat lo) (by simp; omega)] at hov4; rw [b8_snoc G _ (UInt8.ofNat hi) (by simp; omega)] at ho4; obtain ⟨A3, c3, rfl, hc3, hc3'⟩ := own_form hov4; obtain ⟨A4, c4, rfl, hc4, hc4'⟩ := own_form ho4; rw [List.length_append, ← Hn.out, List.length_singleton] at hov4 hc3 ⊢; rw [List.length_append, ← Hgl.out, List.length_singleton] at ho4 hc4 ⊢)))
        have hst : csVals (S.take (k + 1)) = (V ++ [UInt8.ofNat lo], G ++ [UInt8.ofNat hi]) := by
          have htk : S.take k ++ [y] = S.take (k + 1) := by rw [List.take_add_one, HyS.out]; rfl
          rw [← htk, csVals_snoc, show csVals (S.take k) = (V, G) from by rw [HV.out, HG.out], csStep_short V G y (by rw [← Hgl.out]; exact hg2), ← Hp.out, ← Hlo.out, ← Hhi.out]
        refine ⟨⟨k + 1, by omega, rfl, by rw [hst]; exact hov4, by rw [hst]; exact ho4, Lib.hid ⟨?_, ?_, ?_, ?_⟩, hb4⟩, by simp [intOf]; omega⟩
        · simpa [List.length_append, ← Hn.out, ← Hgl.out] using Hap4.out
        · rw [hst, List.length_append, ← Hgl.out, List.length_singleton]; omega
        · have h3 := HI.out.2.2.1
          rw [hst, List.length_append, List.length_singleton]
          omega
        · intro _; rw [hst, List.length_append, List.length_singleton]; omega
      · have hge : 2 ≤ gl := by omega
        have hge3 : (gl : Int) + 1 = 3 := by omega
        go_wp2_with (first | (go_at_call 26; refine (Hix.out _).mono ?_; rintro e w' ⟨rfl, hww⟩; rw [hww]; clear hww) | (at_builtin; go_loud (refine wpList_append_Ow (m := 1) (c := 1) (base := w.heap.size) (xs := B8 V) (v := .slice Av n cv) (A := some ⟨wr.heap.size, 0, none⟩) (B := wr.heap.size + 1) (news := [.int .u8 (lo : Int)]) elB rfl (.tmp 22) (.tmp 26) rfl rfl (hov.alloc _) rfl (Sl.one wr _ _) rfl (by simp; rfl) (by rw [B8_length, ← Hn.out]; simp [maxLen]; omega) (by rw [B8_length, ← Hn.out]; omega) (by have := hb.size; simp; omega) ?_; intro v3 w3 ho3 hg3 hr3; have hb3 := push_below hb (Nat.le_refl _) hov hg3; have hog3 := (hog.alloc (.cells #[.int .u8 (lo : Int)] 5)).kept hg3 (apart_symm Hap.out); have Hap3 := Lib.hid (apart_grown Hap.out hr3 (hog.alloc (.cells #[.int .u8 (lo : Int)] 5)).row_lt); have hz3 := hb3.size; clear hr3 hg3)) | (at_builtin; go_loud (refine wpList_append_Ow (m := 1) (c := 1) (base := w.heap.size) (xs := B8 G) (v := .slice Ag gl cg) (A := some ⟨w3.heap.size, 0, none⟩) (B := w3.heap.size + 1) (news := [.int .u8 (hi : Int)]) elB rfl (.tmp 28) (.tmp 32) rfl rfl (hog3.alloc _) rfl (Sl.one w3 _ _) rfl (by simp; rfl) (by rw [B8_length, ← Hgl.out]; simp [maxLen]; omega) (by rw [B8_length, ← Hgl.out]; omega) (by simp; omega) ?_; intro v4 w4 ho4 hg4 hr4; have hb4 := push_below hb3 (Nat.le_refl _) hog3 hg4; have hov4 := (ho3.alloc (.cells #[.int .u8 (hi : Int)] 5)).kept hg4 Hap3.out; have Hap4 := Lib.hid (apart_symm (apart_grown (apart_symm Hap3.out) hr4 (ho3.alloc (.cells #[.int .u8 (hi : Int)] 5)).row_lt)); have hz4 := hb4.size; clear hr4 hg4; rw [b8_snoc V _ (UInt8.ofNat lo) (by simp; omega)] at hov4; rw [b8_snoc G _ (UInt8.ofNat hi) (by simp; omega)] at ho4; obtain ⟨A3, c3, rfl, hc3, hc3'⟩ := own_form hov4; obtain ⟨A4, c4, rfl, hc4, hc4'⟩ := own_form ho4; rw [List.length_append, ← Hn.out, List.length_singleton] at hov4 hc3 ⊢; rw [List.length_append, ← Hgl.out, List.length_singleton] at ho4 hc4 ⊢)))
        obtain ⟨g0, g1, hG2⟩ : ∃ g0 g1, G = [g0, g1] := by
          have hl := Hgl.out
          match G, hl with
          | [], h => simp at h; omega
          | [_], h => simp at h; omega
          | [g0, g1], _ => exact ⟨g0, g1, rfl⟩
          | _ :: _ :: _ :: _, h => simp at h; omega
        have hmx : Tryd.prog.follows .mixedOrders = true := by kernel_rfl
        have hGl : (G ++ [UInt8.ofNat hi]) = [g0, g1, UInt8.ofNat hi] := by rw [hG2]; rfl
        rw [hGl] at ho4
        obtain ⟨gr, rfl, hgr, hrow4, z0, _⟩ := ho4.at_ (j := 0) (by simp)
        obtain ⟨_, e1, _, _, z1, _⟩ := ho4.at_ (j := 1) (by simp)
        obtain ⟨_, e2, _, _, z2, _⟩ := ho4.at_ (j := 2) (by simp)
        injection e1 with e1; injection e1 with e1
        injection e2 with e2; injection e2 with e2
        subst e1 e2
        have q0 : w4.cell? ⟨gr, 0, none⟩ = some (.int .u8 (g0.toNat : Int)) := z0
        have q1 : w4.cell? ⟨gr, 1, none⟩ = some (.int .u8 (g1.toNat : Int)) := z1
        have q2 : w4.cell? ⟨gr, 2, none⟩ = some (.int .u8 (hi : Int)) := by rw [z2]; simp [B8]; omega
        have hg08 := g0.toNat_lt
        have hg18 := g1.toNat_lt
        have hst : csVals (S.take (k + 1)) = (V ++ [UInt8.ofNat lo] ++ [UInt8.ofNat (9 * g0.toNat + 3 * g1.toNat + hi)], []) := by
          have htk : S.take k ++ [y] = S.take (k + 1) := by rw [List.take_add_one, HyS.out]; rfl
          rw [← htk, csVals_snoc, show csVals (S.take k) = (V, [g0, g1]) from by rw [HV.out, ← hG2, HG.out], csStep_full V g0 g1 y, ← Hp.out, ← Hlo.out, ← Hhi.out]
        have Hst := Lib.hid hst
        have hc43 : gl + 1 ≤ c4 := by have := ho4.len; omega
        clear hst hG2 hGl hov hog ho3 hog3 z0 z1 z2
        refine wp_region_plan [(0, 0), (1, 0), (2, 0), (3, 1), (4, 0), (5, 0), (6, 0), (7, 1), (8, 0), (9, 0), (10, 0), (11, 0), (12, 1), (13, 0), (14, 2), (15, 2), (16, 2), (17, 2)] 15 hmx (by kernel_rfl) (by intro c a d v w h; cases d <;> exact h) ?_
        repeat ((first | (refine wpPlan_pure rfl (fun K hK => ?_)) | (refine wpPlan_quiet rfl (fun K hK => ?_))); go_simp; (first | (refine hK _ ?_) | (simp only [IntWalk.iteOmega]; go_simp; refine hK _ ?_) | (go_bits; go_simp; refine hK _ ?_)); clear hK K; (try go_bits))
        refine wpPlan_loud rfl rfl (fun K hK => ?_)
        go_wp2_with fail
        refine ⟨ext_alloc_drew _ _, ?_⟩
        obtain ⟨u, hu⟩ : ∃ u, u = 9 * g0.toNat + 3 * g1.toNat + hi := ⟨_, rfl⟩
        have Hu := Lib.hid hu
        have eu : (9 * (g0.toNat : Int) + 3 * (g1.toNat : Int) + (hi : Int)) % 256 = ((UInt8.ofNat u).toNat : Int) := by rw [UInt8.toNat_ofNat']; omega
        rw [eu]
        obtain ⟨w5, hw5⟩ : ∃ w5, w5 = (w4.alloc (.cells #[.int .u8 ((UInt8.ofNat u).toNat : Int)] 5)).drew := ⟨_, rfl⟩
        rw [← hw5]
        have hb5 : Below w.heap.size w w5 := by rw [hw5]; exact (hb4.alloc hz4 _).drew
        have hov5 : Ow w5 w.heap.size 5 (.slice A3 (n + 1) c3) (B8 (V ++ [UInt8.ofNat lo])) := by rw [hw5]; exact (hov4.alloc _).drew
        have hone5 : Sl w5 (w4.heap.size + 1) (some ⟨w4.heap.size, 0, none⟩) [.int .u8 ((UInt8.ofNat u).toNat : Int)] := by rw [hw5]; exact (Sl.one w4 _ _).drew
        have hz5 := hb5.size
        clear hw5
        refine wpPlan_loud rfl rfl (fun K hK => ?_)
        refine wp_append_Ow (m := 1) (c := 1) (base := w.heap.size) (xs := B8 (V ++ [UInt8.ofNat lo])) (v := .slice A3 (n + 1) c3) (A := some ⟨w4.heap.size, 0, none⟩) (B := w4.heap.size + 1) (news := [.int .u8 ((UInt8.ofNat u).toNat : Int)]) elB (.tmp 37) (.tmp 51) rfl rfl hov5 rfl hone5 rfl (by simp; rfl) (by rw [B8_length, List.length_append, ← Hn.out]; simp [maxLen]; omega) (by rw [B8_length, List.length_append, ← Hn.out]; simp; omega) hz5 ?_
        intro v6 w6 ho6 hg6 hr6
        have hb6 : Below w.heap.size w w6 := hb5.grown hg6 hz5 (fun r hr => (hov5.row r hr).1)
        refine (show K (Act.put _ (some 52) v6) w6 from ?_)
        conv in (Act.put _ (some 52) v6) => simp [Act.put]
        refine hK _ _ ⟨.inl (by decide), ?_⟩
        clear hK K
        rw [b8_snoc _ _ (UInt8.ofNat u) rfl] at ho6
        refine wpPlan_loud rfl rfl (fun K hK => ?_)
        refine Go.BigFrame.wp_assign (.tmp 52) rfl ?_
        refine (show K (Act.put _ (some 4) v6) w6 from ?_)
        conv in (Act.put _ (some 4) v6) => simp [Act.put]
        refine hK _ _ ⟨.inl (by decide), ?_⟩
        clear hK K
        refine wpPlan_loud rfl rfl (fun K hK => ?_)
        refine Go.BigFrame.wp_assign (.const (.slice none 0 0)) rfl ?_
        refine (show K (Act.put _ (some 5) (.slice none 0 0)) w6 from ?_)
        conv in (Act.put _ (some 5) (.slice none 0 0)) => simp [Act.put]
        refine hK _ _ ⟨.inl (by decide), ?_⟩
        clear hK K
        refine wpPlan_nil ?_
        go_wp2_with fail
        refine ⟨⟨k + 1, by omega, rfl, by rw [Hst.out, ← Hu.out]; exact ho6, by rw [Hst.out]; exact Ow.nil_ _ _ _ _, Lib.hid ⟨by simp [rowOf], ?_, ?_, ?_⟩, hb6⟩, by simp [intOf]; omega⟩
        · rw [Hst.out]; simp
        · have h3 := HI.out.2.2.1
          rw [Hst.out]
          simp only [List.length_append, List.length_singleton]
          omega
        · intro _; rw [Hst.out]; simp only [List.length_append, List.length_singleton]; omega
    · have hfin : csVals S = (V, G) := by
        have : S.take k = S := List.take_of_length_le (by rw [HS.out]; omega)
        rw [HV.out, HG.out, this]
      have hV0 : 0 < V.length := by rw [HV.out]; exact (by have := HI.out.2.2.2 (by omega); rwa [← HV.out])
      have hVl : n ≤ 4096 := hnl
      have hG3 : G = [] ∨ (∃ g0, G = [g0]) ∨ ∃ g0 g1, G = [g0, g1] := by
        have hl := HI.out.2.1
        match G, hl with
        | [], _ => exact .inl rfl
        | [g0], _ => exact .inr (.inl ⟨g0, rfl⟩)
        | [g0, g1], _ => exact .inr (.inr ⟨g0, g1, rfl⟩)
        | _ :: _ :: _ :: _, h => simp at h
      have Hfin := Lib.hid hfin
      have HV0 := Lib.hid hV0
      obtain ⟨wS, hwS⟩ : ∃ wS, wS = wr := ⟨_, rfl⟩
      subst hwS
      have hzS := hb.size
      have hl2k : V.length ≤ 2 * k := hI.2.2.1
      have Hap : Hid (∀ r, rowOf (.slice Av n cv) = some r → rowOf (.slice Ag G.length cg) ≠ some r) := Lib.hid (by rw [Hn.out]; exact hI.1)
      have hn2 : n ≤ 4000 := by rw [Hn.out]; omega
      clear hfin hV0 HG hI HI hV hG hn hl2k
      rcases hG3 with rfl | ⟨g0, rfl⟩ | ⟨g0, g1, rfl⟩
      · rw [show ([] : List UInt8).length = 0 from rfl] at hog hcg ⊢
        have Hck : Hid (checksum S = (lettersL (poly (V ++ List.replicate 8 0) ^^^ 1) 8).map let32) := Lib.hid (by rw [checksum, Hfin.out]; rfl)
        obtain ⟨F, hFV⟩ : ∃ F, F = V := ⟨_, rfl⟩
        rw [← hFV] at hov Hck
        have hF : F.length = n := by rw [hFV, Hn.out]
        have hn0 : 0 < n := by rw [Hn.out]; exact HV0.out
        clear hFV hog
        have HF := Lib.hid hF
        clear hF
        have hzF := hb.size
        obtain ⟨pz, hpz⟩ : ∃ pz, pz = poly (F ++ List.replicate 8 0) := ⟨_, rfl⟩
        have hx1 : bits .xor .u64 (pz.toNat : Int) 1 = ((pz ^^^ 1).toNat : Int) := sp_x pz 1
        have hpz64 := pz.isLt
        obtain ⟨L, hL⟩ : ∃ L, L = lettersL (pz ^^^ 1) 8 := ⟨_, rfl⟩
        have Hpz := Lib.hid hpz
        have HL := Lib.hid hL
        clear hpz hL
        go_wp2_with (first | (go_at_call 32; refine (descs_any _).mono ?_; rintro e w7 ⟨rfl, hb7⟩) | (go_at_call 33; have hrun := run_any Av cv F w7 ((hov.sl.below hb7).mono hb7.size) (by rw [HF.out]; omega) (by rw [HF.out]; omega); rw [HF.out, ← Hpz.out] at hrun; refine hrun.mono ?_; clear hrun; rintro e w8 ⟨rfl, hb8⟩) | (go_at_call 31; (try rw [hx1]); refine (letters_any (pz ^^^ 1) w8).mono ?_; rintro e w9 ⟨v9, rfl, ho9, hb9⟩; rw [← HL.out] at ho9; obtain ⟨A9, c9, rfl, hc9, hc9'⟩ := own_form ho9; rw [show L.length = 8 from by rw [HL.out, lettersL_length]] at ho9 hc9 ⊢))
        have hz7 := hb7.size
        have hz8 := hb8.size
        have hz9 := hb9.size
        have hbA : Below w.heap.size w w9 := hb.trans ((hb7.mono hzF).trans ((hb8.mono (by omega)).trans (hb9.mono (by omega))))
        have hsl9 := ho9.sl
        clear hx1 ho9 hb7 hb8 hb9 hz7 hz8 hz9
        go_loopw [8, 83] (fun v i wr => ∃ q : Nat, q ≤ 8 ∧ i = .int .i64 q ∧ Ow wr w9.heap.size 5 v (B8 ((L.take q).map let32)) ∧ Below w9.heap.size w9 wr) (fun _ i _ => 8 - (intOf i).toNat)
        case atStart => exact ⟨0, Nat.zero_le _, rfl, Ow.nil_ _ _ _ _, Below.refl _ _⟩
        case round =>
          obtain ⟨q, hq, rfl, hoq, hbq⟩ := hrel
          obtain ⟨R, hR⟩ : ∃ R, R = (L.take q).map let32 := ⟨_, rfl⟩
          have hL8 : L.length = 8 := by rw [HL.out, lettersL_length]
          have hRl : R.length = q := by rw [hR]; simp; omega
          rw [← hR] at hoq
          obtain ⟨Ar, cr, rfl, hcr, hcr'⟩ := own_form hoq
          by_cases hlt : q < 8
          · obtain ⟨y, hy⟩ : ∃ y, y = L[q] := ⟨_, rfl⟩
            have hy32 : y.toNat < 32 := lettersL_lt _ _ y (by rw [← HL.out, hy]; exact List.getElem_mem _)
            obtain ⟨b9, o9, rfl, hb9, hcl9⟩ := hsl9.at_ (k := q) (by omega)
            have hcell : wr.cell? ⟨b9, o9 + q, none⟩ = some (.int .u8 (y.toNat : Int)) := by rw [hbq.cell (p := ⟨b9, o9 + q, none⟩) hb9, hcl9 q (by omega), hy]
            have hlet : ∀ h, (⟨letters32.toArray⟩ : ByteArray)[y.toNat]'h = let32 y := fun h => letters32_at y h
            obtain ⟨l, hl⟩ : ∃ l, l = let32 y := ⟨_, rfl⟩
            rw [← hl] at hlet
            simp only [letters32] at hlet
            have hnew : R ++ [l] = (L.take (q + 1)).map let32 := by
              rw [hR, hl, hy, List.take_succ_eq_append_getElem (by omega), List.map_append]; rfl
            have Hnew := Lib.hid hnew
            have HRl := Lib.hid hRl
            rw [hRl] at hoq hcr ⊢
            clear hnew hl hy hR hcl9 hRl hL8
            go_wp2_with (at_builtin; go_loud (refine wpList_append_Ow (m := 1) (c := 1) (base := w9.heap.size) (xs := B8 R) (v := .slice Ar q cr) (A := some ⟨wr.heap.size, 0, none⟩) (B := wr.heap.size + 1) (news := [.int .u8 (l.toNat : Int)]) elB rfl (.tmp 87) (.tmp 90) rfl rfl (hoq.alloc _) rfl (Sl.one wr _ _) rfl (by simp; rfl) (by rw [B8_length, HRl.out]; simp [maxLen]; omega) (by rw [B8_length, HRl.out]; omega) (by have := hbq.size; simp; omega) ?_); intro v3 w3 ho3 hg3 hr3)
            rw [b8_snoc R _ l rfl, Hnew.out] at ho3
            exact ⟨⟨q + 1, by omega, rfl, ho3, push_below hbq (Nat.le_refl _) hoq hg3⟩, by simp [intOf]; omega⟩
          · have hqe : q = 8 := by omega
            have hR8 : R = checksum S := by
              rw [hR, Hck.out, ← Hpz.out, ← HL.out, List.take_of_length_le (by omega)]
            have hstr := run_str_Sl (P := Tryd.prog) wr 22 9 5 (by kernel_rfl) (by kernel_rfl) (by kernel_rfl) wr.heap.size Ar cr R hoq.sl
            have HR8 := Lib.hid hR8
            have hfinal := hbA.trans (hbq.mono hbA.size)
            clear hR hR8 hRl hsl9 hL8
            go_wp2_with fail
            go_ret2
            rw [← HR8.out]
            exact ⟨rfl, hfinal⟩
      · rw [show ([g0] : List UInt8).length = 1 from rfl] at hog hcg ⊢
        obtain ⟨gr, rfl, hgr, hrow4, z0, _⟩ := hog.at_ (j := 0) (by simp)
        have q0 : wS.cell? ⟨gr, 0, none⟩ = some (.int .u8 (g0.toNat : Int)) := z0
        have Hck : Hid (checksum S = (lettersL (poly ((V ++ [g0]) ++ List.replicate 8 0) ^^^ 1) 8).map let32) := Lib.hid (by rw [checksum, Hfin.out]; rfl)
        obtain ⟨F, hFV⟩ : ∃ F, F = V ++ [g0] := ⟨_, rfl⟩
        have hF : F.length = n + 1 := by rw [hFV, List.length_append, ← Hn.out]; rfl
        rw [← hFV] at Hck
        have HFV := Lib.hid hFV
        have HF0 := Lib.hid hF
        clear z0 hFV hog hF hgr hrow4
        go_wp2_with (at_builtin; go_loud (refine wpList_append_Ow (m := 1) (c := 1) (base := w.heap.size) (xs := B8 V) (v := .slice Av n cv) (A := some ⟨wS.heap.size, 0, none⟩) (B := wS.heap.size + 1) (news := [.int .u8 (g0.toNat : Int)]) elB rfl (.tmp 58) (.tmp 62) rfl rfl (hov.alloc _) rfl (Sl.one wS _ _) rfl (by simp; rfl) (by rw [B8_length, ← Hn.out]; simp [maxLen]; omega) (by rw [B8_length, ← Hn.out]; omega) (by have := hb.size; simp; omega) ?_; intro v6 w6 ho6 hg6 hr6; have hb6 := push_below hb (Nat.le_refl _) hov hg6; rw [b8_snoc V _ g0 rfl, ← HFV.out] at ho6; obtain ⟨A6, c6, rfl, hc6, hc6'⟩ := own_form ho6; rw [HF0.out] at ho6 hc6 ⊢))
        have hF := HF0.out
        have hn0 : 0 < n + 1 := by omega
        clear hov hg6 hr6 q0
        have HF := Lib.hid hF
        clear hF
        have hzF := hb6.size
        obtain ⟨pz, hpz⟩ : ∃ pz, pz = poly (F ++ List.replicate 8 0) := ⟨_, rfl⟩
        have hx1 : bits .xor .u64 (pz.toNat : Int) 1 = ((pz ^^^ 1).toNat : Int) := sp_x pz 1
        have hpz64 := pz.isLt
        obtain ⟨L, hL⟩ : ∃ L, L = lettersL (pz ^^^ 1) 8 := ⟨_, rfl⟩
        have Hpz := Lib.hid hpz
        have HL := Lib.hid hL
        clear hpz hL
        go_wp2_with (first | (go_at_call 32; refine (descs_any _).mono ?_; rintro e w7 ⟨rfl, hb7⟩) | (go_at_call 33; have hrun := run_any A6 c6 F w7 ((ho6.sl.below hb7).mono hb7.size) (by rw [HF.out]; omega) (by rw [HF.out]; omega); rw [HF.out, ← Hpz.out] at hrun; refine hrun.mono ?_; clear hrun; rintro e w8 ⟨rfl, hb8⟩) | (go_at_call 31; (try rw [hx1]); refine (letters_any (pz ^^^ 1) w8).mono ?_; rintro e w9 ⟨v9, rfl, ho9, hb9⟩; rw [← HL.out] at ho9; obtain ⟨A9, c9, rfl, hc9, hc9'⟩ := own_form ho9; rw [show L.length = 8 from by rw [HL.out, lettersL_length]] at ho9 hc9 ⊢))
        have hz7 := hb7.size
        have hz8 := hb8.size
        have hz9 := hb9.size
        have hbA : Below w.heap.size w w9 := hb6.trans ((hb7.mono hzF).trans ((hb8.mono (by omega)).trans (hb9.mono (by omega))))
        have hsl9 := ho9.sl
        clear hx1 ho9 hb7 hb8 hb9 hz7 hz8 hz9
        go_loopw [8, 83] (fun v i wr => ∃ q : Nat, q ≤ 8 ∧ i = .int .i64 q ∧ Ow wr w9.heap.size 5 v (B8 ((L.take q).map let32)) ∧ Below w9.heap.size w9 wr) (fun _ i _ => 8 - (intOf i).toNat)
        case atStart => exact ⟨0, Nat.zero_le _, rfl, Ow.nil_ _ _ _ _, Below.refl _ _⟩
        case round =>
          obtain ⟨q, hq, rfl, hoq, hbq⟩ := hrel
          obtain ⟨R, hR⟩ : ∃ R, R = (L.take q).map let32 := ⟨_, rfl⟩
          have hL8 : L.length = 8 := by rw [HL.out, lettersL_length]
          have hRl : R.length = q := by rw [hR]; simp; omega
          rw [← hR] at hoq
          obtain ⟨Ar, cr, rfl, hcr, hcr'⟩ := own_form hoq
          by_cases hlt : q < 8
          · obtain ⟨y, hy⟩ : ∃ y, y = L[q] := ⟨_, rfl⟩
            have hy32 : y.toNat < 32 := lettersL_lt _ _ y (by rw [← HL.out, hy]; exact List.getElem_mem _)
            obtain ⟨b9, o9, rfl, hb9, hcl9⟩ := hsl9.at_ (k := q) (by omega)
            have hcell : wr.cell? ⟨b9, o9 + q, none⟩ = some (.int .u8 (y.toNat : Int)) := by rw [hbq.cell (p := ⟨b9, o9 + q, none⟩) hb9, hcl9 q (by omega), hy]
            have hlet : ∀ h, (⟨letters32.toArray⟩ : ByteArray)[y.toNat]'h = let32 y := fun h => letters32_at y h
            obtain ⟨l, hl⟩ : ∃ l, l = let32 y := ⟨_, rfl⟩
            rw [← hl] at hlet
            simp only [letters32] at hlet
            have hnew : R ++ [l] = (L.take (q + 1)).map let32 := by
              rw [hR, hl, hy, List.take_succ_eq_append_getElem (by omega), List.map_append]; rfl
            have Hnew := Lib.hid hnew
            have HRl := Lib.hid hRl
            rw [hRl] at hoq hcr ⊢
            clear hnew hl hy hR hcl9 hRl hL8
            go_wp2_with (at_builtin; go_loud (refine wpList_append_Ow (m := 1) (c := 1) (base := w9.heap.size) (xs := B8 R) (v := .slice Ar q cr) (A := some ⟨wr.heap.size, 0, none⟩) (B := wr.heap.size + 1) (news := [.int .u8 (l.toNat : Int)]) elB rfl (.tmp 87) (.tmp 90) rfl rfl (hoq.alloc _) rfl (Sl.one wr _ _) rfl (by simp; rfl) (by rw [B8_length, HRl.out]; simp [maxLen]; omega) (by rw [B8_length, HRl.out]; omega) (by have := hbq.size; simp; omega) ?_); intro v3 w3 ho3 hg3 hr3)
            rw [b8_snoc R _ l rfl, Hnew.out] at ho3
            exact ⟨⟨q + 1, by omega, rfl, ho3, push_below hbq (Nat.le_refl _) hoq hg3⟩, by simp [intOf]; omega⟩
          · have hqe : q = 8 := by omega
            have hR8 : R = checksum S := by
              rw [hR, Hck.out, ← Hpz.out, ← HL.out, List.take_of_length_le (by omega)]
            have hstr := run_str_Sl (P := Tryd.prog) wr 22 9 5 (by kernel_rfl) (by kernel_rfl) (by kernel_rfl) wr.heap.size Ar cr R hoq.sl
            have HR8 := Lib.hid hR8
            have hfinal := hbA.trans (hbq.mono hbA.size)
            clear hR hR8 hRl hsl9 hL8
            go_wp2_with fail
            go_ret2
            rw [← HR8.out]
            exact ⟨rfl, hfinal⟩
      · rw [show ([g0, g1] : List UInt8).length = 2 from rfl] at hog hcg ⊢
        obtain ⟨gr, rfl, hgr, hrow4, z0, _⟩ := hog.at_ (j := 0) (by simp)
        obtain ⟨_, e1, _, _, z1, _⟩ := hog.at_ (j := 1) (by simp)
        injection e1 with e1; injection e1 with e1
        subst e1
        have q0 : wS.cell? ⟨gr, 0, none⟩ = some (.int .u8 (g0.toNat : Int)) := z0
        have q1 : wS.cell? ⟨gr, 1, none⟩ = some (.int .u8 (g1.toNat : Int)) := z1
        have hmx : Tryd.prog.follows .mixedOrders = true := by kernel_rfl
        have hg08 := g0.toNat_lt
        have hg18 := g1.toNat_lt
        have hc2 : 2 ≤ cg := hcg
        obtain ⟨u, hu⟩ : ∃ u, u = 3 * g0.toNat + g1.toNat := ⟨_, rfl⟩
        have Hck : Hid (checksum S = (lettersL (poly ((V ++ [UInt8.ofNat u]) ++ List.replicate 8 0) ^^^ 1) 8).map let32) := Lib.hid (by rw [checksum, Hfin.out, hu]; rfl)
        obtain ⟨F, hFV⟩ : ∃ F, F = V ++ [UInt8.ofNat u] := ⟨_, rfl⟩
        have hF : F.length = n + 1 := by rw [hFV, List.length_append, ← Hn.out]; rfl
        rw [← hFV] at Hck
        have HFV := Lib.hid hFV
        have HF0 := Lib.hid hF
        have Hu := Lib.hid hu
        clear z0 z1 hFV hog hF hgr hrow4 hu
        go_wp2_with fail
        refine wp_region_plan [(0, 0), (1, 0), (2, 0), (3, 1), (4, 0), (5, 0), (6, 0), (7, 1), (8, 0), (9, 2), (10, 2), (11, 2)] 10 hmx (by kernel_rfl) (by intro c a d v w h; cases d <;> exact h) ?_
        repeat ((first | (refine wpPlan_pure rfl (fun K hK => ?_)) | (refine wpPlan_quiet rfl (fun K hK => ?_))); go_simp; (first | (refine hK _ ?_) | (simp only [IntWalk.iteOmega]; go_simp; refine hK _ ?_) | (go_bits; go_simp; refine hK _ ?_)); clear hK K; (try go_bits))
        refine wpPlan_loud rfl rfl (fun K hK => ?_)
        go_wp2_with fail
        refine ⟨.inr (ext_alloc_drew _ _), ?_⟩
        have eu : (3 * (g0.toNat : Int) + (g1.toNat : Int)) % 256 = ((UInt8.ofNat u).toNat : Int) := by rw [UInt8.toNat_ofNat', Hu.out]; omega
        rw [eu]
        obtain ⟨w5, hw5⟩ : ∃ w5, w5 = (wS.alloc (.cells #[.int .u8 ((UInt8.ofNat u).toNat : Int)] 5)).drew := ⟨_, rfl⟩
        rw [← hw5]
        have hb5 : Below w.heap.size w w5 := by rw [hw5]; exact (hb.alloc hzS _).drew
        have hov5 : Ow w5 w.heap.size 5 (.slice Av n cv) (B8 V) := by rw [hw5]; exact (hov.alloc _).drew
        have hone5 : Sl w5 (wS.heap.size + 1) (some ⟨wS.heap.size, 0, none⟩) [.int .u8 ((UInt8.ofNat u).toNat : Int)] := by rw [hw5]; exact (Sl.one wS _ _).drew
        have hz5 := hb5.size
        clear hw5
        refine wpPlan_loud rfl rfl (fun K hK => ?_)
        refine wp_append_Ow (m := 1) (c := 1) (base := w.heap.size) (xs := B8 V) (v := .slice Av n cv) (A := some ⟨wS.heap.size, 0, none⟩) (B := wS.heap.size + 1) (news := [.int .u8 ((UInt8.ofNat u).toNat : Int)]) elB (.tmp 66) (.tmp 75) rfl rfl hov5 rfl hone5 rfl (by simp; rfl) (by rw [B8_length, ← Hn.out]; simp [maxLen]; omega) (by rw [B8_length, ← Hn.out]; omega) hz5 ?_
        intro v6 w6 ho6 hg6 hr6
        have hb6 : Below w.heap.size w w6 := hb5.grown hg6 hz5 (fun r hr => (hov5.row r hr).1)
        refine (show K (Act.put _ (some 76) v6) w6 from ?_)
        conv in (Act.put _ (some 76) v6) => simp [Act.put]
        refine hK _ _ ⟨.inl (by decide), ?_⟩
        clear hK K
        rw [b8_snoc V _ (UInt8.ofNat u) rfl, ← HFV.out] at ho6
        obtain ⟨A6, c6, rfl, hc6, hc6'⟩ := own_form ho6
        rw [HF0.out] at ho6 hc6 ⊢
        refine wpPlan_loud rfl rfl (fun K hK => ?_)
        refine Go.BigFrame.wp_assign (.tmp 76) rfl ?_
        refine (show K (Act.put _ (some 4) (.slice A6 (n + 1) c6)) w6 from ?_)
        conv in (Act.put _ (some 4) _) => simp [Act.put]
        refine hK _ _ ⟨.inl (by decide), ?_⟩
        clear hK K
        refine wpPlan_nil ?_
        have hF := HF0.out
        have hn0 : 0 < n + 1 := by omega
        clear hov hg6 hr6 q0 q1 hov5 hb5 hone5
        have HF := Lib.hid hF
        clear hF
        have hzF := hb6.size
        obtain ⟨pz, hpz⟩ : ∃ pz, pz = poly (F ++ List.replicate 8 0) := ⟨_, rfl⟩
        have hx1 : bits .xor .u64 (pz.toNat : Int) 1 = ((pz ^^^ 1).toNat : Int) := sp_x pz 1
        have hpz64 := pz.isLt
        obtain ⟨L, hL⟩ : ∃ L, L = lettersL (pz ^^^ 1) 8 := ⟨_, rfl⟩
        have Hpz := Lib.hid hpz
        have HL := Lib.hid hL
        clear hpz hL
        go_wp2_with (first | (go_at_call 32; refine (descs_any _).mono ?_; rintro e w7 ⟨rfl, hb7⟩) | (go_at_call 33; have hrun := run_any A6 c6 F w7 ((ho6.sl.below hb7).mono hb7.size) (by rw [HF.out]; omega) (by rw [HF.out]; omega); rw [HF.out, ← Hpz.out] at hrun; refine hrun.mono ?_; clear hrun; rintro e w8 ⟨rfl, hb8⟩) | (go_at_call 31; (try rw [hx1]); refine (letters_any (pz ^^^ 1) w8).mono ?_; rintro e w9 ⟨v9, rfl, ho9, hb9⟩; rw [← HL.out] at ho9; obtain ⟨A9, c9, rfl, hc9, hc9'⟩ := own_form ho9; rw [show L.length = 8 from by rw [HL.out, lettersL_length]] at ho9 hc9 ⊢))
        have hz7 := hb7.size
        have hz8 := hb8.size
        have hz9 := hb9.size
        have hbA : Below w.heap.size w w9 := hb6.trans ((hb7.mono hzF).trans ((hb8.mono (by omega)).trans (hb9.mono (by omega))))
        have hsl9 := ho9.sl
        clear hx1 ho9 hb7 hb8 hb9 hz7 hz8 hz9
        go_loopw [8, 83] (fun v i wr => ∃ q : Nat, q ≤ 8 ∧ i = .int .i64 q ∧ Ow wr w9.heap.size 5 v (B8 ((L.take q).map let32)) ∧ Below w9.heap.size w9 wr) (fun _ i _ => 8 - (intOf i).toNat)
        case atStart => exact ⟨0, Nat.zero_le _, rfl, Ow.nil_ _ _ _ _, Below.refl _ _⟩
        case round =>
          obtain ⟨q, hq, rfl, hoq, hbq⟩ := hrel
          obtain ⟨R, hR⟩ : ∃ R, R = (L.take q).map let32 := ⟨_, rfl⟩
          have hL8 : L.length = 8 := by rw [HL.out, lettersL_length]
          have hRl : R.length = q := by rw [hR]; simp; omega
          rw [← hR] at hoq
          obtain ⟨Ar, cr, rfl, hcr, hcr'⟩ := own_form hoq
          by_cases hlt : q < 8
          · obtain ⟨y, hy⟩ : ∃ y, y = L[q] := ⟨_, rfl⟩
            have hy32 : y.toNat < 32 := lettersL_lt _ _ y (by rw [← HL.out, hy]; exact List.getElem_mem _)
            obtain ⟨b9, o9, rfl, hb9, hcl9⟩ := hsl9.at_ (k := q) (by omega)
            have hcell : wr.cell? ⟨b9, o9 + q, none⟩ = some (.int .u8 (y.toNat : Int)) := by rw [hbq.cell (p := ⟨b9, o9 + q, none⟩) hb9, hcl9 q (by omega), hy]
            have hlet : ∀ h, (⟨letters32.toArray⟩ : ByteArray)[y.toNat]'h = let32 y := fun h => letters32_at y h
            obtain ⟨l, hl⟩ : ∃ l, l = let32 y := ⟨_, rfl⟩
            rw [← hl] at hlet
            simp only [letters32] at hlet
            have hnew : R ++ [l] = (L.take (q + 1)).map let32 := by
              rw [hR, hl, hy, List.take_succ_eq_append_getElem (by omega), List.map_append]; rfl
            have Hnew := Lib.hid hnew
            have HRl := Lib.hid hRl
            rw [hRl] at hoq hcr ⊢
            clear hnew hl hy hR hcl9 hRl hL8
            go_wp2_with (at_builtin; go_loud (refine wpList_append_Ow (m := 1) (c := 1) (base := w9.heap.size) (xs := B8 R) (v := .slice Ar q cr) (A := some ⟨wr.heap.size, 0, none⟩) (B := wr.heap.size + 1) (news := [.int .u8 (l.toNat : Int)]) elB rfl (.tmp 87) (.tmp 90) rfl rfl (hoq.alloc _) rfl (Sl.one wr _ _) rfl (by simp; rfl) (by rw [B8_length, HRl.out]; simp [maxLen]; omega) (by rw [B8_length, HRl.out]; omega) (by have := hbq.size; simp; omega) ?_); intro v3 w3 ho3 hg3 hr3)
            rw [b8_snoc R _ l rfl, Hnew.out] at ho3
            exact ⟨⟨q + 1, by omega, rfl, ho3, push_below hbq (Nat.le_refl _) hoq hg3⟩, by simp [intOf]; omega⟩
          · have hqe : q = 8 := by omega
            have hR8 : R = checksum S := by
              rw [hR, Hck.out, ← Hpz.out, ← HL.out, List.take_of_length_le (by omega)]
            have hstr := run_str_Sl (P := Tryd.prog) wr 22 9 5 (by kernel_rfl) (by kernel_rfl) (by kernel_rfl) wr.heap.size Ar cr R hoq.sl
            have HR8 := Lib.hid hR8
            have hfinal := hbA.trans (hbq.mono hbA.size)
            clear hR hR8 hRl hsl9 hL8
            go_wp2_with fail
            go_ret2
            rw [← HR8.out]
            exact ⟨rfl, hfinal⟩
end Go.Proofs.YtmfligfcejhjaaaDoor
