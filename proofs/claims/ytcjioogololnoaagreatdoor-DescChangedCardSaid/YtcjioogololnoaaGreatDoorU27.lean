/- text.Checksum. | desc.Parse. | strings.Builder.WriteString; strconv.FormatUint at base 10. -/
import Derived.Test.YtcjioogololnoaaGreatDoorU24
import Derived.Test.YtcjioogololnoaaGreatDoorU26
import Derived.Test.YtcjioogololnoaaGreatDoorU23
import Derived.Test.YtcjioogololnoaaGreatDoorU19
import Derived.Lib.ItoaMem
import Derived.Lib.AppendStr

/-! text.Checksum. -/
namespace Go.Proofs.YtcjioogololnoaaGreatDoor
open Go.RowKit Go.Shelf

theorem keep_two {w w' : World} {base E : Nat} {v u : Value} {xs ys : List Value} (hv : Ow w base E v xs) (hne : ∀ r, rowOf v = some r → rowOf u ≠ some r) (hg : w.grownBy w' (rowOf u)) : Ow w' base E v xs :=
  hv.kept hg hne
theorem apart_new {w : World} {base E : Nat} {v u u' : Value} {xs : List Value} (hv : Ow w base E v xs) (hne : ∀ r, rowOf v = some r → rowOf u ≠ some r) (hu : rowOf u' = rowOf u ∨ rowOf u' = some w.heap.size) : ∀ r, rowOf v = some r → rowOf u' ≠ some r := by
  intro r hr e
  rcases hu with h | h
  · exact hne r hr (h ▸ e)
  · rw [h] at e; injection e with e
    have := (hv.row r hr).2; omega
theorem apart_grown {v u v' : Value} {r0 : Nat} (h : ∀ r, rowOf v = some r → rowOf u ≠ some r) (hv : rowOf v' = rowOf v ∨ rowOf v' = some r0) (hu : ∀ r, rowOf u = some r → r < r0) : ∀ r, rowOf v' = some r → rowOf u ≠ some r := by
  intro r hr e
  rcases hv with h1 | h1
  · exact h r (h1 ▸ hr) e
  · rw [h1] at hr; injection hr with hr
    have := hu r e; omega
theorem Ow.row_lt {w : World} {base E : Nat} {v : Value} {xs : List Value} (h : Ow w base E v xs) : ∀ r, rowOf v = some r → r < w.heap.size := fun r hr => (h.row r hr).2
theorem apart_symm {v u : Value} (h : ∀ r, rowOf v = some r → rowOf u ≠ some r) : ∀ r, rowOf u = some r → rowOf v ≠ some r := fun r hu hv => h r hv hu

theorem csVals_snoc (s : List UInt8) (c : UInt8) : csVals (s ++ [c]) = csStep (csVals s) c := by simp [csVals]
theorem csStep_short (V G : List UInt8) (c : UInt8) (h : G.length < 2) : csStep (V, G) c = (V ++ [UInt8.ofNat (posD c % 32)], G ++ [UInt8.ofNat (posD c / 32)]) := by
  unfold csStep
  match G, h with
  | [], _ => rfl
  | [g], _ => rfl
theorem csStep_full (V : List UInt8) (g0 g1 : UInt8) (c : UInt8) : csStep (V, [g0, g1]) c = (V ++ [UInt8.ofNat (posD c % 32)] ++ [UInt8.ofNat (9 * g0.toNat + 3 * g1.toNat + posD c / 32)], []) := rfl
theorem and31 (p : Nat) (h : p < 95) : bits .and .i64 (p : Int) 31 = ((p % 32 : Nat) : Int) := by
  have : ∀ p : Fin 95, bits .and .i64 (p.val : Int) 31 = ((p.val % 32 : Nat) : Int) := by decide
  exact this ⟨p, h⟩

theorem lettersL_lt (c : BitVec 64) (k : Nat) : ∀ d ∈ lettersL c k, d.toNat < 32 := by
  intro d hd
  obtain ⟨i, _, rfl⟩ := List.mem_map.1 hd
  rw [UInt8.toNat_ofNat']; omega
theorem letters32_at (d : UInt8) (h : d.toNat < (⟨letters32.toArray⟩ : ByteArray).size) : (⟨letters32.toArray⟩ : ByteArray)[d.toNat] = let32 d := by
  have h' : d.toNat < letters32.length := h
  show letters32.toArray[d.toNat]'(by simpa using h') = _
  simp [let32, h']

set_option maxRecDepth 100000 in
set_option maxHeartbeats 4000000 in
theorem checksum_full (s : ByteArray) (w : World) (hsz : s.size ≤ 8000) :
    Calls Tryz.prog 16 #[.string s] w fun e W' => (((∀ c ∈ s.data.toList, c ∈ inD) ∧ e = .returned (.tuple #[.string ⟨(checksum s.data.toList).toArray⟩, .int .i64 0])) ∨ ((∃ c ∈ s.data.toList, c ∉ inD) ∧ e = .returned (.tuple #[.string ⟨#[]⟩, .int .i64 3]))) ∧ Below w.heap.size w W' := by
  have hS : s.data.toList.length = s.size := by simp
  obtain ⟨S, hSS⟩ : ∃ S, S = s.data.toList := ⟨_, rfl⟩
  rw [← hSS] at hS ⊢
  have HSS := Lib.hid hSS
  have HS := Lib.hid hS
  clear hSS hS
  go_enter Tryz.func16, Tryz.ntmps16
  go_wp2_with fail
  go_loopw [4, 5, 13] (fun v g i wr => ∃ k : Nat, k ≤ s.size ∧ i = .int .i64 k ∧ Ow wr w.heap.size 5 v (B8 (csVals (S.take k)).1) ∧ Ow wr w.heap.size 5 g (B8 (csVals (S.take k)).2) ∧ Hid ((∀ r, rowOf v = some r → rowOf g ≠ some r) ∧ (csVals (S.take k)).2.length ≤ 2 ∧ (csVals (S.take k)).1.length ≤ 2 * k ∧ (∀ c ∈ S.take k, c ∈ inD)) ∧ Below w.heap.size w wr) (fun _ _ i _ => s.size - (intOf i).toNat)
  case atStart => exact ⟨0, Nat.zero_le _, rfl, Ow.nil_ _ _ _ _, Ow.nil_ _ _ _ _, Lib.hid ⟨by simp [rowOf], by simp [csVals], by simp [csVals], by simp⟩, Below.refl _ _⟩
  case round =>
    obtain ⟨k, hk, rfl, hov, hog, HI, hb⟩ := hrel
    obtain ⟨V, hV⟩ : ∃ V, V = (csVals (S.take k)).1 := ⟨_, rfl⟩
    obtain ⟨G, hG⟩ : ∃ G, G = (csVals (S.take k)).2 := ⟨_, rfl⟩
    have hI := HI.out
    rw [← hV, ← hG] at hI
    rw [← hV] at hov
    rw [← hG] at hog
    obtain ⟨Av, cv, rfl, hcv, hcv'⟩ := own_form hov
    obtain ⟨Ag, cg, rfl, hcg, hcg'⟩ := own_form hog
    have HI := Lib.hid hI
    obtain ⟨n, hn⟩ : ∃ n, n = V.length := ⟨_, rfl⟩
    have hnl : n ≤ 16000 := by rw [hn]; omega
    rw [← hn] at hov hcv ⊢
    have HV := Lib.hid hV
    have HG := Lib.hid hG
    have Hn := Lib.hid hn
    by_cases hlt : k < s.size
    · obtain ⟨y, hy⟩ : ∃ y, y = s[k] := ⟨_, rfl⟩
      have hyS : S[k]? = some y := by rw [HSS.out, hy]; simp [hlt]; rfl
      have hix := Tryz.strings_IndexByte ⟨inD.toArray⟩ (s[k].toNat : Int)
      rw [show (⟨inD.toArray⟩ : ByteArray).data.toList = inD from rfl, indexByte_placeZ, show ((s[k].toNat : Int)).toNat.toUInt8 = y from by rw [hy]; simp] at hix
      rcases Decidable.em (y ∉ inD) with hym | hnm
      · have hpz : placeZ inD y = -1 := by rw [placeZ, if_neg hym]
        rw [hpz] at hix
        have Hix := Lib.hid hix
        have Hbad : Hid (∃ c ∈ S, c ∉ inD) := Lib.hid ⟨y, List.mem_of_getElem? hyS, hym⟩
        have hy8 := s[k].toNat_lt
        clear hV hG hn hI hyS hix hpz hym HI hy
        go_wp2_with (go_at_call 32; refine (Hix.out _).mono ?_; rintro e w' ⟨rfl, hww⟩; rw [hww]; clear hww)
        go_ret2
        exact ⟨.inr ⟨Hbad.out, rfl⟩, hb⟩
      have hym : y ∈ inD := Decidable.not_not.1 hnm
      clear hnm
      have Hal1 : Hid (∀ c ∈ S.take (k + 1), c ∈ inD) := Lib.hid (by
        rw [List.take_add_one, hyS]
        intro c hc
        simp only [Option.toList_some, List.mem_append, List.mem_singleton] at hc
        rcases hc with hc | rfl
        · exact hI.2.2.2 c hc
        · exact hym)
      obtain ⟨p, hp⟩ : ∃ p, p = posD y := ⟨_, rfl⟩
      have hp95 : p < 95 := by rw [hp]; exact List.idxOf_lt_length_iff.2 hym
      have hpz : placeZ inD y = (p : Int) := by rw [placeZ, if_pos hym, hp]; rfl
      rw [hpz] at hix
      have Hix := Lib.hid hix
      have HyS := Lib.hid hyS
      have Hp := Lib.hid hp
      have hy8 := s[k].toNat_lt
      clear hV hG hn hI hyS hix hp hpz hym
      have hand : bits .and .i64 (p : Int) 31 = ((p % 32 : Nat) : Int) := and31 p hp95
      obtain ⟨lo, hlo⟩ : ∃ lo, lo = p % 32 := ⟨_, rfl⟩
      obtain ⟨hi, hhi⟩ : ∃ hi, hi = p / 32 := ⟨_, rfl⟩
      have ehi : (p : Int) / 32 = (hi : Int) := by omega
      rw [← hlo] at hand
      have hlo32 : lo < 32 := by omega
      have hhi3 : hi < 3 := by omega
      have Hlo := Lib.hid hlo
      have Hhi := Lib.hid hhi
      clear hlo hhi
      obtain ⟨gl, hgl⟩ : ∃ gl, gl = G.length := ⟨_, rfl⟩
      have hgl2 : gl ≤ 2 := by rw [hgl]; exact HI.out.2.1
      rw [← hgl] at hog hcg ⊢
      have Hgl := Lib.hid hgl
      have Hap : Hid (∀ r, rowOf (.slice Av n cv) = some r → rowOf (.slice Ag gl cg) ≠ some r) := Lib.hid (by rw [Hn.out, Hgl.out]; exact HI.out.1)
      clear hgl
      by_cases hg2 : gl < 2
      · go_wp2_with (first | (go_at_call 32; refine (Hix.out _).mono ?_; rintro e w' ⟨rfl, hww⟩; rw [hww]; clear hww) | (at_builtin; go_loud (refine wpList_append_Ow (m := 1) (c := 1) (base := w.heap.size) (xs := B8 V) (v := .slice Av n cv) (A := some ⟨wr.heap.size, 0, none⟩) (B := wr.heap.size + 1) (news := [.int .u8 (lo : Int)]) elB rfl (.tmp 22) (.tmp 26) rfl rfl (hov.alloc _) rfl (Sl.one wr _ _) rfl (by simp; rfl) (by rw [B8_length, ← Hn.out]; simp [maxLen]; omega) (by rw [B8_length, ← Hn.out]; omega) (by have := hb.size; simp; omega) ?_; intro v3 w3 ho3 hg3 hr3; have hb3 := push_below hb (Nat.le_refl _) hov hg3; have hog3 := (hog.alloc (.cells #[.int .u8 (lo : Int)] 5)).kept hg3 (apart_symm Hap.out); have Hap3 := Lib.hid (apart_grown Hap.out hr3 (hog.alloc (.cells #[.int .u8 (lo : Int)] 5)).row_lt); have hz3 := hb3.size; clear hr3 hg3)) | (at_builtin; go_loud (refine wpList_append_Ow (m := 1) (c := 1) (base := w.heap.size) (xs := B8 G) (v := .slice Ag gl cg) (A := some ⟨w3.heap.size, 0, none⟩) (B := w3.heap.size + 1) (news := [.int .u8 (hi : Int)]) elB rfl (.tmp 28) (.tmp 32) rfl rfl (hog3.alloc _) rfl (Sl.one w3 _ _) rfl (by simp; rfl) (by rw [B8_length, ← Hgl.out]; simp [maxLen]; omega) (by rw [B8_length, ← Hgl.out]; omega) (by simp; omega) ?_; intro v4 w4 ho4 hg4 hr4; have hb4 := push_below hb3 (Nat.le_refl _) hog3 hg4; have hov4 := (ho3.alloc (.cells #[.int .u8 (hi : Int)] 5)).kept hg4 Hap3.out; have Hap4 := Lib.hid (apart_symm (apart_grown (apart_symm Hap3.out) hr4 (ho3.alloc (.cells #[.int .u8 (hi : Int)] 5)).row_lt)); have hz4 := hb4.size; clear hr4 hg4; rw [b8_snoc V _ (UInt8.ofNat lo) (by simp; omega)] at hov4; rw [b8_snoc G _ (UInt8.ofNat hi) (by simp; omega)] at ho4; obtain ⟨A3, c3, rfl, hc3, hc3'⟩ := own_form hov4; obtain ⟨A4, c4, rfl, hc4, hc4'⟩ := own_form ho4; rw [List.length_append, ← Hn.out, List.length_singleton] at hov4 hc3 ⊢; rw [List.length_append, ← Hgl.out, List.length_singleton] at ho4 hc4 ⊢)))
        have hst : csVals (S.take (k + 1)) = (V ++ [UInt8.ofNat lo], G ++ [UInt8.ofNat hi]) := by
          have htk : S.take k ++ [y] = S.take (k + 1) := by rw [List.take_add_one, HyS.out]; rfl
          rw [← htk, csVals_snoc, show csVals (S.take k) = (V, G) from by rw [HV.out, HG.out], csStep_short V G y (by rw [← Hgl.out]; exact hg2), ← Hp.out, ← Hlo.out, ← Hhi.out]
        refine ⟨⟨k + 1, by omega, rfl, by rw [hst]; exact hov4, by rw [hst]; exact ho4, Lib.hid ⟨?_, ?_, ?_, ?_⟩, hb4⟩, by simp [intOf]; omega⟩
        · simpa [List.length_append, ← Hn.out, ← Hgl.out] using Hap4.out
        · rw [hst, List.length_append, ← Hgl.out, List.length_singleton]; omega
        · have h3 := HI.out.2.2.1
          rw [hst, List.length_append, List.length_singleton]
          omega
        · exact Hal1.out
      · have hge : 2 ≤ gl := by omega
        have hge3 : (gl : Int) + 1 = 3 := by omega
        go_wp2_with (first | (go_at_call 32; refine (Hix.out _).mono ?_; rintro e w' ⟨rfl, hww⟩; rw [hww]; clear hww) | (at_builtin; go_loud (refine wpList_append_Ow (m := 1) (c := 1) (base := w.heap.size) (xs := B8 V) (v := .slice Av n cv) (A := some ⟨wr.heap.size, 0, none⟩) (B := wr.heap.size + 1) (news := [.int .u8 (lo : Int)]) elB rfl (.tmp 22) (.tmp 26) rfl rfl (hov.alloc _) rfl (Sl.one wr _ _) rfl (by simp; rfl) (by rw [B8_length, ← Hn.out]; simp [maxLen]; omega) (by rw [B8_length, ← Hn.out]; omega) (by have := hb.size; simp; omega) ?_; intro v3 w3 ho3 hg3 hr3; have hb3 := push_below hb (Nat.le_refl _) hov hg3; have hog3 := (hog.alloc (.cells #[.int .u8 (lo : Int)] 5)).kept hg3 (apart_symm Hap.out); have Hap3 := Lib.hid (apart_grown Hap.out hr3 (hog.alloc (.cells #[.int .u8 (lo : Int)] 5)).row_lt); have hz3 := hb3.size; clear hr3 hg3)) | (at_builtin; go_loud (refine wpList_append_Ow (m := 1) (c := 1) (base := w.heap.size) (xs := B8 G) (v := .slice Ag gl cg) (A := some ⟨w3.heap.size, 0, none⟩) (B := w3.heap.size + 1) (news := [.int .u8 (hi : Int)]) elB rfl (.tmp 28) (.tmp 32) rfl rfl (hog3.alloc _) rfl (Sl.one w3 _ _) rfl (by simp; rfl) (by rw [B8_length, ← Hgl.out]; simp [maxLen]; omega) (by rw [B8_length, ← Hgl.out]; omega) (by simp; omega) ?_; intro v4 w4 ho4 hg4 hr4; have hb4 := push_below hb3 (Nat.le_refl _) hog3 hg4; have hov4 := (ho3.alloc (.cells #[.int .u8 (hi : Int)] 5)).kept hg4 Hap3.out; have Hap4 := Lib.hid (apart_symm (apart_grown (apart_symm Hap3.out) hr4 (ho3.alloc (.cells #[.int .u8 (hi : Int)] 5)).row_lt)); have hz4 := hb4.size; clear hr4 hg4; rw [b8_snoc V _ (UInt8.ofNat lo) (by simp; omega)] at hov4; rw [b8_snoc G _ (UInt8.ofNat hi) (by simp; omega)] at ho4; obtain ⟨A3, c3, rfl, hc3, hc3'⟩ := own_form hov4; obtain ⟨A4, c4, rfl, hc4, hc4'⟩ := own_form ho4; rw [List.length_append, ← Hn.out, List.length_singleton] at hov4 hc3 ⊢; rw [List.length_append, ← Hgl.out, List.length_singleton] at ho4 hc4 ⊢)))
        obtain ⟨g0, g1, hG2⟩ : ∃ g0 g1, G = [g0, g1] := by
          have hl := Hgl.out
          match G, hl with
          | [], h => simp at h; omega
          | [_], h => simp at h; omega
          | [g0, g1], _ => exact ⟨g0, g1, rfl⟩
          | _ :: _ :: _ :: _, h => simp at h; omega
        have hmx : Tryz.prog.follows .mixedOrders = true := by kernel_rfl
        have hGl : (G ++ [UInt8.ofNat hi]) = [g0, g1, UInt8.ofNat hi] := by rw [hG2]; rfl
        rw [hGl] at ho4
        obtain ⟨gr, rfl, hgr, hrow4, z0, _⟩ := ho4.at_ (j := 0) (by simp)
        obtain ⟨_, e1, _, _, z1, _⟩ := ho4.at_ (j := 1) (by simp)
        obtain ⟨_, e2, _, _, z2, _⟩ := ho4.at_ (j := 2) (by simp)
        injection e1 with e1; injection e1 with e1
        injection e2 with e2; injection e2 with e2
        subst e1 e2
        have q0 : w4.cell? ⟨gr, 0, none⟩ = some (.int .u8 (g0.toNat : Int)) := z0
        have q1 : w4.cell? ⟨gr, 1, none⟩ = some (.int .u8 (g1.toNat : Int)) := z1
        have q2 : w4.cell? ⟨gr, 2, none⟩ = some (.int .u8 (hi : Int)) := by rw [z2]; simp [B8]; omega
        have hg08 := g0.toNat_lt
        have hg18 := g1.toNat_lt
        have hst : csVals (S.take (k + 1)) = (V ++ [UInt8.ofNat lo] ++ [UInt8.ofNat (9 * g0.toNat + 3 * g1.toNat + hi)], []) := by
          have htk : S.take k ++ [y] = S.take (k + 1) := by rw [List.take_add_one, HyS.out]; rfl
          rw [← htk, csVals_snoc, show csVals (S.take k) = (V, [g0, g1]) from by rw [HV.out, ← hG2, HG.out], csStep_full V g0 g1 y, ← Hp.out, ← Hlo.out, ← Hhi.out]
        have Hst := Lib.hid hst
        have hc43 : gl + 1 ≤ c4 := by have := ho4.len; omega
        clear hst hG2 hGl hov hog ho3 hog3 z0 z1 z2
        refine wp_region_plan [(0, 0), (1, 0), (2, 0), (3, 1), (4, 0), (5, 0), (6, 0), (7, 1), (8, 0), (9, 0), (10, 0), (11, 0), (12, 1), (13, 0), (14, 2), (15, 2), (16, 2), (17, 2)] 15 hmx (by kernel_rfl) (by intro c a d v w h; cases d <;> exact h) ?_
        repeat ((first | (refine wpPlan_pure rfl (fun K hK => ?_)) | (refine wpPlan_quiet rfl (fun K hK => ?_))); go_simp; (first | (refine hK _ ?_) | (simp only [IntWalk.iteOmega]; go_simp; refine hK _ ?_) | (go_bits; go_simp; refine hK _ ?_)); clear hK K; (try go_bits))
        refine wpPlan_loud rfl rfl (fun K hK => ?_)
        go_wp2_with fail
        refine ⟨ext_alloc_drew _ _, ?_⟩
        obtain ⟨u, hu⟩ : ∃ u, u = 9 * g0.toNat + 3 * g1.toNat + hi := ⟨_, rfl⟩
        have Hu := Lib.hid hu
        have eu : (9 * (g0.toNat : Int) + 3 * (g1.toNat : Int) + (hi : Int)) % 256 = ((UInt8.ofNat u).toNat : Int) := by rw [UInt8.toNat_ofNat']; omega
        rw [eu]
        obtain ⟨w5, hw5⟩ : ∃ w5, w5 = (w4.alloc (.cells #[.int .u8 ((UInt8.ofNat u).toNat : Int)] 5)).drew := ⟨_, rfl⟩
        rw [← hw5]
        have hb5 : Below w.heap.size w w5 := by rw [hw5]; exact (hb4.alloc hz4 _).drew
        have hov5 : Ow w5 w.heap.size 5 (.slice A3 (n + 1) c3) (B8 (V ++ [UInt8.ofNat lo])) := by rw [hw5]; exact (hov4.alloc _).drew
        have hone5 : Sl w5 (w4.heap.size + 1) (some ⟨w4.heap.size, 0, none⟩) [.int .u8 ((UInt8.ofNat u).toNat : Int)] := by rw [hw5]; exact (Sl.one w4 _ _).drew
        have hz5 := hb5.size
        clear hw5
        refine wpPlan_loud rfl rfl (fun K hK => ?_)
        refine wp_append_Ow (m := 1) (c := 1) (base := w.heap.size) (xs := B8 (V ++ [UInt8.ofNat lo])) (v := .slice A3 (n + 1) c3) (A := some ⟨w4.heap.size, 0, none⟩) (B := w4.heap.size + 1) (news := [.int .u8 ((UInt8.ofNat u).toNat : Int)]) elB (.tmp 37) (.tmp 51) rfl rfl hov5 rfl hone5 rfl (by simp; rfl) (by rw [B8_length, List.length_append, ← Hn.out]; simp [maxLen]; omega) (by rw [B8_length, List.length_append, ← Hn.out]; simp; omega) hz5 ?_
        intro v6 w6 ho6 hg6 hr6
        have hb6 : Below w.heap.size w w6 := hb5.grown hg6 hz5 (fun r hr => (hov5.row r hr).1)
        refine (show K (Act.put _ (some 52) v6) w6 from ?_)
        conv in (Act.put _ (some 52) v6) => simp [Act.put]
        refine hK _ _ ⟨.inl (by decide), ?_⟩
        clear hK K
        rw [b8_snoc _ _ (UInt8.ofNat u) rfl] at ho6
        refine wpPlan_loud rfl rfl (fun K hK => ?_)
        refine Go.BigFrame.wp_assign (.tmp 52) rfl ?_
        refine (show K (Act.put _ (some 4) v6) w6 from ?_)
        conv in (Act.put _ (some 4) v6) => simp [Act.put]
        refine hK _ _ ⟨.inl (by decide), ?_⟩
        clear hK K
        refine wpPlan_loud rfl rfl (fun K hK => ?_)
        refine Go.BigFrame.wp_assign (.const (.slice none 0 0)) rfl ?_
        refine (show K (Act.put _ (some 5) (.slice none 0 0)) w6 from ?_)
        conv in (Act.put _ (some 5) (.slice none 0 0)) => simp [Act.put]
        refine hK _ _ ⟨.inl (by decide), ?_⟩
        clear hK K
        refine wpPlan_nil ?_
        go_wp2_with fail
        refine ⟨⟨k + 1, by omega, rfl, by rw [Hst.out, ← Hu.out]; exact ho6, by rw [Hst.out]; exact Ow.nil_ _ _ _ _, Lib.hid ⟨by simp [rowOf], ?_, ?_, ?_⟩, hb6⟩, by simp [intOf]; omega⟩
        · rw [Hst.out]; simp
        · have h3 := HI.out.2.2.1
          rw [Hst.out]
          simp only [List.length_append, List.length_singleton]
          omega
        · exact Hal1.out
    · have hfin : csVals S = (V, G) := by
        have : S.take k = S := List.take_of_length_le (by rw [HS.out]; omega)
        rw [HV.out, HG.out, this]
      have HallS : Hid (∀ c ∈ S, c ∈ inD) := Lib.hid (by
        have h1 := HI.out.2.2.2
        rwa [show S.take k = S from List.take_of_length_le (by rw [HS.out]; omega)] at h1)
      have hVl : n ≤ 16000 := hnl
      have hG3 : G = [] ∨ (∃ g0, G = [g0]) ∨ ∃ g0 g1, G = [g0, g1] := by
        have hl := HI.out.2.1
        match G, hl with
        | [], _ => exact .inl rfl
        | [g0], _ => exact .inr (.inl ⟨g0, rfl⟩)
        | [g0, g1], _ => exact .inr (.inr ⟨g0, g1, rfl⟩)
        | _ :: _ :: _ :: _, h => simp at h
      have Hfin := Lib.hid hfin
      obtain ⟨wS, hwS⟩ : ∃ wS, wS = wr := ⟨_, rfl⟩
      subst hwS
      have hzS := hb.size
      have hl2k : V.length ≤ 2 * k := hI.2.2.1
      have Hap : Hid (∀ r, rowOf (.slice Av n cv) = some r → rowOf (.slice Ag G.length cg) ≠ some r) := Lib.hid (by rw [Hn.out]; exact hI.1)
      have hn2 : n ≤ 16000 := by rw [Hn.out]; omega
      clear hfin HG hI HI hV hG hn hl2k
      rcases hG3 with rfl | ⟨g0, rfl⟩ | ⟨g0, g1, rfl⟩
      · rw [show ([] : List UInt8).length = 0 from rfl] at hog hcg ⊢
        have Hck : Hid (checksum S = (lettersL (poly (V ++ List.replicate 8 0) ^^^ 1) 8).map let32) := Lib.hid (by rw [checksum, Hfin.out]; rfl)
        obtain ⟨F, hFV⟩ : ∃ F, F = V := ⟨_, rfl⟩
        rw [← hFV] at hov Hck
        have hF : F.length = n := by rw [hFV, Hn.out]
        clear hFV hog
        have HF := Lib.hid hF
        clear hF
        have hzF := hb.size
        obtain ⟨pz, hpz⟩ : ∃ pz, pz = poly (F ++ List.replicate 8 0) := ⟨_, rfl⟩
        have hx1 : bits .xor .u64 (pz.toNat : Int) 1 = ((pz ^^^ 1).toNat : Int) := sp_x pz 1
        have hpz64 := pz.isLt
        obtain ⟨L, hL⟩ : ∃ L, L = lettersL (pz ^^^ 1) 8 := ⟨_, rfl⟩
        have Hpz := Lib.hid hpz
        have HL := Lib.hid hL
        clear hpz hL
        go_wp2_with (first | (go_at_call 34; refine (descs_any _).mono ?_; rintro e w7 ⟨rfl, hb7⟩) | (go_at_call 35; have hrun := run_any Av cv F w7 ((hov.sl.below hb7).mono hb7.size) (by rw [HF.out]; omega); rw [HF.out, ← Hpz.out] at hrun; refine hrun.mono ?_; clear hrun; rintro e w8 ⟨rfl, hb8⟩) | (go_at_call 33; (try rw [hx1]); refine (letters_any (pz ^^^ 1) w8).mono ?_; rintro e w9 ⟨v9, rfl, ho9, hb9⟩; rw [← HL.out] at ho9; obtain ⟨A9, c9, rfl, hc9, hc9'⟩ := own_form ho9; rw [show L.length = 8 from by rw [HL.out, lettersL_length]] at ho9 hc9 ⊢))
        have hz7 := hb7.size
        have hz8 := hb8.size
        have hz9 := hb9.size
        have hbA : Below w.heap.size w w9 := hb.trans ((hb7.mono hzF).trans ((hb8.mono (by omega)).trans (hb9.mono (by omega))))
        have hsl9 := ho9.sl
        clear hx1 ho9 hb7 hb8 hb9 hz7 hz8 hz9
        go_loopw [8, 83] (fun v i wr => ∃ q : Nat, q ≤ 8 ∧ i = .int .i64 q ∧ Ow wr w9.heap.size 5 v (B8 ((L.take q).map let32)) ∧ Below w9.heap.size w9 wr) (fun _ i _ => 8 - (intOf i).toNat)
        case atStart => exact ⟨0, Nat.zero_le _, rfl, Ow.nil_ _ _ _ _, Below.refl _ _⟩
        case round =>
          obtain ⟨q, hq, rfl, hoq, hbq⟩ := hrel
          obtain ⟨R, hR⟩ : ∃ R, R = (L.take q).map let32 := ⟨_, rfl⟩
          have hL8 : L.length = 8 := by rw [HL.out, lettersL_length]
          have hRl : R.length = q := by rw [hR]; simp; omega
          rw [← hR] at hoq
          obtain ⟨Ar, cr, rfl, hcr, hcr'⟩ := own_form hoq
          by_cases hlt : q < 8
          · obtain ⟨y, hy⟩ : ∃ y, y = L[q] := ⟨_, rfl⟩
            have hy32 : y.toNat < 32 := lettersL_lt _ _ y (by rw [← HL.out, hy]; exact List.getElem_mem _)
            obtain ⟨b9, o9, rfl, hb9, hcl9⟩ := hsl9.at_ (k := q) (by omega)
            have hcell : wr.cell? ⟨b9, o9 + q, none⟩ = some (.int .u8 (y.toNat : Int)) := by rw [hbq.cell (p := ⟨b9, o9 + q, none⟩) hb9, hcl9 q (by omega), hy]
            have hlet : ∀ h, (⟨letters32.toArray⟩ : ByteArray)[y.toNat]'h = let32 y := fun h => letters32_at y h
            obtain ⟨l, hl⟩ : ∃ l, l = let32 y := ⟨_, rfl⟩
            rw [← hl] at hlet
            simp only [letters32] at hlet
            have hnew : R ++ [l] = (L.take (q + 1)).map let32 := by
              rw [hR, hl, hy, List.take_succ_eq_append_getElem (by omega), List.map_append]; rfl
            have Hnew := Lib.hid hnew
            have HRl := Lib.hid hRl
            rw [hRl] at hoq hcr ⊢
            clear hnew hl hy hR hcl9 hRl hL8
            go_wp2_with (at_builtin; go_loud (refine wpList_append_Ow (m := 1) (c := 1) (base := w9.heap.size) (xs := B8 R) (v := .slice Ar q cr) (A := some ⟨wr.heap.size, 0, none⟩) (B := wr.heap.size + 1) (news := [.int .u8 (l.toNat : Int)]) elB rfl (.tmp 87) (.tmp 90) rfl rfl (hoq.alloc _) rfl (Sl.one wr _ _) rfl (by simp; rfl) (by rw [B8_length, HRl.out]; simp [maxLen]; omega) (by rw [B8_length, HRl.out]; omega) (by have := hbq.size; simp; omega) ?_); intro v3 w3 ho3 hg3 hr3)
            rw [b8_snoc R _ l rfl, Hnew.out] at ho3
            exact ⟨⟨q + 1, by omega, rfl, ho3, push_below hbq (Nat.le_refl _) hoq hg3⟩, by simp [intOf]; omega⟩
          · have hqe : q = 8 := by omega
            have hR8 : R = checksum S := by
              rw [hR, Hck.out, ← Hpz.out, ← HL.out, List.take_of_length_le (by omega)]
            have hstr := run_str_Sl (P := Tryz.prog) wr 37 9 5 (by kernel_rfl) (by kernel_rfl) (by kernel_rfl) wr.heap.size Ar cr R hoq.sl
            have HR8 := Lib.hid hR8
            have hfinal := hbA.trans (hbq.mono hbA.size)
            clear hR hR8 hRl hsl9 hL8
            go_wp2_with fail
            go_ret2
            rw [← HR8.out]
            exact ⟨.inl ⟨HallS.out, rfl⟩, hfinal⟩
      · rw [show ([g0] : List UInt8).length = 1 from rfl] at hog hcg ⊢
        obtain ⟨gr, rfl, hgr, hrow4, z0, _⟩ := hog.at_ (j := 0) (by simp)
        have q0 : wS.cell? ⟨gr, 0, none⟩ = some (.int .u8 (g0.toNat : Int)) := z0
        have Hck : Hid (checksum S = (lettersL (poly ((V ++ [g0]) ++ List.replicate 8 0) ^^^ 1) 8).map let32) := Lib.hid (by rw [checksum, Hfin.out]; rfl)
        obtain ⟨F, hFV⟩ : ∃ F, F = V ++ [g0] := ⟨_, rfl⟩
        have hF : F.length = n + 1 := by rw [hFV, List.length_append, ← Hn.out]; rfl
        rw [← hFV] at Hck
        have HFV := Lib.hid hFV
        have HF0 := Lib.hid hF
        clear z0 hFV hog hF hgr hrow4
        go_wp2_with (at_builtin; go_loud (refine wpList_append_Ow (m := 1) (c := 1) (base := w.heap.size) (xs := B8 V) (v := .slice Av n cv) (A := some ⟨wS.heap.size, 0, none⟩) (B := wS.heap.size + 1) (news := [.int .u8 (g0.toNat : Int)]) elB rfl (.tmp 58) (.tmp 62) rfl rfl (hov.alloc _) rfl (Sl.one wS _ _) rfl (by simp; rfl) (by rw [B8_length, ← Hn.out]; simp [maxLen]; omega) (by rw [B8_length, ← Hn.out]; omega) (by have := hb.size; simp; omega) ?_; intro v6 w6 ho6 hg6 hr6; have hb6 := push_below hb (Nat.le_refl _) hov hg6; rw [b8_snoc V _ g0 rfl, ← HFV.out] at ho6; obtain ⟨A6, c6, rfl, hc6, hc6'⟩ := own_form ho6; rw [HF0.out] at ho6 hc6 ⊢))
        have hF := HF0.out
        clear hov hg6 hr6 q0
        have HF := Lib.hid hF
        clear hF
        have hzF := hb6.size
        obtain ⟨pz, hpz⟩ : ∃ pz, pz = poly (F ++ List.replicate 8 0) := ⟨_, rfl⟩
        have hx1 : bits .xor .u64 (pz.toNat : Int) 1 = ((pz ^^^ 1).toNat : Int) := sp_x pz 1
        have hpz64 := pz.isLt
        obtain ⟨L, hL⟩ : ∃ L, L = lettersL (pz ^^^ 1) 8 := ⟨_, rfl⟩
        have Hpz := Lib.hid hpz
        have HL := Lib.hid hL
        clear hpz hL
        go_wp2_with (first | (go_at_call 34; refine (descs_any _).mono ?_; rintro e w7 ⟨rfl, hb7⟩) | (go_at_call 35; have hrun := run_any A6 c6 F w7 ((ho6.sl.below hb7).mono hb7.size) (by rw [HF.out]; omega); rw [HF.out, ← Hpz.out] at hrun; refine hrun.mono ?_; clear hrun; rintro e w8 ⟨rfl, hb8⟩) | (go_at_call 33; (try rw [hx1]); refine (letters_any (pz ^^^ 1) w8).mono ?_; rintro e w9 ⟨v9, rfl, ho9, hb9⟩; rw [← HL.out] at ho9; obtain ⟨A9, c9, rfl, hc9, hc9'⟩ := own_form ho9; rw [show L.length = 8 from by rw [HL.out, lettersL_length]] at ho9 hc9 ⊢))
        have hz7 := hb7.size
        have hz8 := hb8.size
        have hz9 := hb9.size
        have hbA : Below w.heap.size w w9 := hb6.trans ((hb7.mono hzF).trans ((hb8.mono (by omega)).trans (hb9.mono (by omega))))
        have hsl9 := ho9.sl
        clear hx1 ho9 hb7 hb8 hb9 hz7 hz8 hz9
        go_loopw [8, 83] (fun v i wr => ∃ q : Nat, q ≤ 8 ∧ i = .int .i64 q ∧ Ow wr w9.heap.size 5 v (B8 ((L.take q).map let32)) ∧ Below w9.heap.size w9 wr) (fun _ i _ => 8 - (intOf i).toNat)
        case atStart => exact ⟨0, Nat.zero_le _, rfl, Ow.nil_ _ _ _ _, Below.refl _ _⟩
        case round =>
          obtain ⟨q, hq, rfl, hoq, hbq⟩ := hrel
          obtain ⟨R, hR⟩ : ∃ R, R = (L.take q).map let32 := ⟨_, rfl⟩
          have hL8 : L.length = 8 := by rw [HL.out, lettersL_length]
          have hRl : R.length = q := by rw [hR]; simp; omega
          rw [← hR] at hoq
          obtain ⟨Ar, cr, rfl, hcr, hcr'⟩ := own_form hoq
          by_cases hlt : q < 8
          · obtain ⟨y, hy⟩ : ∃ y, y = L[q] := ⟨_, rfl⟩
            have hy32 : y.toNat < 32 := lettersL_lt _ _ y (by rw [← HL.out, hy]; exact List.getElem_mem _)
            obtain ⟨b9, o9, rfl, hb9, hcl9⟩ := hsl9.at_ (k := q) (by omega)
            have hcell : wr.cell? ⟨b9, o9 + q, none⟩ = some (.int .u8 (y.toNat : Int)) := by rw [hbq.cell (p := ⟨b9, o9 + q, none⟩) hb9, hcl9 q (by omega), hy]
            have hlet : ∀ h, (⟨letters32.toArray⟩ : ByteArray)[y.toNat]'h = let32 y := fun h => letters32_at y h
            obtain ⟨l, hl⟩ : ∃ l, l = let32 y := ⟨_, rfl⟩
            rw [← hl] at hlet
            simp only [letters32] at hlet
            have hnew : R ++ [l] = (L.take (q + 1)).map let32 := by
              rw [hR, hl, hy, List.take_succ_eq_append_getElem (by omega), List.map_append]; rfl
            have Hnew := Lib.hid hnew
            have HRl := Lib.hid hRl
            rw [hRl] at hoq hcr ⊢
            clear hnew hl hy hR hcl9 hRl hL8
            go_wp2_with (at_builtin; go_loud (refine wpList_append_Ow (m := 1) (c := 1) (base := w9.heap.size) (xs := B8 R) (v := .slice Ar q cr) (A := some ⟨wr.heap.size, 0, none⟩) (B := wr.heap.size + 1) (news := [.int .u8 (l.toNat : Int)]) elB rfl (.tmp 87) (.tmp 90) rfl rfl (hoq.alloc _) rfl (Sl.one wr _ _) rfl (by simp; rfl) (by rw [B8_length, HRl.out]; simp [maxLen]; omega) (by rw [B8_length, HRl.out]; omega) (by have := hbq.size; simp; omega) ?_); intro v3 w3 ho3 hg3 hr3)
            rw [b8_snoc R _ l rfl, Hnew.out] at ho3
            exact ⟨⟨q + 1, by omega, rfl, ho3, push_below hbq (Nat.le_refl _) hoq hg3⟩, by simp [intOf]; omega⟩
          · have hqe : q = 8 := by omega
            have hR8 : R = checksum S := by
              rw [hR, Hck.out, ← Hpz.out, ← HL.out, List.take_of_length_le (by omega)]
            have hstr := run_str_Sl (P := Tryz.prog) wr 37 9 5 (by kernel_rfl) (by kernel_rfl) (by kernel_rfl) wr.heap.size Ar cr R hoq.sl
            have HR8 := Lib.hid hR8
            have hfinal := hbA.trans (hbq.mono hbA.size)
            clear hR hR8 hRl hsl9 hL8
            go_wp2_with fail
            go_ret2
            rw [← HR8.out]
            exact ⟨.inl ⟨HallS.out, rfl⟩, hfinal⟩
      · rw [show ([g0, g1] : List UInt8).length = 2 from rfl] at hog hcg ⊢
        obtain ⟨gr, rfl, hgr, hrow4, z0, _⟩ := hog.at_ (j := 0) (by simp)
        obtain ⟨_, e1, _, _, z1, _⟩ := hog.at_ (j := 1) (by simp)
        injection e1 with e1; injection e1 with e1
        subst e1
        have q0 : wS.cell? ⟨gr, 0, none⟩ = some (.int .u8 (g0.toNat : Int)) := z0
        have q1 : wS.cell? ⟨gr, 1, none⟩ = some (.int .u8 (g1.toNat : Int)) := z1
        have hmx : Tryz.prog.follows .mixedOrders = true := by kernel_rfl
        have hg08 := g0.toNat_lt
        have hg18 := g1.toNat_lt
        have hc2 : 2 ≤ cg := hcg
        obtain ⟨u, hu⟩ : ∃ u, u = 3 * g0.toNat + g1.toNat := ⟨_, rfl⟩
        have Hck : Hid (checksum S = (lettersL (poly ((V ++ [UInt8.ofNat u]) ++ List.replicate 8 0) ^^^ 1) 8).map let32) := Lib.hid (by rw [checksum, Hfin.out, hu]; rfl)
        obtain ⟨F, hFV⟩ : ∃ F, F = V ++ [UInt8.ofNat u] := ⟨_, rfl⟩
        have hF : F.length = n + 1 := by rw [hFV, List.length_append, ← Hn.out]; rfl
        rw [← hFV] at Hck
        have HFV := Lib.hid hFV
        have HF0 := Lib.hid hF
        have Hu := Lib.hid hu
        clear z0 z1 hFV hog hF hgr hrow4 hu
        go_wp2_with fail
        refine wp_region_plan [(0, 0), (1, 0), (2, 0), (3, 1), (4, 0), (5, 0), (6, 0), (7, 1), (8, 0), (9, 2), (10, 2), (11, 2)] 10 hmx (by kernel_rfl) (by intro c a d v w h; cases d <;> exact h) ?_
        repeat ((first | (refine wpPlan_pure rfl (fun K hK => ?_)) | (refine wpPlan_quiet rfl (fun K hK => ?_))); go_simp; (first | (refine hK _ ?_) | (simp only [IntWalk.iteOmega]; go_simp; refine hK _ ?_) | (go_bits; go_simp; refine hK _ ?_)); clear hK K; (try go_bits))
        refine wpPlan_loud rfl rfl (fun K hK => ?_)
        go_wp2_with fail
        refine ⟨.inr (ext_alloc_drew _ _), ?_⟩
        have eu : (3 * (g0.toNat : Int) + (g1.toNat : Int)) % 256 = ((UInt8.ofNat u).toNat : Int) := by rw [UInt8.toNat_ofNat', Hu.out]; omega
        rw [eu]
        obtain ⟨w5, hw5⟩ : ∃ w5, w5 = (wS.alloc (.cells #[.int .u8 ((UInt8.ofNat u).toNat : Int)] 5)).drew := ⟨_, rfl⟩
        rw [← hw5]
        have hb5 : Below w.heap.size w w5 := by rw [hw5]; exact (hb.alloc hzS _).drew
        have hov5 : Ow w5 w.heap.size 5 (.slice Av n cv) (B8 V) := by rw [hw5]; exact (hov.alloc _).drew
        have hone5 : Sl w5 (wS.heap.size + 1) (some ⟨wS.heap.size, 0, none⟩) [.int .u8 ((UInt8.ofNat u).toNat : Int)] := by rw [hw5]; exact (Sl.one wS _ _).drew
        have hz5 := hb5.size
        clear hw5
        refine wpPlan_loud rfl rfl (fun K hK => ?_)
        refine wp_append_Ow (m := 1) (c := 1) (base := w.heap.size) (xs := B8 V) (v := .slice Av n cv) (A := some ⟨wS.heap.size, 0, none⟩) (B := wS.heap.size + 1) (news := [.int .u8 ((UInt8.ofNat u).toNat : Int)]) elB (.tmp 66) (.tmp 75) rfl rfl hov5 rfl hone5 rfl (by simp; rfl) (by rw [B8_length, ← Hn.out]; simp [maxLen]; omega) (by rw [B8_length, ← Hn.out]; omega) hz5 ?_
        intro v6 w6 ho6 hg6 hr6
        have hb6 : Below w.heap.size w w6 := hb5.grown hg6 hz5 (fun r hr => (hov5.row r hr).1)
        refine (show K (Act.put _ (some 76) v6) w6 from ?_)
        conv in (Act.put _ (some 76) v6) => simp [Act.put]
        refine hK _ _ ⟨.inl (by decide), ?_⟩
        clear hK K
        rw [b8_snoc V _ (UInt8.ofNat u) rfl, ← HFV.out] at ho6
        obtain ⟨A6, c6, rfl, hc6, hc6'⟩ := own_form ho6
        rw [HF0.out] at ho6 hc6 ⊢
        refine wpPlan_loud rfl rfl (fun K hK => ?_)
        refine Go.BigFrame.wp_assign (.tmp 76) rfl ?_
        refine (show K (Act.put _ (some 4) (.slice A6 (n + 1) c6)) w6 from ?_)
        conv in (Act.put _ (some 4) _) => simp [Act.put]
        refine hK _ _ ⟨.inl (by decide), ?_⟩
        clear hK K
        refine wpPlan_nil ?_
        have hF := HF0.out
        clear hov hg6 hr6 q0 q1 hov5 hb5 hone5
        have HF := Lib.hid hF
        clear hF
        have hzF := hb6.size
        obtain ⟨pz, hpz⟩ : ∃ pz, pz = poly (F ++ List.replicate 8 0) := ⟨_, rfl⟩
        have hx1 : bits .xor .u64 (pz.toNat : Int) 1 = ((pz ^^^ 1).toNat : Int) := sp_x pz 1
        have hpz64 := pz.isLt
        obtain ⟨L, hL⟩ : ∃ L, L = lettersL (pz ^^^ 1) 8 := ⟨_, rfl⟩
        have Hpz := Lib.hid hpz
        have HL := Lib.hid hL
        clear hpz hL
        go_wp2_with (first | (go_at_call 34; refine (descs_any _).mono ?_; rintro e w7 ⟨rfl, hb7⟩) | (go_at_call 35; have hrun := run_any A6 c6 F w7 ((ho6.sl.below hb7).mono hb7.size) (by rw [HF.out]; omega); rw [HF.out, ← Hpz.out] at hrun; refine hrun.mono ?_; clear hrun; rintro e w8 ⟨rfl, hb8⟩) | (go_at_call 33; (try rw [hx1]); refine (letters_any (pz ^^^ 1) w8).mono ?_; rintro e w9 ⟨v9, rfl, ho9, hb9⟩; rw [← HL.out] at ho9; obtain ⟨A9, c9, rfl, hc9, hc9'⟩ := own_form ho9; rw [show L.length = 8 from by rw [HL.out, lettersL_length]] at ho9 hc9 ⊢))
        have hz7 := hb7.size
        have hz8 := hb8.size
        have hz9 := hb9.size
        have hbA : Below w.heap.size w w9 := hb6.trans ((hb7.mono hzF).trans ((hb8.mono (by omega)).trans (hb9.mono (by omega))))
        have hsl9 := ho9.sl
        clear hx1 ho9 hb7 hb8 hb9 hz7 hz8 hz9
        go_loopw [8, 83] (fun v i wr => ∃ q : Nat, q ≤ 8 ∧ i = .int .i64 q ∧ Ow wr w9.heap.size 5 v (B8 ((L.take q).map let32)) ∧ Below w9.heap.size w9 wr) (fun _ i _ => 8 - (intOf i).toNat)
        case atStart => exact ⟨0, Nat.zero_le _, rfl, Ow.nil_ _ _ _ _, Below.refl _ _⟩
        case round =>
          obtain ⟨q, hq, rfl, hoq, hbq⟩ := hrel
          obtain ⟨R, hR⟩ : ∃ R, R = (L.take q).map let32 := ⟨_, rfl⟩
          have hL8 : L.length = 8 := by rw [HL.out, lettersL_length]
          have hRl : R.length = q := by rw [hR]; simp; omega
          rw [← hR] at hoq
          obtain ⟨Ar, cr, rfl, hcr, hcr'⟩ := own_form hoq
          by_cases hlt : q < 8
          · obtain ⟨y, hy⟩ : ∃ y, y = L[q] := ⟨_, rfl⟩
            have hy32 : y.toNat < 32 := lettersL_lt _ _ y (by rw [← HL.out, hy]; exact List.getElem_mem _)
            obtain ⟨b9, o9, rfl, hb9, hcl9⟩ := hsl9.at_ (k := q) (by omega)
            have hcell : wr.cell? ⟨b9, o9 + q, none⟩ = some (.int .u8 (y.toNat : Int)) := by rw [hbq.cell (p := ⟨b9, o9 + q, none⟩) hb9, hcl9 q (by omega), hy]
            have hlet : ∀ h, (⟨letters32.toArray⟩ : ByteArray)[y.toNat]'h = let32 y := fun h => letters32_at y h
            obtain ⟨l, hl⟩ : ∃ l, l = let32 y := ⟨_, rfl⟩
            rw [← hl] at hlet
            simp only [letters32] at hlet
            have hnew : R ++ [l] = (L.take (q + 1)).map let32 := by
              rw [hR, hl, hy, List.take_succ_eq_append_getElem (by omega), List.map_append]; rfl
            have Hnew := Lib.hid hnew
            have HRl := Lib.hid hRl
            rw [hRl] at hoq hcr ⊢
            clear hnew hl hy hR hcl9 hRl hL8
            go_wp2_with (at_builtin; go_loud (refine wpList_append_Ow (m := 1) (c := 1) (base := w9.heap.size) (xs := B8 R) (v := .slice Ar q cr) (A := some ⟨wr.heap.size, 0, none⟩) (B := wr.heap.size + 1) (news := [.int .u8 (l.toNat : Int)]) elB rfl (.tmp 87) (.tmp 90) rfl rfl (hoq.alloc _) rfl (Sl.one wr _ _) rfl (by simp; rfl) (by rw [B8_length, HRl.out]; simp [maxLen]; omega) (by rw [B8_length, HRl.out]; omega) (by have := hbq.size; simp; omega) ?_); intro v3 w3 ho3 hg3 hr3)
            rw [b8_snoc R _ l rfl, Hnew.out] at ho3
            exact ⟨⟨q + 1, by omega, rfl, ho3, push_below hbq (Nat.le_refl _) hoq hg3⟩, by simp [intOf]; omega⟩
          · have hqe : q = 8 := by omega
            have hR8 : R = checksum S := by
              rw [hR, Hck.out, ← Hpz.out, ← HL.out, List.take_of_length_le (by omega)]
            have hstr := run_str_Sl (P := Tryz.prog) wr 37 9 5 (by kernel_rfl) (by kernel_rfl) (by kernel_rfl) wr.heap.size Ar cr R hoq.sl
            have HR8 := Lib.hid hR8
            have hfinal := hbA.trans (hbq.mono hbA.size)
            clear hR hR8 hRl hsl9 hL8
            go_wp2_with fail
            go_ret2
            rw [← HR8.out]
            exact ⟨.inl ⟨HallS.out, rfl⟩, hfinal⟩
theorem checksum_any (s : ByteArray) (w : World) (hsz : s.size ≤ 8000) (hall : ∀ c ∈ s.data.toList, c ∈ inD) :
    Calls Tryz.prog 16 #[.string s] w fun e W' => e = .returned (.tuple #[.string ⟨(checksum s.data.toList).toArray⟩, .int .i64 0]) ∧ Below w.heap.size w W' :=
  (checksum_full s w hsz).mono fun e W' ⟨h, hb⟩ => by
    rcases h with ⟨_, h⟩ | ⟨⟨c, hc, hn⟩, _⟩
    · exact ⟨h, hb⟩
    · exact absurd (hall c hc) hn
end Go.Proofs.YtcjioogololnoaaGreatDoor

/-! desc.Parse. -/
namespace Go.Proofs.YtcjioogololnoaaGreatDoor
open Go Go.RowKit Go.Shelf

/-- What the walk of 'read' says. -/
def ReadSaid : Prop := ∀ (w0 w : World), Env w0 → Below w0.heap.size w0 w → ∀ g : Nat, w0.heap.size ≤ g → w.heap[g]? = some (.cells (DC nilS 0 false nilS) 48 (0, 0)) → ∀ s : ByteArray, s.size ≤ 4096 →
    Calls Tryz.prog 18 #[.pointer (some ⟨g, 0, none⟩), .string s] w (RD w0 g s.data.toList)
/-- What Parse ends with. -/
def PD (w : World) (S : List UInt8) (e : Ending) (W' : World) : Prop :=
  ((∃ n : Nat, n ≠ 0 ∧ n < 100 ∧ parseD S = (n, none) ∧ e = .returned (.tuple #[.pointer none, .int .i64 (n : Int)])) ∨
   (∃ d g, parseD S = (0, some d) ∧ e = .returned (.tuple #[.pointer (some ⟨g, 0, none⟩), .int .i64 0]) ∧ DA W' w.heap.size g d)) ∧ Below w.heap.size w W'
theorem all_inD {l : List UInt8} : (∀ c ∈ l, c ∈ inD) → l.all (fun x => decide (x ∈ inD)) = true := fun h => List.all_eq_true.2 fun c hc => decide_eq_true (h c hc)
theorem not_all_inD {l : List UInt8} : (∃ c ∈ l, c ∉ inD) → l.all (fun x => decide (x ∈ inD)) = false := fun ⟨c, hc, hn⟩ => by
  rw [← Bool.not_eq_true]
  intro h
  exact hn (of_decide_eq_true (List.all_eq_true.1 h c hc))
theorem DA.below {W W' : World} {base g : Nat} {d : DDesc} (h : DA W base g d) (hb : Below W.heap.size W W') : DA W' base g d := by
  obtain ⟨v, kv, h1, h2, h3⟩ := h
  exact ⟨v, kv, (hb.block g (Array.getElem?_eq_some_iff.1 h1).1).trans h1, h2.below hb (Nat.le_refl _), h3.below hb⟩
theorem DA.setCell {W : World} {base g p : Nat} {d : DDesc} (h : DA W base g d) (hp : p < base) (hg : base ≤ g) (o : Nat) (u : Value) : DA (W.setCell ⟨p, o, none⟩ u) base g d := by
  obtain ⟨v, kv, h1, h2, h3⟩ := h
  exact ⟨v, kv, (Below.heap_setCell _ _ _ _ (show g ≠ p by omega)).trans h1, h2.setCell (p := ⟨p, o, none⟩) (fun r hr => by have := (h2.row r hr).1; show p ≠ r; omega) _, h3.setCell hp (by omega) o u⟩
theorem DA.mono {W : World} {base base' g : Nat} {d : DDesc} (h : DA W base g d) (hb : base' ≤ base) : DA W base' g d := by
  obtain ⟨v, kv, h1, h2, h3⟩ := h
  exact ⟨v, kv, h1, h2.mono hb, h3.mono hb⟩

set_option maxRecDepth 100000 in
set_option maxHeartbeats 8000000 in
theorem parse_core (hrd : ReadSaid) (s : ByteArray) (hs : s.size ≤ 8192) (w : World) (hE : Env w) :
    Calls Tryz.prog 7 #[.string s] w (PD w s.data.toList) := by
  have hmf : ∀ (fn : Fn) (first cap : Array Value) (w : World), (Instr.makeFunc fn first cap).run Tryz.prog w = .ok (.func fn first cap) w := fun _ _ _ _ => rfl
  obtain ⟨S, hS⟩ : ∃ S, S = s.data.toList := ⟨_, rfl⟩
  have hSl : S.length = s.size := by rw [hS]; simp
  rw [← hS]
  obtain ⟨W2, hW2⟩ : ∃ W2, W2 = (w.alloc (.cells #[.pointer none] 24)).alloc (.cells #[.int .i64 0] 25) := ⟨_, rfl⟩
  obtain ⟨B, hB⟩ : ∃ B, B = w.heap.size := ⟨_, rfl⟩
  have hb2 : Below B w W2 := by rw [hW2, hB]; exact ((Below.refl _ w).alloc (Nat.le_refl _) _).alloc (by rw [World.size_alloc]; omega) _
  have hz2 : W2.heap.size = B + 2 := by rw [hW2, hB]; simp
  have r1 : W2.heap[B]? = some (.cells #[.pointer none] 24 (0, 0)) := by
    rw [hW2, hB, Lib.alloc_old _ _ _ (by rw [World.size_alloc]; omega)]
    exact heap_alloc_new w _
  have r2 : W2.heap[B + 1]? = some (.cells #[.int .i64 0] 25 (0, 0)) := by
    rw [hW2, hB]
    have := heap_alloc_new (w.alloc (.cells #[.pointer none] 24)) (.cells #[.int .i64 0] 25)
    rw [World.size_alloc] at this
    exact this
  have Hcut := Lib.hid (cut_any s 35 hs)
  have HS := Lib.hid hS
  have HSl := Lib.hid hSl
  have HE := Lib.hid hE
  have HW2 := Lib.hid hW2
  have HB := Lib.hid hB
  have Hb2 := Lib.hid hb2
  have Hz2 := Lib.hid hz2
  have R1 := Lib.hid r1
  have R2 := Lib.hid r2
  have Hrd := Lib.hid hrd

  clear hS hSl hE hW2 hB hb2 hz2 r1 r2 hrd
  by_cases h4 : 4000 < s.size
  · have Hp : Hid (parseD S = (2, none)) := Lib.hid (by rw [parseD, if_pos (by rw [HSl.out]; exact h4)])
    go_enter_defers Tryz.func7, Tryz.ntmps7
    go_wp2_with fail
    refine ⟨.tuple #[.pointer none, .int .i64 2], by simp [results, Tryz.results7, go_sem], .inl ⟨2, by decide, by decide, Hp.out, rfl⟩, ?_⟩
    exact ((Below.refl _ w).alloc (Nat.le_refl _) _).alloc (by rw [World.size_alloc]; omega) _
  · obtain ⟨C, hC⟩ : ∃ C, C = Lib.cut S [35] := ⟨_, rfl⟩
    have hcl := cut_len S [35]
    rw [← hC] at hcl
    obtain ⟨C1, C2, bm⟩ := C
    have hcut := Hcut.out
    rw [← HS.out, ← hC] at hcut
    simp only [] at hcut hcl
    have hSle : S.length ≤ 4000 := by have := HSl.out; omega
    have hPd : parseD S = if C1.all (fun x => decide (x ∈ inD)) = true then (if bm = true ∧ C2 ≠ checksum C1 then (5, none) else match readD C1 with | none => (3, none) | some d => (0, some d)) else (3, none) := by
      rw [parseD, if_neg (by omega), ← hC]; rfl
    have HPd := Lib.hid hPd
    obtain ⟨s1, hs1⟩ : ∃ s1 : ByteArray, s1 = ⟨C1.toArray⟩ := ⟨_, rfl⟩
    obtain ⟨s2, hs2⟩ : ∃ s2 : ByteArray, s2 = ⟨C2.toArray⟩ := ⟨_, rfl⟩
    have hz1 : s1.size ≤ 4000 := by rw [hs1]; show C1.toArray.size ≤ 4000; simp; omega
    have h1d : s1.data.toList = C1 := by rw [hs1]
    rw [← hs1, ← hs2] at hcut
    have hck := checksum_full s1
    rw [h1d] at hck
    have HCut := Lib.hid hcut
    have HCk := Lib.hid (fun ww => hck ww (by omega))
    have Hs2 := Lib.hid hs2
    have H1d := Lib.hid h1d
    have Hz1 := Lib.hid hz1
    clear hC hcl hcut hSle hPd hs1 hs2 hz1 h1d hck Hcut
    go_enter_defers Tryz.func7, Tryz.ntmps7
    go_wp2_with fail
    refine (show W2 = _ from HW2.out) ▸ ?_
    rw [← HB.out]
    refine (HCut.out W2 (HE.out.below (HB.out ▸ Hb2.out))).mono ?_
    rintro e w3 ⟨rfl, hb3⟩
    have hB3 : Below W2.heap.size W2 w3 := hb3
    have HB3 := Lib.hid hB3
    clear hb3 hB3 HCut
    go_wp2_with fail
    refine (HCk.out w3).mono ?_
    rintro e w4 ⟨h4c, hb4⟩
    have HB4 := Lib.hid (HB3.out.trans (hb4.mono HB3.out.size))
    have r1 := (HB4.out.block B (by rw [Hz2.out]; omega)).trans R1.out
    have r2 := (HB4.out.block (B + 1) (by rw [Hz2.out]; omega)).trans R2.out
    have c1 : w4.cell? ⟨B, 0, none⟩ = some (.pointer none) := by rw [cell_of_row _ _ _ _ _ _ r1]; rfl
    have c2 : w4.cell? ⟨B + 1, 0, none⟩ = some (.int .i64 0) := by rw [cell_of_row _ _ _ _ _ _ r2]; rfl
    have f1 : w4.frozen? ⟨B, 0, none⟩ = false := frozen_of_row _ _ _ _ _ r1
    have f2 : w4.frozen? ⟨B + 1, 0, none⟩ = false := frozen_of_row _ _ _ _ _ r2
    have HB4w : Hid (Below B w w4) := Lib.hid (Hb2.out.trans (HB4.out.mono (by rw [Hz2.out]; omega)))
    have R1' := Lib.hid r1
    have R2' := Lib.hid r2
    clear hb4 HB3 HCk r1 r2
    have hBl : B < w4.heap.size := (Array.getElem?_eq_some_iff.1 R1'.out).1
    have hBl1 : B + 1 < w4.heap.size := (Array.getElem?_eq_some_iff.1 R2'.out).1
    have hRs := Tryz.results7
    rcases h4c with ⟨hall, rfl⟩ | ⟨hbad, rfl⟩
    · rw [all_inD hall, if_pos rfl] at HPd
      obtain ⟨sm, hsm⟩ : ∃ sm : ByteArray, sm = ⟨(checksum C1).toArray⟩ := ⟨_, rfl⟩
      obtain ⟨bx, hbx⟩ : ∃ bx, bx = (s2.toList == sm.toList) := ⟨_, rfl⟩
      have hbx2 : bx = true ↔ C2 = checksum C1 := by
        rw [hbx, ByteArray.toList_eq, ByteArray.toList_eq, Hs2.out, hsm]
        simp
      rw [← hsm]
      have hx := hbx.symm
      clear hbx
      have go : Hid (¬ (bm = true ∧ bx = false)) ∨ Hid (bm = true ∧ bx = false) := by
        by_cases h : bm = true ∧ bx = false
        · exact .inr (Lib.hid h)
        · exact .inl (Lib.hid h)
      rcases go with hgo | hgo
      · have Hp : Hid (parseD S = match readD C1 with | none => (3, none) | some d => (0, some d)) := Lib.hid (by
          rw [HPd.out, if_neg (fun h => hgo.out ⟨h.1, by
            cases bx with
            | false => rfl
            | true => exact absurd (hbx2.1 rfl) h.2⟩)])
        clear HPd hbx2 hall hsm
        have hcase : (bm = true ∧ bx = true) ∨ bm = false := by
          have := hgo.out
          cases bm <;> cases bx <;> simp_all
        rcases hcase with ⟨hbm, hbx⟩ | hbm
        · subst hbm hbx
          clear hgo
          go_wp2_with fail
          obtain ⟨g, hg⟩ : ∃ g, g = w4.heap.size := ⟨_, rfl⟩
          obtain ⟨w6, hw6⟩ : ∃ w6, w6 = (w4.setCell ⟨B + 1, 0, none⟩ (.int .i64 0)).setCell ⟨B, 0, none⟩ (.pointer (some ⟨g, 0, none⟩)) := ⟨_, rfl⟩
          obtain ⟨w5, hw5⟩ : ∃ w5, w5 = w6.alloc (.cells #[.slice none 0 0, .int .i64 0, .bool false, .slice none 0 0] 48) := ⟨_, rfl⟩
          rw [← hg, ← hw6, ← hw5]
          have hg6 : w6.heap.size = g := by rw [hw6, hg]; simp
          have hb6 : Below B w w6 := by rw [hw6]; exact (HB4w.out.setCell (p := ⟨B + 1, 0, none⟩) (by simp) _).setCell (p := ⟨B, 0, none⟩) (Nat.le_refl _) _
          have hb65 : Below w6.heap.size w6 w5 := by rw [hw5]; exact (Below.refl _ _).alloc (Nat.le_refl _) _
          have hrow5 : w5.heap[g]? = some (.cells (DC nilS 0 false nilS) 48 (0, 0)) := by rw [hw5, ← hg6]; exact heap_alloc_new w6 _
          have q1 : w6.heap[B]? = some (.cells #[.pointer (some ⟨g, 0, none⟩)] 24 (0, 0)) := by
            rw [hw6]
            exact heap_setCell_same _ B 0 _ _ _ ((Below.heap_setCell _ _ _ _ (show B ≠ B + 1 by omega)).trans R1'.out)
          have q2 : w6.heap[B + 1]? = some (.cells #[.int .i64 0] 25 (0, 0)) := by
            rw [hw6]
            exact (Below.heap_setCell _ _ _ _ (show B + 1 ≠ B by omega)).trans (heap_setCell_same _ (B + 1) 0 _ _ _ R2'.out)
          have hrr := Hrd.out w6 w5 (HE.out.below (HB.out ▸ hb6)) hb65 g (by omega) hrow5 s1 (by have := Hz1.out; omega)
          rw [H1d.out] at hrr
          have HRR := Lib.hid hrr
          have Hg6 := Lib.hid hg6
          have Hb6 := Lib.hid hb6
          have Q1 := Lib.hid q1
          have Q2 := Lib.hid q2
          have hBg : B + 1 < g := by omega
          clear hg hw6 hw5 hg6 hb6 hb65 hrow5 q1 q2 hrr c1 c2 f1 f2 hBl hBl1
          refine HRR.out.mono ?_
          rintro e w7 ⟨h7, hb7⟩
          have hb7w : Below B w w7 := Hb6.out.trans (hb7.mono (by have := Hg6.out; omega))
          have q1 := (hb7.block B (by rw [Hg6.out]; omega)).trans Q1.out
          have q2 := (hb7.block (B + 1) (by rw [Hg6.out]; omega)).trans Q2.out
          have c1 : w7.cell? ⟨B, 0, none⟩ = some (.pointer (some ⟨g, 0, none⟩)) := by rw [cell_of_row _ _ _ _ _ _ q1]; rfl
          have c2 : w7.cell? ⟨B + 1, 0, none⟩ = some (.int .i64 0) := by rw [cell_of_row _ _ _ _ _ _ q2]; rfl
          have f1 : w7.frozen? ⟨B, 0, none⟩ = false := frozen_of_row _ _ _ _ _ q1
          have f2 : w7.frozen? ⟨B + 1, 0, none⟩ = false := frozen_of_row _ _ _ _ _ q2
          have HB7 := Lib.hid hb7w
          have Q17 := Lib.hid q1
          have Q27 := Lib.hid q2
          clear hb7 hb7w q1 q2 HRR
          rcases h7 with ⟨rfl, hno⟩ | ⟨d, hd, rfl, hDA⟩
          · have Hno : Hid (parseD S = (3, none)) := Lib.hid (by rw [Hp.out, hno])
            clear hno
            go_wp2_with fail
            refine leaves_cons (f := 17) (args := #[.pointer (some ⟨B, 0, none⟩), .pointer (some ⟨B + 1, 0, none⟩)]) (by simp) (by simp [go_sem]) ?_
            refine (catch_fault B (B + 1) (by omega) _ _ w7 c1 f1 c2 f2).mono ?_
            rintro e u' w8 ⟨rfl, rfl, rfl⟩
            refine ⟨.tuple #[.pointer none, .int .i64 3], ?_, .inl ⟨3, by decide, by decide, Hno.out, rfl⟩, ?_⟩
            · obtain ⟨wz, hwz⟩ : ∃ wz, wz = (w7.setCell ⟨B, 0, none⟩ (.pointer none)).setCell ⟨B + 1, 0, none⟩ (.int .i64 3) := ⟨_, rfl⟩
              have z1 : wz.heap[B]? = some (.cells #[.pointer none] 24 (0, 0)) := by
                rw [hwz]
                exact (Below.heap_setCell _ _ _ _ (show B ≠ B + 1 by omega)).trans (heap_setCell_same _ B 0 _ _ _ Q17.out)
              have z2 : wz.heap[B + 1]? = some (.cells #[.int .i64 3] 25 (0, 0)) := by
                rw [hwz]
                exact heap_setCell_same _ (B + 1) 0 _ _ _ ((Below.heap_setCell _ _ _ _ (show B + 1 ≠ B by omega)).trans Q27.out)
              have e1 : ∀ o, (wz.alloc o).cell? ⟨B, 0, none⟩ = some (.pointer none) := fun o => by rw [World.cell?_alloc_past o B 0 (Array.getElem?_eq_some_iff.1 z1).1, cell_of_row _ _ _ _ _ _ z1]; rfl
              have e2 : ∀ o, (wz.alloc o).cell? ⟨B + 1, 0, none⟩ = some (.int .i64 3) := fun o => by rw [World.cell?_alloc_past o (B + 1) 0 (Array.getElem?_eq_some_iff.1 z2).1, cell_of_row _ _ _ _ _ _ z2]; rfl
              rw [← hwz]
              clear hwz c1 c2
              simp [results, hRs, go_sem, e1, e2]
            · rw [← HB.out]
              have hh := (HB7.out.setCell (p := ⟨B, 0, none⟩) (Nat.le_refl _) (.pointer none)).setCell (p := ⟨B + 1, 0, none⟩) (by simp) (.int .i64 3)
              exact hh.alloc (by have := HB.out; have := hh.size; omega) _
          · have Hyes : Hid (parseD S = (0, some d)) := Lib.hid (by rw [Hp.out, hd])
            have HDA := Lib.hid hDA
            clear hd hDA
            go_wp2_with fail
            refine leaves_cons (f := 17) (args := #[.pointer (some ⟨B, 0, none⟩), .pointer (some ⟨B + 1, 0, none⟩)]) (by simp) (by simp [go_sem]) ?_
            refine (catch_idle B (B + 1) _).mono ?_
            rintro e u' w8 ⟨rfl, rfl, rfl⟩
            refine ⟨.tuple #[.pointer (some ⟨g, 0, none⟩), .int .i64 0], ?_, .inr ⟨d, g, Hyes.out, rfl, ?_⟩, ?_⟩
            · simp [results, hRs, go_sem, c1, c2]
            · have hda := HDA.out
              rw [Hg6.out] at hda
              rw [← HB.out]
              exact ((hda.setCell (p := B) (by omega) (Nat.le_refl _) _ _).setCell (p := B + 1) hBg (Nat.le_refl _) _ _).mono (by omega)
            · rw [← HB.out]
              exact (HB7.out.setCell (p := ⟨B, 0, none⟩) (Nat.le_refl _) _).setCell (p := ⟨B + 1, 0, none⟩) (by simp) _
        · subst hbm
          clear hgo
          go_wp2_with fail
          obtain ⟨g, hg⟩ : ∃ g, g = w4.heap.size := ⟨_, rfl⟩
          obtain ⟨w6, hw6⟩ : ∃ w6, w6 = (w4.setCell ⟨B + 1, 0, none⟩ (.int .i64 0)).setCell ⟨B, 0, none⟩ (.pointer (some ⟨g, 0, none⟩)) := ⟨_, rfl⟩
          obtain ⟨w5, hw5⟩ : ∃ w5, w5 = w6.alloc (.cells #[.slice none 0 0, .int .i64 0, .bool false, .slice none 0 0] 48) := ⟨_, rfl⟩
          rw [← hg, ← hw6, ← hw5]
          have hg6 : w6.heap.size = g := by rw [hw6, hg]; simp
          have hb6 : Below B w w6 := by rw [hw6]; exact (HB4w.out.setCell (p := ⟨B + 1, 0, none⟩) (by simp) _).setCell (p := ⟨B, 0, none⟩) (Nat.le_refl _) _
          have hb65 : Below w6.heap.size w6 w5 := by rw [hw5]; exact (Below.refl _ _).alloc (Nat.le_refl _) _
          have hrow5 : w5.heap[g]? = some (.cells (DC nilS 0 false nilS) 48 (0, 0)) := by rw [hw5, ← hg6]; exact heap_alloc_new w6 _
          have q1 : w6.heap[B]? = some (.cells #[.pointer (some ⟨g, 0, none⟩)] 24 (0, 0)) := by
            rw [hw6]
            exact heap_setCell_same _ B 0 _ _ _ ((Below.heap_setCell _ _ _ _ (show B ≠ B + 1 by omega)).trans R1'.out)
          have q2 : w6.heap[B + 1]? = some (.cells #[.int .i64 0] 25 (0, 0)) := by
            rw [hw6]
            exact (Below.heap_setCell _ _ _ _ (show B + 1 ≠ B by omega)).trans (heap_setCell_same _ (B + 1) 0 _ _ _ R2'.out)
          have hrr := Hrd.out w6 w5 (HE.out.below (HB.out ▸ hb6)) hb65 g (by omega) hrow5 s1 (by have := Hz1.out; omega)
          rw [H1d.out] at hrr
          have HRR := Lib.hid hrr
          have Hg6 := Lib.hid hg6
          have Hb6 := Lib.hid hb6
          have Q1 := Lib.hid q1
          have Q2 := Lib.hid q2
          have hBg : B + 1 < g := by omega
          clear hg hw6 hw5 hg6 hb6 hb65 hrow5 q1 q2 hrr c1 c2 f1 f2 hBl hBl1
          refine HRR.out.mono ?_
          rintro e w7 ⟨h7, hb7⟩
          have hb7w : Below B w w7 := Hb6.out.trans (hb7.mono (by have := Hg6.out; omega))
          have q1 := (hb7.block B (by rw [Hg6.out]; omega)).trans Q1.out
          have q2 := (hb7.block (B + 1) (by rw [Hg6.out]; omega)).trans Q2.out
          have c1 : w7.cell? ⟨B, 0, none⟩ = some (.pointer (some ⟨g, 0, none⟩)) := by rw [cell_of_row _ _ _ _ _ _ q1]; rfl
          have c2 : w7.cell? ⟨B + 1, 0, none⟩ = some (.int .i64 0) := by rw [cell_of_row _ _ _ _ _ _ q2]; rfl
          have f1 : w7.frozen? ⟨B, 0, none⟩ = false := frozen_of_row _ _ _ _ _ q1
          have f2 : w7.frozen? ⟨B + 1, 0, none⟩ = false := frozen_of_row _ _ _ _ _ q2
          have HB7 := Lib.hid hb7w
          have Q17 := Lib.hid q1
          have Q27 := Lib.hid q2
          clear hb7 hb7w q1 q2 HRR
          rcases h7 with ⟨rfl, hno⟩ | ⟨d, hd, rfl, hDA⟩
          · have Hno : Hid (parseD S = (3, none)) := Lib.hid (by rw [Hp.out, hno])
            clear hno
            go_wp2_with fail
            refine leaves_cons (f := 17) (args := #[.pointer (some ⟨B, 0, none⟩), .pointer (some ⟨B + 1, 0, none⟩)]) (by simp) (by simp [go_sem]) ?_
            refine (catch_fault B (B + 1) (by omega) _ _ w7 c1 f1 c2 f2).mono ?_
            rintro e u' w8 ⟨rfl, rfl, rfl⟩
            refine ⟨.tuple #[.pointer none, .int .i64 3], ?_, .inl ⟨3, by decide, by decide, Hno.out, rfl⟩, ?_⟩
            · obtain ⟨wz, hwz⟩ : ∃ wz, wz = (w7.setCell ⟨B, 0, none⟩ (.pointer none)).setCell ⟨B + 1, 0, none⟩ (.int .i64 3) := ⟨_, rfl⟩
              have z1 : wz.heap[B]? = some (.cells #[.pointer none] 24 (0, 0)) := by
                rw [hwz]
                exact (Below.heap_setCell _ _ _ _ (show B ≠ B + 1 by omega)).trans (heap_setCell_same _ B 0 _ _ _ Q17.out)
              have z2 : wz.heap[B + 1]? = some (.cells #[.int .i64 3] 25 (0, 0)) := by
                rw [hwz]
                exact heap_setCell_same _ (B + 1) 0 _ _ _ ((Below.heap_setCell _ _ _ _ (show B + 1 ≠ B by omega)).trans Q27.out)
              have e1 : ∀ o, (wz.alloc o).cell? ⟨B, 0, none⟩ = some (.pointer none) := fun o => by rw [World.cell?_alloc_past o B 0 (Array.getElem?_eq_some_iff.1 z1).1, cell_of_row _ _ _ _ _ _ z1]; rfl
              have e2 : ∀ o, (wz.alloc o).cell? ⟨B + 1, 0, none⟩ = some (.int .i64 3) := fun o => by rw [World.cell?_alloc_past o (B + 1) 0 (Array.getElem?_eq_some_iff.1 z2).1, cell_of_row _ _ _ _ _ _ z2]; rfl
              rw [← hwz]
              clear hwz c1 c2
              simp [results, hRs, go_sem, e1, e2]
            · rw [← HB.out]
              have hh := (HB7.out.setCell (p := ⟨B, 0, none⟩) (Nat.le_refl _) (.pointer none)).setCell (p := ⟨B + 1, 0, none⟩) (by simp) (.int .i64 3)
              exact hh.alloc (by have := HB.out; have := hh.size; omega) _
          · have Hyes : Hid (parseD S = (0, some d)) := Lib.hid (by rw [Hp.out, hd])
            have HDA := Lib.hid hDA
            clear hd hDA
            go_wp2_with fail
            refine leaves_cons (f := 17) (args := #[.pointer (some ⟨B, 0, none⟩), .pointer (some ⟨B + 1, 0, none⟩)]) (by simp) (by simp [go_sem]) ?_
            refine (catch_idle B (B + 1) _).mono ?_
            rintro e u' w8 ⟨rfl, rfl, rfl⟩
            refine ⟨.tuple #[.pointer (some ⟨g, 0, none⟩), .int .i64 0], ?_, .inr ⟨d, g, Hyes.out, rfl, ?_⟩, ?_⟩
            · simp [results, hRs, go_sem, c1, c2]
            · have hda := HDA.out
              rw [Hg6.out] at hda
              rw [← HB.out]
              exact ((hda.setCell (p := B) (by omega) (Nat.le_refl _) _ _).setCell (p := B + 1) hBg (Nat.le_refl _) _ _).mono (by omega)
            · rw [← HB.out]
              exact (HB7.out.setCell (p := ⟨B, 0, none⟩) (Nat.le_refl _) _).setCell (p := ⟨B + 1, 0, none⟩) (by simp) _
      · have Hp : Hid (parseD S = (5, none)) := Lib.hid (by rw [HPd.out, if_pos ⟨hgo.out.1, fun e => by rw [hbx2.2 e] at hgo; exact absurd hgo.out.2 (by decide)⟩])
        obtain ⟨hbm, hbx⟩ := hgo.out
        subst hbm hbx
        clear hgo HPd hbx2 hall hsm
        go_wp2_with fail
        refine ⟨.tuple #[.pointer none, .int .i64 5], by simp [results, hRs, go_sem, c1, c2], .inl ⟨5, by decide, by decide, Hp.out, rfl⟩, ?_⟩
        rw [← HB.out]
        exact ((HB4w.out.setCell (p := ⟨B + 1, 0, none⟩) (by simp) _).setCell (p := ⟨B, 0, none⟩) (Nat.le_refl _) _).setCell (p := ⟨B + 1, 0, none⟩) (by simp) _
    · have Hp : Hid (parseD S = (3, none)) := Lib.hid (by rw [HPd.out, not_all_inD hbad]; rfl)
      clear hbad
      go_wp2_with fail
      refine ⟨.tuple #[.pointer none, .int .i64 3], by simp [results, hRs, go_sem, c1, c2], .inl ⟨3, by decide, by decide, Hp.out, rfl⟩, ?_⟩
      rw [← HB.out]
      exact ((HB4w.out.setCell (p := ⟨B + 1, 0, none⟩) (by simp) _).setCell (p := ⟨B, 0, none⟩) (Nat.le_refl _) _).setCell (p := ⟨B + 1, 0, none⟩) (by simp) _
end Go.Proofs.YtcjioogololnoaaGreatDoor

/-! strings.Builder.WriteString; strconv.FormatUint at base 10. -/
namespace Go.Proofs.YtcjioogololnoaaGreatDoor
open Go.RowKit Go.Shelf Go.Sort

set_option maxHeartbeats 2000000 in
set_option maxRecDepth 100000 in
theorem writeString_any (B b : Nat) (bs : List Value) (s : ByteArray) (w : World) (h : Lib.IsBuilder 102 5 B b bs w) (hlen : bs.length + s.size ≤ 140737488355328) (hBw : B ≤ w.heap.size) :
    Calls Tryz.prog 52 #[.pointer (some ⟨b, 0, none⟩), .string s] w fun e w' => e = .returned (.tuple #[.int .i64 s.size, .nilIface]) ∧ (Lib.BuilderAt 102 5 B b (.pointer (some ⟨b, 0, none⟩)) (bs ++ Lib.strCells s) w' ∧ Below B w w') := by
  obtain ⟨i0, hi, hz0, hz1, hz2⟩ := info_parts (show (Tryz.prog.info? 5).map (fun i => (i.zero, i.size, i.bytes)) = some (some (.int .u8 0), 1, 1) by kernel_rfl)
  go_enter Tryz.func52, Tryz.ntmps52
  go_wp2_with (go_at_call 83; refine (copyCheck_any B b bs _ h).mono ?_)
  rintro e w1 ⟨rfl, h1, hb1⟩
  obtain ⟨hB, v, hbk, hown, hne⟩ := h1
  have c0 : w1.cell? ⟨b, 0, none⟩ = some (.pointer (some ⟨b, 0, none⟩)) := by rw [Lib.cell_of_heap hbk]; rfl
  have c1 : w1.cell? ⟨b, 1, none⟩ = some v := by rw [Lib.cell_of_heap hbk]; rfl
  go_wp2_with (at_builtin; refine Lib.wpList_append_own_string _ rfl _ _ 37 9 rfl B 5 i0 Tryz.underlying37 Tryz.underlying9 hi hz0 hz1 hz2 _ _ _ rfl hown s rfl ?c3 ?c4 ?c5 ?_)
  case c3 => unfold maxLen; omega
  case c4 => omega
  case c5 => have := hb1.size; omega
  intro v' w2 hown' hgrow _
  have hlt : b < w1.heap.size := by
    rcases Nat.lt_or_ge b w1.heap.size with h' | h'
    · exact h'
    · simp [Array.getElem?_eq_none h'] at hbk
  have hb2 : w2.heap[b]? = some (.cells #[.pointer (some ⟨b, 0, none⟩), v] 102 (0, 0)) := by
    rw [hgrow.block b hlt (fun e => hne e.symm)]
    exact hbk
  have d0 : w2.cell? ⟨b, 0, none⟩ = some (.pointer (some ⟨b, 0, none⟩)) := by rw [Lib.cell_of_heap hb2]; rfl
  have d1 : w2.cell? ⟨b, 1, none⟩ = some v := by rw [Lib.cell_of_heap hb2]; rfl
  have f1 : w2.frozen? ⟨b, 1, none⟩ = false := Lib.frozen_of_heap hb2 1
  obtain ⟨ao, n', cap, rfl⟩ : ∃ ao n' cap, v' = .slice ao n' cap := by
    rcases hown'.2 with ⟨hv, _⟩ | ⟨g, cap, cur, hv, _⟩
    · exact ⟨_, _, _, hv⟩
    · exact ⟨_, _, _, hv⟩
  go_wp2
  go_ret2
  refine ⟨rfl, ?_, ?_⟩
  · exact Lib.BuilderAt.put (T := 102) (e := 5) hB hb2 (bs' := bs ++ Lib.strCells s) (by simpa [Lib.strCells_length] using hown') (by decide)
  · exact (hb1.grown hgrow (by have := hb1.size; omega) (fun k hk => (hown.lt k hk).1)).setCell (p := ⟨b, 1, none⟩) hB _

theorem builder_below {T e : TypeId} {B b : Nat} {p : Value} {bs : List Value} {w w' : World} (h : Lib.BuilderAt T e B b p bs w) (hb : Below w.heap.size w w') : Lib.BuilderAt T e B b p bs w' := by
  have hlt := h.lt
  obtain ⟨hB, v, hbk, hown, hne⟩ := h
  exact ⟨hB, v, (hb.block b hlt).trans hbk, hown.kept (row := none) ⟨hb.os, hb.tape, hb.output, hb.size, fun k hk _ => hb.block k hk⟩ (by cases v.ownBlock <;> simp), hne⟩
theorem isBuilder_below {T e : TypeId} {B b : Nat} {bs : List Value} {w w' : World} (h : Lib.IsBuilder T e B b bs w) (hb : Below w.heap.size w w') : Lib.IsBuilder T e B b bs w' := h.imp (builder_below · hb) (builder_below · hb)
theorem holds_zero0 (w : World) (T : TypeId) (nd : Nat) (hs : nd ≤ 24) : Holds (fun (b : UInt8) => Value.int .u8 (b.toNat : Int)) (w.alloc (.cells Lib.zeros24 T)) w.heap.size 0 (Array.replicate nd (0 : UInt8)) := fun j hj => by
  have hj' : j < nd := by simpa using hj
  refine ⟨?_, World.frozen?_alloc_new _ _ _ _⟩
  rw [World.cell?_alloc_new, Lib.zeros24_at _ (by omega), getElem!_pos _ j hj]
  simp
theorem fin_row0 (w : World) (o : Obj) (dk : Array UInt8) (k : Nat) : ∃ os, (putRow (fun (b : UInt8) => Value.int .u8 (b.toNat : Int)) (w.alloc o) w.heap.size 0 dk).drewN k = grow (w.drewN k) os := by
  rw [alloc_eq_grow]
  obtain ⟨os', _, e⟩ := putRow_grow_new (fun (b : UInt8) => Value.int .u8 (b.toNat : Int)) w #[o] w.heap.size 0 dk (Nat.le_refl _)
  exact ⟨os', by rw [e]; rfl⟩

set_option maxHeartbeats 6400000 in
set_option maxRecDepth 100000 in
theorem iformatUint_any (u : Nat) (hu : u < 4294967296) (w : World) (hE : Env w) :
    Calls Tryz.prog 125 #[.int .u64 u, .int .i64 10] w fun e w' => e = .returned (.string ⟨(Lib.decDigits u).toArray⟩) ∧ Below w.heap.size w w' := by
  have htab := hE.pow
  by_cases hs : u < 100
  · have Hs := Lib.hid (Tryz.internal_strconv_small u hs)
    go_enter Tryz.func125, Tryz.ntmps125
    go_wp2_with (go_at_call 128; refine (Hs.out _).mono ?_; rintro e w' ⟨rfl, hww⟩; rw [hww]; clear hww)
    go_ret
    exact ⟨rfl, Below.refl _ _⟩
  · have hu1 : 1 ≤ u := by omega
    have hu64 : u < 18446744073709551616 := by omega
    have hnd20 : Lib.nDigits u ≤ 20 := by have := Lib.numDigits_eq u hu1 hu64; split at this <;> omega
    have hal : Tryz.prog.arrayLen 173 = 24 := by simp [Program.arrayLen, Tryz.underlying173]
    obtain ⟨nd, hnd⟩ : ∃ nd, nd = Lib.nDigits u := ⟨_, rfl⟩
    have hsl1 : ∀ W, (Instr.sliceAt 173 (.pointer (some ⟨w.heap.size, 0, none⟩)) none (some (.int .i64 (nd : Int))) none).run Tryz.prog W = .ok (.slice (some ⟨w.heap.size, 0, none⟩) nd 24) W := fun W => by
      rw [run_sliceAt_array_h W 173 ⟨w.heap.size, 0, none⟩ (by simp [Program.arrayLen, Program.elem, Tryz.underlying173]) .i64 (nd : Int) (by omega) (by rw [hal]; omega)]
      go_simp
    have hH0 := holds_zero0 w 173 (Lib.nDigits u) (by omega)
    have hfmt := Tryz.internal_strconv_formatBase10 w.heap.size 0 24 u (Array.replicate (Lib.nDigits u) 0) (w.alloc (.cells Lib.zeros24 173)) hH0 (by rw [Array.size_replicate]; exact Lib.lt_pow_nDigits u) hu64 (by rw [Array.size_replicate]; omega)
    rw [Array.size_replicate, ← hnd] at hfmt
    have hnds := fun W hW => Tryz.internal_strconv_numDigits u hu1 hu64 W hW
    rw [← hnd] at hnds
    have HH0 := Lib.hid hH0
    have Hfmt := Lib.hid hfmt
    have Hnds := Lib.hid hnds
    have Hnd := Lib.hid hnd
    have Htab := Lib.hid htab
    have hnd20' : nd ≤ 20 := by omega
    clear hH0 hal hfmt hnds hnd hnd20
    go_enter Tryz.func125, Tryz.ntmps125
    go_wp2_with (first
      | (go_at_call 129; refine (Hnds.out _ (Lib.tabIs_alloc Htab.out _)).mono ?_; rintro e w' ⟨rfl, hww⟩; rw [hww]; clear hww))
    refine Hfmt.out.mono ?_
    rintro e w' ⟨rfl, k, v', dk, rfl, hF⟩
    have hcv : (convert 37 9 (.slice (some ⟨w.heap.size, 0, none⟩) nd 24)).run Tryz.prog ((putRow (fun (b : UInt8) => Value.int .u8 (b.toNat : Int)) (w.alloc (.cells Lib.zeros24 173)) w.heap.size 0 dk).drewN k) = .ok (.string ⟨(Lib.decDigits u).toArray⟩) ((putRow (fun (b : UInt8) => Value.int .u8 (b.toNat : Int)) (w.alloc (.cells Lib.zeros24 173)) w.heap.size 0 dk).drewN k) := by
      rw [Hnd.out] at hF ⊢
      have h := run_convert_bytes_back (P := Tryz.prog) ((putRow (fun (b : UInt8) => Value.int .u8 (b.toNat : Int)) (w.alloc (.cells Lib.zeros24 173)) w.heap.size 0 dk).drewN k) 37 9 5 ⟨w.heap.size, 0, none⟩ 24 (Lib.decDigits u) Tryz.underlying37 Tryz.underlying5 Tryz.underlying9 (fun j hj => by
        rw [Lib.row_is_numeral hF j hj, Lib.add_plain, World.cell?_drewN]
        exact cell?_putRow (fun (b : UInt8) => Value.int .u8 (b.toNat : Int)) _ w.heap.size 0 _ dk HH0.out (by rw [hF.size, Array.size_replicate]) j (by rw [hF.size]; rw [Lib.decDigits_length] at hj; exact hj))
      rw [Lib.decDigits_length] at h
      exact h
    have hfin : Below w.heap.size w ((putRow (fun (b : UInt8) => Value.int .u8 (b.toNat : Int)) (w.alloc (.cells Lib.zeros24 173)) w.heap.size 0 dk).drewN k) := by
      obtain ⟨os, eo⟩ := fin_row0 w (.cells Lib.zeros24 173) dk k
      rw [eo]
      exact below_grow1 _ _ _
    have HF := Lib.hid hF
    clear hF
    go_wp2_with fail
    go_ret
    exact ⟨rfl, hfin⟩
set_option maxHeartbeats 400000 in
theorem formatUint_any (u : Nat) (hu : u < 4294967296) (w : World) (hE : Env w) :
    Calls Tryz.prog 82 #[.int .u64 u, .int .i64 10] w fun e w' => e = .returned (.string ⟨(Lib.decDigits u).toArray⟩) ∧ Below w.heap.size w w' := by
  have H := Lib.hid (iformatUint_any u hu w hE)
  go_enter Tryz.func82, Tryz.ntmps82
  go_wp2_with fail
  refine H.out.mono ?_
  rintro e w1 ⟨rfl, hb⟩
  go_wp2_with fail
  go_ret
  exact ⟨rfl, hb⟩
end Go.Proofs.YtcjioogololnoaaGreatDoor
