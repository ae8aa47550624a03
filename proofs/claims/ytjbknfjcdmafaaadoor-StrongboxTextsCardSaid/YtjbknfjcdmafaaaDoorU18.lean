/- The law StrongboxTexts. | Of every input: the law StrongboxTexts returns true, and each argument reads as it did; the package-level variables that its row lists start as the program's text lays them. -/
import Derived.Test.YtjbknfjcdmafaaaDoorU13
import Derived.Test.YtjbknfjcdmafaaaDoorU14
import Derived.Test.YtjbknfjcdmafaaaDoorU17
import Derived.Test.YtjbknfjcdmafaaaDoorTie
import Derived.Test.YtjbknfjcdmafaaaDoorCards
import Derived.ProofKit
import Derived.OpenShut
import Derived.LaidMore
import Derived.Lay
import Derived.SevenTiedAt
import Derived.Stop.Joined

/-! The law StrongboxTexts. -/
namespace Go.Proofs.YtjbknfjcdmafaaaDoor
open Go.RowKit Go.Shelf

theorem b32_ok {S D : List UInt8} {K : BitVec 64} (h : (b32 S D K).1 = 0) : (b32 S D K).2 = S ++ [49] ++ (D ++ lets6 (bech (spreadL S ++ D ++ List.replicate 6 0) ^^^ K) 6).map let32 ∧ goodH S = true ∧ S.length + D.length + 7 ≤ 90 := by
  unfold b32 at h ⊢
  by_cases h1 : 83 < S.length ∨ 90 < S.length + D.length + 7
  · rw [if_pos h1] at h; simp at h
  · rw [if_neg h1] at h ⊢
    by_cases h2 : goodH S = true
    · rw [if_pos h2]
      exact ⟨rfl, h2, by omega⟩
    · rw [if_neg h2] at h; simp at h
theorem string_mk (s : ByteArray) : (⟨s.data.toList.toArray⟩ : ByteArray) = s := by
  apply ByteArray.ext
  simp

set_option maxRecDepth 100000 in
set_option maxHeartbeats 8000000 in
theorem law8_any (A : Option Addr) (c : Nat) (b : List UInt8) (s : ByteArray) (w : World) (hs : Sl w w.heap.size A (B8 b)) (hbc : b.length ≤ c) (hc : c ≤ maxLen) (hsz : s.size ≤ maxLen) :
    Calls Tryd.prog 3 #[.slice A b.length c, .string s] w fun e W' => e = .returned (.bool true) ∧ Below w.heap.size w W' := by
  by_cases h50 : 50 < b.length
  · have hs1 := hs.take 50
    rw [← b8_take] at hs1
    obtain ⟨b1, hb1⟩ : ∃ b1, b1 = b.take 50 := ⟨_, rfl⟩
    rw [← hb1] at hs1
    have hm : 50 = b1.length := by rw [hb1]; simp; omega
    have Hm := Lib.hid hm
    have hbc : 50 ≤ c := by omega
    obtain ⟨bA, oA, rfl, _⟩ := hs (by rw [B8_length]; omega)
    clear hb1 hm hs
    go_enter Tryd.func3, Tryd.ntmps3
    go_wp2_with fail
    obtain ⟨A, hA⟩ : ∃ A : Option Addr, A = some ⟨bA, oA, none⟩ := ⟨_, rfl⟩
    rw [← hA] at hs1 ⊢
    clear hA
    have hx := hex_any A c b1 w hs1 (by rw [← Hm.out]; omega)
    rw [← Hm.out] at hx
    refine hx.mono ?_
    clear hx
    rintro e w1 ⟨rfl, hb1⟩
    obtain ⟨X, hX⟩ : ∃ X : ByteArray, X = ⟨(hexL b1).toArray⟩ := ⟨_, rfl⟩
    rw [← hX]
    have HX := Lib.hid hX
    have hs2 := (hs1.below hb1).mono hb1.size
    clear hX
    go_wp2_with fail
    refine (fromhex_any X b1 w1 (by rw [HX.out]) (by rw [← Hm.out]; omega)).mono ?_
    rintro e w2 ⟨v2, rfl, ho2, hb2⟩
    obtain ⟨A2, c2, rfl, hc2, hc2'⟩ := own_form ho2
    rw [← Hm.out] at ho2 hc2 ⊢
    have hl2 := ho2.sl
    have hs3 := (hs2.below hb2).mono hb2.size
    have hb02 : Below w.heap.size w w2 := hb1.trans (hb2.mono hb1.size)
    clear hs2 ho2 hb1 hb2
    go_wp2_with fail
    have hck := check58_any A c b1 w2 hs3 (by rw [← Hm.out]; omega) (by rw [← Hm.out]; exact hbc) hc
    rw [← Hm.out] at hck
    refine hck.mono ?_
    rintro e w3 ⟨rfl, hb3⟩
    clear hck
    obtain ⟨Y, hY⟩ : ∃ Y : ByteArray, Y = ⟨(b58L (checked b1)).toArray⟩ := ⟨_, rfl⟩
    rw [← hY]
    have hYs : Y.size ≤ 4096 := by rw [hY, size_mk]; have := len_of_fromC (fromC_to b1 (by rw [← Hm.out]; omega)); omega
    have HY := Lib.hid hY
    have hl3 := (hl2.below hb3).mono hb3.size
    have hs4 := (hs3.below hb3).mono hb3.size
    have hb03 : Below w.heap.size w w3 := hb02.trans (hb3.mono hb02.size)
    clear hY hl2 hs3 hb02 hb3
    go_wp2_with fail
    have hf := fromc58_any Y w3 hYs
    rw [show Y.data.toList = b58L (checked b1) from by rw [HY.out], fromC_to b1 (by rw [← Hm.out]; omega), ← Hm.out] at hf
    refine hf.mono ?_
    rintro e w4 ⟨A4, c4, rfl, hl4, hb4⟩
    clear hf
    have hl3' := (hl3.below hb4).mono hb4.size
    have hs5 := (hs4.below hb4).mono hb4.size
    have hb04 : Below w.heap.size w w4 := hb03.trans (hb4.mono hb03.size)
    clear hl3 hs4 hb03 hb4
    go_wp2_with fail
    have hr := regroup85_any A c b1 w4 hs5 (by rw [← Hm.out]; omega)
    rw [← Hm.out] at hr
    refine hr.mono ?_
    rintro e w5 ⟨v5, five, rfl, hfive, ho5, hb5⟩
    clear hr
    obtain ⟨A5, c5, rfl, hc5, hc5'⟩ := own_form ho5
    have hfl : five.length ≤ 100 := by obtain ⟨_, p, hp, h1, _⟩ := hfive; rw [← Hm.out] at h1; omega
    obtain ⟨n, hn⟩ : ∃ n, n = five.length := ⟨_, rfl⟩
    rw [← hn] at ho5 hc5 hfl ⊢
    have Hn := Lib.hid hn
    have H5 := Lib.hid hfive
    have hl5 := ho5.sl
    have hl3 := (hl3'.below hb5).mono hb5.size
    have hl4' := (hl4.below hb5).mono hb5.size
    have hs6 := (hs5.below hb5).mono hb5.size
    have hb05 : Below w.heap.size w w5 := hb04.trans (hb5.mono hb04.size)
    clear hl3' hl4 hs5 hb04 hb5 hn hfive ho5
    go_wp2_with fail
    have hr := regroup58_any A5 c5 b1 five w5 hl5 H5.out (by rw [← Hn.out]; omega)
    rw [← Hn.out] at hr
    refine hr.mono ?_
    rintro e w6 ⟨v6, rfl, ho6, hb6⟩
    clear hr
    obtain ⟨A6, c6, rfl, hc6, hc6'⟩ := own_form ho6
    rw [← Hm.out] at ho6 hc6 ⊢
    have hl6 := ho6.sl
    have hl3' := (hl3.below hb6).mono hb6.size
    have hl4 := (hl4'.below hb6).mono hb6.size
    have hl5' := (hl5.below hb6).mono hb6.size
    have hs7 := (hs6.below hb6).mono hb6.size
    have hb06 : Below w.heap.size w w6 := hb05.trans (hb6.mono hb05.size)
    clear hl3 hl4' hl5 hs6 hb05 hb6 ho6
    go_wp2_with fail
    have he := equal_any A2 A c2 c b1 b1 w6 hl3' hs7
    rw [← Hm.out] at he
    refine he.mono ?_
    rintro e w7 ⟨rfl, rfl⟩
    clear he
    rw [show (b1 == b1) = true from by simp]
    go_wp2_with fail
    have he := equal_any A4 A c4 c b1 b1 w6 hl4 hs7
    rw [← Hm.out] at he
    refine he.mono ?_
    rintro e w7 ⟨rfl, rfl⟩
    clear he
    rw [show (b1 == b1) = true from by simp]
    go_wp2_with fail
    have he := equal_any A6 A c6 c b1 b1 w6 hl6 hs7
    rw [← Hm.out] at he
    refine he.mono ?_
    rintro e w7 ⟨rfl, rfl⟩
    clear he
    rw [show (b1 == b1) = true from by simp]
    go_wp2_with fail
    have hx := hex_any A c b1 w6 hs7 (by rw [← Hm.out]; omega)
    rw [← Hm.out, ← HX.out] at hx
    refine hx.mono ?_
    clear hx
    rintro e w7 ⟨rfl, hb7⟩
    have hs8 := (hs7.below hb7).mono hb7.size
    have hl5 := (hl5'.below hb7).mono hb7.size
    have hb07 : Below w.heap.size w w7 := hb06.trans (hb7.mono hb06.size)
    clear hl3' hl4 hl5' hl6 hs7 hb06 hb7
    go_wp2_with fail
    have hx := rhex_any A c b1 w7 hs8 (by rw [← Hm.out]; omega)
    rw [← Hm.out, ← HX.out] at hx
    refine hx.mono ?_
    clear hx
    rintro e w8 ⟨rfl, hb8⟩
    have hl5' := (hl5.below hb8).mono hb8.size
    have hb08 : Below w.heap.size w w8 := hb07.trans (hb8.mono hb07.size)
    clear hl5 hs8 hb07 hb8
    go_wp2_with fail
    obtain ⟨wS, hwS⟩ : ∃ wS, wS = w8.alloc (Obj.cells #[Value.bool false, Value.bool true] 4) := ⟨_, rfl⟩
    rw [← hwS]
    have hbS : Below w8.heap.size w8 wS := by rw [hwS]; exact (Below.refl _ _).alloc (Nat.le_refl _) _
    have hr0 : wS.cell? ⟨w8.heap.size, 0, none⟩ = some (.bool false) := by rw [hwS, cell_of_row _ _ _ _ _ (0, 0) (heap_alloc_new w8 _)]; rfl
    have hr1 : wS.cell? ⟨w8.heap.size, 1, none⟩ = some (.bool true) := by rw [hwS, cell_of_row _ _ _ _ _ (0, 0) (heap_alloc_new w8 _)]; rfl
    obtain ⟨g8, hg8⟩ : ∃ g8, g8 = w8.heap.size := ⟨_, rfl⟩
    have hg8S : g8 < wS.heap.size := by rw [hg8, hwS, World.size_alloc]; omega
    rw [← hg8] at hr0 hr1 ⊢
    have hl5 := (hl5'.below hbS).mono hbS.size
    have hb0S : Below w.heap.size w wS := hb08.trans (hbS.mono hb08.size)
    have Hr0 := Lib.hid hr0
    have Hr1 := Lib.hid hr1
    clear hr0 hr1 hg8 hwS hbS hl5' hb08
    go_loopw [91] (fun i wr => ∃ q : Nat, q ≤ 2 ∧ i = .int .i64 q ∧ Below wS.heap.size wS wr) (fun i _ => 2 - (intOf i).toNat)
    case atStart => exact ⟨0, by omega, rfl, Below.refl _ _⟩
    case round =>
      obtain ⟨q, hq, rfl, hb⟩ := hrel
      by_cases hlt : q < 2
      · have hq2 : q = 0 ∨ q = 1 := by omega
        rcases hq2 with rfl | rfl
        · have hcell : wr.cell? ⟨g8, 0, none⟩ = some (.bool false) := by rw [hb.cell (p := ⟨g8, 0, none⟩) hg8S]; exact Hr0.out
          have hla := (hl5.below hb).mono hb.size
          go_wp2_with fail
          have hB := bech32_any s A5 c5 five false wr hla H5.out.1 (by rw [← Hn.out]; omega) hsz
          rw [← Hn.out] at hB
          refine hB.mono ?_
          clear hB
          rintro e w9 ⟨rfl, hb9⟩
          obtain ⟨F2, hF2⟩ : ∃ F2 : ByteArray, F2 = ⟨(b32 s.data.toList five (conK false)).2.toArray⟩ := ⟨_, rfl⟩
          obtain ⟨F1, hF1⟩ : ∃ F1, F1 = (b32 s.data.toList five (conK false)).1 := ⟨_, rfl⟩
          rw [← hF2, ← hF1]
          have HF2 := Lib.hid hF2
          have HF1 := Lib.hid hF1
          have hlb := (hla.below hb9).mono hb9.size
          have hbb := hb.trans (hb9.mono hb.size)
          clear hF2 hF1 hla hb9 hb
          go_wp2_with fail
          have hB := rbech32_any s A5 c5 five false w9 hlb H5.out.1 (by rw [← Hn.out]; omega) hsz
          rw [← Hn.out, ← HF2.out, ← HF1.out] at hB
          refine hB.mono ?_
          clear hB
          rintro e w10 ⟨rfl, hb10⟩
          have hlc := (hlb.below hb10).mono hb10.size
          have hbc' := hbb.trans (hb10.mono hbb.size)
          clear hlb hb10 hbb
          by_cases h0 : F1 = 0
          · subst h0
            obtain ⟨hok1, hok2, hok3⟩ := b32_ok HF1.out.symm
            have hF := frombech_any F2 s.data.toList five false w10 (by rw [HF2.out, hok1]) hok2 H5.out.1 hok3
            rw [string_mk, ← Hn.out] at hF
            have HF := Lib.hid hF
            clear hok1 hok2 hok3 hF
            go_wp2_with fail
            refine HF.out.mono ?_
            rintro e w11 ⟨A11, rfl, hl11, hb11⟩
            have hld := (hlc.below hb11).mono hb11.size
            have hbd := hbc'.trans (hb11.mono hbc'.size)
            clear hlc hb11 hbc'
            go_wp2_with fail
            have he := equal_any A11 A5 n c5 five five w11 hl11 hld
            rw [← Hn.out] at he
            refine he.mono ?_
            rintro e w12 ⟨rfl, rfl⟩
            clear he
            rw [show (five == five) = true from by simp]
            go_wp2_with fail
            exact ⟨⟨0 + 1, by omega, rfl, hbd⟩, by simp [intOf]⟩
          · have h0i : ¬ ((F1 : Int) = 0) := by omega
            go_wp2_with fail
            exact ⟨⟨0 + 1, by omega, rfl, hbc'⟩, by simp [intOf]⟩
        · have hcell : wr.cell? ⟨g8, 1, none⟩ = some (.bool true) := by rw [hb.cell (p := ⟨g8, 1, none⟩) hg8S]; exact Hr1.out
          have hla := (hl5.below hb).mono hb.size
          go_wp2_with fail
          have hB := bech32_any s A5 c5 five true wr hla H5.out.1 (by rw [← Hn.out]; omega) hsz
          rw [← Hn.out] at hB
          refine hB.mono ?_
          clear hB
          rintro e w9 ⟨rfl, hb9⟩
          obtain ⟨F2, hF2⟩ : ∃ F2 : ByteArray, F2 = ⟨(b32 s.data.toList five (conK true)).2.toArray⟩ := ⟨_, rfl⟩
          obtain ⟨F1, hF1⟩ : ∃ F1, F1 = (b32 s.data.toList five (conK true)).1 := ⟨_, rfl⟩
          rw [← hF2, ← hF1]
          have HF2 := Lib.hid hF2
          have HF1 := Lib.hid hF1
          have hlb := (hla.below hb9).mono hb9.size
          have hbb := hb.trans (hb9.mono hb.size)
          clear hF2 hF1 hla hb9 hb
          go_wp2_with fail
          have hB := rbech32_any s A5 c5 five true w9 hlb H5.out.1 (by rw [← Hn.out]; omega) hsz
          rw [← Hn.out, ← HF2.out, ← HF1.out] at hB
          refine hB.mono ?_
          clear hB
          rintro e w10 ⟨rfl, hb10⟩
          have hlc := (hlb.below hb10).mono hb10.size
          have hbc' := hbb.trans (hb10.mono hbb.size)
          clear hlb hb10 hbb
          by_cases h0 : F1 = 0
          · subst h0
            obtain ⟨hok1, hok2, hok3⟩ := b32_ok HF1.out.symm
            have hF := frombech_any F2 s.data.toList five true w10 (by rw [HF2.out, hok1]) hok2 H5.out.1 hok3
            rw [string_mk, ← Hn.out] at hF
            have HF := Lib.hid hF
            clear hok1 hok2 hok3 hF
            go_wp2_with fail
            refine HF.out.mono ?_
            rintro e w11 ⟨A11, rfl, hl11, hb11⟩
            have hld := (hlc.below hb11).mono hb11.size
            have hbd := hbc'.trans (hb11.mono hbc'.size)
            clear hlc hb11 hbc'
            go_wp2_with fail
            have he := equal_any A11 A5 n c5 five five w11 hl11 hld
            rw [← Hn.out] at he
            refine he.mono ?_
            rintro e w12 ⟨rfl, rfl⟩
            clear he
            rw [show (five == five) = true from by simp]
            go_wp2_with fail
            exact ⟨⟨1 + 1, by omega, rfl, hbd⟩, by simp [intOf]⟩
          · have h0i : ¬ ((F1 : Int) = 0) := by omega
            go_wp2_with fail
            exact ⟨⟨1 + 1, by omega, rfl, hbc'⟩, by simp [intOf]⟩
      · have hq2 : q = 2 := by omega
        subst hq2
        go_wp2_with fail
        go_ret
        exact ⟨rfl, hb0S.trans (hb.mono hb0S.size)⟩
  · obtain ⟨b1, rfl⟩ : ∃ b1, b1 = b := ⟨_, rfl⟩
    have hs1 := hs
    have hm50 : b1.length ≤ 50 := by omega
    clear hs
    go_enter Tryd.func3, Tryd.ntmps3
    go_wp2_with fail
    obtain ⟨m, hm⟩ : ∃ m, m = b1.length := ⟨_, rfl⟩
    rw [← hm] at hbc hm50 ⊢
    have Hm := Lib.hid hm
    clear hm h50
    have hx := hex_any A c b1 w hs1 (by rw [← Hm.out]; omega)
    rw [← Hm.out] at hx
    refine hx.mono ?_
    clear hx
    rintro e w1 ⟨rfl, hb1⟩
    obtain ⟨X, hX⟩ : ∃ X : ByteArray, X = ⟨(hexL b1).toArray⟩ := ⟨_, rfl⟩
    rw [← hX]
    have HX := Lib.hid hX
    have hs2 := (hs1.below hb1).mono hb1.size
    clear hX
    go_wp2_with fail
    refine (fromhex_any X b1 w1 (by rw [HX.out]) (by rw [← Hm.out]; omega)).mono ?_
    rintro e w2 ⟨v2, rfl, ho2, hb2⟩
    obtain ⟨A2, c2, rfl, hc2, hc2'⟩ := own_form ho2
    rw [← Hm.out] at ho2 hc2 ⊢
    have hl2 := ho2.sl
    have hs3 := (hs2.below hb2).mono hb2.size
    have hb02 : Below w.heap.size w w2 := hb1.trans (hb2.mono hb1.size)
    clear hs2 ho2 hb1 hb2
    go_wp2_with fail
    have hck := check58_any A c b1 w2 hs3 (by rw [← Hm.out]; omega) (by rw [← Hm.out]; exact hbc) hc
    rw [← Hm.out] at hck
    refine hck.mono ?_
    rintro e w3 ⟨rfl, hb3⟩
    clear hck
    obtain ⟨Y, hY⟩ : ∃ Y : ByteArray, Y = ⟨(b58L (checked b1)).toArray⟩ := ⟨_, rfl⟩
    rw [← hY]
    have hYs : Y.size ≤ 4096 := by rw [hY, size_mk]; have := len_of_fromC (fromC_to b1 (by rw [← Hm.out]; omega)); omega
    have HY := Lib.hid hY
    have hl3 := (hl2.below hb3).mono hb3.size
    have hs4 := (hs3.below hb3).mono hb3.size
    have hb03 : Below w.heap.size w w3 := hb02.trans (hb3.mono hb02.size)
    clear hY hl2 hs3 hb02 hb3
    go_wp2_with fail
    have hf := fromc58_any Y w3 hYs
    rw [show Y.data.toList = b58L (checked b1) from by rw [HY.out], fromC_to b1 (by rw [← Hm.out]; omega), ← Hm.out] at hf
    refine hf.mono ?_
    rintro e w4 ⟨A4, c4, rfl, hl4, hb4⟩
    clear hf
    have hl3' := (hl3.below hb4).mono hb4.size
    have hs5 := (hs4.below hb4).mono hb4.size
    have hb04 : Below w.heap.size w w4 := hb03.trans (hb4.mono hb03.size)
    clear hl3 hs4 hb03 hb4
    go_wp2_with fail
    have hr := regroup85_any A c b1 w4 hs5 (by rw [← Hm.out]; omega)
    rw [← Hm.out] at hr
    refine hr.mono ?_
    rintro e w5 ⟨v5, five, rfl, hfive, ho5, hb5⟩
    clear hr
    obtain ⟨A5, c5, rfl, hc5, hc5'⟩ := own_form ho5
    have hfl : five.length ≤ 100 := by obtain ⟨_, p, hp, h1, _⟩ := hfive; rw [← Hm.out] at h1; omega
    obtain ⟨n, hn⟩ : ∃ n, n = five.length := ⟨_, rfl⟩
    rw [← hn] at ho5 hc5 hfl ⊢
    have Hn := Lib.hid hn
    have H5 := Lib.hid hfive
    have hl5 := ho5.sl
    have hl3 := (hl3'.below hb5).mono hb5.size
    have hl4' := (hl4.below hb5).mono hb5.size
    have hs6 := (hs5.below hb5).mono hb5.size
    have hb05 : Below w.heap.size w w5 := hb04.trans (hb5.mono hb04.size)
    clear hl3' hl4 hs5 hb04 hb5 hn hfive ho5
    go_wp2_with fail
    have hr := regroup58_any A5 c5 b1 five w5 hl5 H5.out (by rw [← Hn.out]; omega)
    rw [← Hn.out] at hr
    refine hr.mono ?_
    rintro e w6 ⟨v6, rfl, ho6, hb6⟩
    clear hr
    obtain ⟨A6, c6, rfl, hc6, hc6'⟩ := own_form ho6
    rw [← Hm.out] at ho6 hc6 ⊢
    have hl6 := ho6.sl
    have hl3' := (hl3.below hb6).mono hb6.size
    have hl4 := (hl4'.below hb6).mono hb6.size
    have hl5' := (hl5.below hb6).mono hb6.size
    have hs7 := (hs6.below hb6).mono hb6.size
    have hb06 : Below w.heap.size w w6 := hb05.trans (hb6.mono hb05.size)
    clear hl3 hl4' hl5 hs6 hb05 hb6 ho6
    go_wp2_with fail
    have he := equal_any A2 A c2 c b1 b1 w6 hl3' hs7
    rw [← Hm.out] at he
    refine he.mono ?_
    rintro e w7 ⟨rfl, rfl⟩
    clear he
    rw [show (b1 == b1) = true from by simp]
    go_wp2_with fail
    have he := equal_any A4 A c4 c b1 b1 w6 hl4 hs7
    rw [← Hm.out] at he
    refine he.mono ?_
    rintro e w7 ⟨rfl, rfl⟩
    clear he
    rw [show (b1 == b1) = true from by simp]
    go_wp2_with fail
    have he := equal_any A6 A c6 c b1 b1 w6 hl6 hs7
    rw [← Hm.out] at he
    refine he.mono ?_
    rintro e w7 ⟨rfl, rfl⟩
    clear he
    rw [show (b1 == b1) = true from by simp]
    go_wp2_with fail
    have hx := hex_any A c b1 w6 hs7 (by rw [← Hm.out]; omega)
    rw [← Hm.out, ← HX.out] at hx
    refine hx.mono ?_
    clear hx
    rintro e w7 ⟨rfl, hb7⟩
    have hs8 := (hs7.below hb7).mono hb7.size
    have hl5 := (hl5'.below hb7).mono hb7.size
    have hb07 : Below w.heap.size w w7 := hb06.trans (hb7.mono hb06.size)
    clear hl3' hl4 hl5' hl6 hs7 hb06 hb7
    go_wp2_with fail
    have hx := rhex_any A c b1 w7 hs8 (by rw [← Hm.out]; omega)
    rw [← Hm.out, ← HX.out] at hx
    refine hx.mono ?_
    clear hx
    rintro e w8 ⟨rfl, hb8⟩
    have hl5' := (hl5.below hb8).mono hb8.size
    have hb08 : Below w.heap.size w w8 := hb07.trans (hb8.mono hb07.size)
    clear hl5 hs8 hb07 hb8
    go_wp2_with fail
    obtain ⟨wS, hwS⟩ : ∃ wS, wS = w8.alloc (Obj.cells #[Value.bool false, Value.bool true] 4) := ⟨_, rfl⟩
    rw [← hwS]
    have hbS : Below w8.heap.size w8 wS := by rw [hwS]; exact (Below.refl _ _).alloc (Nat.le_refl _) _
    have hr0 : wS.cell? ⟨w8.heap.size, 0, none⟩ = some (.bool false) := by rw [hwS, cell_of_row _ _ _ _ _ (0, 0) (heap_alloc_new w8 _)]; rfl
    have hr1 : wS.cell? ⟨w8.heap.size, 1, none⟩ = some (.bool true) := by rw [hwS, cell_of_row _ _ _ _ _ (0, 0) (heap_alloc_new w8 _)]; rfl
    obtain ⟨g8, hg8⟩ : ∃ g8, g8 = w8.heap.size := ⟨_, rfl⟩
    have hg8S : g8 < wS.heap.size := by rw [hg8, hwS, World.size_alloc]; omega
    rw [← hg8] at hr0 hr1 ⊢
    have hl5 := (hl5'.below hbS).mono hbS.size
    have hb0S : Below w.heap.size w wS := hb08.trans (hbS.mono hb08.size)
    have Hr0 := Lib.hid hr0
    have Hr1 := Lib.hid hr1
    clear hr0 hr1 hg8 hwS hbS hl5' hb08
    go_loopw [91] (fun i wr => ∃ q : Nat, q ≤ 2 ∧ i = .int .i64 q ∧ Below wS.heap.size wS wr) (fun i _ => 2 - (intOf i).toNat)
    case atStart => exact ⟨0, by omega, rfl, Below.refl _ _⟩
    case round =>
      obtain ⟨q, hq, rfl, hb⟩ := hrel
      by_cases hlt : q < 2
      · have hq2 : q = 0 ∨ q = 1 := by omega
        rcases hq2 with rfl | rfl
        · have hcell : wr.cell? ⟨g8, 0, none⟩ = some (.bool false) := by rw [hb.cell (p := ⟨g8, 0, none⟩) hg8S]; exact Hr0.out
          have hla := (hl5.below hb).mono hb.size
          go_wp2_with fail
          have hB := bech32_any s A5 c5 five false wr hla H5.out.1 (by rw [← Hn.out]; omega) hsz
          rw [← Hn.out] at hB
          refine hB.mono ?_
          clear hB
          rintro e w9 ⟨rfl, hb9⟩
          obtain ⟨F2, hF2⟩ : ∃ F2 : ByteArray, F2 = ⟨(b32 s.data.toList five (conK false)).2.toArray⟩ := ⟨_, rfl⟩
          obtain ⟨F1, hF1⟩ : ∃ F1, F1 = (b32 s.data.toList five (conK false)).1 := ⟨_, rfl⟩
          rw [← hF2, ← hF1]
          have HF2 := Lib.hid hF2
          have HF1 := Lib.hid hF1
          have hlb := (hla.below hb9).mono hb9.size
          have hbb := hb.trans (hb9.mono hb.size)
          clear hF2 hF1 hla hb9 hb
          go_wp2_with fail
          have hB := rbech32_any s A5 c5 five false w9 hlb H5.out.1 (by rw [← Hn.out]; omega) hsz
          rw [← Hn.out, ← HF2.out, ← HF1.out] at hB
          refine hB.mono ?_
          clear hB
          rintro e w10 ⟨rfl, hb10⟩
          have hlc := (hlb.below hb10).mono hb10.size
          have hbc' := hbb.trans (hb10.mono hbb.size)
          clear hlb hb10 hbb
          by_cases h0 : F1 = 0
          · subst h0
            obtain ⟨hok1, hok2, hok3⟩ := b32_ok HF1.out.symm
            have hF := frombech_any F2 s.data.toList five false w10 (by rw [HF2.out, hok1]) hok2 H5.out.1 hok3
            rw [string_mk, ← Hn.out] at hF
            have HF := Lib.hid hF
            clear hok1 hok2 hok3 hF
            go_wp2_with fail
            refine HF.out.mono ?_
            rintro e w11 ⟨A11, rfl, hl11, hb11⟩
            have hld := (hlc.below hb11).mono hb11.size
            have hbd := hbc'.trans (hb11.mono hbc'.size)
            clear hlc hb11 hbc'
            go_wp2_with fail
            have he := equal_any A11 A5 n c5 five five w11 hl11 hld
            rw [← Hn.out] at he
            refine he.mono ?_
            rintro e w12 ⟨rfl, rfl⟩
            clear he
            rw [show (five == five) = true from by simp]
            go_wp2_with fail
            exact ⟨⟨0 + 1, by omega, rfl, hbd⟩, by simp [intOf]⟩
          · have h0i : ¬ ((F1 : Int) = 0) := by omega
            go_wp2_with fail
            exact ⟨⟨0 + 1, by omega, rfl, hbc'⟩, by simp [intOf]⟩
        · have hcell : wr.cell? ⟨g8, 1, none⟩ = some (.bool true) := by rw [hb.cell (p := ⟨g8, 1, none⟩) hg8S]; exact Hr1.out
          have hla := (hl5.below hb).mono hb.size
          go_wp2_with fail
          have hB := bech32_any s A5 c5 five true wr hla H5.out.1 (by rw [← Hn.out]; omega) hsz
          rw [← Hn.out] at hB
          refine hB.mono ?_
          clear hB
          rintro e w9 ⟨rfl, hb9⟩
          obtain ⟨F2, hF2⟩ : ∃ F2 : ByteArray, F2 = ⟨(b32 s.data.toList five (conK true)).2.toArray⟩ := ⟨_, rfl⟩
          obtain ⟨F1, hF1⟩ : ∃ F1, F1 = (b32 s.data.toList five (conK true)).1 := ⟨_, rfl⟩
          rw [← hF2, ← hF1]
          have HF2 := Lib.hid hF2
          have HF1 := Lib.hid hF1
          have hlb := (hla.below hb9).mono hb9.size
          have hbb := hb.trans (hb9.mono hb.size)
          clear hF2 hF1 hla hb9 hb
          go_wp2_with fail
          have hB := rbech32_any s A5 c5 five true w9 hlb H5.out.1 (by rw [← Hn.out]; omega) hsz
          rw [← Hn.out, ← HF2.out, ← HF1.out] at hB
          refine hB.mono ?_
          clear hB
          rintro e w10 ⟨rfl, hb10⟩
          have hlc := (hlb.below hb10).mono hb10.size
          have hbc' := hbb.trans (hb10.mono hbb.size)
          clear hlb hb10 hbb
          by_cases h0 : F1 = 0
          · subst h0
            obtain ⟨hok1, hok2, hok3⟩ := b32_ok HF1.out.symm
            have hF := frombech_any F2 s.data.toList five true w10 (by rw [HF2.out, hok1]) hok2 H5.out.1 hok3
            rw [string_mk, ← Hn.out] at hF
            have HF := Lib.hid hF
            clear hok1 hok2 hok3 hF
            go_wp2_with fail
            refine HF.out.mono ?_
            rintro e w11 ⟨A11, rfl, hl11, hb11⟩
            have hld := (hlc.below hb11).mono hb11.size
            have hbd := hbc'.trans (hb11.mono hbc'.size)
            clear hlc hb11 hbc'
            go_wp2_with fail
            have he := equal_any A11 A5 n c5 five five w11 hl11 hld
            rw [← Hn.out] at he
            refine he.mono ?_
            rintro e w12 ⟨rfl, rfl⟩
            clear he
            rw [show (five == five) = true from by simp]
            go_wp2_with fail
            exact ⟨⟨1 + 1, by omega, rfl, hbd⟩, by simp [intOf]⟩
          · have h0i : ¬ ((F1 : Int) = 0) := by omega
            go_wp2_with fail
            exact ⟨⟨1 + 1, by omega, rfl, hbc'⟩, by simp [intOf]⟩
      · have hq2 : q = 2 := by omega
        subst hq2
        go_wp2_with fail
        go_ret
        exact ⟨rfl, hb0S.trans (hb.mono hb0S.size)⟩
end Go.Proofs.YtjbknfjcdmafaaaDoor

/-! Of every input: the law StrongboxTexts returns true, and each argument reads as it did; the package-level variables that its row lists start as the program's text lays them. -/
namespace Go.Proofs.YtjbknfjcdmafaaaDoor
open Go.ChangeShapes Go.WideShapes Go.ChangeAt Go.RowKit
open Go.ChangeMaps (open_string shut_string)

theorem sl_of_ints {W : World} {a : Addr} {zs : List Int} {len : Nat} (hl : len ≤ zs.length) (hc : ∀ i, i < zs.length → W.cell? (a.add i) = some (.int .u8 (zs.getD i 0))) (hwf : ∀ n ∈ zs, (Lit.int .u8 n).wf = true) :
    ∃ bs : List UInt8, bs.length = len ∧ Sl W W.heap.size (some a) (B8 bs) := by
  refine ⟨(zs.take len).map fun n => UInt8.ofNat n.toNat, by simp; omega, fun hn => ?_⟩
  have h0 : 0 < len := by simp at hn; omega
  obtain ⟨b, off, rfl, hcell⟩ := ints_at hc (by omega)
  refine ⟨b, off, rfl, World.block_lt_of_cell? W ⟨b, off + 0, none⟩ (hcell 0 (by omega)), fun j hj => ?_⟩
  have hj' : j < len := by simp at hj; omega
  have hjz : j < zs.length := by omega
  have hm := hwf zs[j] (List.getElem_mem _)
  have hb : 0 ≤ zs[j] ∧ zs[j] ≤ 255 := by simpa [Lit.wf, IntKind.min, IntKind.max, IntKind.signed, IntKind.bits] using hm
  rw [hcell j hjz]
  have hg : zs.getD j 0 = zs[j] := by simp [hjz]
  rw [hg]
  have he : ((UInt8.ofNat zs[j].toNat).toNat : Int) = zs[j] := by
    rw [UInt8.toNat_ofNat', Nat.mod_eq_of_lt (by omega)]; omega
  simp only [B8, List.getElem_map, List.getElem_take]
  exact congrArg (fun x => some (Value.int .u8 x)) he.symm

theorem row_own : ownKnob Tryd.prog.godebug = none := by kernel_rfl
theorem row_out : laidOutB Tryd.prog = true := by kernel_rfl

set_option maxRecDepth 100000 in
theorem row_lifted (os : Os) (started : os.Started) (H : Type) (enc : TypeId × Value → H) :
    ReturnsInHanded {} Tryd.checked os 3 .any (fun w args => (Rows.strongboxTextsSpec.pre enc Tryd.prog Tryd.f3 Rows.strongboxTextsRow.domain false w args ∧ laidMetH Tryd.prog Rows.strongboxTextsRow.laid w) ∧ sizedMet enc Tryd.prog Tryd.f3 (OpenSpec.ofChange Rows.strongboxTextsSpec) false w args)
      (Rows.strongboxTextsSpec.post enc Tryd.prog Tryd.f3 false true false false) := by
  refine returnsInHanded_of_change_and (C := Tryd.checked) (X := fun w _ => laidMetH Tryd.prog Rows.strongboxTextsRow.laid w) (fun _ _ _ hh h => h.of_heap hh) row_own started (by kernel_rfl) Tryd.func3
    (ChangeSpec.witness_shaped (enc := enc) (C := Tryd.checked) (os := os) (X := fun w _ => laidMetH Tryd.prog Rows.strongboxTextsRow.laid w) false (World.laidAll Tryd.prog os Rows.strongboxTextsRow.laid) #[.slice none 0 0, .string ⟨#[]⟩] 8 (World.laidAll_os _ _ _)
      (World.shaped_of_ZipB (by kernel_rfl) (by kernel_rfl)) (by kernel_rfl) (by kernel_rfl) (by kernel_rfl)
      (by rw [MakeChecks.laidMetH_plain _ _ _ (by kernel_rfl)]; exact laidMet_laidAll _ (by kernel_rfl) (by kernel_rfl))) ?_
  intro W base args ds gs before hval0 hW _ _ _ _
  have hval : ∀ (j : Nat) t v, Tryd.f3.params[j]? = some t → args[j]? = some v → Value.okWide Tryd.prog W .any base t v := hval0
  have hW' := hW
  obtain ⟨p, q, hA0, hV, rfl, _, _⟩ := hW
  have hA : DataW.TrodAll enc Tryd.prog W 0 (fun _ => true) true Tryd.f3.params.toList args.toList ds p := hA0
  rw [Tryd.params3] at hA hval
  obtain ⟨v0, v1, d0, d1, p0, p1, rfl, rfl, rfl, h0, h1⟩ := trodAll_two hA
  obtain ⟨rfl, rfl⟩ := trodVars_none hV
  have k0 := h0
  obtain ⟨s, rfl, rfl, rfl, hs⟩ := open_string Tryd.underlying9 (hval 1 9 v1 rfl rfl) h1
  obtain ⟨a0, len, cap, rfl⟩ := okWide_slice Tryd.underlying22 (hval 0 22 v0 rfl rfl)
  obtain ⟨fuel, hf⟩ := h0
  have hc5 : Tryd.prog.cellsOf 5 = 1 := by kernel_rfl
  have hsl : ∃ bs : List UInt8, bs.length = len ∧ len ≤ cap ∧ cap ≤ maxLen ∧ Sl W W.heap.size a0 (B8 bs) := by
    rcases open_ints Tryd.underlying22 Tryd.underlying5 hc5 hf with ⟨hcs, _⟩ | ⟨a, len', cap', zs, hcs, _, hle, hmax, hall, _, hcell, hwf⟩
    · simp [Value.cells] at hcs
      obtain ⟨rfl, rfl, rfl⟩ := hcs
      exact ⟨[], rfl, Nat.le_refl _, by simp [maxLen], Sl.nil⟩
    · simp [Value.cells] at hcs
      obtain ⟨rfl, rfl, rfl⟩ := hcs
      simp only [if_true] at hall
      obtain ⟨bs, h1, h2⟩ := sl_of_ints (len := len) (by omega) hcell hwf
      exact ⟨bs, h1, hle, hmax, h2⟩
  obtain ⟨bs, hbl, hle, hmax, hsl⟩ := hsl
  have hlaw := law8_any a0 cap bs s W hsl (by omega) hmax hs
  rw [hbl] at hlaw
  refine hlaw.mono fun e W' ⟨he, hb⟩ => ?_
  subst he
  have hlt : ∀ x ∈ p0, x.block < W.heap.size := fun x hx => hW'.lt x (by simp [hx])
  exact ⟨_, rfl, _, _, _, [], _, [], hW', trodAll_mk1 (shut_bool Tryd.underlying4 _), trodAll_mk2 (Below.trod row_out (by kernel_rfl) (of_decide_eq_true (by kernel_rfl)) k0 hb hlt) (shut_string Tryd.underlying9 hs), rfl, hb.frame _, fun h => by cases h⟩

theorem row_holds : Rows.StrongboxTextsSaid :=
  OpenClaim.holds_of_wide 3 Tryd.f3 rfl rfl rfl rfl rfl rfl rfl ⟨rfl, rfl, rfl, rfl, rfl⟩ rfl rfl rfl rfl rfl (by kernel_rfl) Tryd.func3 (by kernel_rfl)
    (of_decide_eq_true (by kernel_rfl)) (by unfold Func.isWrapper; first | (rw [if_pos (by decide +kernel)]; kernel_rfl) | (rw [if_neg (by decide +kernel)]; exact ⟨rfl, rfl⟩))
    (fun os started H enc _ => row_lifted os started H enc)

theorem strongboxTexts_card : Rows.StrongboxTextsCardSaid :=
  Claim7.holds_tied_plain_at .later [] [.data, .pinned, .pinned] true (true, "b6e7d771edb39285856047af025161576d2862011fcbd8fdc0f1e8d8abab09b2") false row_holds (fun _ h => by cases h) (by kernel_rfl) (fun _ h => by cases h) strongboxTexts_row_tie rfl ⟨rfl, rfl⟩ (by kernel_rfl) rfl
    (fun f fn hf hfn => by
      obtain rfl : f = 3 := Option.some.inj ((show Tryd.prog.funcNamed "strongbox/strongboxtop.StrongboxTexts" = some 3 by kernel_rfl).symm.trans hf) |>.symm
      obtain rfl : fn = Tryd.f3 := (Option.some.inj (Tryd.func3.symm.trans hfn)).symm
      exact ⟨by kernel_rfl, fun j t ht => by
        rw [Tryd.params3] at ht
        have hm : t ∈ [22, 9] := by simpa using Array.mem_of_getElem? ht
        have hall : ([22, 9].all fun u => !Tryd.prog.wantsStandIn u) = true := by kernel_rfl
        exact (show Tryd.prog.wantsStandIn t = false by simpa using List.all_eq_true.1 hall t hm)⟩)
    (by kernel_rfl)
#print axioms strongboxTexts_card
end Go.Proofs.YtjbknfjcdmafaaaDoor
