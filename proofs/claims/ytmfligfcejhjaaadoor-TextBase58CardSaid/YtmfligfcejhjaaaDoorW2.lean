/- The law TextBase58. -/
import Derived.Test.YtmfligfcejhjaaaDoorW1
import Derived.Test.YtmfligfcejhjaaaDoorP6
namespace Go.Proofs.YtmfligfcejhjaaaDoor
open Go.RowKit Go.Shelf

theorem spare_sl {w' : World} {g : Nat} {b : List UInt8} (h : w'.heap[g]? = some (.cells (B8 (spareB b)).toArray 5 (0, 0))) : Sl w' w'.heap.size (some ⟨g, 0, none⟩) (B8 (spareB b)) := fun _ =>
  ⟨g, 0, rfl, (Array.getElem?_eq_some_iff.1 h).1, fun j hj => by rw [Nat.zero_add, Lib.cell_of_heap h]; simp [hj]⟩
theorem b8_take (b : List UInt8) (n : Nat) : B8 (b.take n) = (B8 b).take n := by simp [B8]
theorem spare_take (b : List UInt8) : (spareB b).take b.length = b := by
  apply List.ext_getElem
  · simp [spareB_len]
  · intro j h1 h2
    rw [List.getElem_take, spareB_lo b j h2]

theorem len_of_from {s b : List UInt8} (h : fromS s = (0, b)) : s.length ≤ 250 := by
  by_cases h1 : 250 < s.length
  · rw [fromS, if_pos h1] at h; simp at h
  · omega
theorem len_of_fromC {s b : List UInt8} (h : fromC s = (0, b)) : s.length ≤ 250 := by
  by_cases h1 : 250 < s.length
  · have : (fromS s).1 = 2 := by rw [fromS, if_pos h1]
    rw [fromC, if_pos (by omega), this] at h; simp at h
  · omega
theorem size_mk (l : List UInt8) : (⟨l.toArray⟩ : ByteArray).size = l.length := by simp [ByteArray.size]
set_option maxRecDepth 100000 in
set_option maxHeartbeats 8000000 in
theorem law_any (A : Option Addr) (c : Nat) (b : List UInt8) (s : ByteArray) (w : World) (hs : Sl w w.heap.size A (B8 b)) (hbc : b.length ≤ c) (hc : c ≤ maxLen) (hsz : s.size ≤ maxLen) :
    Calls Tryd.prog 3 #[.slice A b.length c, .string s] w fun e W' => e = .returned (.bool true) ∧ Below w.heap.size w W' := by
  go_enter Tryd.func3, Tryd.ntmps3
  go_wp2_with fail
  refine (awake_any _).mono ?_
  rintro e w1 ⟨rfl, hb1⟩
  go_wp2_with fail
  refine (short_any A 120 c b w1 hbc hc (by simp [maxLen])).mono ?_
  rintro e w1' ⟨⟨c1, rfl, hc1, hc1'⟩, rfl⟩
  have hs1 := (hs.below hb1).mono hb1.size
  have hs1t := hs1.take 120
  rw [← b8_take] at hs1t
  obtain ⟨b1, hbb⟩ : ∃ b1, b1 = b.take 120 := ⟨_, rfl⟩
  rw [← hbb] at hs1t hc1 ⊢
  have hb120 : b1.length ≤ 120 := by rw [hbb]; simp; omega
  obtain ⟨m, hm⟩ : ∃ m, m = b1.length := ⟨_, rfl⟩
  rw [← hm] at hc1 hb120 ⊢
  have Hm := Lib.hid hm
  clear hbb hs1 hm
  go_wp2_with fail
  have hsp := spare_any A c1 b1 w1 hs1t (by rw [← Hm.out]; omega)
  rw [← Hm.out] at hsp
  refine hsp.mono ?_
  rintro e w2 ⟨rfl, hrow, hb2⟩
  clear hsp
  have hgl : w1.heap.size < w2.heap.size := (Array.getElem?_eq_some_iff.1 hrow).1
  have hall := spare_sl hrow
  have hin : Sl w2 w2.heap.size (some ⟨w1.heap.size, 0, none⟩) (B8 b1) := by
    have := hall.take b1.length
    rwa [← b8_take, spare_take] at this
  clear hrow
  go_wp2_with fail
  obtain ⟨g, hg⟩ : ∃ g, g = w1.heap.size := ⟨_, rfl⟩
  rw [← hg] at hall hin hgl ⊢
  have hb02 : Below w.heap.size w w2 := hb1.trans (hb2.mono hb1.size)
  have hs2 := (hs1t.below hb2).mono hb2.size
  have h58 := base58_any (some ⟨g, 0, none⟩) (m + 9) b1 (by rw [← Hm.out]; omega) w2 hin
  rw [← Hm.out] at h58
  clear hg hs1t hs hb1 hb2
  refine h58.mono ?_
  rintro e w3 ⟨rfl, hb3⟩
  clear h58
  obtain ⟨X, hX⟩ : ∃ X : ByteArray, X = ⟨(b58L b1).toArray⟩ := ⟨_, rfl⟩
  have HX := Lib.hid hX
  rw [← hX]
  clear hX
  go_wp2_with fail
  have hin3 := (hin.below hb3).mono hb3.size
  have hall3 := (hall.below hb3).mono hb3.size
  have hs3 := (hs2.below hb3).mono hb3.size
  have hb03 : Below w.heap.size w w3 := hb02.trans (hb3.mono hb02.size)
  have hck := check58_any (some ⟨g, 0, none⟩) (m + 9) b1 w3 hin3 (by rw [← Hm.out]; omega) (by rw [← Hm.out]; omega) (by simp [maxLen]; omega)
  rw [← Hm.out] at hck
  clear hin hall hs2 hb3 hb02
  refine hck.mono ?_
  rintro e w4 ⟨rfl, hb4⟩
  clear hck
  obtain ⟨Y, hY⟩ : ∃ Y : ByteArray, Y = ⟨(b58L (checked b1)).toArray⟩ := ⟨_, rfl⟩
  have HY := Lib.hid hY
  rw [← hY]
  clear hY
  go_wp2_with fail
  have hall4 := (hall3.below hb4).mono hb4.size
  have hs4 := (hs3.below hb4).mono hb4.size
  have hb04 : Below w.heap.size w w4 := hb03.trans (hb4.mono hb03.size)
  have hr := rbase58_any A c1 b1 w4 hs4 (by rw [← Hm.out]; omega)
  rw [← Hm.out, ← HX.out] at hr
  clear hin3 hall3 hs3 hb4 hb03
  refine hr.mono ?_
  rintro e w5 ⟨rfl, hb5⟩
  clear hr
  go_wp2_with fail
  have hall5 := (hall4.below hb5).mono hb5.size
  have hs5 := (hs4.below hb5).mono hb5.size
  have hb05 : Below w.heap.size w w5 := hb04.trans (hb5.mono hb04.size)
  have hrc := rcheck58_any A c1 b1 w5 hs5 (by rw [← Hm.out]; omega) (by rw [← Hm.out]; exact hc1) hc1'
  rw [← Hm.out, ← HY.out] at hrc
  clear hall4 hs4 hb5 hb04
  refine hrc.mono ?_
  rintro e w6 ⟨rfl, hb6⟩
  clear hrc
  go_wp2_with fail
  have hall6 := (hall5.below hb6).mono hb6.size
  have hs6 := (hs5.below hb6).mono hb6.size
  have hb06 : Below w.heap.size w w6 := hb05.trans (hb6.mono hb05.size)
  have hkp := kept_any (some ⟨g, 0, none⟩) A (m + 9) c1 (spareB b1) b1 w6 hall6 hs6 rfl (by rw [← Hm.out]; omega)
  rw [spareB_len, ← Hm.out] at hkp
  clear hall5 hs5 hb6 hb05
  refine hkp.mono ?_
  rintro e w7 ⟨rfl, nd, hw7⟩
  clear hkp
  have hb7 : Below w6.heap.size w6 w7 := by rw [hw7]; exact below_drewN' (Below.refl _ _) _
  clear hw7
  go_wp2_with fail
  have hs7 := (hs6.below hb7).mono hb7.size
  have hb07 : Below w.heap.size w w7 := hb06.trans (hb7.mono hb06.size)
  have hXs : X.size ≤ 4096 := by rw [HX.out, size_mk]; have := len_of_from (from_to b1 (by rw [← Hm.out]; omega)); omega
  have hYs : Y.size ≤ 4096 := by rw [HY.out, size_mk]; have := len_of_fromC (fromC_to b1 (by rw [← Hm.out]; omega)); omega
  have hf := from58_any X w7 hXs
  rw [show X.data.toList = b58L b1 from by rw [HX.out], from_to b1 (by rw [← Hm.out]; omega)] at hf
  clear hall6 hs6 hb7 hb06
  refine hf.mono ?_
  rintro e w8 ⟨v8, rfl, ho8, hb8⟩
  clear hf
  obtain ⟨A8, c8, rfl, hc8, hc8'⟩ := own_form ho8
  rw [← Hm.out] at hc8 ho8 ⊢
  go_wp2_with fail
  have hl8 := ho8.sl
  have hs8 := (hs7.below hb8).mono hb8.size
  have hb08 : Below w.heap.size w w8 := hb07.trans (hb8.mono hb07.size)
  have hf := fromc58_any Y w8 hYs
  rw [show Y.data.toList = b58L (checked b1) from by rw [HY.out], fromC_to b1 (by rw [← Hm.out]; omega), ← Hm.out] at hf
  clear hs7 ho8 hb8 hb07 hXs hYs
  refine hf.mono ?_
  rintro e w9 ⟨A9, c9, rfl, hl9, hb9⟩
  clear hf
  go_wp2_with fail
  have hl8' := (hl8.below hb9).mono hb9.size
  have hs9 := (hs8.below hb9).mono hb9.size
  have hb09 : Below w.heap.size w w9 := hb08.trans (hb9.mono hb08.size)
  have he := equal_any A8 A c8 c1 b1 b1 w9 hl8' hs9
  rw [← Hm.out] at he
  clear hl8 hs8 hb9 hb08
  refine he.mono ?_
  rintro e w10 ⟨rfl, rfl⟩
  clear he
  rw [show (b1 == b1) = true from by simp]
  go_wp2_with fail
  have he := equal_any A9 A c9 c1 b1 b1 w9 hl9 hs9
  rw [← Hm.out] at he
  refine he.mono ?_
  rintro e w10 ⟨rfl, rfl⟩
  clear he
  rw [show (b1 == b1) = true from by simp]
  obtain ⟨t, ht⟩ : ∃ t, t = if 300 < s.size then s.extract 0 300 else s := ⟨_, rfl⟩
  have hts : t.size ≤ 300 := by
    rw [ht]; split
    · rw [ByteArray.size_extract]; omega
    · omega
  have hs0 : s.size ≤ maxLen := hsz
  unfold maxLen at hsz
  clear hl8' hl9
  by_cases hlong : 300 < s.size
  · rw [if_pos hlong] at ht
    go_wp2_with fail
    rw [← ht]
    clear ht hlong
    obtain ⟨S, hS⟩ : ∃ S, S = t.data.toList := ⟨_, rfl⟩
    obtain ⟨fs, hfs⟩ : ∃ fs, fs = (fromS S).2 := ⟨_, rfl⟩
    obtain ⟨fe, hfe⟩ : ∃ fe, fe = (fromS S).1 := ⟨_, rfl⟩
    obtain ⟨cs, hcs⟩ : ∃ cs, cs = (fromC S).2 := ⟨_, rfl⟩
    obtain ⟨ce, hce⟩ : ∃ ce, ce = (fromC S).1 := ⟨_, rfl⟩
    have hfl : fs.length ≤ 250 := by rw [hfs]; exact fromS_len S
    obtain ⟨n, hn⟩ : ∃ n, n = fs.length := ⟨_, rfl⟩
    obtain ⟨k, hk⟩ : ∃ k, k = cs.length := ⟨_, rfl⟩
    rw [← hn] at hfl
    have hback : fe = 0 → (⟨(b58L fs).toArray⟩ : ByteArray) = t := by
      intro h0
      rw [hfs, to_from S (by rw [← hfe]; exact h0), hS]
    have Hback := Lib.hid hback
    have Hfs := Lib.hid hfs
    have Hfe := Lib.hid hfe
    have Hcs := Lib.hid hcs
    have Hce := Lib.hid hce
    have Hn := Lib.hid hn
    have Hk := Lib.hid hk
    have hf := from58_any t w9 (by omega)
    rw [← hS, ← hfs, ← hfe] at hf
    have HS := Lib.hid hS
    clear hS hfs hfe hcs hce hn hk hback
    refine hf.mono ?_
    rintro e wA ⟨vA, rfl, hoA, hbA⟩
    clear hf
    obtain ⟨AA, cA, rfl, hcA, hcA'⟩ := own_form hoA
    rw [← Hn.out] at hcA hoA ⊢
    have hlA := hoA.sl
    have hb0A : Below w.heap.size w wA := hb09.trans (hbA.mono hb09.size)
    go_wp2_with fail
    have hf := rfrom58_any t wA (by omega)
    rw [← HS.out, ← Hfs.out, ← Hfe.out] at hf
    refine hf.mono ?_
    rintro e wB ⟨vB, rfl, hoB, hbB⟩
    clear hf hbA hoA
    obtain ⟨AB, cB, rfl, hcB, hcB'⟩ := own_form hoB
    rw [← Hn.out] at hcB hoB ⊢
    have hlB := hoB.sl
    have hlA1 := (hlA.below hbB).mono hbB.size
    have hb0B : Below w.heap.size w wB := hb0A.trans (hbB.mono hb0A.size)
    go_wp2_with fail
    have hf := fromc58_any t wB (by omega)
    rw [← HS.out, ← Hcs.out, ← Hce.out, ← Hk.out] at hf
    refine hf.mono ?_
    rintro e wC ⟨AC, cC, rfl, hlC, hbC⟩
    clear hf hbB hoB hlA
    have hlA2 := (hlA1.below hbC).mono hbC.size
    have hlB1 := (hlB.below hbC).mono hbC.size
    have hb0C : Below w.heap.size w wC := hb0B.trans (hbC.mono hb0B.size)
    go_wp2_with fail
    have hf := rfromc58_any t wC (by omega)
    rw [← HS.out, ← Hcs.out, ← Hce.out, ← Hk.out] at hf
    refine hf.mono ?_
    rintro e wD ⟨AD, cD, rfl, hlD, hbD⟩
    clear hf hbC hlA1 hlB
    have hlA3 := (hlA2.below hbD).mono hbD.size
    have hlB2 := (hlB1.below hbD).mono hbD.size
    have hlC1 := (hlC.below hbD).mono hbD.size
    have hb0D : Below w.heap.size w wD := hb0C.trans (hbD.mono hb0C.size)
    clear hlA2 hlB1 hlC hbD
    go_wp2_with fail
    have he := equal_any AA AB cA cB fs fs wD hlA3 hlB2
    rw [← Hn.out] at he
    refine he.mono ?_
    rintro e w10 ⟨rfl, rfl⟩
    clear he
    rw [show (fs == fs) = true from by simp]
    go_wp2_with fail
    have he := equal_any AC AD cC cD cs cs wD hlC1 hlD
    rw [← Hk.out] at he
    refine he.mono ?_
    rintro e w10 ⟨rfl, rfl⟩
    clear he
    rw [show (cs == cs) = true from by simp]
    by_cases h0 : fe = 0
    · have hbk := Hback.out h0
      subst h0
      go_wp2_with fail
      have h58 := base58_any AA cA fs (by rw [← Hn.out]; omega) wD hlA3
      rw [← Hn.out, hbk] at h58
      refine h58.mono ?_
      rintro e wE ⟨rfl, hbE⟩
      clear h58 hbk
      go_wp2_with fail
      go_ret
      exact ⟨rfl, hb0D.trans (hbE.mono hb0D.size)⟩
    · have h0i : ¬ ((fe : Int) = 0) := by omega
      go_wp2_with fail
      go_ret
      exact ⟨rfl, hb0D⟩
  · rw [if_neg hlong] at ht
    subst ht
    go_wp2_with fail
    clear hlong
    obtain ⟨S, hS⟩ : ∃ S, S = t.data.toList := ⟨_, rfl⟩
    obtain ⟨fs, hfs⟩ : ∃ fs, fs = (fromS S).2 := ⟨_, rfl⟩
    obtain ⟨fe, hfe⟩ : ∃ fe, fe = (fromS S).1 := ⟨_, rfl⟩
    obtain ⟨cs, hcs⟩ : ∃ cs, cs = (fromC S).2 := ⟨_, rfl⟩
    obtain ⟨ce, hce⟩ : ∃ ce, ce = (fromC S).1 := ⟨_, rfl⟩
    have hfl : fs.length ≤ 250 := by rw [hfs]; exact fromS_len S
    obtain ⟨n, hn⟩ : ∃ n, n = fs.length := ⟨_, rfl⟩
    obtain ⟨k, hk⟩ : ∃ k, k = cs.length := ⟨_, rfl⟩
    rw [← hn] at hfl
    have hback : fe = 0 → (⟨(b58L fs).toArray⟩ : ByteArray) = t := by
      intro h0
      rw [hfs, to_from S (by rw [← hfe]; exact h0), hS]
    have Hback := Lib.hid hback
    have Hfs := Lib.hid hfs
    have Hfe := Lib.hid hfe
    have Hcs := Lib.hid hcs
    have Hce := Lib.hid hce
    have Hn := Lib.hid hn
    have Hk := Lib.hid hk
    have hf := from58_any t w9 (by omega)
    rw [← hS, ← hfs, ← hfe] at hf
    have HS := Lib.hid hS
    clear hS hfs hfe hcs hce hn hk hback
    refine hf.mono ?_
    rintro e wA ⟨vA, rfl, hoA, hbA⟩
    clear hf
    obtain ⟨AA, cA, rfl, hcA, hcA'⟩ := own_form hoA
    rw [← Hn.out] at hcA hoA ⊢
    have hlA := hoA.sl
    have hb0A : Below w.heap.size w wA := hb09.trans (hbA.mono hb09.size)
    go_wp2_with fail
    have hf := rfrom58_any t wA (by omega)
    rw [← HS.out, ← Hfs.out, ← Hfe.out] at hf
    refine hf.mono ?_
    rintro e wB ⟨vB, rfl, hoB, hbB⟩
    clear hf hbA hoA
    obtain ⟨AB, cB, rfl, hcB, hcB'⟩ := own_form hoB
    rw [← Hn.out] at hcB hoB ⊢
    have hlB := hoB.sl
    have hlA1 := (hlA.below hbB).mono hbB.size
    have hb0B : Below w.heap.size w wB := hb0A.trans (hbB.mono hb0A.size)
    go_wp2_with fail
    have hf := fromc58_any t wB (by omega)
    rw [← HS.out, ← Hcs.out, ← Hce.out, ← Hk.out] at hf
    refine hf.mono ?_
    rintro e wC ⟨AC, cC, rfl, hlC, hbC⟩
    clear hf hbB hoB hlA
    have hlA2 := (hlA1.below hbC).mono hbC.size
    have hlB1 := (hlB.below hbC).mono hbC.size
    have hb0C : Below w.heap.size w wC := hb0B.trans (hbC.mono hb0B.size)
    go_wp2_with fail
    have hf := rfromc58_any t wC (by omega)
    rw [← HS.out, ← Hcs.out, ← Hce.out, ← Hk.out] at hf
    refine hf.mono ?_
    rintro e wD ⟨AD, cD, rfl, hlD, hbD⟩
    clear hf hbC hlA1 hlB
    have hlA3 := (hlA2.below hbD).mono hbD.size
    have hlB2 := (hlB1.below hbD).mono hbD.size
    have hlC1 := (hlC.below hbD).mono hbD.size
    have hb0D : Below w.heap.size w wD := hb0C.trans (hbD.mono hb0C.size)
    clear hlA2 hlB1 hlC hbD
    go_wp2_with fail
    have he := equal_any AA AB cA cB fs fs wD hlA3 hlB2
    rw [← Hn.out] at he
    refine he.mono ?_
    rintro e w10 ⟨rfl, rfl⟩
    clear he
    rw [show (fs == fs) = true from by simp]
    go_wp2_with fail
    have he := equal_any AC AD cC cD cs cs wD hlC1 hlD
    rw [← Hk.out] at he
    refine he.mono ?_
    rintro e w10 ⟨rfl, rfl⟩
    clear he
    rw [show (cs == cs) = true from by simp]
    by_cases h0 : fe = 0
    · have hbk := Hback.out h0
      subst h0
      go_wp2_with fail
      have h58 := base58_any AA cA fs (by rw [← Hn.out]; omega) wD hlA3
      rw [← Hn.out, hbk] at h58
      refine h58.mono ?_
      rintro e wE ⟨rfl, hbE⟩
      clear h58 hbk
      go_wp2_with fail
      go_ret
      exact ⟨rfl, hb0D.trans (hbE.mono hb0D.size)⟩
    · have h0i : ¬ ((fe : Int) = 0) := by omega
      go_wp2_with fail
      go_ret
      exact ⟨rfl, hb0D⟩
end Go.Proofs.YtmfligfcejhjaaaDoor
