/- script.Kind: of a script for a digest of a script, of one for a witness, of one for some keys. | The reference's Same, of one slice of bytes each. | script.Push of the byte 5. | text.fits, text.Segwit and text.FromSegwit of a digest. -/
import Derived.Test.YtkiigonikeeikaaGreatDoorV7
import Derived.Test.YtkiigonikeeikaaGreatDoorU20
import Derived.Test.YtkiigonikeeikaaGreatDoorU1
import Derived.Test.YtkiigonikeeikaaGreatDoorU17
import Derived.Test.YtkiigonikeeikaaGreatDoorU18
import Derived.Test.YtkiigonikeeikaaGreatDoorU15
import Derived.Test.YtkiigonikeeikaaGreatDoorU16

/-! script.Kind: of a script for a digest of a script, of one for a witness, of one for some keys. -/
namespace Go.Proofs.YtkiigonikeeikaaGreatDoor
open Go.RowKit Go.Shelf

theorem Sl.rowB (w : World) (bs : List UInt8) (E : TypeId) : Sl (w.alloc (.cells (B8 bs).toArray E)) (w.alloc (.cells (B8 bs).toArray E)).heap.size (some ⟨w.heap.size, 0, none⟩) (B8 bs) := fun _ => ⟨w.heap.size, 0, rfl, by simp, fun j hj => by
  rw [cell_of_row _ _ _ _ _ (0, 0) (heap_alloc_new w _)]
  simp at hj
  simp [hj]⟩

theorem between2_miss (w1 : World) (A : Option Addr) (cv : Nat) (s hs ts : List UInt8) (k : Nat) (S1 : Sl w1 w1.heap.size A (B8 s)) (hbc : s.length ≤ cv) (hc : cv ≤ maxLen) (hno : hs.isPrefixOf s = false) :
    Calls Tryz.prog 30 #[.slice A s.length cv, .slice (some ⟨w1.heap.size, 0, none⟩) hs.length hs.length, .slice (some ⟨w1.heap.size + 1, 0, none⟩) ts.length ts.length, .int .i64 k]
      ((w1.alloc (.cells (B8 hs).toArray 5)).alloc (.cells (B8 ts).toArray 5)) fun e w' => (∃ v, e = .returned (.tuple #[v, .bool false])) ∧ w' = (w1.alloc (.cells (B8 hs).toArray 5)).alloc (.cells (B8 ts).toArray 5) := by
  have h3 := Sl.rowB (w1.alloc (.cells (B8 hs).toArray 5)) ts 5
  rw [World.size_alloc (w := w1)] at h3
  exact between_miss _ _ _ _ _ _ s hs ts k _ (((S1.alloc (Nat.le_refl _) _).alloc (by simp) _).mono (by simp; omega)) (((Sl.rowB w1 hs 5).alloc (Nat.le_refl _) _).mono (by simp)) h3 hbc hc hno

theorem between2_hit (w1 : World) (b cv : Nat) (hs mid ts : List UInt8) (k n : Nat) (S1 : Sl w1 w1.heap.size (some ⟨b, 0, none⟩) (B8 (hs ++ mid ++ ts))) (hn : n = (hs ++ mid ++ ts).length) (hbc : n ≤ cv) (hc : cv ≤ maxLen)
    (hh0 : 0 < hs.length) (ht0 : 0 < ts.length) (hk : mid.length = k) :
    Calls Tryz.prog 30 #[.slice (some ⟨b, 0, none⟩) n cv, .slice (some ⟨w1.heap.size, 0, none⟩) hs.length hs.length, .slice (some ⟨w1.heap.size + 1, 0, none⟩) ts.length ts.length, .int .i64 k]
      ((w1.alloc (.cells (B8 hs).toArray 5)).alloc (.cells (B8 ts).toArray 5)) fun e w' => e = .returned (.tuple #[.slice (some ⟨b, hs.length, none⟩) k (cv - hs.length), .bool true]) ∧ w' = (w1.alloc (.cells (B8 hs).toArray 5)).alloc (.cells (B8 ts).toArray 5) := by
  have h3 := Sl.rowB (w1.alloc (.cells (B8 hs).toArray 5)) ts 5
  rw [World.size_alloc (w := w1)] at h3
  have := between_hit b 0 cv hs.length ts.length _ _ hs mid ts k _ (((S1.alloc (Nat.le_refl _) (.cells (B8 hs).toArray 5)).alloc (by simp) (.cells (B8 ts).toArray 5)).mono (by simp; omega)) (((Sl.rowB w1 hs 5).alloc (Nat.le_refl _) _).mono (by simp)) h3 n hn hbc hc hh0 ht0 hk
  rw [Nat.zero_add] at this
  exact this

theorem pre_off (a b : UInt8) (us vs : List UInt8) (h : b ≠ a) : List.isPrefixOf (a :: us) (b :: vs) = false := by
  have : (a == b) = false := by simp [Ne.symm h]
  rw [List.isPrefixOf, this]; rfl
theorem keys_one {w w' : World} {Ah : Option Addr} {ch k : Nat} {h : List UInt8} (hk : h.length = k) (hs : Sl w w.heap.size Ah (B8 h)) (hc : k ≤ ch) (hm : ch ≤ maxLen) (E : TypeId) (hw : w' = w.alloc (.cells #[.slice Ah k ch] E)) : Keys w' w'.heap.size (some ⟨w.heap.size, 0, none⟩) [h] := fun _ => by
  subst hw
  refine ⟨w.heap.size, 0, rfl, by simp, fun j hj => ?_⟩
  have : j = 0 := by simp at hj; omega
  subst this
  refine ⟨Ah, ch, ?_, (hs.alloc (Nat.le_refl _) _).mono (by simp), ?_, hm⟩
  · rw [cell_of_row _ _ _ _ _ (0, 0) (heap_alloc_new w _)]; simp [hk]
  · simp [hk]; exact hc

set_option maxRecDepth 100000 in
set_option maxHeartbeats 4000000 in
theorem kind_script (b o c : Nat) (s h : List UInt8) (hs' : s = [169, 20] ++ h ++ [135]) (hl : h.length = 20) (w : World) (hs : Sl w w.heap.size (some ⟨b, o, none⟩) (B8 s)) :
    Calls Tryz.prog 11 #[.slice (some ⟨b, o, none⟩) s.length c] w fun e W' => ∃ A, e = .returned (.tuple #[.int .i64 2, .slice (some A) 1 1]) ∧ Keys W' W'.heap.size (some A) [h] ∧ Below w.heap.size w W' := by
  have hsl : s.length = 23 := by rw [hs']; simp [hl]
  have hno : List.isPrefixOf [118, 169, 20] s = false := by rw [hs']; rfl
  have h0 : 0 < s.length := by omega
  have Hl := Lib.hid hl
  have Hs' := Lib.hid hs'
  clear hl hs'
  obtain ⟨n, hn⟩ : ∃ n, n = s.length := ⟨_, rfl⟩
  have hcl := bclone_any b o c s w hs (by omega)
  rw [← hn] at hcl
  have Hcl := Lib.hid hcl
  have Hn := Lib.hid hn
  have Hno := Lib.hid hno
  rw [← hn]
  clear hcl hn hno
  go_enter Tryz.func11, Tryz.ntmps11
  go_wp2_with fail
  refine Hcl.out.mono ?_
  rintro e w1 ⟨v, rfl, ho, hb1⟩
  obtain ⟨g, cv, rfl, hcv, hcv', hgl⟩ : ∃ g cv, v = .slice (some ⟨g, 0, none⟩) n cv ∧ n ≤ cv ∧ cv ≤ maxLen ∧ g < w1.heap.size := by
    obtain ⟨A1, c1, e, h1, h2, h3⟩ := ho
    rw [B8_length, ← Hn.out] at e h1
    have := Hn.out
    obtain ⟨g, cur, e', hg, hh, _⟩ := h3 (by omega)
    subst e'
    exact ⟨g, c1, e, h1, h2, (Array.getElem?_eq_some_iff.1 hh).1⟩
  have S1 : Sl w1 w1.heap.size (some ⟨g, 0, none⟩) (B8 s) := by
    have := ho
    obtain ⟨A1, c1, e, _⟩ := this
    exact ho.sl
  have hz1 := hb1.size
  go_wp2_with fail
  have hm := between2_miss w1 _ cv s [118, 169, 20] [136, 172] 20 S1 (by rw [← Hn.out]; exact hcv) hcv' Hno.out
  rw [← Hn.out] at hm
  refine hm.mono ?_
  clear hm
  rintro e w2 ⟨⟨u, rfl⟩, hw2⟩
  have hb2 : Below w.heap.size w w2 := by rw [hw2]; exact (hb1.alloc hz1 _).alloc (by simp; omega) _
  have S2 : Sl w2 w2.heap.size (some ⟨g, 0, none⟩) (B8 s) := by rw [hw2]; exact ((S1.alloc (Nat.le_refl _) _).alloc (by simp) _).mono (by simp; omega)
  clear hw2 S1 hb1 hgl
  go_wp2_with fail
  have S2h := S2
  rw [Hs'.out] at S2h
  refine (between2_hit w2 g cv [169, 20] h [135] 20 n S2h (by rw [Hn.out, Hs'.out]) hcv hcv' (by simp) (by simp) Hl.out).mono ?_
  rintro e w3 ⟨rfl, hw3⟩
  have hz2 := hb2.size
  have hb3 : Below w.heap.size w w3 := by rw [hw3]; exact (hb2.alloc hz2 _).alloc (by simp; omega) _
  have S3 : Sl w3 w3.heap.size (some ⟨g, 0, none⟩) (B8 s) := by rw [hw3]; exact ((S2.alloc (Nat.le_refl _) _).alloc (by simp) _).mono (by simp; omega)
  have hn23 : n = 23 := by rw [Hn.out]; exact hsl
  have Sh : Sl w3 w3.heap.size (some ⟨g, 2, none⟩) (B8 h) := fun _ => by
    obtain ⟨b', o', e, hb', hc'⟩ := S3 (by rw [B8_length]; exact h0)
    injection e with e; injection e with e3 e4; subst e3 e4
    refine ⟨g, 2, rfl, hb', fun j hj => ?_⟩
    have hj' : j < h.length := by simpa using hj
    have hj2 : j + 2 < s.length := by rw [hsl]; have := Hl.out; omega
    have := hc' (j + 2) (by rw [B8_length]; exact hj2)
    rw [show 2 + j = 0 + (j + 2) by omega, this, B8_get, B8_get]
    have e1 : s[j + 2]'hj2 = h[j] := by simp [Hs'.out, hj']
    rw [e1]
  clear hw3 S2 hb2 S2h S3
  go_wp2_with fail
  go_ret2
  exact ⟨_, rfl, keys_one Hl.out Sh (by show 20 ≤ cv - 2; omega) (by show cv - 2 ≤ maxLen; omega) _ rfl, hb3.alloc hb3.size _⟩

set_option maxRecDepth 100000 in
set_option maxHeartbeats 4000000 in
theorem kind_witness (b o c : Nat) (s h : List UInt8) (hs' : s = 0 :: 32 :: h) (hl : h.length = 32) (w : World) (hs : Sl w w.heap.size (some ⟨b, o, none⟩) (B8 s)) :
    Calls Tryz.prog 11 #[.slice (some ⟨b, o, none⟩) s.length c] w fun e W' => ∃ A, e = .returned (.tuple #[.int .i64 4, .slice (some A) 1 1]) ∧ Keys W' W'.heap.size (some A) [h] ∧ Below w.heap.size w W' := by
  have hsl : s.length = 34 := by rw [hs']; simp [hl]
  have hno : List.isPrefixOf [118, 169, 20] s = false := by rw [hs']; rfl
  have Hno2 : Hid (List.isPrefixOf [169, 20] s = false) := Lib.hid (by rw [hs']; rfl)
  have h0 : 0 < s.length := by omega
  have Hl := Lib.hid hl
  have Hs' := Lib.hid hs'
  clear hl hs'
  obtain ⟨n, hn⟩ : ∃ n, n = s.length := ⟨_, rfl⟩
  have hcl := bclone_any b o c s w hs (by omega)
  rw [← hn] at hcl
  have Hcl := Lib.hid hcl
  have Hn := Lib.hid hn
  have Hno := Lib.hid hno
  rw [← hn]
  clear hcl hn hno
  go_enter Tryz.func11, Tryz.ntmps11
  go_wp2_with fail
  refine Hcl.out.mono ?_
  rintro e w1 ⟨v, rfl, ho, hb1⟩
  obtain ⟨g, cv, rfl, hcv, hcv', hgl⟩ : ∃ g cv, v = .slice (some ⟨g, 0, none⟩) n cv ∧ n ≤ cv ∧ cv ≤ maxLen ∧ g < w1.heap.size := by
    obtain ⟨A1, c1, e, h1, h2, h3⟩ := ho
    rw [B8_length, ← Hn.out] at e h1
    have := Hn.out
    obtain ⟨g, cur, e', hg, hh, _⟩ := h3 (by omega)
    subst e'
    exact ⟨g, c1, e, h1, h2, (Array.getElem?_eq_some_iff.1 hh).1⟩
  have S1 : Sl w1 w1.heap.size (some ⟨g, 0, none⟩) (B8 s) := by
    have := ho
    obtain ⟨A1, c1, e, _⟩ := this
    exact ho.sl
  have hz1 := hb1.size
  go_wp2_with fail
  have hm := between2_miss w1 _ cv s [118, 169, 20] [136, 172] 20 S1 (by rw [← Hn.out]; exact hcv) hcv' Hno.out
  rw [← Hn.out] at hm
  refine hm.mono ?_
  clear hm
  rintro e w2 ⟨⟨u, rfl⟩, hw2⟩
  have hb2 : Below w.heap.size w w2 := by rw [hw2]; exact (hb1.alloc hz1 _).alloc (by simp; omega) _
  have S2 : Sl w2 w2.heap.size (some ⟨g, 0, none⟩) (B8 s) := by rw [hw2]; exact ((S1.alloc (Nat.le_refl _) _).alloc (by simp) _).mono (by simp; omega)
  clear hw2 S1 hb1 hgl
  go_wp2_with fail
  have hm := between2_miss w2 _ cv s [169, 20] [135] 20 S2 (by rw [← Hn.out]; exact hcv) hcv' Hno2.out
  rw [← Hn.out] at hm
  refine hm.mono ?_
  clear hm
  rintro e w3 ⟨⟨u, rfl⟩, hw3⟩
  have hz2 := hb2.size
  have hb3 : Below w.heap.size w w3 := by rw [hw3]; exact (hb2.alloc hz2 _).alloc (by simp; omega) _
  have S3 : Sl w3 w3.heap.size (some ⟨g, 0, none⟩) (B8 s) := by rw [hw3]; exact ((S2.alloc (Nat.le_refl _) _).alloc (by simp) _).mono (by simp; omega)
  clear hw3 S2 hb2
  go_wp2_with fail
  have S3h := S3
  rw [Hs'.out] at S3h
  have hn34 : n = 34 := by rw [Hn.out]; exact hsl
  subst hn34
  refine (program_hit g 0 cv h Hl.out w3 S3h hcv hcv').mono ?_
  rintro e w4 ⟨v4, rfl, ho4, hb4⟩
  have hb34 : Below w.heap.size w w4 := hb3.trans (hb4.mono hb3.size)
  have Sv := ho4
  obtain ⟨A4, c4, rfl, hc4, hc4'⟩ := own_form ho4
  have S4 := ho4.sl
  rw [Hl.out] at hc4 ho4 ⊢
  clear ho4 Sv S3h S3
  go_wp2_with fail
  go_ret2
  exact ⟨_, rfl, keys_one Hl.out S4 hc4 hc4' _ rfl, hb34.alloc hb34.size _⟩

set_option maxRecDepth 100000 in
set_option maxHeartbeats 4000000 in
theorem kind_multi (b o c : Nat) (s : List UInt8) (q : Nat) (ks : List (List UInt8)) (hs' : s = payL q ks) (w : World) (hk : ∀ k ∈ ks, k.length = 33) (hq : 1 ≤ q) (hqN : q ≤ ks.length) (hN16 : ks.length ≤ 16) (hs : Sl w w.heap.size (some ⟨b, o, none⟩) (B8 s)) :
    Calls Tryz.prog 11 #[.slice (some ⟨b, o, none⟩) s.length c] w fun e W' => ∃ A c, e = .returned (.tuple #[.int .i64 5, .slice (some A) (ks.length + 1) c]) ∧ Below w.heap.size w W' := by
  have hsl : s.length = 34 * ks.length + 3 := by rw [hs']; exact payL_length q ks hk
  have hy : UInt8.ofNat (80 + q) ≠ 118 ∧ UInt8.ofNat (80 + q) ≠ 169 := by
    have : (UInt8.ofNat (80 + q)).toNat = 80 + q := by rw [UInt8.toNat_ofNat']; omega
    constructor <;> intro e <;> rw [e] at this <;> simp at this <;> omega
  have hno : List.isPrefixOf [118, 169, 20] s = false := by rw [hs']; exact pre_off _ _ _ _ hy.1
  have Hno2 : Hid (List.isPrefixOf [169, 20] s = false) := Lib.hid (by rw [hs']; exact pre_off _ _ _ _ hy.2)
  have h0 : 0 < s.length := by omega
  have Hs' := Lib.hid hs'
  have Hk := Lib.hid hk
  have Hsl := Lib.hid hsl
  clear hs' hk
  have hsl6 : s.length ≤ 600 := by omega
  clear hsl
  obtain ⟨n, hn⟩ : ∃ n, n = s.length := ⟨_, rfl⟩
  have hcl := bclone_any b o c s w hs (by omega)
  rw [← hn] at hcl
  have Hcl := Lib.hid hcl
  have Hn := Lib.hid hn
  have Hno := Lib.hid hno
  rw [← hn]
  clear hcl hn hno
  go_enter Tryz.func11, Tryz.ntmps11
  go_wp2_with fail
  refine Hcl.out.mono ?_
  rintro e w1 ⟨v, rfl, ho, hb1⟩
  obtain ⟨g, cv, rfl, hcv, hcv', hgl⟩ : ∃ g cv, v = .slice (some ⟨g, 0, none⟩) n cv ∧ n ≤ cv ∧ cv ≤ maxLen ∧ g < w1.heap.size := by
    obtain ⟨A1, c1, e, h1, h2, h3⟩ := ho
    rw [B8_length, ← Hn.out] at e h1
    have := Hn.out
    obtain ⟨g, cur, e', hg, hh, _⟩ := h3 (by omega)
    subst e'
    exact ⟨g, c1, e, h1, h2, (Array.getElem?_eq_some_iff.1 hh).1⟩
  have S1 : Sl w1 w1.heap.size (some ⟨g, 0, none⟩) (B8 s) := by
    have := ho
    obtain ⟨A1, c1, e, _⟩ := this
    exact ho.sl
  have hz1 := hb1.size
  go_wp2_with fail
  have hm := between2_miss w1 _ cv s [118, 169, 20] [136, 172] 20 S1 (by rw [← Hn.out]; exact hcv) hcv' Hno.out
  rw [← Hn.out] at hm
  refine hm.mono ?_
  clear hm
  rintro e w2 ⟨⟨u, rfl⟩, hw2⟩
  have hb2 : Below w.heap.size w w2 := by rw [hw2]; exact (hb1.alloc hz1 _).alloc (by simp; omega) _
  have S2 : Sl w2 w2.heap.size (some ⟨g, 0, none⟩) (B8 s) := by rw [hw2]; exact ((S1.alloc (Nat.le_refl _) _).alloc (by simp) _).mono (by simp; omega)
  clear hw2 S1 hb1 hgl
  go_wp2_with fail
  have hm := between2_miss w2 _ cv s [169, 20] [135] 20 S2 (by rw [← Hn.out]; exact hcv) hcv' Hno2.out
  rw [← Hn.out] at hm
  refine hm.mono ?_
  clear hm
  rintro e w3 ⟨⟨u, rfl⟩, hw3⟩
  have hz2 := hb2.size
  have hb3 : Below w.heap.size w w3 := by rw [hw3]; exact (hb2.alloc hz2 _).alloc (by simp; omega) _
  have S3 : Sl w3 w3.heap.size (some ⟨g, 0, none⟩) (B8 s) := by rw [hw3]; exact ((S2.alloc (Nat.le_refl _) _).alloc (by simp) _).mono (by simp; omega)
  clear hw3 S2 hb2
  go_wp2_with fail
  have S3h := S3
  rw [Hs'.out] at S3h
  have hpm := program_miss _ cv q ks w3 Hk.out S3h (by rw [← Hs'.out, ← Hn.out]; exact hcv) hcv' hq hqN hN16
  rw [← Hs'.out, ← Hn.out] at hpm
  refine hpm.mono ?_
  rintro e w4 ⟨⟨v4, u4, rfl⟩, hw4⟩
  rw [hw4]
  clear hw4 hpm
  go_wp2_with fail
  have hmu := multi_any g 0 cv q ks w3 Hk.out S3h (by rw [← Hs'.out, ← Hn.out]; exact hcv) hcv' hq hqN hN16
  rw [← Hs'.out, ← Hn.out] at hmu
  refine hmu.mono ?_
  rintro e w4 ⟨⟨A4, c4, rfl⟩, hb4⟩
  have hb34 : Below w.heap.size w w4 := hb3.trans (hb4.mono hb3.size)
  clear hmu S3h S3
  go_wp2_with fail
  go_ret2
  exact ⟨_, _, rfl, hb34⟩
end Go.Proofs.YtkiigonikeeikaaGreatDoor

/-! The reference's Same, of one slice of bytes each. -/
namespace Go.Proofs.YtkiigonikeeikaaGreatDoor
open Go.RowKit Go.Shelf

set_option maxRecDepth 100000 in
set_option maxHeartbeats 4000000 in
theorem same_any (A C : Option Addr) (a c : Nat) (h : List UInt8) (w : World) (hA : Keys w w.heap.size A [h]) (hC : Keys w w.heap.size C [h]) :
    Calls Tryz.prog 12 #[.slice A 1 a, .slice C 1 c] w fun e W' => e = .returned (.bool true) ∧ Below w.heap.size w W' := by
  obtain ⟨bA, oA, rfl, hbA, A0, a0, hcA, hsA, _⟩ := hA.at_ (k := 0) (by simp)
  obtain ⟨bC, oC, rfl, hbC, C0, c0, hcC, hsC, _⟩ := hC.at_ (k := 0) (by simp)
  simp only [List.getElem_cons_zero, Nat.add_zero] at hcA hcC hsA hsC
  obtain ⟨n, hn⟩ : ∃ n, n = h.length := ⟨_, rfl⟩
  rw [← hn] at hcA hcC
  have Hn := Lib.hid hn
  clear hn hA hC
  go_enter Tryz.func12, Tryz.ntmps12
  go_wp2_with fail
  go_loopw [5] (fun i wr => ∃ q : Nat, q ≤ 1 ∧ i = .int .i64 q ∧ Below w.heap.size w wr) (fun i _ => 1 - (intOf i).toNat)
  case atStart => exact ⟨0, by omega, rfl, Below.refl _ _⟩
  case round =>
    obtain ⟨q, hq, rfl, hb⟩ := hrel
    by_cases hlt : q < 1
    · obtain rfl : q = 0 := by omega
      have hmx : Tryz.prog.follows .mixedOrders = true := by kernel_rfl
      have kA : wr.cell? ⟨bA, oA, none⟩ = some (.slice A0 n a0) := by rw [hb.cell (p := ⟨bA, oA, none⟩) hbA]; exact hcA
      have kC : wr.cell? ⟨bC, oC, none⟩ = some (.slice C0 n c0) := by rw [hb.cell (p := ⟨bC, oC, none⟩) hbC]; exact hcC
      have sA := (hsA.below hb).mono hb.size
      have sC := (hsC.below hb).mono hb.size
      clear hcA hcC hsA hsC
      go_wp2_with fail
      refine wp_region_plan [(0, 0), (1, 0), (2, 0), (3, 1), (4, 0), (5, 0), (6, 0), (7, 1), (8, 2), (9, 0)] 10 hmx (by kernel_rfl) (by intro c a d v w h; cases d <;> exact h) ?_
      repeat ((first | (refine wpPlan_pure rfl (fun K hK => ?_)) | (refine wpPlan_quiet rfl (fun K hK => ?_))); go_simp; (first | (refine hK _ ?_) | (simp only [IntWalk.iteOmega]; go_simp; refine hK _ ?_) | (go_bits; go_simp; refine hK _ ?_)); clear hK K; (try go_bits))
      refine wpPlan_loud rfl rfl (fun K hK => ?_)
      go_wp2_with fail
      have he := equal_any A0 C0 a0 c0 h h wr.drew sA sC
      rw [← Hn.out] at he
      refine he.mono ?_
      rintro e w2 ⟨rfl, rfl⟩
      rw [show (h == h) = true from by simp]
      go_wp2_with fail
      refine ⟨.inr (Ext.refl _), ?_⟩
      repeat ((first | (refine wpPlan_pure rfl (fun K hK => ?_)) | (refine wpPlan_quiet rfl (fun K hK => ?_))); go_simp; (first | (refine hK _ ?_) | (simp only [IntWalk.iteOmega]; go_simp; refine hK _ ?_) | (go_bits; go_simp; refine hK _ ?_)); clear hK K; (try go_bits))
      refine wpPlan_nil ?_
      go_wp2_with fail
      exact ⟨⟨1, by omega, rfl, hb.drew⟩, by simp [intOf]⟩
    · obtain rfl : q = 1 := by omega
      go_wp2_with fail
      go_ret
      exact ⟨rfl, hb⟩
end Go.Proofs.YtkiigonikeeikaaGreatDoor

/-! script.Push of the byte 5. -/
namespace Go.Proofs.YtkiigonikeeikaaGreatDoor
open Go.RowKit Go.Shelf

set_option maxRecDepth 100000 in
set_option maxHeartbeats 4000000 in
theorem push5_any (b o c : Nat) (w : World) (hb : b < w.heap.size) (hc : w.cell? ⟨b, o, none⟩ = some (.int .u8 5)) :
    Calls Tryz.prog 4 #[.slice (some ⟨b, o, none⟩) 1 c] w fun e W' => ∃ g, e = .returned (.slice (some ⟨g, 0, none⟩) 1 1) ∧ W'.cell? ⟨g, 0, none⟩ = some (.int .u8 85) ∧ Below w.heap.size w W' := by
  go_enter Tryz.func4, Tryz.ntmps4
  go_wp2_with fail
  go_ret
  refine ⟨w.heap.size + 1, rfl, ?_, ((Below.refl _ w).alloc (Nat.le_refl _) _).alloc (by simp) _⟩
  have := cell_of_row _ _ 0 _ _ (0, 0) (heap_alloc_new (w.alloc (Obj.cells #[Value.slice none 0 0] 48)) (.cells #[.int .u8 85] 5))
  rw [World.size_alloc] at this
  exact this
end Go.Proofs.YtkiigonikeeikaaGreatDoor

/-! text.fits, text.Segwit and text.FromSegwit of a digest. -/
namespace Go.Proofs.YtkiigonikeeikaaGreatDoor
open Go.RowKit Go.Shelf

theorem b32_fine {S D : List UInt8} {K : BitVec 64} (h : (b32 S D K).1 = 0) : (b32 S D K).2 = S ++ [49] ++ (D ++ lets6 (bech (spreadL S ++ D ++ List.replicate 6 0) ^^^ K) 6).map let32 ∧ goodH S = true ∧ S.length + D.length + 7 ≤ 90 := by
  unfold b32 at h ⊢
  by_cases h1 : 83 < S.length ∨ 90 < S.length + D.length + 7
  · rw [if_pos h1] at h; simp at h
  · rw [if_neg h1] at h ⊢
    by_cases h2 : goodH S = true
    · rw [if_pos h2]
      exact ⟨rfl, h2, by omega⟩
    · rw [if_neg h2] at h; simp at h
theorem string_back (s : ByteArray) : (⟨s.data.toList.toArray⟩ : ByteArray) = s := by
  apply ByteArray.ext
  simp

theorem five52 {h five : List UInt8} (hf : Five h five) (hl : h.length = 32) : five.length = 52 := by
  obtain ⟨_, p, hp, h1, _⟩ := hf
  omega

set_option maxHeartbeats 400000 in
theorem fits_32 (w : World) : Calls Tryz.prog 25 #[.int .i64 0, .int .i64 32] w fun e w' => e = .returned (.bool true) ∧ w' = w := by
  go_enter Tryz.func25, Tryz.ntmps25
  go_wp2
  go_ret
  exact ⟨rfl, rfl⟩

set_option maxRecDepth 100000 in
set_option maxHeartbeats 4000000 in
theorem segwit_any (s : ByteArray) (A : Option Addr) (c : Nat) (h : List UInt8) (hl : h.length = 32) (w : World) (hs : Sl w w.heap.size A (B8 h)) (hsz : s.size ≤ maxLen) :
    Calls Tryz.prog 8 #[.string s, .int .i64 0, .slice A 32 c] w fun e W' => ∃ five, Five h five ∧ e = .returned (.tuple #[.string ⟨(b32 s.data.toList (0 :: five) (conK false)).2.toArray⟩, .int .i64 ((b32 s.data.toList (0 :: five) (conK false)).1 : Int)]) ∧ Below w.heap.size w W' := by
  have hr := regroup85_any A c h w hs (by omega)
  rw [hl] at hr
  have Hr := Lib.hid hr
  have Hl := Lib.hid hl
  clear hr hl hs
  go_enter Tryz.func8, Tryz.ntmps8
  go_wp2_with (go_at_call 25; refine (fits_32 _).mono ?_; rintro e w' ⟨rfl, hw1⟩; rw [hw1]; clear hw1)
  refine Hr.out.mono ?_
  rintro e w1 ⟨v1, five, rfl, hfive, ho1, hb1⟩
  obtain ⟨A1, c1, rfl, hc1, hc1'⟩ := own_form ho1
  rw [five52 hfive Hl.out] at ho1 hc1 ⊢
  have hl1 := ho1.sl
  have H5 := Lib.hid hfive
  have Hn := Lib.hid (five52 hfive Hl.out)
  clear hfive ho1
  have hz1 := hb1.size
  have ho0 : Ow (w1.alloc (.cells #[.int .u8 0] 5)) w1.heap.size 5 (.slice (some ⟨w1.heap.size, 0, none⟩) 1 1) (B8 [0]) := Ow.new1 w1 _ _ _ (Nat.le_refl _)
  have hs0 : Sl (w1.alloc (.cells #[.int .u8 0] 5)) (w1.alloc (.cells #[.int .u8 0] 5)).heap.size A1 (B8 five) := (hl1.alloc (Nat.le_refl _) _).mono (by simp)
  have hb0 : Below w1.heap.size w1 (w1.alloc (.cells #[.int .u8 0] 5)) := (Below.refl _ _).alloc (Nat.le_refl _) _
  have hz0 := hb0.size
  go_wp2_with (at_builtin; go_loud (refine wpList_append_Ow (m := 52) (c := c1) (base := w1.heap.size) (xs := B8 [0]) (v := .slice (some ⟨w1.heap.size, 0, none⟩) 1 1) (A := A1) (news := B8 five) elB rfl (.tmp 29) (.tmp 30) rfl rfl ho0 rfl hs0 (by rw [B8_length]; exact Hn.out) (B8_oneCell _) (by rw [B8_length]; simp [maxLen]) (by rw [B8_length]; simp) hz0 ?_); intro v3 w3 ho3 hg3 hr3; rw [← B8_append] at ho3; obtain ⟨A3, c3, hv3, hc3, hc3'⟩ := own_form ho3; subst hv3)
  have hb3 : Below w.heap.size w w3 := hb1.trans ((hb0.grown hg3 hz0 (fun r hr => (ho0.row r hr).1)).mono hz1)
  have h32 : ∀ x ∈ (0 :: five), x.toNat < 32 := by
    intro x hx
    rcases List.mem_cons.1 hx with rfl | hx
    · decide
    · exact H5.out.1 x hx
  refine (bech32_any s A3 c3 (0 :: five) false w3 ho3.sl h32 (by rw [List.length_cons, Hn.out]; omega) hsz).mono ?_
  rintro e w4 ⟨rfl, hb4⟩
  have hb34 := hb3.trans (hb4.mono hb3.size)
  obtain ⟨F2, hF2⟩ : ∃ F2 : ByteArray, F2 = ⟨(b32 s.data.toList (0 :: five) (conK false)).2.toArray⟩ := ⟨_, rfl⟩
  obtain ⟨F1, hF1⟩ : ∃ F1, F1 = (b32 s.data.toList (0 :: five) (conK false)).1 := ⟨_, rfl⟩
  rw [← hF2, ← hF1]
  have HF2 := Lib.hid hF2
  have HF1 := Lib.hid hF1
  clear hF2 hF1
  go_wp2_with fail
  go_ret2
  exact ⟨five, H5.out, by rw [← HF2.out, ← HF1.out]; rfl, hb34⟩

set_option maxRecDepth 100000 in
set_option maxHeartbeats 4000000 in
theorem fromsegwit_any (s F2 : ByteArray) (h five : List UInt8) (hl : h.length = 32) (hf : Five h five) (h0 : (b32 s.data.toList (0 :: five) (conK false)).1 = 0) (hF2 : F2 = ⟨(b32 s.data.toList (0 :: five) (conK false)).2.toArray⟩) (w : World) :
    Calls Tryz.prog 9 #[.string s, .string F2] w fun e W' => ∃ A c, e = .returned (.tuple #[.int .i64 0, .slice A 32 c, .int .i64 0]) ∧ Sl W' W'.heap.size A (B8 h) ∧ 32 ≤ c ∧ c ≤ maxLen ∧ Below w.heap.size w W' := by
  obtain ⟨hok1, hok2, hok3⟩ := b32_fine h0
  have h32 : ∀ x ∈ (0 :: five), x.toNat < 32 := by
    intro x hx
    rcases List.mem_cons.1 hx with rfl | hx
    · decide
    · exact hf.1 x hx
  have hF := frombech_any F2 s.data.toList (0 :: five) false w (by rw [hF2, hok1]) hok2 h32 hok3
  have hn := five52 hf hl
  rw [string_back, List.length_cons, hn] at hF
  have HF := Lib.hid hF
  have Hn := Lib.hid hn
  have H5 := Lib.hid hf
  have Hl := Lib.hid hl
  clear hF hn hok1 hok2 hok3 h0 hF2 hf h32 hl
  go_enter Tryz.func9, Tryz.ntmps9
  go_wp2_with fail
  refine HF.out.mono ?_
  rintro e w1 ⟨A1, rfl, hs1, hb1⟩
  obtain ⟨b1, o1, rfl, hbl, hcells⟩ := hs1 (by simp)
  have c0 : w1.cell? ⟨b1, o1, none⟩ = some (.int .u8 0) := hcells 0 (by simp)
  have Sf : Sl w1 w1.heap.size (some ⟨b1, o1 + 1, none⟩) (B8 five) := fun _ => ⟨b1, o1 + 1, rfl, hbl, fun j hj => by
    have := hcells (j + 1) (by simp at hj ⊢; omega)
    rw [show o1 + 1 + j = o1 + (j + 1) by omega, this]
    rfl⟩
  clear hs1 hcells HF
  go_wp2_with fail
  have hr := regroup58_any (some ⟨b1, o1 + 1, none⟩) 52 h five w1 Sf H5.out (by rw [Hn.out]; omega)
  rw [Hn.out] at hr
  refine hr.mono ?_
  clear hr
  rintro e w2 ⟨v2, rfl, ho2, hb2⟩
  obtain ⟨A2, c2, rfl, hc2, hc2'⟩ := own_form ho2
  rw [Hl.out] at ho2 hc2 ⊢
  have hl2 := ho2.sl
  have c02 : w2.cell? ⟨b1, o1, none⟩ = some (.int .u8 0) := by rw [hb2.cell (p := ⟨b1, o1, none⟩) hbl]; exact c0
  have hb02 := hb1.trans (hb2.mono hb1.size)
  clear ho2 hb2 c0 Sf hb1
  go_wp2_with (go_at_call 25; refine (fits_32 _).mono ?_; rintro e w' ⟨rfl, hw1⟩; rw [hw1]; clear hw1)
  go_ret3
  exact ⟨A2, c2, rfl, hl2, hc2, hc2', hb02⟩
end Go.Proofs.YtkiigonikeeikaaGreatDoor
