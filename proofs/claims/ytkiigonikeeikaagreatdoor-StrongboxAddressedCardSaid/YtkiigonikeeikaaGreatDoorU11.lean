/- script.Kind: of a script for a digest of a script, of one for a witness, of one for some keys. | script.Push of the byte 5. | The reference's Same, of one slice of bytes each. | strings.Builder: copyCheck, WriteByte; text.Hex. -/
import Derived.Test.YtkiigonikeeikaaGreatDoorU10
import Derived.Test.YtkiigonikeeikaaGreatDoorU3
import Derived.Test.YtkiigonikeeikaaGreatDoorU2
import Derived.Test.YtkiigonikeeikaaGreatDoorShelf
import Derived.Shelf.Strings.Builder1
import Derived.Lib.Builder

/-! script.Kind: of a script for a digest of a script, of one for a witness, of one for some keys. -/
namespace Go.Proofs.YtkiigonikeeikaaGreatDoor
open Go.RowKit Go.Shelf

theorem Sl.rowB (w : World) (bs : List UInt8) (E : TypeId) : Sl (w.alloc (.cells (B8 bs).toArray E)) (w.alloc (.cells (B8 bs).toArray E)).heap.size (some ⟨w.heap.size, 0, none⟩) (B8 bs) := fun _ => ⟨w.heap.size, 0, rfl, by simp, fun j hj => by
  rw [cell_of_row _ _ _ _ _ (0, 0) (heap_alloc_new w _)]
  simp at hj
  simp [hj]⟩

theorem between2_miss (w1 : World) (A : Option Addr) (cv : Nat) (s hs ts : List UInt8) (k : Nat) (S1 : Sl w1 w1.heap.size A (B8 s)) (hbc : s.length ≤ cv) (hc : cv ≤ maxLen) (hno : hs.isPrefixOf s = false) :
    Calls Tryz.prog 30 #[.slice A s.length cv, .slice (some ⟨w1.heap.size, 0, none⟩) hs.length hs.length, .slice (some ⟨w1.heap.size + 1, 0, none⟩) ts.length ts.length, .int .i64 k]
      ((w1.alloc (.cells (B8 hs).toArray 5)).alloc (.cells (B8 ts).toArray 5)) fun e w' => (∃ v, e = .returned (.tuple #[v, .bool false])) ∧ w' = (w1.alloc (.cells (B8 hs).toArray 5)).alloc (.cells (B8 ts).toArray 5) := by
  have h3 := Sl.rowB (w1.alloc (.cells (B8 hs).toArray 5)) ts 5
  rw [World.size_alloc (w := w1)] at h3
  exact between_miss _ _ _ _ _ _ s hs ts k _ (((S1.alloc (Nat.le_refl _) _).alloc (by simp) _).mono (by simp; omega)) (((Sl.rowB w1 hs 5).alloc (Nat.le_refl _) _).mono (by simp)) h3 hbc hc hno

theorem between2_hit (w1 : World) (b cv : Nat) (hs mid ts : List UInt8) (k n : Nat) (S1 : Sl w1 w1.heap.size (some ⟨b, 0, none⟩) (B8 (hs ++ mid ++ ts))) (hn : n = (hs ++ mid ++ ts).length) (hbc : n ≤ cv) (hc : cv ≤ maxLen)
    (hh0 : 0 < hs.length) (ht0 : 0 < ts.length) (hk : mid.length = k) :
    Calls Tryz.prog 30 #[.slice (some ⟨b, 0, none⟩) n cv, .slice (some ⟨w1.heap.size, 0, none⟩) hs.length hs.length, .slice (some ⟨w1.heap.size + 1, 0, none⟩) ts.length ts.length, .int .i64 k]
      ((w1.alloc (.cells (B8 hs).toArray 5)).alloc (.cells (B8 ts).toArray 5)) fun e w' => e = .returned (.tuple #[.slice (some ⟨b, hs.length, none⟩) k (cv - hs.length), .bool true]) ∧ w' = (w1.alloc (.cells (B8 hs).toArray 5)).alloc (.cells (B8 ts).toArray 5) := by
  have h3 := Sl.rowB (w1.alloc (.cells (B8 hs).toArray 5)) ts 5
  rw [World.size_alloc (w := w1)] at h3
  have := between_hit b 0 cv hs.length ts.length _ _ hs mid ts k _ (((S1.alloc (Nat.le_refl _) (.cells (B8 hs).toArray 5)).alloc (by simp) (.cells (B8 ts).toArray 5)).mono (by simp; omega)) (((Sl.rowB w1 hs 5).alloc (Nat.le_refl _) _).mono (by simp)) h3 n hn hbc hc hh0 ht0 hk
  rw [Nat.zero_add] at this
  exact this

theorem pre_off (a b : UInt8) (us vs : List UInt8) (h : b ≠ a) : List.isPrefixOf (a :: us) (b :: vs) = false := by
  have : (a == b) = false := by simp [Ne.symm h]
  rw [List.isPrefixOf, this]; rfl
theorem keys_one {w w' : World} {Ah : Option Addr} {ch k : Nat} {h : List UInt8} (hk : h.length = k) (hs : Sl w w.heap.size Ah (B8 h)) (hc : k ≤ ch) (hm : ch ≤ maxLen) (E : TypeId) (hw : w' = w.alloc (.cells #[.slice Ah k ch] E)) : Keys w' w'.heap.size (some ⟨w.heap.size, 0, none⟩) [h] := fun _ => by
  subst hw
  refine ⟨w.heap.size, 0, rfl, by simp, fun j hj => ?_⟩
  have : j = 0 := by simp at hj; omega
  subst this
  refine ⟨Ah, ch, ?_, (hs.alloc (Nat.le_refl _) _).mono (by simp), ?_, hm⟩
  · rw [cell_of_row _ _ _ _ _ (0, 0) (heap_alloc_new w _)]; simp [hk]
  · simp [hk]; exact hc

set_option maxRecDepth 100000 in
set_option maxHeartbeats 4000000 in
theorem kind_script (b o c : Nat) (s h : List UInt8) (hs' : s = [169, 20] ++ h ++ [135]) (hl : h.length = 20) (w : World) (hs : Sl w w.heap.size (some ⟨b, o, none⟩) (B8 s)) :
    Calls Tryz.prog 11 #[.slice (some ⟨b, o, none⟩) s.length c] w fun e W' => ∃ A, e = .returned (.tuple #[.int .i64 2, .slice (some A) 1 1]) ∧ Keys W' W'.heap.size (some A) [h] ∧ Below w.heap.size w W' := by
  have hsl : s.length = 23 := by rw [hs']; simp [hl]
  have hno : List.isPrefixOf [118, 169, 20] s = false := by rw [hs']; rfl
  have h0 : 0 < s.length := by omega
  have Hl := Lib.hid hl
  have Hs' := Lib.hid hs'
  clear hl hs'
  obtain ⟨n, hn⟩ : ∃ n, n = s.length := ⟨_, rfl⟩
  have hcl := bclone_any b o c s w hs (by omega)
  rw [← hn] at hcl
  have Hcl := Lib.hid hcl
  have Hn := Lib.hid hn
  have Hno := Lib.hid hno
  rw [← hn]
  clear hcl hn hno
  go_enter Tryz.func11, Tryz.ntmps11
  go_wp2_with fail
  refine Hcl.out.mono ?_
  rintro e w1 ⟨v, rfl, ho, hb1⟩
  obtain ⟨g, cv, rfl, hcv, hcv', hgl⟩ : ∃ g cv, v = .slice (some ⟨g, 0, none⟩) n cv ∧ n ≤ cv ∧ cv ≤ maxLen ∧ g < w1.heap.size := by
    obtain ⟨A1, c1, e, h1, h2, h3⟩ := ho
    rw [B8_length, ← Hn.out] at e h1
    have := Hn.out
    obtain ⟨g, cur, e', hg, hh, _⟩ := h3 (by omega)
    subst e'
    exact ⟨g, c1, e, h1, h2, (Array.getElem?_eq_some_iff.1 hh).1⟩
  have S1 : Sl w1 w1.heap.size (some ⟨g, 0, none⟩) (B8 s) := by
    have := ho
    obtain ⟨A1, c1, e, _⟩ := this
    exact ho.sl
  have hz1 := hb1.size
  go_wp2_with fail
  have hm := between2_miss w1 _ cv s [118, 169, 20] [136, 172] 20 S1 (by rw [← Hn.out]; exact hcv) hcv' Hno.out
  rw [← Hn.out] at hm
  refine hm.mono ?_
  clear hm
  rintro e w2 ⟨⟨u, rfl⟩, hw2⟩
  have hb2 : Below w.heap.size w w2 := by rw [hw2]; exact (hb1.alloc hz1 _).alloc (by simp; omega) _
  have S2 : Sl w2 w2.heap.size (some ⟨g, 0, none⟩) (B8 s) := by rw [hw2]; exact ((S1.alloc (Nat.le_refl _) _).alloc (by simp) _).mono (by simp; omega)
  clear hw2 S1 hb1 hgl
  go_wp2_with fail
  have S2h := S2
  rw [Hs'.out] at S2h
  refine (between2_hit w2 g cv [169, 20] h [135] 20 n S2h (by rw [Hn.out, Hs'.out]) hcv hcv' (by simp) (by simp) Hl.out).mono ?_
  rintro e w3 ⟨rfl, hw3⟩
  have hz2 := hb2.size
  have hb3 : Below w.heap.size w w3 := by rw [hw3]; exact (hb2.alloc hz2 _).alloc (by simp; omega) _
  have S3 : Sl w3 w3.heap.size (some ⟨g, 0, none⟩) (B8 s) := by rw [hw3]; exact ((S2.alloc (Nat.le_refl _) _).alloc (by simp) _).mono (by simp; omega)
  have hn23 : n = 23 := by rw [Hn.out]; exact hsl
  have Sh : Sl w3 w3.heap.size (some ⟨g, 2, none⟩) (B8 h) := fun _ => by
    obtain ⟨b', o', e, hb', hc'⟩ := S3 (by rw [B8_length]; exact h0)
    injection e with e; injection e with e3 e4; subst e3 e4
    refine ⟨g, 2, rfl, hb', fun j hj => ?_⟩
    have hj' : j < h.length := by simpa using hj
    have hj2 : j + 2 < s.length := by rw [hsl]; have := Hl.out; omega
    have := hc' (j + 2) (by rw [B8_length]; exact hj2)
    rw [show 2 + j = 0 + (j + 2) by omega, this, B8_get, B8_get]
    have e1 : s[j + 2]'hj2 = h[j] := by simp [Hs'.out, hj']
    rw [e1]
  clear hw3 S2 hb2 S2h S3
  go_wp2_with fail
  go_ret2
  exact ⟨_, rfl, keys_one Hl.out Sh (by show 20 ≤ cv - 2; omega) (by show cv - 2 ≤ maxLen; omega) _ rfl, hb3.alloc hb3.size _⟩

set_option maxRecDepth 100000 in
set_option maxHeartbeats 4000000 in
theorem kind_witness (b o c : Nat) (s h : List UInt8) (hs' : s = 0 :: 32 :: h) (hl : h.length = 32) (w : World) (hs : Sl w w.heap.size (some ⟨b, o, none⟩) (B8 s)) :
    Calls Tryz.prog 11 #[.slice (some ⟨b, o, none⟩) s.length c] w fun e W' => ∃ A, e = .returned (.tuple #[.int .i64 4, .slice (some A) 1 1]) ∧ Keys W' W'.heap.size (some A) [h] ∧ Below w.heap.size w W' := by
  have hsl : s.length = 34 := by rw [hs']; simp [hl]
  have hno : List.isPrefixOf [118, 169, 20] s = false := by rw [hs']; rfl
  have Hno2 : Hid (List.isPrefixOf [169, 20] s = false) := Lib.hid (by rw [hs']; rfl)
  have h0 : 0 < s.length := by omega
  have Hl := Lib.hid hl
  have Hs' := Lib.hid hs'
  clear hl hs'
  obtain ⟨n, hn⟩ : ∃ n, n = s.length := ⟨_, rfl⟩
  have hcl := bclone_any b o c s w hs (by omega)
  rw [← hn] at hcl
  have Hcl := Lib.hid hcl
  have Hn := Lib.hid hn
  have Hno := Lib.hid hno
  rw [← hn]
  clear hcl hn hno
  go_enter Tryz.func11, Tryz.ntmps11
  go_wp2_with fail
  refine Hcl.out.mono ?_
  rintro e w1 ⟨v, rfl, ho, hb1⟩
  obtain ⟨g, cv, rfl, hcv, hcv', hgl⟩ : ∃ g cv, v = .slice (some ⟨g, 0, none⟩) n cv ∧ n ≤ cv ∧ cv ≤ maxLen ∧ g < w1.heap.size := by
    obtain ⟨A1, c1, e, h1, h2, h3⟩ := ho
    rw [B8_length, ← Hn.out] at e h1
    have := Hn.out
    obtain ⟨g, cur, e', hg, hh, _⟩ := h3 (by omega)
    subst e'
    exact ⟨g, c1, e, h1, h2, (Array.getElem?_eq_some_iff.1 hh).1⟩
  have S1 : Sl w1 w1.heap.size (some ⟨g, 0, none⟩) (B8 s) := by
    have := ho
    obtain ⟨A1, c1, e, _⟩ := this
    exact ho.sl
  have hz1 := hb1.size
  go_wp2_with fail
  have hm := between2_miss w1 _ cv s [118, 169, 20] [136, 172] 20 S1 (by rw [← Hn.out]; exact hcv) hcv' Hno.out
  rw [← Hn.out] at hm
  refine hm.mono ?_
  clear hm
  rintro e w2 ⟨⟨u, rfl⟩, hw2⟩
  have hb2 : Below w.heap.size w w2 := by rw [hw2]; exact (hb1.alloc hz1 _).alloc (by simp; omega) _
  have S2 : Sl w2 w2.heap.size (some ⟨g, 0, none⟩) (B8 s) := by rw [hw2]; exact ((S1.alloc (Nat.le_refl _) _).alloc (by simp) _).mono (by simp; omega)
  clear hw2 S1 hb1 hgl
  go_wp2_with fail
  have hm := between2_miss w2 _ cv s [169, 20] [135] 20 S2 (by rw [← Hn.out]; exact hcv) hcv' Hno2.out
  rw [← Hn.out] at hm
  refine hm.mono ?_
  clear hm
  rintro e w3 ⟨⟨u, rfl⟩, hw3⟩
  have hz2 := hb2.size
  have hb3 : Below w.heap.size w w3 := by rw [hw3]; exact (hb2.alloc hz2 _).alloc (by simp; omega) _
  have S3 : Sl w3 w3.heap.size (some ⟨g, 0, none⟩) (B8 s) := by rw [hw3]; exact ((S2.alloc (Nat.le_refl _) _).alloc (by simp) _).mono (by simp; omega)
  clear hw3 S2 hb2
  go_wp2_with fail
  have S3h := S3
  rw [Hs'.out] at S3h
  have hn34 : n = 34 := by rw [Hn.out]; exact hsl
  subst hn34
  refine (program_hit g 0 cv h Hl.out w3 S3h hcv hcv').mono ?_
  rintro e w4 ⟨v4, rfl, ho4, hb4⟩
  have hb34 : Below w.heap.size w w4 := hb3.trans (hb4.mono hb3.size)
  have Sv := ho4
  obtain ⟨A4, c4, rfl, hc4, hc4'⟩ := own_form ho4
  have S4 := ho4.sl
  rw [Hl.out] at hc4 ho4 ⊢
  clear ho4 Sv S3h S3
  go_wp2_with fail
  go_ret2
  exact ⟨_, rfl, keys_one Hl.out S4 hc4 hc4' _ rfl, hb34.alloc hb34.size _⟩

set_option maxRecDepth 100000 in
set_option maxHeartbeats 4000000 in
theorem kind_multi (b o c : Nat) (s : List UInt8) (q : Nat) (ks : List (List UInt8)) (hs' : s = payL q ks) (w : World) (hk : ∀ k ∈ ks, k.length = 33) (hq : 1 ≤ q) (hqN : q ≤ ks.length) (hN16 : ks.length ≤ 16) (hs : Sl w w.heap.size (some ⟨b, o, none⟩) (B8 s)) :
    Calls Tryz.prog 11 #[.slice (some ⟨b, o, none⟩) s.length c] w fun e W' => ∃ A c, e = .returned (.tuple #[.int .i64 5, .slice (some A) (ks.length + 1) c]) ∧ Below w.heap.size w W' := by
  have hsl : s.length = 34 * ks.length + 3 := by rw [hs']; exact payL_length q ks hk
  have hy : UInt8.ofNat (80 + q) ≠ 118 ∧ UInt8.ofNat (80 + q) ≠ 169 := by
    have : (UInt8.ofNat (80 + q)).toNat = 80 + q := by rw [UInt8.toNat_ofNat']; omega
    constructor <;> intro e <;> rw [e] at this <;> simp at this <;> omega
  have hno : List.isPrefixOf [118, 169, 20] s = false := by rw [hs']; exact pre_off _ _ _ _ hy.1
  have Hno2 : Hid (List.isPrefixOf [169, 20] s = false) := Lib.hid (by rw [hs']; exact pre_off _ _ _ _ hy.2)
  have h0 : 0 < s.length := by omega
  have Hs' := Lib.hid hs'
  have Hk := Lib.hid hk
  have Hsl := Lib.hid hsl
  clear hs' hk
  have hsl6 : s.length ≤ 600 := by omega
  clear hsl
  obtain ⟨n, hn⟩ : ∃ n, n = s.length := ⟨_, rfl⟩
  have hcl := bclone_any b o c s w hs (by omega)
  rw [← hn] at hcl
  have Hcl := Lib.hid hcl
  have Hn := Lib.hid hn
  have Hno := Lib.hid hno
  rw [← hn]
  clear hcl hn hno
  go_enter Tryz.func11, Tryz.ntmps11
  go_wp2_with fail
  refine Hcl.out.mono ?_
  rintro e w1 ⟨v, rfl, ho, hb1⟩
  obtain ⟨g, cv, rfl, hcv, hcv', hgl⟩ : ∃ g cv, v = .slice (some ⟨g, 0, none⟩) n cv ∧ n ≤ cv ∧ cv ≤ maxLen ∧ g < w1.heap.size := by
    obtain ⟨A1, c1, e, h1, h2, h3⟩ := ho
    rw [B8_length, ← Hn.out] at e h1
    have := Hn.out
    obtain ⟨g, cur, e', hg, hh, _⟩ := h3 (by omega)
    subst e'
    exact ⟨g, c1, e, h1, h2, (Array.getElem?_eq_some_iff.1 hh).1⟩
  have S1 : Sl w1 w1.heap.size (some ⟨g, 0, none⟩) (B8 s) := by
    have := ho
    obtain ⟨A1, c1, e, _⟩ := this
    exact ho.sl
  have hz1 := hb1.size
  go_wp2_with fail
  have hm := between2_miss w1 _ cv s [118, 169, 20] [136, 172] 20 S1 (by rw [← Hn.out]; exact hcv) hcv' Hno.out
  rw [← Hn.out] at hm
  refine hm.mono ?_
  clear hm
  rintro e w2 ⟨⟨u, rfl⟩, hw2⟩
  have hb2 : Below w.heap.size w w2 := by rw [hw2]; exact (hb1.alloc hz1 _).alloc (by simp; omega) _
  have S2 : Sl w2 w2.heap.size (some ⟨g, 0, none⟩) (B8 s) := by rw [hw2]; exact ((S1.alloc (Nat.le_refl _) _).alloc (by simp) _).mono (by simp; omega)
  clear hw2 S1 hb1 hgl
  go_wp2_with fail
  have hm := between2_miss w2 _ cv s [169, 20] [135] 20 S2 (by rw [← Hn.out]; exact hcv) hcv' Hno2.out
  rw [← Hn.out] at hm
  refine hm.mono ?_
  clear hm
  rintro e w3 ⟨⟨u, rfl⟩, hw3⟩
  have hz2 := hb2.size
  have hb3 : Below w.heap.size w w3 := by rw [hw3]; exact (hb2.alloc hz2 _).alloc (by simp; omega) _
  have S3 : Sl w3 w3.heap.size (some ⟨g, 0, none⟩) (B8 s) := by rw [hw3]; exact ((S2.alloc (Nat.le_refl _) _).alloc (by simp) _).mono (by simp; omega)
  clear hw3 S2 hb2
  go_wp2_with fail
  have S3h := S3
  rw [Hs'.out] at S3h
  have hpm := program_miss _ cv q ks w3 Hk.out S3h (by rw [← Hs'.out, ← Hn.out]; exact hcv) hcv' hq hqN hN16
  rw [← Hs'.out, ← Hn.out] at hpm
  refine hpm.mono ?_
  rintro e w4 ⟨⟨v4, u4, rfl⟩, hw4⟩
  rw [hw4]
  clear hw4 hpm
  go_wp2_with fail
  have hmu := multi_any g 0 cv q ks w3 Hk.out S3h (by rw [← Hs'.out, ← Hn.out]; exact hcv) hcv' hq hqN hN16
  rw [← Hs'.out, ← Hn.out] at hmu
  refine hmu.mono ?_
  rintro e w4 ⟨⟨A4, c4, rfl⟩, hb4⟩
  have hb34 : Below w.heap.size w w4 := hb3.trans (hb4.mono hb3.size)
  clear hmu S3h S3
  go_wp2_with fail
  go_ret2
  exact ⟨_, _, rfl, hb34⟩
end Go.Proofs.YtkiigonikeeikaaGreatDoor

/-! script.Push of the byte 5. -/
namespace Go.Proofs.YtkiigonikeeikaaGreatDoor
open Go.RowKit Go.Shelf

set_option maxRecDepth 100000 in
set_option maxHeartbeats 4000000 in
theorem push5_any (b o c : Nat) (w : World) (hb : b < w.heap.size) (hc : w.cell? ⟨b, o, none⟩ = some (.int .u8 5)) :
    Calls Tryz.prog 4 #[.slice (some ⟨b, o, none⟩) 1 c] w fun e W' => ∃ g, e = .returned (.slice (some ⟨g, 0, none⟩) 1 1) ∧ W'.cell? ⟨g, 0, none⟩ = some (.int .u8 85) ∧ Below w.heap.size w W' := by
  go_enter Tryz.func4, Tryz.ntmps4
  go_wp2_with fail
  go_ret
  refine ⟨w.heap.size + 1, rfl, ?_, ((Below.refl _ w).alloc (Nat.le_refl _) _).alloc (by simp) _⟩
  have := cell_of_row _ _ 0 _ _ (0, 0) (heap_alloc_new (w.alloc (Obj.cells #[Value.slice none 0 0] 48)) (.cells #[.int .u8 85] 5))
  rw [World.size_alloc] at this
  exact this
end Go.Proofs.YtkiigonikeeikaaGreatDoor

/-! The reference's Same, of one slice of bytes each. -/
namespace Go.Proofs.YtkiigonikeeikaaGreatDoor
open Go.RowKit Go.Shelf

set_option maxRecDepth 100000 in
set_option maxHeartbeats 4000000 in
theorem same_any (A C : Option Addr) (a c : Nat) (h : List UInt8) (w : World) (hA : Keys w w.heap.size A [h]) (hC : Keys w w.heap.size C [h]) :
    Calls Tryz.prog 12 #[.slice A 1 a, .slice C 1 c] w fun e W' => e = .returned (.bool true) ∧ Below w.heap.size w W' := by
  obtain ⟨bA, oA, rfl, hbA, A0, a0, hcA, hsA, _⟩ := hA.at_ (k := 0) (by simp)
  obtain ⟨bC, oC, rfl, hbC, C0, c0, hcC, hsC, _⟩ := hC.at_ (k := 0) (by simp)
  simp only [List.getElem_cons_zero, Nat.add_zero] at hcA hcC hsA hsC
  obtain ⟨n, hn⟩ : ∃ n, n = h.length := ⟨_, rfl⟩
  rw [← hn] at hcA hcC
  have Hn := Lib.hid hn
  clear hn hA hC
  go_enter Tryz.func12, Tryz.ntmps12
  go_wp2_with fail
  go_loopw [5] (fun i wr => ∃ q : Nat, q ≤ 1 ∧ i = .int .i64 q ∧ Below w.heap.size w wr) (fun i _ => 1 - (intOf i).toNat)
  case atStart => exact ⟨0, by omega, rfl, Below.refl _ _⟩
  case round =>
    obtain ⟨q, hq, rfl, hb⟩ := hrel
    by_cases hlt : q < 1
    · obtain rfl : q = 0 := by omega
      have hmx : Tryz.prog.follows .mixedOrders = true := by kernel_rfl
      have kA : wr.cell? ⟨bA, oA, none⟩ = some (.slice A0 n a0) := by rw [hb.cell (p := ⟨bA, oA, none⟩) hbA]; exact hcA
      have kC : wr.cell? ⟨bC, oC, none⟩ = some (.slice C0 n c0) := by rw [hb.cell (p := ⟨bC, oC, none⟩) hbC]; exact hcC
      have sA := (hsA.below hb).mono hb.size
      have sC := (hsC.below hb).mono hb.size
      clear hcA hcC hsA hsC
      go_wp2_with fail
      refine wp_region_plan [(0, 0), (1, 0), (2, 0), (3, 1), (4, 0), (5, 0), (6, 0), (7, 1), (8, 2), (9, 0)] 10 hmx (by kernel_rfl) (by intro c a d v w h; cases d <;> exact h) ?_
      repeat ((first | (refine wpPlan_pure rfl (fun K hK => ?_)) | (refine wpPlan_quiet rfl (fun K hK => ?_))); go_simp; (first | (refine hK _ ?_) | (simp only [IntWalk.iteOmega]; go_simp; refine hK _ ?_) | (go_bits; go_simp; refine hK _ ?_)); clear hK K; (try go_bits))
      refine wpPlan_loud rfl rfl (fun K hK => ?_)
      go_wp2_with fail
      have he := equal_any A0 C0 a0 c0 h h wr.drew sA sC
      rw [← Hn.out] at he
      refine he.mono ?_
      rintro e w2 ⟨rfl, rfl⟩
      rw [show (h == h) = true from by simp]
      go_wp2_with fail
      refine ⟨.inr (Ext.refl _), ?_⟩
      repeat ((first | (refine wpPlan_pure rfl (fun K hK => ?_)) | (refine wpPlan_quiet rfl (fun K hK => ?_))); go_simp; (first | (refine hK _ ?_) | (simp only [IntWalk.iteOmega]; go_simp; refine hK _ ?_) | (go_bits; go_simp; refine hK _ ?_)); clear hK K; (try go_bits))
      refine wpPlan_nil ?_
      go_wp2_with fail
      exact ⟨⟨1, by omega, rfl, hb.drew⟩, by simp [intOf]⟩
    · obtain rfl : q = 1 := by omega
      go_wp2_with fail
      go_ret
      exact ⟨rfl, hb⟩
end Go.Proofs.YtkiigonikeeikaaGreatDoor

/-! strings.Builder: copyCheck, WriteByte; text.Hex. -/
namespace Go.Proofs.YtkiigonikeeikaaGreatDoor
open Go.RowKit Go.Shelf

set_option maxHeartbeats 1000000 in
set_option maxRecDepth 100000 in
theorem copyCheck_used (b : Nat) (w : World) (h0 : w.cell? ⟨b, 0, none⟩ = some (.pointer (some ⟨b, 0, none⟩))) :
    Calls Tryz.prog 109 #[.pointer (some ⟨b, 0, none⟩)] w fun e w' => e = .returned (.tuple #[]) ∧ w' = w := by
  obtain ⟨j, hj, _⟩ := Option.map_eq_some_iff.1 (show (Tryz.prog.info? 140).map (·.size) = some 2 by kernel_rfl)
  go_enter Tryz.func109, Tryz.ntmps109
  go_wp2
  rw [Lib.run_neq_ptr_same w _ Tryz.underlying138 hj]
  go_wp2
  go_end0
  exact ⟨rfl, rfl⟩

set_option maxHeartbeats 1000000 in
set_option maxRecDepth 100000 in
theorem copyCheck_fresh (b : Nat) (w : World) (h0 : w.cell? ⟨b, 0, none⟩ = some (.pointer none)) (hsh : w.shape? b = some (140, 2)) (hfz : w.frozen? ⟨b, 0, none⟩ = false) :
    Calls Tryz.prog 109 #[.pointer (some ⟨b, 0, none⟩)] w fun e w' => e = .returned (.tuple #[]) ∧ w' = w.setCell ⟨b, 0, none⟩ (.pointer (some ⟨b, 0, none⟩)) := by
  obtain ⟨j, hj, hjs⟩ := Option.map_eq_some_iff.1 (show (Tryz.prog.info? 140).map (·.size) = some 2 by kernel_rfl)
  go_enter Tryz.func109, Tryz.ntmps109
  go_wp2
  rw [Lib.run_to_unsafe w ⟨b, 0, none⟩ Tryz.underlying138 Tryz.underlying184 hj (by rw [hjs]; decide) hsh (Nat.zero_lt_succ 1)]
  simp only [Result.andThen]
  rw [Oper.upon_value]
  go_wp2
  rw [run_callFunc_extern Tryz.func129 (by kernel_rfl) (by kernel_rfl) (by kernel_rfl) (e := Extern.AbiNoEscape.same) (by kernel_rfl)]
  rw [Lib.run_noEscape]
  simp only [Result.andThen]
  rw [Oper.upon_value]
  go_wp2
  rw [Lib.run_from_unsafe w ⟨b, 0, none⟩ Tryz.underlying184 Tryz.underlying138 hj hsh (by kernel_rfl)]
  simp only [Result.andThen]
  rw [Oper.upon_value]
  go_wp2
  go_end0
  exact ⟨rfl, rfl⟩

theorem copyCheck_any (B b : Nat) (bs : List Value) (w : World) (h : Lib.IsBuilder 140 5 B b bs w) :
    Calls Tryz.prog 109 #[.pointer (some ⟨b, 0, none⟩)] w fun e w' => e = .returned (.tuple #[]) ∧ (Lib.BuilderAt 140 5 B b (.pointer (some ⟨b, 0, none⟩)) bs w' ∧ Below B w w') := by
  rcases h with h | h
  · refine (copyCheck_fresh b w h.cell0 h.shape h.frozen0).mono ?_
    rintro e w' ⟨rfl, rfl⟩
    exact ⟨rfl, h.used _, (Below.refl B w).setCell (p := ⟨b, 0, none⟩) h.1 _⟩
  · refine (copyCheck_used b w h.cell0).mono ?_
    rintro e w' ⟨rfl, rfl⟩
    exact ⟨rfl, h, Below.refl B _⟩

set_option maxHeartbeats 2000000 in
set_option maxRecDepth 100000 in
theorem writeByte_any (B b : Nat) (bs : List Value) (c : Int) (w : World) (h : Lib.IsBuilder 140 5 B b bs w) (hlen : bs.length + 1 ≤ 140737488355328) (hBw : B ≤ w.heap.size) :
    Calls Tryz.prog 93 #[.pointer (some ⟨b, 0, none⟩), .int .u8 c] w fun e w' => e = .returned .nilIface ∧ (Lib.BuilderAt 140 5 B b (.pointer (some ⟨b, 0, none⟩)) (bs ++ [.int .u8 c]) w' ∧ Below B w w') := by
  obtain ⟨i0, hi, hz0, hz1, hz2⟩ := info_parts (show (Tryz.prog.info? 5).map (fun i => (i.zero, i.size, i.bytes)) = some (some (.int .u8 0), 1, 1) by kernel_rfl)
  go_enter Tryz.func93, Tryz.ntmps93
  go_wp2_with (go_at_call 109; refine (copyCheck_any B b bs _ h).mono ?_)
  rintro e w1 ⟨rfl, h1, hb1⟩
  obtain ⟨hB, v, hbk, hown, hne⟩ := h1
  have c0 : w1.cell? ⟨b, 0, none⟩ = some (.pointer (some ⟨b, 0, none⟩)) := by rw [Lib.cell_of_heap hbk]; rfl
  have c1 : w1.cell? ⟨b, 1, none⟩ = some v := by rw [Lib.cell_of_heap hbk]; rfl
  go_wp2_with (at_builtin; refine wpList_append_own _ rfl _ _ 23 rfl B 5 i0 (.int .u8 0) 1 1 Tryz.underlying23 hi hz0 hz1 hz2 rfl (by decide) _ _ _ rfl (hown.alloc _) ⟨w1.heap.size, 0, none⟩ 1 1 [.int .u8 c] rfl rfl ?c1 ?c2 ?c3 ?c4 ?c5 ?_)
  case c1 =>
    intro j u hj
    match j, hj with
    | 0, hj => simp at hj; subst hj; simp [Addr.add]
  case c2 => intro u hu; simp at hu; subst hu; rfl
  case c3 => unfold maxLen; omega
  case c4 => omega
  case c5 => have := hb1.size; simp; omega
  intro v' w2 hown' hgrow _
  have hlt : b < w1.heap.size := by
    rcases Nat.lt_or_ge b w1.heap.size with h' | h'
    · exact h'
    · simp [Array.getElem?_eq_none h'] at hbk
  have hb2 : w2.heap[b]? = some (.cells #[.pointer (some ⟨b, 0, none⟩), v] 140 (0, 0)) := by
    rw [hgrow.block b (by simp; omega) (fun e => hne e.symm), Lib.alloc_old w1 _ b hlt]
    exact hbk
  have d0 : w2.cell? ⟨b, 0, none⟩ = some (.pointer (some ⟨b, 0, none⟩)) := by rw [Lib.cell_of_heap hb2]; rfl
  have d1 : w2.cell? ⟨b, 1, none⟩ = some v := by rw [Lib.cell_of_heap hb2]; rfl
  have f1 : w2.frozen? ⟨b, 1, none⟩ = false := Lib.frozen_of_heap hb2 1
  obtain ⟨g, cap, rfl⟩ : ∃ g cap, v' = .slice (some ⟨g, 0, none⟩) (bs.length + 1) cap := by
    rcases hown'.2 with ⟨_, h0⟩ | ⟨g, cap, cur, hv, _⟩
    · omega
    · exact ⟨g, cap, hv⟩
  go_wp2
  go_ret
  refine ⟨rfl, ?_, ?_⟩
  · exact Lib.BuilderAt.put (T := 140) (e := 5) hB hb2 (bs' := bs ++ [.int .u8 c]) (by simpa using hown') (by decide)
  · exact ((hb1.alloc (by have := hb1.size; omega) _).grown hgrow (by have := hb1.size; simp; omega) (fun k hk => (hown.lt k hk).1)).setCell (p := ⟨b, 1, none⟩) hB _

def hexLetters : List UInt8 := [48, 49, 50, 51, 52, 53, 54, 55, 56, 57, 97, 98, 99, 100, 101, 102]
def hexd (d : Nat) : UInt8 := hexLetters.getD d 0
def hexL : List UInt8 → List UInt8
  | [] => []
  | b :: bs => hexd (b.toNat / 16) :: hexd (b.toNat % 16) :: hexL bs
theorem hexL_snoc : ∀ (bs : List UInt8) (b : UInt8), hexL (bs ++ [b]) = hexL bs ++ [hexd (b.toNat / 16)] ++ [hexd (b.toNat % 16)]
  | [], _ => rfl
  | a :: bs, b => by show hexd _ :: hexd _ :: hexL (bs ++ [b]) = _; rw [hexL_snoc bs b]; rfl
theorem hexL_length : ∀ bs : List UInt8, (hexL bs).length = 2 * bs.length
  | [] => rfl
  | a :: bs => by show (hexL bs).length + 1 + 1 = 2 * (bs.length + 1); rw [hexL_length bs]; omega
theorem hexd_at (d : Nat) (h : d < (⟨hexLetters.toArray⟩ : ByteArray).size) : (⟨hexLetters.toArray⟩ : ByteArray)[d] = hexd d := by
  have h' : d < hexLetters.length := h
  show hexLetters.toArray[d]'(by simpa using h') = _
  simp [hexd, h']
set_option maxRecDepth 20000 in
theorem and15 (y : UInt8) : bits .and .u8 (y.toNat : Int) 15 = ((y.toNat % 16 : Nat) : Int) := by
  have : ∀ p : Fin 256, bits .and .u8 (p.val : Int) 15 = ((p.val % 16 : Nat) : Int) := by decide
  exact this ⟨y.toNat, y.toNat_lt⟩

end Go.Proofs.YtkiigonikeeikaaGreatDoor
