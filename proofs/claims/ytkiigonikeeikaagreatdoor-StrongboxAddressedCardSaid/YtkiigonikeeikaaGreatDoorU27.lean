/- The law StrongboxAddressed. | Of every input: the law StrongboxAddressed returns true, and each argument reads as it did; the package-level variables that its row lists start as the program's text lays them. -/
import Derived.Test.YtkiigonikeeikaaGreatDoorV4
import Derived.Test.YtkiigonikeeikaaGreatDoorU12
import Derived.Test.YtkiigonikeeikaaGreatDoorU15
import Derived.Test.YtkiigonikeeikaaGreatDoorU16
import Derived.Test.YtkiigonikeeikaaGreatDoorU17
import Derived.Test.YtkiigonikeeikaaGreatDoorU18
import Derived.Test.YtkiigonikeeikaaGreatDoorU19
import Derived.Test.YtkiigonikeeikaaGreatDoorU20
import Derived.Test.YtkiigonikeeikaaGreatDoorU23
import Derived.Test.YtkiigonikeeikaaGreatDoorU26
import Derived.Deep.MidRow
import Derived.Test.YtkiigonikeeikaaGreatDoorTie
import Derived.Test.YtkiigonikeeikaaGreatDoorCards
import Derived.ProofKit
import Derived.OpenShut
import Derived.LaidMore
import Derived.Lay
import Derived.SevenTiedAt
import Derived.Stop.Joined
import Derived.Deep.Matrix

/-! The law StrongboxAddressed. -/
namespace Go.Proofs.YtkiigonikeeikaaGreatDoor
open Go.RowKit Go.Shelf

theorem size_of_fromC {s b : List UInt8} (h : fromC s = (0, b)) : s.length ≤ 250 := by
  by_cases h1 : 250 < s.length
  · have : (fromS s).1 = 2 := by rw [fromS, if_pos h1]
    rw [fromC, if_pos (by omega), this] at h; simp at h
  · omega
theorem size_list (l : List UInt8) : (⟨l.toArray⟩ : ByteArray).size = l.length := by simp [ByteArray.size]
theorem payR_fine {m : Int} {ks : List (List UInt8)} (h : (payR m ks).1 = 0) : (payR m ks).2 = payL m.toNat ks ∧ 1 ≤ m.toNat ∧ m.toNat ≤ ks.length ∧ ks.length ≤ 16 ∧ ∀ k ∈ ks, k.length = 33 := by
  unfold payR at h ⊢
  by_cases h1 : ks.length < 1 ∨ 16 < ks.length ∨ m < 1 ∨ (ks.length : Int) < m
  · rw [if_pos h1] at h; simp at h
  · rw [if_neg h1] at h ⊢
    by_cases h2 : ∀ k ∈ ks, k.length = 33
    · rw [if_pos h2]
      exact ⟨rfl, by omega, by omega, by omega, h2⟩
    · rw [if_neg h2] at h; simp at h

theorem run_arrayAt {P : Program} {arr e : TypeId} {n : Nat} (a : Option Addr) (len cap : Nat) (w : World) (hu : P.underlying arr = some (.array n e)) (hl : n ≤ len) : (Instr.arrayAt arr (.slice a len cap)).run P w = .ok (.pointer a) w := by
  unfold Instr.arrayAt
  rw [Sem.run_bind, run_underlying hu]
  simp [show ¬ len < n by omega]
set_option maxRecDepth 100000 in
set_option maxHeartbeats 8000000 in
theorem addr_law (m : Int) (A : Option Addr) (c : Nat) (ks : List (List UInt8)) (s : ByteArray) (w : World) (hK : Keys w w.heap.size A ks) (hbc : ks.length ≤ c) (hsz : s.size ≤ maxLen) :
    Calls Tryz.prog 3 #[.int .i64 m, .slice A ks.length c, .string s] w fun e W' => e = .returned (.bool true) ∧ Below w.heap.size w W' := by
  by_cases h6 : 6 < ks.length
  · have hK1 := hK.take 6
    obtain ⟨b1, o1, rfl, _⟩ := hK (by omega)
    obtain ⟨ks0, hks0⟩ : ∃ ks0, ks0 = ks := ⟨_, rfl⟩
    obtain ⟨n0, hn0⟩ : ∃ n0, n0 = ks.length := ⟨_, rfl⟩
    rw [← hn0] at h6 hbc ⊢
    have hn : 6 = (ks.take 6).length := by simp; omega
    obtain ⟨ks1, hks1⟩ : ∃ ks1, ks1 = ks.take 6 := ⟨_, rfl⟩
    rw [← hks1] at hK1 hn
    have Hn := Lib.hid hn
    clear hn hks1 hks0 hn0 hK
    have hc6 : 6 ≤ c := by omega
    go_enter Tryz.func3, Tryz.ntmps3
    go_wp2_with fail
    -- 6 = ks1.length, 6 ≤ 6
    refine (push5_any w.heap.size 0 1 _ (by simp) (by rw [cell_of_row _ _ _ _ _ (0, 0) (heap_alloc_new w _)]; rfl)).mono ?_
    rintro e w1 ⟨g1, rfl, hg1, hb1⟩
    have hb01 : Below w.heap.size w w1 := ((Below.refl _ w).alloc (Nat.le_refl _) _).trans (hb1.mono (by simp))
    have K1 := (hK1.below hb01).mono hb01.size
    clear hb1
    go_wp2_with fail
    have hp := pay_any m (some ⟨b1, o1, none⟩) c ks1 w1 K1 (by rw [← Hn.out]; omega)
    rw [← Hn.out] at hp
    refine hp.mono ?_
    clear hp
    rintro e w2 ⟨v2, rfl, ho2, hb2⟩
    have hb02 : Below w.heap.size w w2 := hb01.trans (hb2.mono hb01.size)
    have K2 := (K1.below hb2).mono hb2.size
    clear hb2 K1 hg1 hb01
    by_cases h0 : (payR m ks1).1 = 0
    · obtain ⟨e1, hq, hqn, h16, hk⟩ := payR_fine h0
      rw [h0]
      rw [e1] at ho2
      obtain ⟨q, hqq⟩ : ∃ q, q = m.toNat := ⟨_, rfl⟩
      rw [← hqq] at hq hqn ho2
      obtain ⟨P, hP⟩ : ∃ P, P = payL q ks1 := ⟨_, rfl⟩
      have hPl : 34 * 6 + 3 = P.length := by rw [hP, payL_length q ks1 hk, ← Hn.out]
      rw [← hP] at ho2
      obtain ⟨A2, c2, rfl, hc2, hc2'⟩ := own_form ho2
      have S2 := ho2.sl
      obtain ⟨b2, o2, rfl, _⟩ := S2 (by rw [B8_length]; omega)
      have HP := Lib.hid hP
      have HPl := Lib.hid hPl
      have Hk := Lib.hid hk
      obtain ⟨L, hL⟩ : ∃ L, L = P.length := ⟨_, rfl⟩
      have HL := Lib.hid hL
      have hL3 : 3 ≤ L := by omega
      have hL207 : L ≤ 207 := by omega
      rw [← hL] at hc2 ⊢
      clear ho2 e1 h0 hP hPl hk hqq hL
      go_wp2_with fail
      have hs256 := sum256_any (some ⟨b2, o2, none⟩) c2 P w2 S2 (by rw [← HL.out]; omega) (by rw [← HL.out]; exact hc2) hc2'
      rw [← HL.out] at hs256
      refine hs256.mono ?_
      clear hs256
      rintro e w3 ⟨rfl, hb3⟩
      obtain ⟨hh, hhh⟩ : ∃ hh, hh = sha P := ⟨_, rfl⟩
      have hl32 : hh.length = 32 := by rw [hhh]; exact sha_length _
      rw [← hhh]
      obtain ⟨oc, hoc⟩ : ∃ oc, oc = (B8 hh).toArray := ⟨_, rfl⟩
      have hocz : oc.size = 32 := by rw [hoc]; simp [hl32]
      have Hinf : Hid ((Tryz.prog.info? 31).map (·.size) = some oc.size) := Lib.hid (by rw [hocz]; kernel_rfl)
      have Hocz : Hid ((Array.replicate 32 (Value.int .u8 0)).size = oc.size) := Lib.hid (by rw [hocz]; simp)
      have Hone : Hid (oc.all (·.oneCell') = true) := Lib.hid (by rw [hoc]; exact all_oneCell_toArray (B8_oneCell _))
      have Hoc := Lib.hid hoc
      have Hl32 := Lib.hid hl32
      have S3 := (S2.below hb3).mono hb3.size
      have K3 := (K2.below hb3).mono hb3.size
      have hb03 := hb02.trans (hb3.mono hb02.size)
      rw [← hoc]
      clear hoc hocz hhh hl32 S2 K2 hb3 hb02
      go_wp2_with (refine wpList_store_row rfl 31 (.tmp 12) (.tmp 62) rfl w3.heap.size oc rfl rfl 31 _ (heap_alloc_new w3 _) Hinf.out Hocz.out Hone.out ?_; rw [World.setRow_alloc_new])
      obtain ⟨w4, hw4⟩ : ∃ w4, w4 = w3.alloc (.cells oc 31) := ⟨_, rfl⟩
      obtain ⟨g4, hg4⟩ : ∃ g4, g4 = w3.heap.size := ⟨_, rfl⟩
      rw [← hw4, ← hg4]
      have hb34 : Below w3.heap.size w3 w4 := by rw [hw4]; exact (Below.refl _ _).alloc (Nat.le_refl _) _
      have hr4 : w4.heap[g4]? = some (.cells (B8 hh).toArray 31 (0, 0)) := by rw [hw4, hg4, ← Hoc.out]; exact heap_alloc_new w3 _
      have T4 := sl_of_row hr4
      have S4 := (S3.below hb34).mono hb34.size
      have hb04 := hb03.trans (hb34.mono hb03.size)
      clear hw4 hg4 hb34 hr4 S3 K3 hb03
      refine (segwit_any s (some ⟨g4, 0, none⟩) 32 hh Hl32.out w4 T4 hsz).mono ?_
      rintro e w5 ⟨five, h5, rfl, hb5⟩
      obtain ⟨F2, hF2⟩ : ∃ F2 : ByteArray, F2 = ⟨(b32 s.data.toList (0 :: five) (conK false)).2.toArray⟩ := ⟨_, rfl⟩
      obtain ⟨F1, hF1⟩ : ∃ F1, F1 = (b32 s.data.toList (0 :: five) (conK false)).1 := ⟨_, rfl⟩
      rw [← hF2, ← hF1]
      have HF2 := Lib.hid hF2
      have HF1 := Lib.hid hF1
      have H5 := Lib.hid h5
      have T5 := (T4.below hb5).mono hb5.size
      have S5 := (S4.below hb5).mono hb5.size
      have hb05 := hb04.trans (hb5.mono hb04.size)
      clear hF2 hF1 h5 T4 S4 hb5 hb04
      by_cases hF0 : F1 = 0
      · subst hF0
        go_wp2_with fail
        refine (fromsegwit_any s F2 hh five Hl32.out H5.out HF1.out.symm HF2.out w5).mono ?_
        rintro e w6 ⟨A6, c6, rfl, S6, hc6, hc6', hb6⟩
        have T6 := (T5.below hb6).mono hb6.size
        have S6' := (S5.below hb6).mono hb6.size
        have hb06 := hb05.trans (hb6.mono hb05.size)
        clear T5 S5 hb6 hb05
        go_wp2_with fail
        refine (paywitness_any A6 c6 hh Hl32.out w6 S6).mono ?_
        rintro e w7 ⟨v7, rfl, ho7, hb7⟩
        obtain ⟨A7, c7, rfl, hc7, hc7'⟩ := own_form ho7
        have O7 := ho7.sl
        obtain ⟨b7, o7, rfl, _⟩ := O7 (by simp)
        have T7 := (T6.below hb7).mono hb7.size
        have S7 := (S6'.below hb7).mono hb7.size
        have hb07 := hb06.trans (hb7.mono hb06.size)
        clear T6 S6 S6' hb7 hb06 ho7
        go_wp2_with fail
        refine (kind_witness b7 o7 c7 (0 :: 32 :: hh) hh rfl Hl32.out w7 O7).mono ?_
        rintro e w8 ⟨A8, rfl, K8, hb8⟩
        have T8 := (T7.below hb8).mono hb8.size
        have S8 := (S7.below hb8).mono hb8.size
        have hb08 := hb07.trans (hb8.mono hb07.size)
        clear T7 S7 hb8 hb07 O7
        go_wp2_with fail
        have hbx : Below w8.heap.size w8 (w8.alloc (.cells #[.slice (some ⟨g4, 0, none⟩) 32 32] 23)) := (Below.refl _ _).alloc (Nat.le_refl _) _
        refine (same_any _ (some ⟨w8.heap.size, 0, none⟩) 1 1 hh _ ((K8.below hbx).mono hbx.size) (keys_one Hl32.out T8 (Nat.le_refl _) (by simp [maxLen]) _ rfl)).mono ?_
        rintro e w9 ⟨rfl, hb9⟩
        have hB9 := hbx.trans (hb9.mono hbx.size)
        have S9 := (S8.below hB9).mono hB9.size
        have hb09 := hb08.trans (hB9.mono hb08.size)
        clear K8 T8 S8 hbx hb9 hB9 hb08
        go_wp2_with fail
        -- hb : Below w.heap.size w w9; the script lies there
        have hh1 := hash160_any (some ⟨b2, o2, none⟩) c2 P w9 S9 (by rw [← HL.out]; omega) (by rw [← HL.out]; exact hc2) hc2'
        rw [← HL.out] at hh1
        refine hh1.mono ?_
        clear hh1
        rintro e u1 ⟨⟨ys, hys, rfl⟩, hbu1⟩
        obtain ⟨yc, hyc⟩ : ∃ yc, yc = (B8 ys).toArray := ⟨_, rfl⟩
        have hycz : yc.size = 20 := by rw [hyc]; simp [hys]
        have Hinf2 : Hid ((Tryz.prog.info? 41).map (·.size) = some yc.size) := Lib.hid (by rw [hycz]; kernel_rfl)
        have Hycz : Hid ((Array.replicate 20 (Value.int .u8 0)).size = yc.size) := Lib.hid (by rw [hycz]; simp)
        have Hone2 : Hid (yc.all (·.oneCell') = true) := Lib.hid (by rw [hyc]; exact all_oneCell_toArray (B8_oneCell _))
        have Hyc := Lib.hid hyc
        have Hys := Lib.hid hys
        have SU1 := (S9.below hbu1).mono hbu1.size
        have hbw1 := hb09.trans (hbu1.mono (hb09).size)
        rw [← hyc]
        clear hyc hycz hys hbu1
        go_wp2_with (first | (refine wpList_store_row rfl 41 (.tmp 21) (.tmp 107) rfl u1.heap.size yc rfl rfl 41 _ (heap_alloc_new u1 _) Hinf2.out Hycz.out Hone2.out ?_; rw [World.setRow_alloc_new]; obtain ⟨u2, hu2⟩ : ∃ u2, u2 = u1.alloc (.cells yc 41) := ⟨_, rfl⟩; obtain ⟨g2, hg2⟩ : ∃ g2, g2 = u1.heap.size := ⟨_, rfl⟩; rw [← hu2, ← hg2]; have hb12 : Below u1.heap.size u1 u2 := (by rw [hu2]; exact (Below.refl _ _).alloc (Nat.le_refl _) _); have hr2 : u2.heap[g2]? = some (.cells (B8 ys).toArray 41 (0, 0)) := (by rw [hu2, hg2, ← Hyc.out]; exact heap_alloc_new u1 _); have Y2 := sl_of_row hr2; have SU2 := (SU1.below hb12).mono hb12.size; have hbw2 := hbw1.trans (hb12.mono hbw1.size); clear hu2 hg2 hr2 hb12 SU1 hbw1; have hYa : Sl (u2.alloc (.cells #[.int .u8 5] 5)) (u2.alloc (.cells #[.int .u8 5] 5)).heap.size (some ⟨g2, 0, none⟩) (B8 ys) := (Y2.alloc (Nat.le_refl _) _).mono (by simp); have ho5 : Ow (u2.alloc (.cells #[.int .u8 5] 5)) u2.heap.size 5 (.slice (some ⟨u2.heap.size, 0, none⟩) 1 1) (B8 [5]) := Ow.of_row (w := u2) (cap := 1) #[.int .u8 5] 5 u2.heap.size (Nat.le_refl _) rfl (by simp [maxLen]) 1 (Nat.le_refl _); have hba : Below u2.heap.size u2 (u2.alloc (.cells #[.int .u8 5] 5)) := (Below.refl _ u2).alloc (Nat.le_refl _) _; have hza := hba.size) | (at_builtin; go_loud (refine wpList_append_Ow (m := 20) (c := 20) (base := u2.heap.size) (xs := B8 [5]) (v := .slice (some ⟨u2.heap.size, 0, none⟩) 1 1) (A := some ⟨g2, 0, none⟩) (news := B8 ys) elB rfl (.tmp 108) (.tmp 109) rfl rfl ho5 rfl hYa (by rw [B8_length]; exact Hys.out) (B8_oneCell _) (by rw [B8_length]; simp [maxLen]) (by rw [B8_length]; simp) hza ?_); intro v3 u3 ho3 hg3 hr3; rw [← B8_append] at ho3; obtain ⟨bb, hbb⟩ : ∃ bb, bb = [5] ++ ys := ⟨_, rfl⟩; have hbl : bb.length = 21 := (by rw [hbb]; simp [Hys.out]); rw [← hbb] at ho3; obtain ⟨A3, c3, hv3, hc3, hc3'⟩ := own_form ho3; rw [hbl] at hv3 hc3; subst hv3; have Hbb := Lib.hid hbb; have Hbl := Lib.hid hbl; clear hbb hbl))
        have hB3 : Below u2.heap.size u2 u3 := hba.grown hg3 hza (fun r hr => (ho5.row r hr).1)
        have hck := check58_any A3 c3 bb u3 ho3.sl (by rw [Hbl.out]; omega) (by rw [Hbl.out]; exact hc3) hc3'
        rw [Hbl.out] at hck
        refine hck.mono ?_
        rintro e u4 ⟨rfl, hb4⟩
        clear hck
        obtain ⟨Z, hZ⟩ : ∃ Z : ByteArray, Z = ⟨(b58L (checked bb)).toArray⟩ := ⟨_, rfl⟩
        rw [← hZ]
        have hZs : Z.size ≤ 4096 := by rw [hZ, size_list]; have := size_of_fromC (fromC_to bb (by rw [Hbl.out]; omega)); omega
        have HZ := Lib.hid hZ
        have hB4 := hB3.trans (hb4.mono hB3.size)
        clear hZ hg3 hr3 ho3 hYa ho5 hba hza hB3 hb4
        go_wp2_with fail
        have hf := fromc58_full Z u4 hZs
        rw [show Z.data.toList = b58L (checked bb) from by rw [HZ.out], fromC_to bb (by rw [Hbl.out]; omega), Hbl.out] at hf
        refine hf.mono ?_
        rintro e u5 ⟨A5, c5, rfl, hl5, ⟨hc5, hc5'⟩, hb5⟩
        clear hf
        obtain ⟨b5, o5, rfl, hbl5, hcell5⟩ := hl5 (by rw [B8_length, Hbl.out]; omega)
        have hra : u5.rangeAt b5 (o5 + 1) (B8 ys) := fun j v hv => by
          obtain ⟨hj, hjv⟩ := List.getElem?_eq_some_iff.1 hv
          rw [B8_length] at hj
          have h1 := hcell5 (j + 1) (by rw [B8_length, Hbl.out]; have := Hys.out; omega)
          rw [show o5 + 1 + j = o5 + (j + 1) by omega, h1, ← hjv]
          simp [B8, Hbb.out]
        have HR := Lib.hid hra
        have hB5 := hB4.trans (hb5.mono hB4.size)
        have Hin5 : Hid ((Tryz.prog.info? 41).map (·.size) = some (B8 ys).length) := Lib.hid (by rw [B8_length, Hys.out]; kernel_rfl)
        clear hra hcell5 hl5 hB4 hb5
        go_wp2_with fail
        rw [run_arrayAt (some ⟨b5, o5 + 1, none⟩) 20 (c5 - 1) u5 Tryz.underlying41 (Nat.le_refl _)]
        go_wp2_with (refine wpList_load_mid rfl 41 (.tmp 127) rfl b5 (o5 + 1) rfl (B8 ys) _ HR.out Tryz.underlying41 rfl Hin5.out ?_)
        refine (payscript_any ys Hys.out u5).mono ?_
        rintro e u6 ⟨v6, rfl, ho6, hb6⟩
        obtain ⟨S7, hS7⟩ : ∃ S7, S7 = [169, 20] ++ ys ++ [135] := ⟨_, rfl⟩
        have hl7 : S7.length = 23 := by rw [hS7]; simp [Hys.out]
        rw [← hS7] at ho6
        obtain ⟨A6, c6, rfl, hc6, hc6'⟩ := own_form ho6
        have O6 := ho6.sl
        obtain ⟨b6, o6, rfl, _⟩ := O6 (by rw [B8_length, hl7]; omega)
        have H7 := Lib.hid hS7
        have hks := kind_script b6 o6 c6 S7 ys hS7 Hys.out u6 O6
        rw [hl7] at hks hc6 ⊢
        have hB6 := hB5.trans (hb6.mono hB5.size)
        clear ho6 hS7 hl7 hB5 hb6
        go_wp2_with fail
        refine hks.mono ?_
        clear hks
        rintro e u7 ⟨A7, rfl, K7, hb7⟩
        have hB7 := hB6.trans (hb7.mono hB6.size)
        have SU7 := (SU2.below hB7).mono hB7.size
        have hkm := kind_multi b2 o2 c2 P q ks1 HP.out u7 Hk.out hq hqn h16 SU7
        rw [← HL.out, ← Hn.out] at hkm
        clear O6 hB6 hb7 HR
        go_wp2_with fail
        refine hkm.mono ?_
        clear hkm
        rintro e u8 ⟨A8, c8, rfl, hb8⟩
        have hB8 := hB7.trans (hb8.mono hB7.size)
        have Y8 := (Y2.below hB8).mono hB8.size
        have K8 := (K7.below hb8).mono hb8.size
        clear K7 hb8 hB7 SU7 SU2
        go_wp2_with fail
        have hbz : Below u8.heap.size u8 (u8.alloc (.cells #[.slice (some ⟨g2, 0, none⟩) 20 20] 23)) := (Below.refl _ _).alloc (Nat.le_refl _) _
        refine (same_any (some A7) (some ⟨u8.heap.size, 0, none⟩) 1 1 ys _ ((K8.below hbz).mono hbz.size) (keys_one Hys.out Y8 (Nat.le_refl _) (by simp [maxLen]) _ rfl)).mono ?_
        rintro e u9 ⟨rfl, hb9⟩
        have hB9 := hB8.trans ((hbz.trans (hb9.mono hbz.size)).mono hB8.size)
        have hZ := hbw2.trans (hB9.mono hbw2.size)
        clear K8 Y8 hbz hb9 hB9 hB8 hbw2
        go_wp2_with fail
        go_ret
        exact ⟨by simp, hZ⟩
      · have hF0' : ¬ ((F1 : Int) = 0) := by omega
        go_wp2_with fail
        -- hb : Below w.heap.size w w5; the script lies there
        have hh1 := hash160_any (some ⟨b2, o2, none⟩) c2 P w5 S5 (by rw [← HL.out]; omega) (by rw [← HL.out]; exact hc2) hc2'
        rw [← HL.out] at hh1
        refine hh1.mono ?_
        clear hh1
        rintro e u1 ⟨⟨ys, hys, rfl⟩, hbu1⟩
        obtain ⟨yc, hyc⟩ : ∃ yc, yc = (B8 ys).toArray := ⟨_, rfl⟩
        have hycz : yc.size = 20 := by rw [hyc]; simp [hys]
        have Hinf2 : Hid ((Tryz.prog.info? 41).map (·.size) = some yc.size) := Lib.hid (by rw [hycz]; kernel_rfl)
        have Hycz : Hid ((Array.replicate 20 (Value.int .u8 0)).size = yc.size) := Lib.hid (by rw [hycz]; simp)
        have Hone2 : Hid (yc.all (·.oneCell') = true) := Lib.hid (by rw [hyc]; exact all_oneCell_toArray (B8_oneCell _))
        have Hyc := Lib.hid hyc
        have Hys := Lib.hid hys
        have SU1 := (S5.below hbu1).mono hbu1.size
        have hbw1 := hb05.trans (hbu1.mono (hb05).size)
        rw [← hyc]
        clear hyc hycz hys hbu1
        go_wp2_with (first | (refine wpList_store_row rfl 41 (.tmp 21) (.tmp 107) rfl u1.heap.size yc rfl rfl 41 _ (heap_alloc_new u1 _) Hinf2.out Hycz.out Hone2.out ?_; rw [World.setRow_alloc_new]; obtain ⟨u2, hu2⟩ : ∃ u2, u2 = u1.alloc (.cells yc 41) := ⟨_, rfl⟩; obtain ⟨g2, hg2⟩ : ∃ g2, g2 = u1.heap.size := ⟨_, rfl⟩; rw [← hu2, ← hg2]; have hb12 : Below u1.heap.size u1 u2 := (by rw [hu2]; exact (Below.refl _ _).alloc (Nat.le_refl _) _); have hr2 : u2.heap[g2]? = some (.cells (B8 ys).toArray 41 (0, 0)) := (by rw [hu2, hg2, ← Hyc.out]; exact heap_alloc_new u1 _); have Y2 := sl_of_row hr2; have SU2 := (SU1.below hb12).mono hb12.size; have hbw2 := hbw1.trans (hb12.mono hbw1.size); clear hu2 hg2 hr2 hb12 SU1 hbw1; have hYa : Sl (u2.alloc (.cells #[.int .u8 5] 5)) (u2.alloc (.cells #[.int .u8 5] 5)).heap.size (some ⟨g2, 0, none⟩) (B8 ys) := (Y2.alloc (Nat.le_refl _) _).mono (by simp); have ho5 : Ow (u2.alloc (.cells #[.int .u8 5] 5)) u2.heap.size 5 (.slice (some ⟨u2.heap.size, 0, none⟩) 1 1) (B8 [5]) := Ow.of_row (w := u2) (cap := 1) #[.int .u8 5] 5 u2.heap.size (Nat.le_refl _) rfl (by simp [maxLen]) 1 (Nat.le_refl _); have hba : Below u2.heap.size u2 (u2.alloc (.cells #[.int .u8 5] 5)) := (Below.refl _ u2).alloc (Nat.le_refl _) _; have hza := hba.size) | (at_builtin; go_loud (refine wpList_append_Ow (m := 20) (c := 20) (base := u2.heap.size) (xs := B8 [5]) (v := .slice (some ⟨u2.heap.size, 0, none⟩) 1 1) (A := some ⟨g2, 0, none⟩) (news := B8 ys) elB rfl (.tmp 108) (.tmp 109) rfl rfl ho5 rfl hYa (by rw [B8_length]; exact Hys.out) (B8_oneCell _) (by rw [B8_length]; simp [maxLen]) (by rw [B8_length]; simp) hza ?_); intro v3 u3 ho3 hg3 hr3; rw [← B8_append] at ho3; obtain ⟨bb, hbb⟩ : ∃ bb, bb = [5] ++ ys := ⟨_, rfl⟩; have hbl : bb.length = 21 := (by rw [hbb]; simp [Hys.out]); rw [← hbb] at ho3; obtain ⟨A3, c3, hv3, hc3, hc3'⟩ := own_form ho3; rw [hbl] at hv3 hc3; subst hv3; have Hbb := Lib.hid hbb; have Hbl := Lib.hid hbl; clear hbb hbl))
        have hB3 : Below u2.heap.size u2 u3 := hba.grown hg3 hza (fun r hr => (ho5.row r hr).1)
        have hck := check58_any A3 c3 bb u3 ho3.sl (by rw [Hbl.out]; omega) (by rw [Hbl.out]; exact hc3) hc3'
        rw [Hbl.out] at hck
        refine hck.mono ?_
        rintro e u4 ⟨rfl, hb4⟩
        clear hck
        obtain ⟨Z, hZ⟩ : ∃ Z : ByteArray, Z = ⟨(b58L (checked bb)).toArray⟩ := ⟨_, rfl⟩
        rw [← hZ]
        have hZs : Z.size ≤ 4096 := by rw [hZ, size_list]; have := size_of_fromC (fromC_to bb (by rw [Hbl.out]; omega)); omega
        have HZ := Lib.hid hZ
        have hB4 := hB3.trans (hb4.mono hB3.size)
        clear hZ hg3 hr3 ho3 hYa ho5 hba hza hB3 hb4
        go_wp2_with fail
        have hf := fromc58_full Z u4 hZs
        rw [show Z.data.toList = b58L (checked bb) from by rw [HZ.out], fromC_to bb (by rw [Hbl.out]; omega), Hbl.out] at hf
        refine hf.mono ?_
        rintro e u5 ⟨A5, c5, rfl, hl5, ⟨hc5, hc5'⟩, hb5⟩
        clear hf
        obtain ⟨b5, o5, rfl, hbl5, hcell5⟩ := hl5 (by rw [B8_length, Hbl.out]; omega)
        have hra : u5.rangeAt b5 (o5 + 1) (B8 ys) := fun j v hv => by
          obtain ⟨hj, hjv⟩ := List.getElem?_eq_some_iff.1 hv
          rw [B8_length] at hj
          have h1 := hcell5 (j + 1) (by rw [B8_length, Hbl.out]; have := Hys.out; omega)
          rw [show o5 + 1 + j = o5 + (j + 1) by omega, h1, ← hjv]
          simp [B8, Hbb.out]
        have HR := Lib.hid hra
        have hB5 := hB4.trans (hb5.mono hB4.size)
        have Hin5 : Hid ((Tryz.prog.info? 41).map (·.size) = some (B8 ys).length) := Lib.hid (by rw [B8_length, Hys.out]; kernel_rfl)
        clear hra hcell5 hl5 hB4 hb5
        go_wp2_with fail
        rw [run_arrayAt (some ⟨b5, o5 + 1, none⟩) 20 (c5 - 1) u5 Tryz.underlying41 (Nat.le_refl _)]
        go_wp2_with (refine wpList_load_mid rfl 41 (.tmp 127) rfl b5 (o5 + 1) rfl (B8 ys) _ HR.out Tryz.underlying41 rfl Hin5.out ?_)
        refine (payscript_any ys Hys.out u5).mono ?_
        rintro e u6 ⟨v6, rfl, ho6, hb6⟩
        obtain ⟨S7, hS7⟩ : ∃ S7, S7 = [169, 20] ++ ys ++ [135] := ⟨_, rfl⟩
        have hl7 : S7.length = 23 := by rw [hS7]; simp [Hys.out]
        rw [← hS7] at ho6
        obtain ⟨A6, c6, rfl, hc6, hc6'⟩ := own_form ho6
        have O6 := ho6.sl
        obtain ⟨b6, o6, rfl, _⟩ := O6 (by rw [B8_length, hl7]; omega)
        have H7 := Lib.hid hS7
        have hks := kind_script b6 o6 c6 S7 ys hS7 Hys.out u6 O6
        rw [hl7] at hks hc6 ⊢
        have hB6 := hB5.trans (hb6.mono hB5.size)
        clear ho6 hS7 hl7 hB5 hb6
        go_wp2_with fail
        refine hks.mono ?_
        clear hks
        rintro e u7 ⟨A7, rfl, K7, hb7⟩
        have hB7 := hB6.trans (hb7.mono hB6.size)
        have SU7 := (SU2.below hB7).mono hB7.size
        have hkm := kind_multi b2 o2 c2 P q ks1 HP.out u7 Hk.out hq hqn h16 SU7
        rw [← HL.out, ← Hn.out] at hkm
        clear O6 hB6 hb7 HR
        go_wp2_with fail
        refine hkm.mono ?_
        clear hkm
        rintro e u8 ⟨A8, c8, rfl, hb8⟩
        have hB8 := hB7.trans (hb8.mono hB7.size)
        have Y8 := (Y2.below hB8).mono hB8.size
        have K8 := (K7.below hb8).mono hb8.size
        clear K7 hb8 hB7 SU7 SU2
        go_wp2_with fail
        have hbz : Below u8.heap.size u8 (u8.alloc (.cells #[.slice (some ⟨g2, 0, none⟩) 20 20] 23)) := (Below.refl _ _).alloc (Nat.le_refl _) _
        refine (same_any (some A7) (some ⟨u8.heap.size, 0, none⟩) 1 1 ys _ ((K8.below hbz).mono hbz.size) (keys_one Hys.out Y8 (Nat.le_refl _) (by simp [maxLen]) _ rfl)).mono ?_
        rintro e u9 ⟨rfl, hb9⟩
        have hB9 := hB8.trans ((hbz.trans (hb9.mono hbz.size)).mono hB8.size)
        have hZ := hbw2.trans (hB9.mono hbw2.size)
        clear K8 Y8 hbz hb9 hB9 hB8 hbw2
        go_wp2_with fail
        go_ret
        exact ⟨by simp, hZ⟩
    · have hne : ¬ (((payR m ks1).1 : Int) = 0) := by omega
      obtain ⟨E, hE⟩ : ∃ E, E = (payR m ks1).1 := ⟨_, rfl⟩
      have hr := rpay_any m (some ⟨b1, o1, none⟩) c ks1 w2 K2 (by rw [← Hn.out]; omega) h0
      rw [← hE] at hr hne ⊢
      rw [← Hn.out] at hr
      have Hr := Lib.hid hr
      clear hr h0 hE ho2
      go_wp2_with fail
      refine Hr.out.mono ?_
      rintro e w3 ⟨⟨v3, rfl⟩, hb3⟩
      go_wp2_with fail
      go_ret
      exact ⟨rfl, hb02.trans (hb3.mono hb02.size)⟩
  · have hK1 := hK
    obtain ⟨n, hn⟩ : ∃ n, n = ks.length := ⟨_, rfl⟩
    rw [← hn] at h6 hbc ⊢
    have Hn := Lib.hid hn
    clear hn hK
    go_enter Tryz.func3, Tryz.ntmps3
    go_wp2_with fail
    -- n = ks.length, n ≤ 6
    refine (push5_any w.heap.size 0 1 _ (by simp) (by rw [cell_of_row _ _ _ _ _ (0, 0) (heap_alloc_new w _)]; rfl)).mono ?_
    rintro e w1 ⟨g1, rfl, hg1, hb1⟩
    have hb01 : Below w.heap.size w w1 := ((Below.refl _ w).alloc (Nat.le_refl _) _).trans (hb1.mono (by simp))
    have K1 := (hK1.below hb01).mono hb01.size
    clear hb1
    go_wp2_with fail
    have hp := pay_any m A c ks w1 K1 (by rw [← Hn.out]; omega)
    rw [← Hn.out] at hp
    refine hp.mono ?_
    clear hp
    rintro e w2 ⟨v2, rfl, ho2, hb2⟩
    have hb02 : Below w.heap.size w w2 := hb01.trans (hb2.mono hb01.size)
    have K2 := (K1.below hb2).mono hb2.size
    clear hb2 K1 hg1 hb01
    by_cases h0 : (payR m ks).1 = 0
    · obtain ⟨e1, hq, hqn, h16, hk⟩ := payR_fine h0
      rw [h0]
      rw [e1] at ho2
      obtain ⟨q, hqq⟩ : ∃ q, q = m.toNat := ⟨_, rfl⟩
      rw [← hqq] at hq hqn ho2
      obtain ⟨P, hP⟩ : ∃ P, P = payL q ks := ⟨_, rfl⟩
      have hPl : 34 * n + 3 = P.length := by rw [hP, payL_length q ks hk, ← Hn.out]
      rw [← hP] at ho2
      obtain ⟨A2, c2, rfl, hc2, hc2'⟩ := own_form ho2
      have S2 := ho2.sl
      obtain ⟨b2, o2, rfl, _⟩ := S2 (by rw [B8_length]; omega)
      have HP := Lib.hid hP
      have HPl := Lib.hid hPl
      have Hk := Lib.hid hk
      obtain ⟨L, hL⟩ : ∃ L, L = P.length := ⟨_, rfl⟩
      have HL := Lib.hid hL
      have hL3 : 3 ≤ L := by omega
      have hL207 : L ≤ 207 := by omega
      rw [← hL] at hc2 ⊢
      clear ho2 e1 h0 hP hPl hk hqq hL
      go_wp2_with fail
      have hs256 := sum256_any (some ⟨b2, o2, none⟩) c2 P w2 S2 (by rw [← HL.out]; omega) (by rw [← HL.out]; exact hc2) hc2'
      rw [← HL.out] at hs256
      refine hs256.mono ?_
      clear hs256
      rintro e w3 ⟨rfl, hb3⟩
      obtain ⟨hh, hhh⟩ : ∃ hh, hh = sha P := ⟨_, rfl⟩
      have hl32 : hh.length = 32 := by rw [hhh]; exact sha_length _
      rw [← hhh]
      obtain ⟨oc, hoc⟩ : ∃ oc, oc = (B8 hh).toArray := ⟨_, rfl⟩
      have hocz : oc.size = 32 := by rw [hoc]; simp [hl32]
      have Hinf : Hid ((Tryz.prog.info? 31).map (·.size) = some oc.size) := Lib.hid (by rw [hocz]; kernel_rfl)
      have Hocz : Hid ((Array.replicate 32 (Value.int .u8 0)).size = oc.size) := Lib.hid (by rw [hocz]; simp)
      have Hone : Hid (oc.all (·.oneCell') = true) := Lib.hid (by rw [hoc]; exact all_oneCell_toArray (B8_oneCell _))
      have Hoc := Lib.hid hoc
      have Hl32 := Lib.hid hl32
      have S3 := (S2.below hb3).mono hb3.size
      have K3 := (K2.below hb3).mono hb3.size
      have hb03 := hb02.trans (hb3.mono hb02.size)
      rw [← hoc]
      clear hoc hocz hhh hl32 S2 K2 hb3 hb02
      go_wp2_with (refine wpList_store_row rfl 31 (.tmp 12) (.tmp 62) rfl w3.heap.size oc rfl rfl 31 _ (heap_alloc_new w3 _) Hinf.out Hocz.out Hone.out ?_; rw [World.setRow_alloc_new])
      obtain ⟨w4, hw4⟩ : ∃ w4, w4 = w3.alloc (.cells oc 31) := ⟨_, rfl⟩
      obtain ⟨g4, hg4⟩ : ∃ g4, g4 = w3.heap.size := ⟨_, rfl⟩
      rw [← hw4, ← hg4]
      have hb34 : Below w3.heap.size w3 w4 := by rw [hw4]; exact (Below.refl _ _).alloc (Nat.le_refl _) _
      have hr4 : w4.heap[g4]? = some (.cells (B8 hh).toArray 31 (0, 0)) := by rw [hw4, hg4, ← Hoc.out]; exact heap_alloc_new w3 _
      have T4 := sl_of_row hr4
      have S4 := (S3.below hb34).mono hb34.size
      have hb04 := hb03.trans (hb34.mono hb03.size)
      clear hw4 hg4 hb34 hr4 S3 K3 hb03
      refine (segwit_any s (some ⟨g4, 0, none⟩) 32 hh Hl32.out w4 T4 hsz).mono ?_
      rintro e w5 ⟨five, h5, rfl, hb5⟩
      obtain ⟨F2, hF2⟩ : ∃ F2 : ByteArray, F2 = ⟨(b32 s.data.toList (0 :: five) (conK false)).2.toArray⟩ := ⟨_, rfl⟩
      obtain ⟨F1, hF1⟩ : ∃ F1, F1 = (b32 s.data.toList (0 :: five) (conK false)).1 := ⟨_, rfl⟩
      rw [← hF2, ← hF1]
      have HF2 := Lib.hid hF2
      have HF1 := Lib.hid hF1
      have H5 := Lib.hid h5
      have T5 := (T4.below hb5).mono hb5.size
      have S5 := (S4.below hb5).mono hb5.size
      have hb05 := hb04.trans (hb5.mono hb04.size)
      clear hF2 hF1 h5 T4 S4 hb5 hb04
      by_cases hF0 : F1 = 0
      · subst hF0
        go_wp2_with fail
        refine (fromsegwit_any s F2 hh five Hl32.out H5.out HF1.out.symm HF2.out w5).mono ?_
        rintro e w6 ⟨A6, c6, rfl, S6, hc6, hc6', hb6⟩
        have T6 := (T5.below hb6).mono hb6.size
        have S6' := (S5.below hb6).mono hb6.size
        have hb06 := hb05.trans (hb6.mono hb05.size)
        clear T5 S5 hb6 hb05
        go_wp2_with fail
        refine (paywitness_any A6 c6 hh Hl32.out w6 S6).mono ?_
        rintro e w7 ⟨v7, rfl, ho7, hb7⟩
        obtain ⟨A7, c7, rfl, hc7, hc7'⟩ := own_form ho7
        have O7 := ho7.sl
        obtain ⟨b7, o7, rfl, _⟩ := O7 (by simp)
        have T7 := (T6.below hb7).mono hb7.size
        have S7 := (S6'.below hb7).mono hb7.size
        have hb07 := hb06.trans (hb7.mono hb06.size)
        clear T6 S6 S6' hb7 hb06 ho7
        go_wp2_with fail
        refine (kind_witness b7 o7 c7 (0 :: 32 :: hh) hh rfl Hl32.out w7 O7).mono ?_
        rintro e w8 ⟨A8, rfl, K8, hb8⟩
        have T8 := (T7.below hb8).mono hb8.size
        have S8 := (S7.below hb8).mono hb8.size
        have hb08 := hb07.trans (hb8.mono hb07.size)
        clear T7 S7 hb8 hb07 O7
        go_wp2_with fail
        have hbx : Below w8.heap.size w8 (w8.alloc (.cells #[.slice (some ⟨g4, 0, none⟩) 32 32] 23)) := (Below.refl _ _).alloc (Nat.le_refl _) _
        refine (same_any _ (some ⟨w8.heap.size, 0, none⟩) 1 1 hh _ ((K8.below hbx).mono hbx.size) (keys_one Hl32.out T8 (Nat.le_refl _) (by simp [maxLen]) _ rfl)).mono ?_
        rintro e w9 ⟨rfl, hb9⟩
        have hB9 := hbx.trans (hb9.mono hbx.size)
        have S9 := (S8.below hB9).mono hB9.size
        have hb09 := hb08.trans (hB9.mono hb08.size)
        clear K8 T8 S8 hbx hb9 hB9 hb08
        go_wp2_with fail
        -- hb : Below w.heap.size w w9; the script lies there
        have hh1 := hash160_any (some ⟨b2, o2, none⟩) c2 P w9 S9 (by rw [← HL.out]; omega) (by rw [← HL.out]; exact hc2) hc2'
        rw [← HL.out] at hh1
        refine hh1.mono ?_
        clear hh1
        rintro e u1 ⟨⟨ys, hys, rfl⟩, hbu1⟩
        obtain ⟨yc, hyc⟩ : ∃ yc, yc = (B8 ys).toArray := ⟨_, rfl⟩
        have hycz : yc.size = 20 := by rw [hyc]; simp [hys]
        have Hinf2 : Hid ((Tryz.prog.info? 41).map (·.size) = some yc.size) := Lib.hid (by rw [hycz]; kernel_rfl)
        have Hycz : Hid ((Array.replicate 20 (Value.int .u8 0)).size = yc.size) := Lib.hid (by rw [hycz]; simp)
        have Hone2 : Hid (yc.all (·.oneCell') = true) := Lib.hid (by rw [hyc]; exact all_oneCell_toArray (B8_oneCell _))
        have Hyc := Lib.hid hyc
        have Hys := Lib.hid hys
        have SU1 := (S9.below hbu1).mono hbu1.size
        have hbw1 := hb09.trans (hbu1.mono (hb09).size)
        rw [← hyc]
        clear hyc hycz hys hbu1
        go_wp2_with (first | (refine wpList_store_row rfl 41 (.tmp 21) (.tmp 107) rfl u1.heap.size yc rfl rfl 41 _ (heap_alloc_new u1 _) Hinf2.out Hycz.out Hone2.out ?_; rw [World.setRow_alloc_new]; obtain ⟨u2, hu2⟩ : ∃ u2, u2 = u1.alloc (.cells yc 41) := ⟨_, rfl⟩; obtain ⟨g2, hg2⟩ : ∃ g2, g2 = u1.heap.size := ⟨_, rfl⟩; rw [← hu2, ← hg2]; have hb12 : Below u1.heap.size u1 u2 := (by rw [hu2]; exact (Below.refl _ _).alloc (Nat.le_refl _) _); have hr2 : u2.heap[g2]? = some (.cells (B8 ys).toArray 41 (0, 0)) := (by rw [hu2, hg2, ← Hyc.out]; exact heap_alloc_new u1 _); have Y2 := sl_of_row hr2; have SU2 := (SU1.below hb12).mono hb12.size; have hbw2 := hbw1.trans (hb12.mono hbw1.size); clear hu2 hg2 hr2 hb12 SU1 hbw1; have hYa : Sl (u2.alloc (.cells #[.int .u8 5] 5)) (u2.alloc (.cells #[.int .u8 5] 5)).heap.size (some ⟨g2, 0, none⟩) (B8 ys) := (Y2.alloc (Nat.le_refl _) _).mono (by simp); have ho5 : Ow (u2.alloc (.cells #[.int .u8 5] 5)) u2.heap.size 5 (.slice (some ⟨u2.heap.size, 0, none⟩) 1 1) (B8 [5]) := Ow.of_row (w := u2) (cap := 1) #[.int .u8 5] 5 u2.heap.size (Nat.le_refl _) rfl (by simp [maxLen]) 1 (Nat.le_refl _); have hba : Below u2.heap.size u2 (u2.alloc (.cells #[.int .u8 5] 5)) := (Below.refl _ u2).alloc (Nat.le_refl _) _; have hza := hba.size) | (at_builtin; go_loud (refine wpList_append_Ow (m := 20) (c := 20) (base := u2.heap.size) (xs := B8 [5]) (v := .slice (some ⟨u2.heap.size, 0, none⟩) 1 1) (A := some ⟨g2, 0, none⟩) (news := B8 ys) elB rfl (.tmp 108) (.tmp 109) rfl rfl ho5 rfl hYa (by rw [B8_length]; exact Hys.out) (B8_oneCell _) (by rw [B8_length]; simp [maxLen]) (by rw [B8_length]; simp) hza ?_); intro v3 u3 ho3 hg3 hr3; rw [← B8_append] at ho3; obtain ⟨bb, hbb⟩ : ∃ bb, bb = [5] ++ ys := ⟨_, rfl⟩; have hbl : bb.length = 21 := (by rw [hbb]; simp [Hys.out]); rw [← hbb] at ho3; obtain ⟨A3, c3, hv3, hc3, hc3'⟩ := own_form ho3; rw [hbl] at hv3 hc3; subst hv3; have Hbb := Lib.hid hbb; have Hbl := Lib.hid hbl; clear hbb hbl))
        have hB3 : Below u2.heap.size u2 u3 := hba.grown hg3 hza (fun r hr => (ho5.row r hr).1)
        have hck := check58_any A3 c3 bb u3 ho3.sl (by rw [Hbl.out]; omega) (by rw [Hbl.out]; exact hc3) hc3'
        rw [Hbl.out] at hck
        refine hck.mono ?_
        rintro e u4 ⟨rfl, hb4⟩
        clear hck
        obtain ⟨Z, hZ⟩ : ∃ Z : ByteArray, Z = ⟨(b58L (checked bb)).toArray⟩ := ⟨_, rfl⟩
        rw [← hZ]
        have hZs : Z.size ≤ 4096 := by rw [hZ, size_list]; have := size_of_fromC (fromC_to bb (by rw [Hbl.out]; omega)); omega
        have HZ := Lib.hid hZ
        have hB4 := hB3.trans (hb4.mono hB3.size)
        clear hZ hg3 hr3 ho3 hYa ho5 hba hza hB3 hb4
        go_wp2_with fail
        have hf := fromc58_full Z u4 hZs
        rw [show Z.data.toList = b58L (checked bb) from by rw [HZ.out], fromC_to bb (by rw [Hbl.out]; omega), Hbl.out] at hf
        refine hf.mono ?_
        rintro e u5 ⟨A5, c5, rfl, hl5, ⟨hc5, hc5'⟩, hb5⟩
        clear hf
        obtain ⟨b5, o5, rfl, hbl5, hcell5⟩ := hl5 (by rw [B8_length, Hbl.out]; omega)
        have hra : u5.rangeAt b5 (o5 + 1) (B8 ys) := fun j v hv => by
          obtain ⟨hj, hjv⟩ := List.getElem?_eq_some_iff.1 hv
          rw [B8_length] at hj
          have h1 := hcell5 (j + 1) (by rw [B8_length, Hbl.out]; have := Hys.out; omega)
          rw [show o5 + 1 + j = o5 + (j + 1) by omega, h1, ← hjv]
          simp [B8, Hbb.out]
        have HR := Lib.hid hra
        have hB5 := hB4.trans (hb5.mono hB4.size)
        have Hin5 : Hid ((Tryz.prog.info? 41).map (·.size) = some (B8 ys).length) := Lib.hid (by rw [B8_length, Hys.out]; kernel_rfl)
        clear hra hcell5 hl5 hB4 hb5
        go_wp2_with fail
        rw [run_arrayAt (some ⟨b5, o5 + 1, none⟩) 20 (c5 - 1) u5 Tryz.underlying41 (Nat.le_refl _)]
        go_wp2_with (refine wpList_load_mid rfl 41 (.tmp 127) rfl b5 (o5 + 1) rfl (B8 ys) _ HR.out Tryz.underlying41 rfl Hin5.out ?_)
        refine (payscript_any ys Hys.out u5).mono ?_
        rintro e u6 ⟨v6, rfl, ho6, hb6⟩
        obtain ⟨S7, hS7⟩ : ∃ S7, S7 = [169, 20] ++ ys ++ [135] := ⟨_, rfl⟩
        have hl7 : S7.length = 23 := by rw [hS7]; simp [Hys.out]
        rw [← hS7] at ho6
        obtain ⟨A6, c6, rfl, hc6, hc6'⟩ := own_form ho6
        have O6 := ho6.sl
        obtain ⟨b6, o6, rfl, _⟩ := O6 (by rw [B8_length, hl7]; omega)
        have H7 := Lib.hid hS7
        have hks := kind_script b6 o6 c6 S7 ys hS7 Hys.out u6 O6
        rw [hl7] at hks hc6 ⊢
        have hB6 := hB5.trans (hb6.mono hB5.size)
        clear ho6 hS7 hl7 hB5 hb6
        go_wp2_with fail
        refine hks.mono ?_
        clear hks
        rintro e u7 ⟨A7, rfl, K7, hb7⟩
        have hB7 := hB6.trans (hb7.mono hB6.size)
        have SU7 := (SU2.below hB7).mono hB7.size
        have hkm := kind_multi b2 o2 c2 P q ks HP.out u7 Hk.out hq hqn h16 SU7
        rw [← HL.out, ← Hn.out] at hkm
        clear O6 hB6 hb7 HR
        go_wp2_with fail
        refine hkm.mono ?_
        clear hkm
        rintro e u8 ⟨A8, c8, rfl, hb8⟩
        have hB8 := hB7.trans (hb8.mono hB7.size)
        have Y8 := (Y2.below hB8).mono hB8.size
        have K8 := (K7.below hb8).mono hb8.size
        clear K7 hb8 hB7 SU7 SU2
        go_wp2_with fail
        have hbz : Below u8.heap.size u8 (u8.alloc (.cells #[.slice (some ⟨g2, 0, none⟩) 20 20] 23)) := (Below.refl _ _).alloc (Nat.le_refl _) _
        refine (same_any (some A7) (some ⟨u8.heap.size, 0, none⟩) 1 1 ys _ ((K8.below hbz).mono hbz.size) (keys_one Hys.out Y8 (Nat.le_refl _) (by simp [maxLen]) _ rfl)).mono ?_
        rintro e u9 ⟨rfl, hb9⟩
        have hB9 := hB8.trans ((hbz.trans (hb9.mono hbz.size)).mono hB8.size)
        have hZ := hbw2.trans (hB9.mono hbw2.size)
        clear K8 Y8 hbz hb9 hB9 hB8 hbw2
        go_wp2_with fail
        go_ret
        exact ⟨by simp, hZ⟩
      · have hF0' : ¬ ((F1 : Int) = 0) := by omega
        go_wp2_with fail
        -- hb : Below w.heap.size w w5; the script lies there
        have hh1 := hash160_any (some ⟨b2, o2, none⟩) c2 P w5 S5 (by rw [← HL.out]; omega) (by rw [← HL.out]; exact hc2) hc2'
        rw [← HL.out] at hh1
        refine hh1.mono ?_
        clear hh1
        rintro e u1 ⟨⟨ys, hys, rfl⟩, hbu1⟩
        obtain ⟨yc, hyc⟩ : ∃ yc, yc = (B8 ys).toArray := ⟨_, rfl⟩
        have hycz : yc.size = 20 := by rw [hyc]; simp [hys]
        have Hinf2 : Hid ((Tryz.prog.info? 41).map (·.size) = some yc.size) := Lib.hid (by rw [hycz]; kernel_rfl)
        have Hycz : Hid ((Array.replicate 20 (Value.int .u8 0)).size = yc.size) := Lib.hid (by rw [hycz]; simp)
        have Hone2 : Hid (yc.all (·.oneCell') = true) := Lib.hid (by rw [hyc]; exact all_oneCell_toArray (B8_oneCell _))
        have Hyc := Lib.hid hyc
        have Hys := Lib.hid hys
        have SU1 := (S5.below hbu1).mono hbu1.size
        have hbw1 := hb05.trans (hbu1.mono (hb05).size)
        rw [← hyc]
        clear hyc hycz hys hbu1
        go_wp2_with (first | (refine wpList_store_row rfl 41 (.tmp 21) (.tmp 107) rfl u1.heap.size yc rfl rfl 41 _ (heap_alloc_new u1 _) Hinf2.out Hycz.out Hone2.out ?_; rw [World.setRow_alloc_new]; obtain ⟨u2, hu2⟩ : ∃ u2, u2 = u1.alloc (.cells yc 41) := ⟨_, rfl⟩; obtain ⟨g2, hg2⟩ : ∃ g2, g2 = u1.heap.size := ⟨_, rfl⟩; rw [← hu2, ← hg2]; have hb12 : Below u1.heap.size u1 u2 := (by rw [hu2]; exact (Below.refl _ _).alloc (Nat.le_refl _) _); have hr2 : u2.heap[g2]? = some (.cells (B8 ys).toArray 41 (0, 0)) := (by rw [hu2, hg2, ← Hyc.out]; exact heap_alloc_new u1 _); have Y2 := sl_of_row hr2; have SU2 := (SU1.below hb12).mono hb12.size; have hbw2 := hbw1.trans (hb12.mono hbw1.size); clear hu2 hg2 hr2 hb12 SU1 hbw1; have hYa : Sl (u2.alloc (.cells #[.int .u8 5] 5)) (u2.alloc (.cells #[.int .u8 5] 5)).heap.size (some ⟨g2, 0, none⟩) (B8 ys) := (Y2.alloc (Nat.le_refl _) _).mono (by simp); have ho5 : Ow (u2.alloc (.cells #[.int .u8 5] 5)) u2.heap.size 5 (.slice (some ⟨u2.heap.size, 0, none⟩) 1 1) (B8 [5]) := Ow.of_row (w := u2) (cap := 1) #[.int .u8 5] 5 u2.heap.size (Nat.le_refl _) rfl (by simp [maxLen]) 1 (Nat.le_refl _); have hba : Below u2.heap.size u2 (u2.alloc (.cells #[.int .u8 5] 5)) := (Below.refl _ u2).alloc (Nat.le_refl _) _; have hza := hba.size) | (at_builtin; go_loud (refine wpList_append_Ow (m := 20) (c := 20) (base := u2.heap.size) (xs := B8 [5]) (v := .slice (some ⟨u2.heap.size, 0, none⟩) 1 1) (A := some ⟨g2, 0, none⟩) (news := B8 ys) elB rfl (.tmp 108) (.tmp 109) rfl rfl ho5 rfl hYa (by rw [B8_length]; exact Hys.out) (B8_oneCell _) (by rw [B8_length]; simp [maxLen]) (by rw [B8_length]; simp) hza ?_); intro v3 u3 ho3 hg3 hr3; rw [← B8_append] at ho3; obtain ⟨bb, hbb⟩ : ∃ bb, bb = [5] ++ ys := ⟨_, rfl⟩; have hbl : bb.length = 21 := (by rw [hbb]; simp [Hys.out]); rw [← hbb] at ho3; obtain ⟨A3, c3, hv3, hc3, hc3'⟩ := own_form ho3; rw [hbl] at hv3 hc3; subst hv3; have Hbb := Lib.hid hbb; have Hbl := Lib.hid hbl; clear hbb hbl))
        have hB3 : Below u2.heap.size u2 u3 := hba.grown hg3 hza (fun r hr => (ho5.row r hr).1)
        have hck := check58_any A3 c3 bb u3 ho3.sl (by rw [Hbl.out]; omega) (by rw [Hbl.out]; exact hc3) hc3'
        rw [Hbl.out] at hck
        refine hck.mono ?_
        rintro e u4 ⟨rfl, hb4⟩
        clear hck
        obtain ⟨Z, hZ⟩ : ∃ Z : ByteArray, Z = ⟨(b58L (checked bb)).toArray⟩ := ⟨_, rfl⟩
        rw [← hZ]
        have hZs : Z.size ≤ 4096 := by rw [hZ, size_list]; have := size_of_fromC (fromC_to bb (by rw [Hbl.out]; omega)); omega
        have HZ := Lib.hid hZ
        have hB4 := hB3.trans (hb4.mono hB3.size)
        clear hZ hg3 hr3 ho3 hYa ho5 hba hza hB3 hb4
        go_wp2_with fail
        have hf := fromc58_full Z u4 hZs
        rw [show Z.data.toList = b58L (checked bb) from by rw [HZ.out], fromC_to bb (by rw [Hbl.out]; omega), Hbl.out] at hf
        refine hf.mono ?_
        rintro e u5 ⟨A5, c5, rfl, hl5, ⟨hc5, hc5'⟩, hb5⟩
        clear hf
        obtain ⟨b5, o5, rfl, hbl5, hcell5⟩ := hl5 (by rw [B8_length, Hbl.out]; omega)
        have hra : u5.rangeAt b5 (o5 + 1) (B8 ys) := fun j v hv => by
          obtain ⟨hj, hjv⟩ := List.getElem?_eq_some_iff.1 hv
          rw [B8_length] at hj
          have h1 := hcell5 (j + 1) (by rw [B8_length, Hbl.out]; have := Hys.out; omega)
          rw [show o5 + 1 + j = o5 + (j + 1) by omega, h1, ← hjv]
          simp [B8, Hbb.out]
        have HR := Lib.hid hra
        have hB5 := hB4.trans (hb5.mono hB4.size)
        have Hin5 : Hid ((Tryz.prog.info? 41).map (·.size) = some (B8 ys).length) := Lib.hid (by rw [B8_length, Hys.out]; kernel_rfl)
        clear hra hcell5 hl5 hB4 hb5
        go_wp2_with fail
        rw [run_arrayAt (some ⟨b5, o5 + 1, none⟩) 20 (c5 - 1) u5 Tryz.underlying41 (Nat.le_refl _)]
        go_wp2_with (refine wpList_load_mid rfl 41 (.tmp 127) rfl b5 (o5 + 1) rfl (B8 ys) _ HR.out Tryz.underlying41 rfl Hin5.out ?_)
        refine (payscript_any ys Hys.out u5).mono ?_
        rintro e u6 ⟨v6, rfl, ho6, hb6⟩
        obtain ⟨S7, hS7⟩ : ∃ S7, S7 = [169, 20] ++ ys ++ [135] := ⟨_, rfl⟩
        have hl7 : S7.length = 23 := by rw [hS7]; simp [Hys.out]
        rw [← hS7] at ho6
        obtain ⟨A6, c6, rfl, hc6, hc6'⟩ := own_form ho6
        have O6 := ho6.sl
        obtain ⟨b6, o6, rfl, _⟩ := O6 (by rw [B8_length, hl7]; omega)
        have H7 := Lib.hid hS7
        have hks := kind_script b6 o6 c6 S7 ys hS7 Hys.out u6 O6
        rw [hl7] at hks hc6 ⊢
        have hB6 := hB5.trans (hb6.mono hB5.size)
        clear ho6 hS7 hl7 hB5 hb6
        go_wp2_with fail
        refine hks.mono ?_
        clear hks
        rintro e u7 ⟨A7, rfl, K7, hb7⟩
        have hB7 := hB6.trans (hb7.mono hB6.size)
        have SU7 := (SU2.below hB7).mono hB7.size
        have hkm := kind_multi b2 o2 c2 P q ks HP.out u7 Hk.out hq hqn h16 SU7
        rw [← HL.out, ← Hn.out] at hkm
        clear O6 hB6 hb7 HR
        go_wp2_with fail
        refine hkm.mono ?_
        clear hkm
        rintro e u8 ⟨A8, c8, rfl, hb8⟩
        have hB8 := hB7.trans (hb8.mono hB7.size)
        have Y8 := (Y2.below hB8).mono hB8.size
        have K8 := (K7.below hb8).mono hb8.size
        clear K7 hb8 hB7 SU7 SU2
        go_wp2_with fail
        have hbz : Below u8.heap.size u8 (u8.alloc (.cells #[.slice (some ⟨g2, 0, none⟩) 20 20] 23)) := (Below.refl _ _).alloc (Nat.le_refl _) _
        refine (same_any (some A7) (some ⟨u8.heap.size, 0, none⟩) 1 1 ys _ ((K8.below hbz).mono hbz.size) (keys_one Hys.out Y8 (Nat.le_refl _) (by simp [maxLen]) _ rfl)).mono ?_
        rintro e u9 ⟨rfl, hb9⟩
        have hB9 := hB8.trans ((hbz.trans (hb9.mono hbz.size)).mono hB8.size)
        have hZ := hbw2.trans (hB9.mono hbw2.size)
        clear K8 Y8 hbz hb9 hB9 hB8 hbw2
        go_wp2_with fail
        go_ret
        exact ⟨by simp, hZ⟩
    · have hne : ¬ (((payR m ks).1 : Int) = 0) := by omega
      obtain ⟨E, hE⟩ : ∃ E, E = (payR m ks).1 := ⟨_, rfl⟩
      have hr := rpay_any m A c ks w2 K2 (by rw [← Hn.out]; omega) h0
      rw [← hE] at hr hne ⊢
      rw [← Hn.out] at hr
      have Hr := Lib.hid hr
      clear hr h0 hE ho2
      go_wp2_with fail
      refine Hr.out.mono ?_
      rintro e w3 ⟨⟨v3, rfl⟩, hb3⟩
      go_wp2_with fail
      go_ret
      exact ⟨rfl, hb02.trans (hb3.mono hb02.size)⟩
end Go.Proofs.YtkiigonikeeikaaGreatDoor

/-! Of every input: the law StrongboxAddressed returns true, and each argument reads as it did; the package-level variables that its row lists start as the program's text lays them. -/
namespace Go.Proofs.YtkiigonikeeikaaGreatDoor
open Go.ChangeShapes Go.WideShapes Go.ChangeAt Go.RowKit
open Go.ChangeMaps (open_string shut_string)

theorem sl_ints {W : World} {a : Addr} {zs : List Int} {len : Nat} (hl : len ≤ zs.length) (hc : ∀ i, i < zs.length → W.cell? (a.add i) = some (.int .u8 (zs.getD i 0))) (hwf : ∀ n ∈ zs, (Lit.int .u8 n).wf = true) :
    Sl W W.heap.size (some a) (B8 ((zs.take len).map fun n => UInt8.ofNat n.toNat)) := fun hn => by
  have h0 : 0 < len := by simp at hn; omega
  obtain ⟨b, off, rfl, hcell⟩ := ints_at hc (by omega)
  refine ⟨b, off, rfl, World.block_lt_of_cell? W ⟨b, off + 0, none⟩ (hcell 0 (by omega)), fun j hj => ?_⟩
  have hj' : j < len := by simp at hj; omega
  have hjz : j < zs.length := by omega
  have hm := hwf zs[j] (List.getElem_mem _)
  have hb : 0 ≤ zs[j] ∧ zs[j] ≤ 255 := by simpa [Lit.wf, IntKind.min, IntKind.max, IntKind.signed, IntKind.bits] using hm
  rw [hcell j hjz]
  have hg : zs.getD j 0 = zs[j] := by simp [hjz]
  rw [hg]
  have he : ((UInt8.ofNat zs[j].toNat).toNat : Int) = zs[j] := by
    rw [UInt8.toNat_ofNat', Nat.mod_eq_of_lt (by omega)]; omega
  simp only [B8, List.getElem_map, List.getElem_take]
  exact congrArg (fun x => some (Value.int .u8 x)) he.symm

theorem keys_of_rows {W : World} {a : Addr} {len cap : Nat} {A : Nat → Option Addr} {L C : Nat → Nat} {Z : Nat → List Int} (hl : len ≤ cap)
    (h : ∀ r, r < cap → W.cell? (a.add r) = some (.slice (A r) (L r) (C r)) ∧ L r ≤ C r ∧ C r ≤ maxLen ∧ (Z r).length = C r ∧ (∀ n ∈ Z r, (Lit.int .u8 n).wf = true) ∧ (A r = none → C r = 0) ∧
      ∀ a', A r = some a' → 0 ≤ a'.block ∧ ∀ c, c < C r → W.cell? (a'.add c) = some (.int .u8 ((Z r).getD c 0))) :
    ∃ ks : List (List UInt8), ks.length = len ∧ Keys W W.heap.size (some a) ks := by
  refine ⟨(List.range len).map fun r => ((Z r).take (L r)).map fun n => UInt8.ofNat n.toNat, by simp, fun hn => ?_⟩
  have h0 : 0 < len := by simpa using hn
  obtain ⟨b, off, spot⟩ := a
  have hspot : spot = none := by simpa [Addr.add] using World.cell?_spot (h 0 (by omega)).1
  subst hspot
  have hb : b < W.heap.size := by
    have h1 := (h 0 (by omega)).1
    rw [Go.WideShapes.add_plain] at h1
    exact World.block_lt_of_cell? W ⟨b, off + 0, none⟩ h1
  refine ⟨b, off, rfl, hb, fun j hj => ?_⟩
  have hj' : j < len := by simpa using hj
  obtain ⟨h1, h2, h3, h4, h5, h6, h7⟩ := h j (by omega)
  rw [Go.WideShapes.add_plain] at h1
  simp only [List.getElem_map, List.getElem_range]
  refine ⟨A j, C j, ?_, ?_, by simp; omega, h3⟩
  · rw [h1]; simp [h4, Nat.min_eq_left h2]
  · cases hA : A j with
    | none => rw [show L j = 0 by have := h6 hA; omega]; exact Sl.nil
    | some a' => exact sl_ints (by omega) (fun i hi => (h7 a' hA).2 i (by omega)) h5

theorem row_own : ownKnob Tryz.prog.godebug = none := by kernel_rfl
theorem row_out : laidOutB Tryz.prog = true := by kernel_rfl

set_option maxRecDepth 100000 in
theorem row_lifted (os : Os) (started : os.Started) (H : Type) (enc : TypeId × Value → H) :
    ReturnsInHanded {} Tryz.checked os 3 .any (fun w args => (Rows.strongboxAddressedSpec.pre enc Tryz.prog Tryz.f3 Rows.strongboxAddressedRow.domain false w args ∧ laidMetH Tryz.prog Rows.strongboxAddressedRow.laid w) ∧ sizedMet enc Tryz.prog Tryz.f3 (OpenSpec.ofChange Rows.strongboxAddressedSpec) false w args)
      (Rows.strongboxAddressedSpec.post enc Tryz.prog Tryz.f3 false true false false) := by
  refine returnsInHanded_of_change_and (C := Tryz.checked) (X := fun w _ => laidMetH Tryz.prog Rows.strongboxAddressedRow.laid w) (fun _ _ _ hh h => h.of_heap hh) row_own started (by kernel_rfl) Tryz.func3
    (ChangeSpec.witness_shaped (enc := enc) (C := Tryz.checked) (os := os) (X := fun w _ => laidMetH Tryz.prog Rows.strongboxAddressedRow.laid w) false (World.laidAll Tryz.prog os Rows.strongboxAddressedRow.laid) #[.int .i64 0, .slice none 0 0, .string ⟨#[]⟩] 8 (World.laidAll_os _ _ _)
      (World.shaped_of_ZipB (by kernel_rfl) (by kernel_rfl)) (by kernel_rfl) (by kernel_rfl) (by kernel_rfl)
      (by rw [MakeChecks.laidMetH_plain _ _ _ (by kernel_rfl)]; exact laidMet_laidAll _ (by kernel_rfl) (by kernel_rfl))) ?_
  intro W base args ds gs before hval0 hW _ _ _ _
  have hval : ∀ (j : Nat) t v, Tryz.f3.params[j]? = some t → args[j]? = some v → Value.okWide Tryz.prog W .any base t v := hval0
  have hW' := hW
  obtain ⟨p, q, hA0, hV, rfl, _, _⟩ := hW
  have hA : DataW.TrodAll enc Tryz.prog W 0 (fun _ => true) true Tryz.f3.params.toList args.toList ds p := hA0
  rw [Tryz.params3] at hA hval
  obtain ⟨v0, v1, v2, d0, d1, d2, p0, p1, p2, rfl, rfl, rfl, h0, h1, h2⟩ := trodAll_three hA
  obtain ⟨rfl, rfl⟩ := trodVars_none hV
  have k1 := h1
  obtain ⟨m, rfl, rfl, rfl, hm⟩ := open_int Tryz.underlying3 (hval 0 3 v0 rfl rfl) h0
  obtain ⟨s, rfl, rfl, rfl, hs⟩ := open_string Tryz.underlying9 (hval 2 9 v2 rfl rfl) h2
  obtain ⟨a0, len, cap, rfl⟩ := okWide_slice Tryz.underlying22 (hval 1 22 v1 rfl rfl)
  obtain ⟨fuel, hf⟩ := h1
  have hc5 : Tryz.prog.cellsOf 5 = 1 := by kernel_rfl
  have hc6 : Tryz.prog.cellsOf 23 = 1 := by kernel_rfl
  have hsl : ∃ ks : List (List UInt8), ks.length = len ∧ len ≤ cap ∧ Keys W W.heap.size a0 ks := by
    rcases Go.Deep.open_int_rows Tryz.underlying22 Tryz.underlying23 Tryz.underlying5 hc6 hc5 hf with ⟨hcs, _⟩ | ⟨a, len', cap', A, L, C, Z, hcs, _, hle, hmax, _, hrow⟩
    · simp [Value.cells] at hcs
      obtain ⟨rfl, rfl, rfl⟩ := hcs
      exact ⟨[], rfl, Nat.le_refl _, fun hn => absurd hn (by simp)⟩
    · simp [Value.cells] at hcs
      obtain ⟨rfl, rfl, rfl⟩ := hcs
      obtain ⟨ks, h1, h2⟩ := keys_of_rows hle hrow
      exact ⟨ks, h1, hle, h2⟩
  obtain ⟨ks, hbl, hle, hsl⟩ := hsl
  have hlaw := addr_law m a0 cap ks s W hsl (by omega) hs
  rw [hbl] at hlaw
  refine hlaw.mono fun e W' ⟨he, hb⟩ => ?_
  subst he
  have hlt : ∀ x ∈ p1, x.block < W.heap.size := fun x hx => hW'.lt x (by simp [hx])
  exact ⟨_, rfl, _, _, _, [], _, [], hW', trodAll_mk1 (shut_bool Tryz.underlying4 _), trodAll_mk3 (shut_int Tryz.underlying3 hm) (Below.trod row_out (by kernel_rfl) (of_decide_eq_true (by kernel_rfl)) k1 hb hlt) (shut_string Tryz.underlying9 hs), rfl, hb.frame _, fun h => by cases h⟩

theorem row_holds : Rows.StrongboxAddressedSaid :=
  OpenClaim.holds_of_wide 3 Tryz.f3 rfl rfl rfl rfl rfl rfl rfl ⟨rfl, rfl, rfl, rfl, rfl⟩ rfl rfl rfl rfl rfl (by kernel_rfl) Tryz.func3 (by kernel_rfl)
    (of_decide_eq_true (by kernel_rfl)) (by unfold Func.isWrapper; first | (rw [if_pos (by decide +kernel)]; kernel_rfl) | (rw [if_neg (by decide +kernel)]; exact ⟨rfl, rfl⟩))
    (fun os started H enc _ => row_lifted os started H enc)

theorem strongboxAddressed_card : Rows.StrongboxAddressedCardSaid :=
  Claim7.holds_tied_plain_at .later [] [.data, .pinned, .pinned] true (true, "2f6e7d2f8b9d8c386dd0cb3c0dd2b934bf0f0c2cbee0e8e122c3b3dda89a8370") true row_holds (fun _ h => by cases h) (by kernel_rfl) (fun _ h => by cases h) strongboxAddressed_row_tie rfl ⟨rfl, rfl⟩ (by kernel_rfl) rfl
    (fun f fn hf hfn => by
      obtain rfl : f = 3 := Option.some.inj ((show Tryz.prog.funcNamed "strongbox/strongboxtop.StrongboxAddressed" = some 3 by kernel_rfl).symm.trans hf) |>.symm
      obtain rfl : fn = Tryz.f3 := (Option.some.inj (Tryz.func3.symm.trans hfn)).symm
      exact ⟨by kernel_rfl, fun j t ht => by
        rw [Tryz.params3] at ht
        have hm : t ∈ [3, 22, 9] := by simpa using Array.mem_of_getElem? ht
        have hall : ([3, 22, 9].all fun u => !Tryz.prog.wantsStandIn u) = true := by kernel_rfl
        exact (show Tryz.prog.wantsStandIn t = false by simpa using List.all_eq_true.1 hall t hm)⟩)
    (by kernel_rfl)
#print axioms strongboxAddressed_card
end Go.Proofs.YtkiigonikeeikaaGreatDoor
