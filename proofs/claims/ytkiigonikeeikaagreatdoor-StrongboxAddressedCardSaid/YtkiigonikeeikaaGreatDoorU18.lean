/- text.Bech32. | The reference's step and sum of bech32. | The reference's Bech32. | strings.ToLower where nothing is great; text.plain. -/
import Derived.Test.YtkiigonikeeikaaGreatDoorU17
import Derived.Test.YtkiigonikeeikaaGreatDoorU16

/-! text.Bech32. -/
namespace Go.Proofs.YtkiigonikeeikaaGreatDoor
open Go.RowKit Go.Shelf

def okc (c : UInt8) : Bool := decide (33 ≤ c.toNat) && decide (c.toNat ≤ 126) && (decide (c.toNat < 65) || decide (90 < c.toNat))
def goodH (s : List UInt8) : Bool := !s.isEmpty && s.all okc
/-- What Bech32 says: an error's number, and a text. -/
def b32 (s data : List UInt8) (K : BitVec 64) : Nat × List UInt8 :=
  if 83 < s.length ∨ 90 < s.length + data.length + 7 then (2, [])
  else if goodH s then (0, s ++ [49] ++ (data ++ lets6 (bech (spreadL s ++ data ++ List.replicate 6 0) ^^^ K) 6).map let32)
  else (3, [])

def badK (s : List UInt8) (k : Nat) : Bool := s.isEmpty || !((s.take k).all okc)
theorem badK_succ (s : List UInt8) (k : Nat) (y : UInt8) (h : s[k]? = some y) : badK s (k + 1) = (badK s k || !okc y) := by
  unfold badK
  rw [List.take_add_one, h, List.all_append]
  simp [Bool.or_assoc]
theorem badK_all (s : List UInt8) (k : Nat) (h : s.length ≤ k) : badK s k = !goodH s := by
  unfold badK goodH
  rw [List.take_of_length_le h]
  simp

set_option maxRecDepth 100000 in
set_option maxHeartbeats 4000000 in
theorem bech32_any (s : ByteArray) (A : Option Addr) (c : Nat) (D : List UInt8) (m : Bool) (w : World) (hs : Sl w w.heap.size A (B8 D)) (h32 : ∀ x ∈ D, x.toNat < 32) (hl : D.length ≤ 4096) (hsz : s.size ≤ maxLen) :
    Calls Tryz.prog 27 #[.string s, .slice A D.length c, .bool m] w fun e W' => e = .returned (.tuple #[.string ⟨(b32 s.data.toList D (conK m)).2.toArray⟩, .int .i64 ((b32 s.data.toList D (conK m)).1 : Int)]) ∧ Below w.heap.size w W' := by
  unfold maxLen at hsz
  have hS : s.data.toList.length = s.size := by simp
  obtain ⟨S, hSS⟩ : ∃ S, S = s.data.toList := ⟨_, rfl⟩
  rw [← hSS] at hS ⊢
  obtain ⟨F, hF⟩ : ∃ F, F = b32 S D (conK m) := ⟨_, rfl⟩
  rw [← hF]
  have HSS := Lib.hid hSS
  have HS := Lib.hid hS
  have HF := Lib.hid hF
  have H32 := Lib.hid h32
  clear hSS hS hF h32
  by_cases h83 : 83 < s.size
  · have hFv : F = (2, []) := by rw [HF.out, b32, if_pos (.inl (by rw [HS.out]; exact h83))]
    have HFv := Lib.hid hFv
    clear hFv
    go_enter Tryz.func27, Tryz.ntmps27
    go_wp2_with fail
    go_ret2
    rw [HFv.out]
    exact ⟨rfl, Below.refl _ _⟩
  by_cases h90 : 90 < s.size + D.length + 7
  · have hFv : F = (2, []) := by rw [HF.out, b32, if_pos (.inr (by rw [HS.out]; exact h90))]
    have HFv := Lib.hid hFv
    clear hFv
    go_enter Tryz.func27, Tryz.ntmps27
    go_wp2_with fail
    go_ret2
    rw [HFv.out]
    exact ⟨rfl, Below.refl _ _⟩
  have hFv : F = if goodH S then (0, S ++ [49] ++ (D ++ lets6 (bech (spreadL S ++ D ++ List.replicate 6 0) ^^^ conK m) 6).map let32) else (3, []) := by rw [HF.out, b32, if_neg (by rw [HS.out]; omega)]
  have HF := Lib.hid hFv
  clear hFv
  go_enter Tryz.func27, Tryz.ntmps27
  go_wp2_with fail
  rw [ByteArray.toList_eq, ← HSS.out]
  obtain ⟨b0, hb0⟩ : ∃ b0, b0 = S.isEmpty := ⟨_, rfl⟩
  rw [← hb0]
  have Hb0 := Lib.hid hb0
  clear hb0
  go_loopw [8, 34] (fun bv i wr => ∃ k : Nat, wr = w ∧ k ≤ s.size ∧ i = .int .i64 k ∧ bv = .bool (badK S k)) (fun _ i _ => s.size - (intOf i).toNat)
  case atStart => exact ⟨0, rfl, Nat.zero_le _, rfl, by rw [Hb0.out]; simp [badK]⟩
  case round =>
    obtain ⟨k, rfl, hk, rfl, rfl⟩ := hrel
    obtain ⟨bv, hbv⟩ : ∃ bv, bv = badK S k := ⟨_, rfl⟩
    rw [← hbv]
    have Hbv := Lib.hid hbv
    clear hbv
    by_cases hlt : k < s.size
    · obtain ⟨y, hy⟩ : ∃ y, y = s[k] := ⟨_, rfl⟩
      have hyS : S[k]? = some y := by rw [HSS.out, hy]; simp [hlt]; rfl
      have hnx := badK_succ S k y hyS
      rw [← Hbv.out] at hnx
      have Hnx := Lib.hid hnx
      have hs1 : ∀ h, s[k]'h = y := fun h => hy.symm
      have hy8 := y.toNat_lt
      clear hnx hyS hy
      cases bv with
      | true =>
        go_wp2_with fail
        exact ⟨⟨k + 1, trivial, by omega, rfl, by rw [Hnx.out]; rfl⟩, by simp [intOf]; omega⟩
      | false =>
        by_cases h1 : y.toNat < 33
        · go_wp2_with fail
          exact ⟨⟨k + 1, trivial, by omega, rfl, by rw [Hnx.out]; simp [okc]; omega⟩, by simp [intOf]; omega⟩
        by_cases h2 : 126 < y.toNat
        · go_wp2_with fail
          exact ⟨⟨k + 1, trivial, by omega, rfl, by rw [Hnx.out]; simp [okc]; omega⟩, by simp [intOf]; omega⟩
        by_cases h3 : 65 ≤ y.toNat
        · by_cases h4 : y.toNat ≤ 90
          · have hok : okc y = false := by simp [okc]; omega
            rw [hok] at Hnx
            clear hok
            go_wp2_with fail
            exact ⟨⟨k + 1, trivial, by omega, rfl, by rw [Hnx.out]; simp; omega⟩, by simp [intOf]; omega⟩
          · have hok : okc y = true := by simp [okc]; omega
            rw [hok] at Hnx
            clear hok
            go_wp2_with fail
            exact ⟨⟨k + 1, trivial, by omega, rfl, by rw [Hnx.out]; simp; omega⟩, by simp [intOf]; omega⟩
        · have hok : okc y = true := by simp [okc]; omega
          rw [hok] at Hnx
          clear hok
          go_wp2_with fail
          exact ⟨⟨k + 1, trivial, by omega, rfl, by rw [Hnx.out]; simp; omega⟩, by simp [intOf]; omega⟩
    · obtain rfl : k = s.size := by omega
      have hgd : bv = !goodH S := by rw [Hbv.out]; exact badK_all S _ (by rw [HS.out]; exact Nat.le_refl _)
      have Hgd := Lib.hid hgd
      clear hgd
      go_wp2_with fail
      obtain ⟨wS, rfl⟩ : ∃ wS, wS = wr := ⟨_, rfl⟩
      go_loopw [8, 65] (fun bv' i wr => ∃ k : Nat, wr = wS ∧ k ≤ D.length ∧ i = .int .i64 k ∧ bv' = .bool bv) (fun _ i _ => D.length - (intOf i).toNat)
      case atStart => exact ⟨0, rfl, Nat.zero_le _, rfl, rfl⟩
      case round =>
        obtain ⟨k, rfl, hk, rfl, rfl⟩ := hrel
        by_cases hlt : k < D.length
        · obtain ⟨y, hy⟩ : ∃ y, y = D[k] := ⟨_, rfl⟩
          have hy32 : y.toNat < 32 := H32.out y (by rw [hy]; exact List.getElem_mem _)
          obtain ⟨b9, o9, rfl, hb9, hcl9⟩ := hs.at_ hlt
          have hcell : wr.cell? ⟨b9, o9 + k, none⟩ = some (.int .u8 (y.toNat : Int)) := by rw [hcl9 k hlt, hy]
          clear hcl9 hy
          cases bv with
          | true =>
            go_wp2_with fail
            exact ⟨⟨k + 1, trivial, by omega, rfl, rfl⟩, by simp [intOf]; omega⟩
          | false =>
            go_wp2_with fail
            exact ⟨⟨k + 1, trivial, by omega, rfl, by congr 1; simp; omega⟩, by simp [intOf]; omega⟩
        · cases bv with
          | true =>
            have hFv : F = (3, []) := by rw [HF.out, if_neg (by have := Hgd.out; simp at this; simp [← this])]
            have HFv := Lib.hid hFv
            clear hFv
            go_wp2_with fail
            go_ret2
            rw [HFv.out]
            exact ⟨rfl, Below.refl _ _⟩
          | false =>
            have hgt : goodH S = true := by have := Hgd.out; simpa using this.symm
            have hFv : F = (0, S ++ [49] ++ (D ++ lets6 (bech (spreadL S ++ D ++ List.replicate 6 0) ^^^ conK m) 6).map let32) := by rw [HF.out, if_pos hgt]
            have HFv := Lib.hid hFv
            clear hFv hgt HF Hgd
            obtain rfl : k = D.length := by omega
            go_wp2_with fail
            refine (spread_any s _ (by omega)).mono ?_
            rintro e w1 ⟨v1, rfl, ho1, hb1⟩
            rw [← HSS.out] at ho1
            obtain ⟨A1, c1, rfl, hc1, hc1'⟩ := own_form ho1
            have hspl : (spreadL S).length = 2 * s.size + 1 := by rw [spreadL_length, HS.out]
            obtain ⟨n1, hn1⟩ : ∃ n1, n1 = (spreadL S).length := ⟨_, rfl⟩
            rw [← hn1] at ho1 hc1 ⊢
            rw [← hn1] at hspl
            have hn1l : n1 ≤ 200 := by omega
            have Hn1 := Lib.hid hn1
            have Hspl := Lib.hid hspl
            have hs1 := (hs.below hb1).mono hb1.size
            have hz1 := hb1.size
            clear hn1 hspl
            go_wp2_with (at_builtin; go_loud (refine wpList_append_Ow (m := D.length) (c := c) (base := wr.heap.size) (xs := B8 (spreadL S)) (v := .slice A1 n1 c1) (A := A) (B := w1.heap.size) (news := B8 D) elB rfl (.tmp 77) (.tmp 78) rfl rfl ho1 rfl hs1 (B8_length _) (B8_oneCell _) (by rw [B8_length, ← Hn1.out]; simp [maxLen]; omega) (by rw [B8_length, ← Hn1.out]; omega) hz1 ?_); intro v2 w2 ho2 hg2 hr2)
            rw [← B8_append] at ho2
            obtain ⟨ALL, hALL⟩ : ∃ X, X = spreadL S ++ D := ⟨_, rfl⟩
            rw [← hALL] at ho2
            obtain ⟨A2, c2, rfl, hc2, hc2'⟩ := own_form ho2
            have hb2 : Below wr.heap.size wr w2 := hb1.grown hg2 hz1 (fun r hr => (ho1.row r hr).1)
            obtain ⟨n2, hn2⟩ : ∃ n2, n2 = ALL.length := ⟨_, rfl⟩
            have hn2l : n2 ≤ 400 := by rw [hn2, hALL, List.length_append, ← Hn1.out]; omega
            have hn20 : 0 < n2 := by rw [hn2, hALL, List.length_append, ← Hn1.out, Hspl.out]; omega
            rw [← hn2] at ho2 hc2 ⊢
            have Hn2 := Lib.hid hn2
            have HALL := Lib.hid hALL
            have hz2 := hb2.size
            clear hn2 hALL ho1 hg2 hr2 hs1 hb1 hc1 hc1' hn1l Hspl Hn1 hz1
            refine (bech_any _).mono ?_
            rintro e w3 ⟨rfl, hb3⟩
            have ho3 := ho2.below hb3 (Nat.le_refl _)
            have hb3' := hb2.trans (hb3.mono hz2)
            have hz3 := hb3'.size
            clear ho2 hb2 hb3 hz2
            go_wp2_with fail
            have hrun := brun6_any A2 c2 ALL w3 ho3.sl (by rw [← Hn2.out]; omega) (by rw [← Hn2.out]; omega)
            rw [← Hn2.out] at hrun
            refine hrun.mono ?_
            clear hrun
            rintro e w4 ⟨rfl, hb4⟩
            obtain ⟨P0, hP0⟩ : ∃ P0, P0 = bech (ALL ++ List.replicate 6 0) := ⟨_, rfl⟩
            rw [← hP0]
            have HP0 := Lib.hid hP0
            have hP64 := P0.isLt
            have hb4' := hb3'.trans (hb4.mono hz3)
            have hz4 := hb4'.size
            clear hP0 hb4 hb3' ho3 hz3
            go_wp2_with fail
            refine (constant_any m _).mono ?_
            rintro e w5 ⟨rfl, rfl⟩
            have hK64 := (conK m).isLt
            obtain ⟨K0, hK0⟩ : ∃ K0, K0 = conK m := ⟨_, rfl⟩
            rw [← hK0] at hK64 ⊢
            have HK0 := Lib.hid hK0
            clear hK0
            have hx1 : bits .xor .u64 (P0.toNat : Int) (K0.toNat : Int) = ((P0 ^^^ K0).toNat : Int) := sp_x P0 K0
            obtain ⟨Q0, hQ0⟩ : ∃ Q0, Q0 = P0 ^^^ K0 := ⟨_, rfl⟩
            rw [← hQ0] at hx1
            have HQ0 := Lib.hid hQ0
            clear hQ0
            go_wp2_with fail
            refine (letters6_any Q0 _).mono ?_
            rintro e w6 ⟨v6, rfl, ho6, hb6⟩
            obtain ⟨L6, hL6⟩ : ∃ L6, L6 = lets6 Q0 6 := ⟨_, rfl⟩
            rw [← hL6] at ho6
            obtain ⟨A6, c6, rfl, hc6, hc6'⟩ := own_form ho6
            have hl6 : L6.length = 6 := by rw [hL6, lets6_length]
            rw [hl6] at ho6 hc6 ⊢
            have HL6 := Lib.hid hL6
            have Hl6 := Lib.hid hl6
            have hb6' := hb4'.trans (hb6.mono hz4)
            have hz6 := hb6'.size
            clear hx1 hl6 hL6 hb6 hb4'
            have hs49 : (s ++ (⟨#[49]⟩ : ByteArray)).size = s.size + 1 := by rw [ByteArray.size_append]; rfl
            have hd49 : (s ++ (⟨#[49]⟩ : ByteArray)).data.toList = S ++ [49] := by rw [ByteArray.data_append, HSS.out]; simp
            obtain ⟨wB, cB, hconv, hBB, hFB, hzB⟩ := str_bytesF (s ++ ⟨#[49]⟩) w6 (by rw [hs49]; simp [maxLen]; omega)
            rw [hs49, hd49] at hFB
            have HFB := Lib.hid hFB
            have hbB' := hb6'.trans (hBB.mono hz6)
            have hzB' := hbB'.size
            have hzB2 : w6.heap.size < wB.heap.size := by omega
            have hsB := (hs.below hbB').mono hzB'
            have hS6 := (ho6.sl.below hBB).mono hBB.size
            obtain ⟨gB, hgB⟩ : ∃ gB, gB = w6.heap.size := ⟨_, rfl⟩
            rw [← hgB] at HFB hzB2 hconv
            have HgB := Lib.hid hgB
            clear hs49 hd49 hFB hzB hgB
            go_wp2_with fail
            refine (clone_any A c D wB hsB (by omega)).mono ?_
            rintro e w7 ⟨v7, rfl, ho7, hb7⟩
            obtain ⟨A7, c7, rfl, hc7, hc7'⟩ := own_form ho7
            have hS7 := (hS6.below hb7).mono hb7.size
            have hF7 := HFB.out.below hb7 (Nat.le_refl _)
            have hb7' := hbB'.trans (hb7.mono hzB')
            have hz7 := hb7.size
            obtain ⟨M, hM⟩ : ∃ M, M = D ++ L6 := ⟨_, rfl⟩
            obtain ⟨N, hN⟩ : ∃ N, N = M.length := ⟨_, rfl⟩
            have hND : N = D.length + 6 := by rw [hN, hM, List.length_append, Hl6.out]
            have hM32 : ∀ y ∈ M, y.toNat < 32 := by
              intro y hy
              rw [hM] at hy
              rcases List.mem_append.1 hy with h | h
              · exact H32.out y h
              · rw [HL6.out] at h; exact lets6_lt _ _ y h
            have hMB : B8 D ++ B8 L6 = B8 M := by rw [hM, B8_append]
            have hNl : N ≤ 200 := by omega
            have hN0 : 0 < N := by omega
            have hFM : F = (0, S ++ [49] ++ M.map let32) := by rw [HFv.out, hM, HL6.out, HQ0.out, HP0.out, HK0.out, HALL.out]
            have HM := Lib.hid hM
            have HN := Lib.hid hN
            have HND := Lib.hid hND
            have HM32 := Lib.hid hM32
            have HMB := Lib.hid hMB
            have HFM := Lib.hid hFM
            have HF7 := Lib.hid hF7
            clear hM hN hND hM32 hMB hFM hF7 hS6 hbB' hsB HFv hconv
            go_wp2_with (at_builtin; go_loud (refine wpList_append_Ow (m := 6) (c := c6) (base := wB.heap.size) (xs := B8 D) (v := .slice A7 D.length c7) (A := A6) (B := w7.heap.size) (news := B8 L6) elB rfl (.tmp 91) (.tmp 92) rfl rfl ho7 rfl hS7 (by rw [B8_length]; exact Hl6.out) (B8_oneCell _) (by rw [B8_length]; simp [maxLen]; omega) (by rw [B8_length]; omega) hz7 ?_); intro v8 w8 ho8 hg8 hr8; rw [HMB.out] at ho8; obtain ⟨A8, c8, rfl, hc8, hc8'⟩ := own_form ho8; rw [← HN.out] at ho8 hc8 ⊢)
            have hF8 := HF7.out.kept hg8 (fun g hg e => by
              have h1 := (ho7.row g e).1
              have h2 := (HFB.out.row g hg).2
              omega)
            have hb8' : Below wr.heap.size wr w8 := hb7'.grown hg8 hb7'.size (fun r hr => by have := (ho7.row r hr).1; omega)
            have hz8 := hb8'.size
            have ho8' := ho8
            obtain ⟨A', c', e', hx1, hx2, hx3⟩ := ho8
            injection e' with ea eb ec
            subst ea ec
            obtain ⟨g8, cur8, rfl, hg81, hg82, hg83, hg84⟩ := hx3 (by omega)
            have hcells : ∀ (X : World), X.heap[g8]? = some (.cells cur8 5 (0, 0)) → ∀ j (hj : j < M.length), X.cell? ⟨g8, j, none⟩ = some (.int .u8 (M[j].toNat : Int)) := fun X hX j hj => by
              have h1 : (B8 M)[j]? = (cur8.toList.take (B8 M).length)[j]? := by rw [hg84]
              rw [cell_of_row X g8 j cur8 _ _ hX]
              rw [List.getElem?_take, if_pos (by simpa using hj)] at h1
              rw [show cur8[j]? = cur8.toList[j]? by simp, ← h1]
              simp [B8, hj]
            have hF8n : ∀ r, rowOf (.slice (some ⟨gB, 0, none⟩) (s.size + 1) cB) = some r → r ≠ g8 := fun r hr e => by
              have h2 := (HFB.out.row r hr).2
              omega
            have Hcells := Lib.hid hcells
            have Hg8 := Lib.hid hg82
            have HF8n := Lib.hid hF8n
            clear hcells hg82 hg83 hg84 hF8n hx1 hx2 hx3 eb ho8' hg8 hr8 ho7 ho6 hS7 hb7' hb6' hs
            obtain ⟨w0, rfl⟩ : ∃ w0, w0 = wr := ⟨_, rfl⟩
            go_loopw [14, 95] (fun v i wr => ∃ q : Nat, q ≤ N ∧ i = .int .i64 q ∧ OwF wr gB 5 v (B8 (S ++ [49] ++ (M.take q).map let32)) ∧ Hid ((∀ r, rowOf v = some r → r ≠ g8) ∧ wr.heap[g8]? = some (.cells cur8 5 (0, 0))) ∧ Below w0.heap.size w0 wr) (fun _ i _ => N - (intOf i).toNat)
            case atStart => exact ⟨0, Nat.zero_le _, rfl, by simpa using hF8, Lib.hid ⟨HF8n.out, Hg8.out⟩, hb8'⟩
            case round =>
              clear hF8 HF8n Hg8 hb8'
              obtain ⟨q, hq, rfl, hoq, Hq, hbq⟩ := hrel
              obtain ⟨R, hR⟩ : ∃ R, R = S ++ [49] ++ (M.take q).map let32 := ⟨_, rfl⟩
              have hRl : R.length = s.size + 1 + q := by rw [hR]; simp [HS.out]; have := HN.out; omega
              rw [← hR] at hoq
              obtain ⟨Ar, cr, rfl, hcr, hcr'⟩ := hoq.formB
              obtain ⟨nr, hnr⟩ : ∃ nr, nr = R.length := ⟨_, rfl⟩
              have hnrl : nr ≤ 500 := by omega
              rw [← hnr] at hoq hcr Hq ⊢
              have Hnr := Lib.hid hnr
              have HR := Lib.hid hR
              have hzq := hbq.size
              have hlt8 : g8 < wr.heap.size := by
                rcases Nat.lt_or_ge g8 wr.heap.size with h' | h'
                · exact h'
                · have := Hq.out.2; rw [Array.getElem?_eq_none h'] at this; cases this
              have hgBq : gB ≤ wr.heap.size := by omega
              clear hnr hR hRl
              by_cases hlt : q < N
              · have hqM : q < M.length := by rw [← HN.out]; exact hlt
                obtain ⟨y, hy⟩ : ∃ y, y = M[q] := ⟨_, rfl⟩
                have hy32 : y.toNat < 32 := HM32.out y (by rw [hy]; exact List.getElem_mem _)
                have hcell := Hcells.out wr Hq.out.2 q hqM
                rw [← hy] at hcell
                have hlet : ∀ h, (⟨letters32.toArray⟩ : ByteArray)[y.toNat]'h = let32 y := fun h => letters32_at y h
                obtain ⟨l, hl'⟩ : ∃ l, l = let32 y := ⟨_, rfl⟩
                rw [← hl'] at hlet
                simp only [letters32] at hlet
                have hnew : R ++ [l] = S ++ [49] ++ (M.take (q + 1)).map let32 := by
                  rw [HR.out, hl', hy, List.take_succ_eq_append_getElem hqM, List.map_append, List.append_assoc (S ++ [49])]; rfl
                have Hnew := Lib.hid hnew
                clear hnew hl' hy
                go_wp2_with (at_builtin; go_loud (refine wpList_append1_OwF (c := 1) (base := gB) (xs := B8 R) (v := .slice Ar nr cr) (A := some ⟨wr.heap.size, 0, none⟩) (B := wr.heap.size + 1) (u := .int .u8 (l.toNat : Int)) elB rfl (.tmp 99) (.tmp 102) rfl rfl (hoq.alloc _) rfl (Sl.one wr _ _) rfl (by rw [B8_length, ← Hnr.out]; simp [maxLen]; omega) (by rw [B8_length, ← Hnr.out]; omega) (by simp; omega) ?_); intro v3 w3 ho3 hg3 hr3)
                rw [b8_snoc R _ l rfl, Hnew.out] at ho3
                refine ⟨⟨q + 1, by omega, rfl, ho3, Lib.hid ⟨?_, ?_⟩, ?_⟩, by simp [intOf]; omega⟩
                · intro r hr
                  rcases hr3 r hr with h | h
                  · exact Hq.out.1 r h
                  · simp at h
                    omega
                · rw [hg3.block g8 (by simp; omega) (fun e => Hq.out.1 g8 e.symm rfl)]
                  exact (Below.heap_alloc wr _ g8 hlt8).trans Hq.out.2
                · exact (hbq.alloc hzq _).grown hg3 (by simp; omega) (fun r hr => by have := (hoq.row r hr).1; have := HgB.out; omega)
              · obtain rfl : q = N := by omega
                have hfin : R = S ++ [49] ++ M.map let32 := by rw [HR.out, List.take_of_length_le (by rw [← HN.out]; exact Nat.le_refl _)]
                have hstr := run_str_Sl (P := Tryz.prog) wr 23 9 5 (by kernel_rfl) (by kernel_rfl) (by kernel_rfl) wr.heap.size Ar cr R (by have := hoq; rw [Hnr.out] at this; exact this.sl)
                rw [← Hnr.out] at hstr
                have Hfin := Lib.hid hfin
                clear hfin
                go_wp2_with fail
                go_ret2
                rw [HFM.out, ← Hfin.out]
                exact ⟨rfl, hbq⟩
end Go.Proofs.YtkiigonikeeikaaGreatDoor

/-! The reference's step and sum of bech32. -/
namespace Go.Proofs.YtkiigonikeeikaaGreatDoor
open Go.RowKit Go.Shelf

theorem st_c (x : BitVec 64) (y : UInt8) : bits .xor .u64 ((x.toNat : Int) % 33554432 * 32) (y.toNat : Int) = ((((x &&& 0x1ffffff) <<< 5) ^^^ v64 y).toNat : Int) := by
  have h := sb_c x y
  have h1 : bits .and .u64 (x.toNat : Int) 33554431 = (x.toNat : Int) % 33554432 := by
    refine (u64_and_nat x.toNat 33554431 x.isLt (by omega)).trans ?_
    rw [show (33554431 : Nat) = 2 ^ 25 - 1 from rfl, Nat.and_two_pow_sub_one_eq_mod]; rfl
  rw [h1, IntKind.wrap_u64, Int.emod_eq_of_lt (by omega) (by omega)] at h
  exact h
theorem st_bit (b : BitVec 64) (q : Nat) : (b >>> q) &&& 1 = 1 ↔ b.toNat / 2 ^ q % 2 = 1 := by
  have e : ((b >>> q) &&& 1).toNat = b.toNat / 2 ^ q % 2 := by
    rw [BitVec.toNat_and, BitVec.toNat_ushiftRight, Nat.shiftRight_eq_div_pow, show (1 : BitVec 64).toNat = 2 ^ 1 - 1 from rfl, Nat.and_two_pow_sub_one_eq_mod, Nat.pow_one]
  rw [← e]
  constructor
  · intro h; rw [h]; rfl
  · intro h; exact BitVec.eq_of_toNat_eq h

end Go.Proofs.YtkiigonikeeikaaGreatDoor

/-! The reference's Bech32. -/
namespace Go.Proofs.YtkiigonikeeikaaGreatDoor
open Go.RowKit Go.Shelf

theorem Sl.row (w : World) (cs : List Value) (E : TypeId) : Sl (w.alloc (.cells cs.toArray E)) (w.heap.size + 1) (some ⟨w.heap.size, 0, none⟩) cs := fun _ =>
  ⟨w.heap.size, 0, rfl, by omega, fun j hj => by
    rw [Nat.zero_add, cell_of_row _ _ _ _ _ (0, 0) (heap_alloc_new w _)]
    simp [hj]⟩

end Go.Proofs.YtkiigonikeeikaaGreatDoor

/-! strings.ToLower where nothing is great; text.plain. -/
namespace Go.Proofs.YtkiigonikeeikaaGreatDoor
open Go.RowKit Go.Shelf

set_option maxRecDepth 100000 in
set_option maxHeartbeats 2000000 in
theorem toLower_any (s : ByteArray) (hsz : s.size ≤ maxLen) (hall : ∀ (j : Nat) (h : j < s.size), s[j].toNat < 128 ∧ (s[j].toNat < 65 ∨ 90 < s[j].toNat)) (w : World) :
    Calls Tryz.prog 74 #[.string s] w fun e w' => e = .returned (.string s) ∧ w' = w := by
  unfold maxLen at hsz
  have Hall := Lib.hid hall
  clear hall
  go_enter Tryz.func74, Tryz.ntmps74
  go_wp2
  go_loop [3, 4, 5] (fun z u i => ∃ k : Nat, k ≤ s.size ∧ i = .int .i64 k ∧ u = .bool false ∧ z = .bool true) (fun _ _ i => s.size - (intOf i).toNat)
  case atStart => exact ⟨0, Nat.zero_le _, rfl, rfl, rfl⟩
  case round =>
    obtain ⟨k, hk, rfl, rfl, rfl⟩ := hrel
    by_cases hlt : k < s.size
    · have h1 := (Hall.out k hlt).1
      rcases (Hall.out k hlt).2 with h2 | h2
      · go_wp2
        exact ⟨⟨k + 1, by omega, rfl, rfl, rfl⟩, by simp [intOf]; omega⟩
      · have h3 : 65 ≤ s[k].toNat := by omega
        go_wp2
        exact ⟨⟨k + 1, by omega, rfl, by congr 1; simp; omega, rfl⟩, by simp [intOf]; omega⟩
    · go_wp2
      go_ret
      exact ⟨rfl, rfl⟩

set_option maxRecDepth 100000 in
set_option maxHeartbeats 2000000 in
theorem plain_any (s : ByteArray) (hsz : s.size ≤ maxLen) (hall : ∀ (j : Nat) (h : j < s.size), 33 ≤ s[j].toNat ∧ s[j].toNat ≤ 126 ∧ (s[j].toNat < 65 ∨ 90 < s[j].toNat)) (w : World) :
    Calls Tryz.prog 53 #[.string s] w fun e w' => e = .returned (.tuple #[.string s, .bool true]) ∧ w' = w := by
  have hlow := toLower_any s hsz (fun j h => ⟨by have := hall j h; omega, (hall j h).2.2⟩)
  unfold maxLen at hsz
  have Hlow := Lib.hid hlow
  have Hall := Lib.hid hall
  clear hall hlow
  go_enter Tryz.func53, Tryz.ntmps53
  go_wp2
  go_loop [8] (fun i => ∃ k : Nat, k ≤ s.size ∧ i = .int .i64 k) (fun i => s.size - (intOf i).toNat)
  case atStart => exact ⟨0, Nat.zero_le _, rfl⟩
  case round =>
    obtain ⟨k, hk, rfl⟩ := hrel
    by_cases hlt : k < s.size
    · have h1 := (Hall.out k hlt).1
      have h2 := (Hall.out k hlt).2.1
      go_wp2
      exact ⟨⟨k + 1, by omega, rfl⟩, by simp [intOf]; omega⟩
    · go_wp2_with (go_at_call 74; refine (Hlow.out _).mono ?_; rintro e w' ⟨rfl, rfl⟩)
      go_ret2
      exact ⟨rfl, rfl⟩
end Go.Proofs.YtkiigonikeeikaaGreatDoor
