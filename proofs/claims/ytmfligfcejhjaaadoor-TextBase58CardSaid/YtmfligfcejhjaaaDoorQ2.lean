/- ref03.Base58. -/
import Derived.Test.YtmfligfcejhjaaaDoorQ1
namespace Go.Proofs.YtmfligfcejhjaaaDoor
open Go.RowKit Go.Shelf

/-- Long division by 58. -/
def divL : Nat → List UInt8 → List UInt8 × Nat
  | r, [] => ([], r)
  | r, d :: l => (UInt8.ofNat ((r * 256 + d.toNat) / 58) :: (divL ((r * 256 + d.toNat) % 58) l).1, (divL ((r * 256 + d.toNat) % 58) l).2)
theorem divL_append : ∀ (a b : List UInt8) (r : Nat), divL r (a ++ b) = ((divL r a).1 ++ (divL (divL r a).2 b).1, (divL (divL r a).2 b).2)
  | [], b, r => rfl
  | x :: a, b, r => by simp only [List.cons_append, divL, divL_append a b]
theorem divL_length : ∀ (l : List UInt8) (r : Nat), (divL r l).1.length = l.length
  | [], _ => rfl
  | x :: l, r => by simp [divL, divL_length l]
theorem divL_snoc (l : List UInt8) (d : UInt8) (r : Nat) : divL r (l ++ [d]) = ((divL r l).1 ++ [UInt8.ofNat (((divL r l).2 * 256 + d.toNat) / 58)], ((divL r l).2 * 256 + d.toNat) % 58) := by rw [divL_append]; rfl
theorem divL_value (l : List UInt8) : (divL 0 l).2 = horner 256 l % 58 ∧ horner 256 (divL 0 l).1 = horner 256 l / 58 := by
  induction hn : l.length generalizing l with
  | zero => rw [List.length_eq_zero_iff.1 hn]; exact ⟨rfl, rfl⟩
  | succ n ih =>
    rcases List.eq_nil_or_concat l with rfl | ⟨l', d, rfl⟩
    · simp at hn
    · rw [List.concat_eq_append] at hn ⊢
      obtain ⟨h1, h2⟩ := ih l' (by simpa using hn)
      obtain ⟨V, hV⟩ : ∃ V, V = horner 256 l' := ⟨_, rfl⟩
      rw [← hV] at h1 h2
      have hd := d.toNat_lt
      rw [divL_snoc, horner_snoc, ← hV]
      constructor
      · show ((divL 0 l').2 * 256 + d.toNat) % 58 = _
        rw [h1]; omega
      · show horner 256 ((divL 0 l').1 ++ [UInt8.ofNat (((divL 0 l').2 * 256 + d.toNat) / 58)]) = _
        rw [horner_snoc, h1, h2, UInt8.toNat_ofNat', Nat.mod_eq_of_lt (by omega)]; omega
theorem divL_rem (l : List UInt8) : (divL 0 l).2 < 58 := by rw [(divL_value l).1]; exact Nat.mod_lt _ (by omega)
theorem divL_zeros : ∀ (l : List UInt8), (∀ x ∈ l, x = 0) → divL 0 l = (l, 0)
  | [], _ => rfl
  | x :: l, h => by
    have hx : x = 0 := h x (by simp)
    subst hx
    have := divL_zeros l (fun y hy => h y (by simp [hy]))
    simp [divL, this]
theorem horner_zeros (l : List UInt8) (h : ∀ x ∈ l, x = 0) : horner 256 l = 0 := by
  have h1 := (divL_value l).2
  have h2 : l = List.replicate l.length 0 := List.eq_replicate_iff.2 ⟨rfl, h⟩
  rw [h2]
  generalize l.length = n
  induction n with
  | zero => rfl
  | succ n ih => rw [List.replicate_succ', horner_snoc, ih]; rfl
theorem horner_pos (l : List UInt8) (x : UInt8) (hx : x ∈ l) (h0 : x ≠ 0) : 0 < horner 256 l := by
  induction hn : l.length generalizing l with
  | zero => rw [List.length_eq_zero_iff.1 hn] at hx; simp at hx
  | succ n ih =>
    rcases List.eq_nil_or_concat l with rfl | ⟨l', d, rfl⟩
    · simp at hn
    · rw [List.concat_eq_append] at hn hx ⊢
      rw [horner_snoc]
      simp only [List.mem_append, List.mem_singleton] at hx
      rcases hx with hx | rfl
      · have := ih l' hx (by simpa using hn); omega
      · have : x.toNat ≠ 0 := fun e => h0 (UInt8.toNat_inj.1 (by simpa using e))
        omega
/-- The bytes in the midst of a division. -/
def rowD (L : List UInt8) (i : Nat) : List UInt8 := (divL 0 (L.take i)).1 ++ L.drop i
def remD (L : List UInt8) (i : Nat) : Nat := (divL 0 (L.take i)).2
theorem rowD_length (L : List UInt8) (i : Nat) (h : i ≤ L.length) : (rowD L i).length = L.length := by rw [rowD, List.length_append, divL_length]; simp; omega
theorem rowD_at (L : List UInt8) (i : Nat) (h : i < L.length) : (rowD L i)[i]? = some L[i] := by
  rw [rowD, List.getElem?_append_right (by rw [divL_length]; simp; omega), divL_length]
  simp [show min i L.length = i by omega, h]
theorem rowD_set (L : List UInt8) (i : Nat) (h : i < L.length) : (rowD L i).set i (UInt8.ofNat ((remD L i * 256 + L[i].toNat) / 58)) = rowD L (i + 1) := by
  have hl : ((divL 0 (L.take i)).1).length = i := by rw [divL_length]; simp; omega
  rw [rowD, List.set_append_right _ _ (by omega), hl, Nat.sub_self, rowD, take_snoc L i h, divL_snoc]
  rw [show L.drop i = L[i] :: L.drop (i + 1) from List.drop_eq_getElem_cons h, List.set_cons_zero]
  simp [remD]
theorem remD_succ (L : List UInt8) (i : Nat) (h : i < L.length) : remD L (i + 1) = (remD L i * 256 + L[i].toNat) % 58 := by rw [remD, take_snoc L i h, divL_snoc]; rfl
theorem rowD_begin (L : List UInt8) (k : Nat) (h : ∀ x ∈ L.take k, x = 0) : rowD L k = L ∧ remD L k = 0 := by
  rw [rowD, remD, divL_zeros _ h]; exact ⟨List.take_append_drop k L, rfl⟩
theorem rowD_end (L : List UInt8) : rowD L L.length = (divL 0 L).1 ∧ remD L L.length = (divL 0 L).2 := by simp [rowD, remD]
theorem rowD_zeros (L : List UInt8) (k : Nat) (hk : k ≤ L.length) (h : ∀ x ∈ L.take k, x = 0) : ∀ x ∈ (divL 0 L).1.take k, x = 0 := by
  have h1 : divL 0 L = divL 0 (L.take k ++ L.drop k) := by rw [List.take_append_drop]
  rw [h1, divL_append, divL_zeros _ h]
  simp only
  rw [List.take_append_of_le_length (by simp; omega), List.take_of_length_le (by simp; omega)]
  exact h
theorem digit_step (V : Nat) (h : 0 < V) : pushes 58 V V = UInt8.ofNat (V % 58) :: pushes 58 (V / 58) (V / 58) := pushes_pos 58 V (by omega) h
theorem letters58_nat (r : Nat) (hr : r < 58) (h : r < (⟨letters58.toArray⟩ : ByteArray).size) : (⟨letters58.toArray⟩ : ByteArray)[r] = let58 (UInt8.ofNat r) := by
  have e : (UInt8.ofNat r).toNat = r := by rw [UInt8.toNat_ofNat', Nat.mod_eq_of_lt (by omega)]
  have h' : r < letters58.length := h
  show letters58.toArray[r]'(by simpa using h') = _
  simp [let58, e, h']
theorem lz_lt : ∀ (b : List UInt8) (j : Nat), j < lz b → b[j]? = some 0
  | [], j, h => by simp [lz] at h
  | x :: b, j, h => by
    unfold lz at h
    split at h
    · rename_i hx
      cases j with
      | zero => simp [hx]
      | succ j => simpa using lz_lt b j (by omega)
    · omega
theorem lz_end : ∀ (b : List UInt8) (y : UInt8), b[lz b]? = some y → y ≠ 0
  | [], y, h => by simp at h
  | x :: b, y, h => by
    unfold lz at h
    split at h
    · exact lz_end b y (by simpa using h)
    · rename_i hx
      simp at h; rw [← h]; exact hx
def rowVal (g N : Nat) (w : World) : Nat := match w.heap[g]? with
  | some (.cells cur _ _) => (cur.toList.take N).foldl (fun v x => v * 256 + (intOf x).toNat) 0
  | _ => 0
theorem rowVal_ow {w : World} {base E g N c : Nat} {L : List UInt8} (h : Ow w base E (.slice (some ⟨g, 0, none⟩) N c) (B8 L)) (hN : 0 < N) : rowVal g N w = horner 256 L := by
  obtain ⟨A', c', e, h1, h2, h3⟩ := h
  injection e with e1 e2 e3
  obtain ⟨g', cur, e4, _, hh, _, ht⟩ := h3 (by omega)
  rw [← e1] at e4; injection e4 with e4; injection e4 with e4
  subst e4
  rw [rowVal, hh]
  simp only
  rw [e2, ht, B8, List.foldl_map]
  rfl

set_option maxRecDepth 100000 in
set_option maxHeartbeats 4000000 in
theorem rbase58_any (A : Option Addr) (c : Nat) (b : List UInt8) (w : World) (hs : Sl w w.heap.size A (B8 b)) (hl : b.length ≤ 300) :
    Calls Tryd.prog 9 #[.slice A b.length c] w fun e W' => e = .returned (.string ⟨(b58L b).toArray⟩) ∧ Below w.heap.size w W' := by
  by_cases hb0 : b = []
  · subst hb0
    simp only [List.length_nil]
    clear hl hs
    have e58 : b58L [] = [] := rfl
    rw [e58]
    cases A with
    | none =>
      go_enter Tryd.func9, Tryd.ntmps9
      go_wp2_with fail
      obtain ⟨wE, hwE⟩ : ∃ wE, wE = w.alloc (.cells #[] 5) := ⟨_, rfl⟩
      have hBE : Below w.heap.size w wE := by rw [hwE]; exact (Below.refl _ _).alloc (Nat.le_refl _) _
      rw [← hwE]
      clear hwE
      go_loopw [4, 5] (fun sv i wr => wr = wE ∧ sv = .string ⟨#[]⟩ ∧ i = .int .i64 0) (fun _ _ _ => 0)
      case atStart => exact ⟨rfl, rfl, rfl⟩
      case round =>
        obtain ⟨hrel, rfl, rfl⟩ := hrel
        obtain ⟨wF, hwF⟩ : ∃ wF, wF = wr := ⟨_, rfl⟩
        subst hwF
        have hBF : Below w.heap.size w wF := by rw [hrel]; exact hBE
        clear hrel
        go_wp2_with fail
        go_loopw [4, 9] (fun sv i wr => wr = wF ∧ sv = .string ⟨#[]⟩ ∧ i = .int .i64 0) (fun _ _ _ => 0)
        case atStart => exact ⟨rfl, rfl, rfl⟩
        case round =>
          obtain ⟨hrel, rfl, rfl⟩ := hrel
          have hBr : Below w.heap.size w wr := by rw [hrel]; exact hBF
          clear hrel
          go_wp2_with fail
          go_ret
          exact ⟨rfl, hBr⟩
    | some ad =>
      go_enter Tryd.func9, Tryd.ntmps9
      go_wp2_with (at_builtin; refine wpList_append_Ow (m := 0) (c := c) (base := w.heap.size) (xs := []) (v := .slice (some ⟨w.heap.size, 0, none⟩) 0 0) (A := some ad) (B := w.heap.size) (news := []) elB rfl (.tmp 10) (.tmp 11) rfl rfl (Ow.nil_ _ _ _ _) rfl Sl.nil rfl (by simp) (by simp) (by simp) (by simp) ?_; intro v1 w1 ho1 hg1 hr1)
      obtain ⟨A1, c1, rfl, hc1, hc1'⟩ := own_form (T := []) ho1
      have hBE : Below w.heap.size w w1 := ((Below.refl _ w).alloc (Nat.le_refl _) _).grown hg1 (by simp) (by simp [rowOf])
      obtain ⟨wE, hwE⟩ : ∃ wE, wE = w1 := ⟨_, rfl⟩
      subst hwE
      clear hg1 hr1 ho1
      go_loopw [4, 5] (fun sv i wr => wr = wE ∧ sv = .string ⟨#[]⟩ ∧ i = .int .i64 0) (fun _ _ _ => 0)
      case atStart => exact ⟨rfl, rfl, rfl⟩
      case round =>
        obtain ⟨hrel, rfl, rfl⟩ := hrel
        obtain ⟨wF, hwF⟩ : ∃ wF, wF = wr := ⟨_, rfl⟩
        subst hwF
        have hBF : Below w.heap.size w wF := by rw [hrel]; exact hBE
        clear hrel
        go_wp2_with fail
        go_loopw [4, 9] (fun sv i wr => wr = wF ∧ sv = .string ⟨#[]⟩ ∧ i = .int .i64 0) (fun _ _ _ => 0)
        case atStart => exact ⟨rfl, rfl, rfl⟩
        case round =>
          obtain ⟨hrel, rfl, rfl⟩ := hrel
          have hBr : Below w.heap.size w wr := by rw [hrel]; exact hBF
          clear hrel
          go_wp2_with fail
          go_ret
          exact ⟨rfl, hBr⟩
  · have hbl : 0 < b.length := List.length_pos_iff.2 hb0
    obtain ⟨N, hN⟩ : ∃ N, N = b.length := ⟨_, rfl⟩
    rw [← hN]
    have hNl : N ≤ 300 := by omega
    have hN0 : 0 < N := by omega
    have HN := Lib.hid hN
    clear hb0 hbl hN
    go_enter Tryd.func9, Tryd.ntmps9
    go_wp2_with (at_builtin; go_loud (refine wpList_append_Ow (m := N) (c := c) (base := w.heap.size) (xs := []) (v := .slice (some ⟨w.heap.size, 0, none⟩) 0 0) (A := A) (B := w.heap.size) (news := B8 b) elB rfl (.tmp 10) (.tmp 11) rfl rfl (Ow.nil_ _ _ _ _) rfl (hs.alloc (Nat.le_refl _) _) (by rw [B8_length]; exact HN.out.symm) (B8_oneCell _) (by simp [maxLen]; omega) (by simp; omega) (by simp) ?_); intro v1 w1 ho1 hg1 hr1; have hb1 := ((Below.refl _ w).alloc (Nat.le_refl _) (.cells #[] 5)).grown hg1 (by simp) (by simp [rowOf]); rw [List.nil_append] at ho1; obtain ⟨A1, c1, rfl, hc1, hc1'⟩ := own_form ho1; rw [← HN.out] at ho1 hc1 ⊢; clear hg1 hr1)
    obtain ⟨g, rfl, hgb, _, _, _⟩ := ho1.at_ (j := 0) (by rw [B8_length, ← HN.out]; exact hN0)
    obtain ⟨V0, hV0⟩ : ∃ V0, V0 = horner 256 b := ⟨_, rfl⟩
    have hPl : (pushes 58 V0 V0).length ≤ 5100 := by
      have h := baseL_len 256 58 (by omega) (by omega) b
      rw [baseL_pushes 256 58 (by omega) (by omega) (by omega), ← hV0] at h
      omega
    have HPl := Lib.hid hPl
    clear hPl
    have HV0 := Lib.hid hV0
    go_loopw [4, 5] (fun sv bv wr => ∃ (T L E : List UInt8) (k : Nat), sv = .string ⟨T.toArray⟩ ∧ bv = .int .i64 k ∧ k ≤ N ∧ Ow wr w.heap.size 5 (.slice (some ⟨g, 0, none⟩) N c1) (B8 L) ∧ Below w.heap.size w wr ∧
      Hid (L.length = N ∧ (∀ x ∈ L.take k, x = 0) ∧ pushes 58 V0 V0 = E ++ pushes 58 (horner 256 L) (horner 256 L) ∧ T = E.reverse.map let58)) (fun _ bv wr => (N - (intOf bv).toNat) + rowVal g N wr)
    case atStart => exact ⟨[], b, [], 0, rfl, rfl, Nat.zero_le _, ho1, hb1, Lib.hid ⟨HN.out.symm, by simp, by rw [hV0]; rfl, rfl⟩⟩
    case round =>
      clear ho1 hb1 hV0
      obtain ⟨T, L, E, k, rfl, rfl, hk, ho, hb, HI⟩ := hrel
      have hTl : T.length ≤ 5100 := by
        have h := congrArg List.length HI.out.2.2.1
        rw [List.length_append] at h
        rw [HI.out.2.2.2, List.length_map, List.length_reverse]
        have := HPl.out
        omega
      by_cases hlt : k < N
      · have hkL : k < L.length := by rw [HI.out.1]; exact hlt
        obtain ⟨x, hx⟩ : ∃ x, x = L[k] := ⟨_, rfl⟩
        obtain ⟨_, e0, _, _, hcell0, _⟩ := ho.at_ (j := k) (by simpa using hkL)
        injection e0 with e0; injection e0 with e0
        subst e0
        have hcell : wr.cell? ⟨g, k, none⟩ = some (.int .u8 (x.toNat : Int)) := by rw [hcell0, B8_get, hx]
        have hx8 := x.toNat_lt
        have Hx := Lib.hid hx
        clear hcell0 hx
        by_cases hx0 : x = 0
        · have ex : (x.toNat : Int) = 0 := by rw [hx0]; rfl
          have Hx0 := Lib.hid hx0
          clear hx0
          go_wp2_with fail
          obtain ⟨hLN, hLz, hLE, hLT⟩ := HI.out
          refine ⟨⟨T, L, E, k + 1, rfl, rfl, by omega, ho, hb, Lib.hid ⟨hLN, ?_, hLE, hLT⟩⟩, by simp [intOf]; omega⟩
          rw [take_snoc L k hkL]
          intro x hx
          simp only [List.mem_append, List.mem_singleton] at hx
          rcases hx with hx | rfl
          · exact hLz x hx
          · rw [← Hx.out]; exact Hx0.out
        · have ex : ¬ (x.toNat : Int) = 0 := fun e => hx0 (UInt8.toNat_inj.1 (by simpa using e))
          have Hx0 := Lib.hid hx0
          clear hx0
          go_wp2_with fail
          obtain ⟨wS, hwS⟩ : ∃ wS, wS = wr := ⟨_, rfl⟩
          subst hwS
          have hrv : rowVal g N wS = horner 256 L := rowVal_ow ho hN0
          have ho0 : Ow wS w.heap.size 5 (.slice (some ⟨g, 0, none⟩) N c1) (B8 (rowD L k)) := by rw [(rowD_begin L k HI.out.2.1).1]; exact ho
          have hr0 : remD L k = 0 := (rowD_begin L k HI.out.2.1).2
          have Hrv := Lib.hid hrv
          clear ho hrv
          go_loopw [6, 7] (fun r i wr => ∃ q : Nat, k ≤ q ∧ q ≤ N ∧ i = .int .i64 q ∧ r = .int .i64 (remD L q : Int) ∧ Ow wr w.heap.size 5 (.slice (some ⟨g, 0, none⟩) N c1) (B8 (rowD L q)) ∧ Below w.heap.size w wr) (fun _ i _ => N - (intOf i).toNat)
          case atStart => exact ⟨k, Nat.le_refl _, by omega, rfl, by rw [hr0]; rfl, ho0, hb⟩
          case round =>
            clear ho0 hb hr0
            obtain ⟨q, hkq, hq, rfl, rfl, ho, hb⟩ := hrel
            obtain ⟨r, hr⟩ : ∃ r, r = remD L q := ⟨_, rfl⟩
            have hr58 : r < 58 := by rw [hr]; exact divL_rem _
            rw [← hr]
            by_cases hqN : q < N
            · have hqL : q < L.length := by rw [HI.out.1]; exact hqN
              have hrl : (rowD L q).length = N := by rw [rowD_length L q (by omega), HI.out.1]
              obtain ⟨y, hy⟩ : ∃ y, y = L[q] := ⟨_, rfl⟩
              obtain ⟨_, e0, hgb2, _, hcell0, hfz⟩ := ho.at_ (j := q) (by simp [hrl]; exact hqN)
              injection e0 with e0; injection e0 with e0
              subst e0
              have hcy : wr.cell? ⟨g, q, none⟩ = some (.int .u8 (y.toNat : Int)) := by
                rw [hcell0, B8_get]
                have h := rowD_at L q hqL
                rw [List.getElem?_eq_getElem (by rw [hrl]; exact hqN)] at h
                injection h with h
                rw [h, hy]
              have hst := ho.store q (by omega) (Value.int IntKind.u8 (((r : Int) * 256 + (y.toNat : Int)) / 58))
              have hy8 := y.toNat_lt
              have hset : (B8 (rowD L q)).set q (Value.int IntKind.u8 (((r : Int) * 256 + (y.toNat : Int)) / 58)) = B8 (rowD L (q + 1)) := by
                rw [← rowD_set L q hqL, ← hy, B8, B8, List.map_set]
                have e : remD L q = r := hr.symm
                rw [e, UInt8.toNat_ofNat', Nat.mod_eq_of_lt (by omega)]
                congr 2
              rw [hset] at hst
              have hrem : remD L (q + 1) = (r * 256 + y.toNat) % 58 := by rw [remD_succ L q hqL, ← hr, ← hy]
              have Hst := Lib.hid hst
              have Hrem := Lib.hid hrem
              have Hy := Lib.hid hy
              have Hr := Lib.hid hr
              clear hset hst hrem hy hr hcell0 hrl
              go_wp2_with fail
              refine ⟨⟨q + 1, by omega, by omega, rfl, ?_, Hst.out, hb.setCell (p := ⟨g, q, none⟩) hgb _⟩, by simp [intOf]; omega⟩
              rw [Hrem.out]; congr 1
            · have hqe : q = L.length := by rw [HI.out.1]; omega
              obtain ⟨y, hy⟩ : ∃ y, y = let58 (UInt8.ofNat r) := ⟨_, rfl⟩
              have hlet : ∀ h, (⟨letters58.toArray⟩ : ByteArray)[r]'h = y := fun h => by rw [hy]; exact letters58_nat r hr58 h
              simp only [letters58] at hlet
              have hS1 : Sl (wr.alloc (.cells #[.int .u8 (y.toNat : Int)] 5)) (wr.heap.size + 1) (some ⟨wr.heap.size, 0, none⟩) (B8 [y]) := Sl.one wr _ _
              have hstr := run_str_Sl (P := Tryd.prog) (wr.alloc (.cells #[.int .u8 (y.toNat : Int)] 5)) 22 9 5 (by kernel_rfl) (by kernel_rfl) (by kernel_rfl) _ _ 1 [y] hS1
              simp only [List.length_cons, List.length_nil, Nat.zero_add] at hstr
              have Hy := Lib.hid hy
              have Hr := Lib.hid hr
              have Hqe := Lib.hid hqe
              clear hy hr hqe hS1
              have hsum : ((⟨#[y]⟩ : ByteArray) ++ (⟨T.toArray⟩ : ByteArray)) = ⟨(y :: T).toArray⟩ := by
                apply ByteArray.ext
                simp
              go_wp2_with fail
              obtain ⟨hLN, hLz, hLE, hLT⟩ := HI.out
              have hxL : x ∈ L := by rw [Hx.out]; exact List.getElem_mem _
              have hVp : 0 < horner 256 L := horner_pos L x hxL Hx0.out
              obtain ⟨v1, v2⟩ := divL_value L
              have hon : Ow (wr.alloc (.cells #[.int .u8 (y.toNat : Int)] 5)) w.heap.size 5 (.slice (some ⟨g, 0, none⟩) N c1) (B8 (divL 0 L).1) := by
                rw [← (rowD_end L).1, ← Hqe.out]; exact ho.alloc _
              refine ⟨⟨y :: T, (divL 0 L).1, E ++ [UInt8.ofNat (horner 256 L % 58)], k, rfl, rfl, by omega, hon, hb.alloc hb.size _, Lib.hid ⟨by rw [divL_length]; exact hLN, rowD_zeros L k (by omega) hLz, ?_, ?_⟩⟩, ?_⟩
              · rw [hLE, digit_step _ hVp, v2, List.append_assoc]; rfl
              · rw [List.reverse_append, List.map_append, ← hLT, Hy.out, Hr.out, Hqe.out, (rowD_end L).2, v1]; rfl
              · rw [Hrv.out, rowVal_ow hon hN0, v2]
                have : horner 256 L / 58 < horner 256 L := Nat.div_lt_self hVp (by omega)
                omega
      · obtain ⟨hLN, hLz, hLE, hLT⟩ := HI.out
        have hV : horner 256 L = 0 := horner_zeros L (by rwa [List.take_of_length_le (by omega)] at hLz)
        have hT : T = (pushes 58 V0 V0).reverse.map let58 := by rw [hLE, hV, hLT]; simp [pushes]
        have hb58 : b58L b = List.replicate (lz b) 49 ++ T := by rw [b58L, baseL_pushes 256 58 (by omega) (by omega) (by omega), ← HV0.out, hT]
        obtain ⟨z, hz⟩ : ∃ z, z = lz b := ⟨_, rfl⟩
        have hzN : z ≤ N := by rw [hz, HN.out]; exact lz_le b
        obtain ⟨wE, hwE⟩ : ∃ wE, wE = wr := ⟨_, rfl⟩
        subst hwE
        have hsE : Sl wE w.heap.size A (B8 b) := hs.below hb
        have Hb58 := Lib.hid hb58
        have Hz := Lib.hid hz
        clear hLN hLz hLE hLT hV hT hb58 hz
        go_wp2_with fail
        go_loopw [4, 9] (fun sv i wr => ∃ j : Nat, wr = wE ∧ j ≤ z ∧ i = .int .i64 j ∧ sv = .string ⟨(List.replicate j 49 ++ T).toArray⟩) (fun _ i _ => z - (intOf i).toNat)
        case atStart => exact ⟨0, rfl, Nat.zero_le _, rfl, rfl⟩
        case round =>
          obtain ⟨j, rfl, hj, rfl, rfl⟩ := hrel
          obtain ⟨bA, oA, rfl, hbA, hcl⟩ := hsE (by rw [B8_length, ← HN.out]; exact hN0)
          obtain ⟨Y, hY⟩ : ∃ Y, Y = List.replicate j 49 ++ T := ⟨_, rfl⟩
          have hYl : Y.length ≤ 6000 := by rw [hY, List.length_append, List.length_replicate]; omega
          have hsum : ((⟨#[49]⟩ : ByteArray) ++ (⟨Y.toArray⟩ : ByteArray)) = ⟨(49 :: Y).toArray⟩ := by
            apply ByteArray.ext
            simp
          rw [← hY]
          have HY := Lib.hid hY
          have Hcl := Lib.hid hcl
          clear hY hcl
          by_cases hjN : j < N
          · have hjb : j < b.length := by rw [← HN.out]; exact hjN
            obtain ⟨y, hy⟩ : ∃ y, y = b[j] := ⟨_, rfl⟩
            have hcell : wr.cell? ⟨bA, oA + j, none⟩ = some (.int .u8 (y.toNat : Int)) := by
              rw [Hcl.out j (by simpa using hjb), B8_get, hy]
            have hy8 := y.toNat_lt
            have hyg : b[j]? = some y := by rw [hy]; simp
            have Hy := Lib.hid hy
            clear hy
            by_cases hjz : j < z
            · have hy0 : (y.toNat : Int) = 0 := by
                have h := lz_lt b j (by rw [← Hz.out]; exact hjz)
                rw [hyg] at h; injection h with h; rw [h]; rfl
              clear hyg
              go_wp2_with fail
              refine ⟨⟨j + 1, trivial, by omega, rfl, ?_⟩, by simp [intOf]; omega⟩
              rw [HY.out, List.replicate_succ, List.cons_append]
            · have hjz' : j = z := by omega
              have hy0 : ¬ (y.toNat : Int) = 0 := fun e => lz_end b y (by rw [← Hz.out, ← hjz']; exact hyg) (UInt8.toNat_inj.1 (by simpa using e))
              have Hjz := Lib.hid hjz'
              clear hyg hjz'
              go_wp2_with fail
              go_ret
              refine ⟨?_, hb⟩
              rw [Hb58.out, ← Hz.out, ← Hjz.out, ← HY.out]; rfl
          · have Hjz : Hid (j = z) := Lib.hid (by omega)
            go_wp2_with fail
            go_ret
            refine ⟨?_, hb⟩
            rw [Hb58.out, ← Hz.out, ← Hjz.out, ← HY.out]; rfl
end Go.Proofs.YtmfligfcejhjaaaDoor
