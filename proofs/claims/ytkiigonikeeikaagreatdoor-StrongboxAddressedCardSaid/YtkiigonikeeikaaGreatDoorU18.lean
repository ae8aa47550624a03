/- text.Regroup: values of five bits as bytes. | Base conversion, by values. | ref03.FromBase58. | ref03.Base58. -/
import Derived.Test.YtkiigonikeeikaaGreatDoorU17
import Derived.Test.YtkiigonikeeikaaGreatDoorU12

/-! text.Regroup: values of five bits as bytes. -/
namespace Go.Proofs.YtkiigonikeeikaaGreatDoor
open Go.RowKit Go.Shelf

set_option maxRecDepth 100000 in
set_option maxHeartbeats 4000000 in
theorem regroup58_any (A : Option Addr) (c : Nat) (bs five : List UInt8) (w : World) (hs : Sl w w.heap.size A (B8 five)) (h5 : Five bs five) (hl : five.length ≤ 4096) :
    Calls Tryz.prog 26 #[.slice A five.length c, .int .i64 5, .int .i64 8, .bool false] w fun e W' => ∃ v, e = .returned (.tuple #[v, .int .i64 0]) ∧ Ow W' w.heap.size 5 v (B8 bs) ∧ Below w.heap.size w W' := by
  have H5 := Lib.hid h5
  clear h5
  go_enter Tryz.func26, Tryz.ntmps26
  go_wp2_with fail
  go_loopw [10, 11, 12, 32] (fun v b n i wr => ∃ (k N B : Nat) (L : List UInt8), k ≤ five.length ∧ i = .int .i64 k ∧ b = .int .i64 B ∧ n = .int .i64 N ∧ N < 8 ∧ B < 65536 ∧ 8 * L.length + N = 5 * k ∧ Hid (Way 256 (val 32 (five.take k)) L B N) ∧ Ow wr w.heap.size 5 v (B8 L) ∧ Below w.heap.size w wr) (fun _ _ _ i _ => five.length - (intOf i).toNat)
  case atStart => exact ⟨0, 0, 0, [], Nat.zero_le _, rfl, rfl, rfl, by omega, by omega, rfl, Lib.hid rfl, Ow.nil_ _ _ _ _, Below.refl _ _⟩
  case round =>
    obtain ⟨k, N, B, L, hk, rfl, rfl, rfl, hN, hB, hlen, HW, ho, hb⟩ := hrel
    obtain ⟨m, hm⟩ : ∃ m, m = L.length := ⟨_, rfl⟩
    obtain ⟨Al, cl, rfl, hcl, hcl'⟩ := own_form ho
    rw [← hm] at ho hcl hlen ⊢
    have hle1 : 8 * m + N ≤ 5 * k := by omega
    have hle2 : 5 * k ≤ 8 * m + N := by omega
    have Hm := Lib.hid hm
    have hz := hb.size
    by_cases hlt : k < five.length
    · obtain ⟨y, hy⟩ : ∃ y, y = five[k] := ⟨_, rfl⟩
      obtain ⟨b9, o9, rfl, hb9, hcl9⟩ := hs.at_ hlt
      have hcell : wr.cell? ⟨b9, o9 + k, none⟩ = some (.int .u8 (y.toNat : Int)) := by rw [hb.cell (p := ⟨b9, o9 + k, none⟩) hb9, hcl9 k hlt, hy]
      have hy8 := y.toNat_lt
      have hy32 : y.toNat < 32 := H5.out.1 y (by rw [hy]; exact List.getElem_mem _)
      have hy0 : (y.toNat : Int) / 32 = 0 := by omega
      have Hy := Lib.hid hy
      clear hcl9 hm hlen hy
      go_wp2_with fail
      have htk := rg_take 5 B y.toNat (by omega) hB (by omega)
      obtain ⟨B1, hB1⟩ : ∃ B1, B1 = (B * 2 ^ 5 + y.toNat) % 65536 := ⟨_, rfl⟩
      rw [← hB1] at htk
      have htk' : bits .and .i64 (bits .or .i64 ((B : Int) * 32) (y.toNat : Int)) 65535 = (B1 : Int) := htk
      rw [htk']
      have hB65 : B1 < 65536 := by omega
      have HW1 : Hid (Way 256 (val 32 (five.take (k + 1))) L B1 (N + 5)) := Lib.hid (by
        rw [val_take 32 five k hlt, ← Hy.out, hB1]
        exact HW.out.take 5 y.toNat (by omega) (by omega))
      clear htk htk' hB1 HW hcell hy0 Hy
      obtain ⟨wS, rfl⟩ : ∃ wS, wS = wr := ⟨_, rfl⟩
      go_loopw [10, 12] (fun v n wr => ∃ (N : Nat) (L : List UInt8), n = .int .i64 N ∧ N < 13 ∧ 8 * L.length + N = 5 * (k + 1) ∧ Hid (Way 256 (val 32 (five.take (k + 1))) L B1 N) ∧ Ow wr w.heap.size 5 v (B8 L) ∧ Below w.heap.size w wr) (fun _ n _ => (intOf n).toNat)
      case atStart => exact ⟨N + 5, L, rfl, by omega, by rw [← Hm.out]; omega, HW1, ho, hb⟩
      case round =>
        clear hN ho hb HW1 hcl hcl' Hm hle1 hle2 hz
        obtain ⟨N, L, rfl, hN, hlen, HW, ho, hb⟩ := hrel
        obtain ⟨m, hm⟩ : ∃ m, m = L.length := ⟨_, rfl⟩
        obtain ⟨Al, cl, rfl, hcl, hcl'⟩ := own_form ho
        rw [← hm] at ho hcl hlen ⊢
        have hle1 : 8 * m + N ≤ 5 * (k + 1) := by omega
        have hle2 : 5 * (k + 1) ≤ 8 * m + N := by omega
        have Hm := Lib.hid hm
        have hz := hb.size
        clear hlen hm
        by_cases h8 : 8 ≤ N
        · obtain ⟨M, hM⟩ : ∃ M, M = N - 8 := ⟨_, rfl⟩
          have eM : (N : Int) - 8 = (M : Int) := by omega
          have hgv := rg_give 8 B1 M (by omega) hB65
          obtain ⟨d, hd⟩ : ∃ d, d = B1 / 2 ^ M % 2 ^ 8 := ⟨_, rfl⟩
          rw [← hd] at hgv
          have hgv' : bits .and .i64 ((B1 : Int) / 2 ^ M) 255 = (d : Int) := hgv
          have hd32 : d < 256 := by omega
          have HM := Lib.hid hM
          have Hd := Lib.hid hd
          have hMN : M ≤ 12 := by omega
          have hmx : Tryz.prog.follows .mixedOrders = true := by kernel_rfl
          clear hgv hd hM
          go_wp2_with fail
          refine wp_region_plan [(0, 0), (1, 0), (2, 0), (3, 0), (4, 0), (5, 0), (6, 0), (7, 0), (8, 0), (9, 0), (10, 0), (11, 2), (12, 2), (13, 2)] 12 hmx (by kernel_rfl) (by intro c a d v w h; cases d <;> exact h) ?_
          repeat ((first | (refine wpPlan_pure rfl (fun K hK => ?_)) | (refine wpPlan_quiet rfl (fun K hK => ?_))); go_simp; (first | (refine hK _ ?_) | (simp only [IntWalk.iteOmega]; go_simp; refine hK _ ?_) | (go_bits; go_simp; refine hK _ ?_)); clear hK K; (try go_bits))
          refine wpPlan_loud rfl rfl (fun K hK => ?_)
          go_wp2_with fail
          refine ⟨.inr (ext_alloc_drew _ _), ?_⟩
          obtain ⟨w5, hw5⟩ : ∃ w5, w5 = (wr.alloc (.cells #[.int .u8 (d : Int)] 5)).drew := ⟨_, rfl⟩
          rw [← hw5]
          have hb5 : Below w.heap.size w w5 := by rw [hw5]; exact (hb.alloc hz _).drew
          have ho5 : Ow w5 w.heap.size 5 (.slice Al m cl) (B8 L) := by rw [hw5]; exact (ho.alloc _).drew
          have hn5 : Sl w5 (wr.heap.size + 1) (some ⟨wr.heap.size, 0, none⟩) [.int .u8 (d : Int)] := by rw [hw5]; exact (Sl.one wr _ _).drew
          have hz5 := hb5.size
          clear hw5
          refine wpPlan_loud rfl rfl (fun K hK => ?_)
          refine wp_append_Ow (m := 1) (c := 1) (base := w.heap.size) (xs := B8 L) (v := .slice Al m cl) (A := some ⟨wr.heap.size, 0, none⟩) (B := wr.heap.size + 1) (news := [.int .u8 (d : Int)]) elB (.tmp 57) (.tmp 68) rfl rfl ho5 rfl hn5 rfl (by simp; rfl) (by rw [B8_length, ← Hm.out]; simp [maxLen]; omega) (by rw [B8_length, ← Hm.out]; omega) hz5 ?_
          intro v6 w6 ho6 hg6 hr6
          have hb6 : Below w.heap.size w w6 := hb5.grown hg6 hz5 (fun r hr => (ho5.row r hr).1)
          refine (show K (Act.put _ (some 69) v6) w6 from ?_)
          conv in (Act.put _ (some 69) v6) => simp [Act.put]
          refine hK _ _ ⟨.inl (by decide), ?_⟩
          clear hK K
          rw [b8_snoc L _ (UInt8.ofNat d) (by simp; omega)] at ho6
          refine wpPlan_loud rfl rfl (fun K hK => ?_)
          refine Go.BigFrame.wp_assign (.tmp 69) rfl ?_
          refine (show K (Act.put _ (some 10) v6) w6 from ?_)
          conv in (Act.put _ (some 10) _) => simp [Act.put]
          refine hK _ _ ⟨.inl (by decide), ?_⟩
          clear hK K
          refine wpPlan_nil ?_
          clear ho ho5 hg6 hr6 hn5 hb5
          go_wp2_with fail
          exact ⟨⟨M, L ++ [UInt8.ofNat d], rfl, by omega, by rw [List.length_append, ← Hm.out]; simp; have := HM.out; omega, Lib.hid (HW.out.give 8 M d _ (by have := HM.out; omega) Hd.out (by simp; omega)), ho6, hb6⟩, by simp [intOf]; omega⟩
        · go_wp2_with fail
          exact ⟨⟨k + 1, N, B1, L, by omega, rfl, rfl, rfl, by omega, hB65, by rw [← Hm.out]; omega, HW, ho, hb⟩, by simp [intOf]; omega⟩
    · have hke : k = five.length := by omega
      have htk : five.take k = five := by rw [hke]; exact List.take_of_length_le (Nat.le_refl _)
      rw [htk] at HW
      obtain ⟨hLbs, hN5, hr0⟩ := five_back H5.out HW.out (by rw [← Hm.out, ← hke]; omega) hN
      rw [hLbs] at ho
      clear htk hm hke hLbs HW hN
      have hc : N = 0 ∨ N = 1 ∨ N = 2 ∨ N = 3 ∨ N = 4 := by omega
      rcases hc with rfl | rfl | rfl | rfl | rfl
      ·
        have hB0 : bits .and .i64 (B : Int) 0 = 0 := by
          refine (i64_and_nat B 0 (by omega) (by omega)).trans ?_
          rw [show (0 : Nat) = 2 ^ 0 - 1 from rfl, Nat.and_two_pow_sub_one_eq_mod, hr0]; rfl
        clear hr0
        go_wp2_with fail
        go_ret2
        exact ⟨_, rfl, ho, hb⟩
      ·
        have hB0 : bits .and .i64 (B : Int) 1 = 0 := by
          refine (i64_and_nat B 1 (by omega) (by omega)).trans ?_
          rw [show (1 : Nat) = 2 ^ 1 - 1 from rfl, Nat.and_two_pow_sub_one_eq_mod, hr0]; rfl
        clear hr0
        go_wp2_with fail
        go_ret2
        exact ⟨_, rfl, ho, hb⟩
      ·
        have hB0 : bits .and .i64 (B : Int) 3 = 0 := by
          refine (i64_and_nat B 3 (by omega) (by omega)).trans ?_
          rw [show (3 : Nat) = 2 ^ 2 - 1 from rfl, Nat.and_two_pow_sub_one_eq_mod, hr0]; rfl
        clear hr0
        go_wp2_with fail
        go_ret2
        exact ⟨_, rfl, ho, hb⟩
      ·
        have hB0 : bits .and .i64 (B : Int) 7 = 0 := by
          refine (i64_and_nat B 7 (by omega) (by omega)).trans ?_
          rw [show (7 : Nat) = 2 ^ 3 - 1 from rfl, Nat.and_two_pow_sub_one_eq_mod, hr0]; rfl
        clear hr0
        go_wp2_with fail
        go_ret2
        exact ⟨_, rfl, ho, hb⟩
      ·
        have hB0 : bits .and .i64 (B : Int) 15 = 0 := by
          refine (i64_and_nat B 15 (by omega) (by omega)).trans ?_
          rw [show (15 : Nat) = 2 ^ 4 - 1 from rfl, Nat.and_two_pow_sub_one_eq_mod, hr0]; rfl
        clear hr0
        go_wp2_with fail
        go_ret2
        exact ⟨_, rfl, ho, hb⟩
end Go.Proofs.YtkiigonikeeikaaGreatDoor

/-! Base conversion, by values. -/
namespace Go.Proofs.YtkiigonikeeikaaGreatDoor

/-- The value of digits, the highest first. -/
def horner (f : Nat) (l : List UInt8) : Nat := l.foldl (fun v d => v * f + d.toNat) 0
theorem horner_nil (f : Nat) : horner f [] = 0 := rfl
theorem horner_snoc (f : Nat) (l : List UInt8) (d : UInt8) : horner f (l ++ [d]) = horner f l * f + d.toNat := by simp [horner]
theorem mul_div_step (f t V c : Nat) (ht : 0 < t) : (V * f + c) % t = (c + V % t * f) % t ∧ (V * f + c) / t = V / t * f + (c + V % t * f) / t := by
  have h : V * f + c = t * (V / t * f) + (c + V % t * f) := by
    have h1 := Nat.div_add_mod V t
    have h2 : (t * (V / t) + V % t) * f = V * f := by rw [h1]
    rw [Nat.add_mul, Nat.mul_assoc] at h2
    omega
  rw [h]
  exact ⟨by rw [Nat.mul_add_mod], by rw [Nat.mul_add_div ht]⟩
theorem step_pushes (f t : Nat) (hf : 1 ≤ f) (ht : 2 ≤ t) (ht2 : t ≤ 256) : ∀ (n V c : Nat), V ≤ n → baseStep f t (pushes t V V) c = pushes t (V * f + c) (V * f + c) := by
  intro n
  induction n with
  | zero =>
    intro V c hV
    obtain rfl : V = 0 := by omega
    simp [baseStep, pushes, mid]
  | succ n ih =>
    intro V c hV
    by_cases h0 : V = 0
    · subst h0; simp [baseStep, pushes, mid]
    · have hp : 0 < V * f + c := by have : 0 < V * f := Nat.mul_pos (by omega) (by omega); omega
      rw [pushes_pos t V ht (by omega), pushes_pos t (V * f + c) ht hp]
      have hlt : V / t < V := Nat.div_lt_self (by omega) (by omega)
      have hm := Nat.mod_lt V (show 0 < t by omega)
      have hx : (UInt8.ofNat (V % t)).toNat = V % t := by rw [UInt8.toNat_ofNat', Nat.mod_eq_of_lt (by omega)]
      obtain ⟨h1, h2⟩ := mul_div_step f t V c (by omega)
      have := ih (V / t) ((c + V % t * f) / t) (by omega)
      unfold baseStep at this ⊢
      simp only [mid, hx, List.cons_append]
      rw [this, ← h2, ← h1]
theorem baseL_pushes (f t : Nat) (hf : 1 ≤ f) (ht : 2 ≤ t) (ht2 : t ≤ 256) (l : List UInt8) : baseL f t l = pushes t (horner f l) (horner f l) := by
  induction hn : l.length generalizing l with
  | zero => rw [List.length_eq_zero_iff.1 hn]; simp [baseL, horner, pushes]
  | succ n ih =>
    rcases List.eq_nil_or_concat l with rfl | ⟨l', d0, rfl⟩
    · simp at hn
    · rw [List.concat_eq_append] at hn ⊢
      rw [baseL_snoc, horner_snoc, ih l' (by simpa using hn), step_pushes f t hf ht ht2 _ _ _ (Nat.le_refl _)]
theorem pushes_horner (t : Nat) (ht : 2 ≤ t) (l : List UInt8) (hl : ∀ d ∈ l, d.toNat < t) (h0 : ∀ d, l.head? = some d → d.toNat ≠ 0) : pushes t (horner t l) (horner t l) = l.reverse ∧ (l ≠ [] → 0 < horner t l) := by
  induction hn : l.length generalizing l with
  | zero => rw [List.length_eq_zero_iff.1 hn]; simp [horner, pushes]
  | succ n ih =>
    rcases List.eq_nil_or_concat l with rfl | ⟨l', d0, rfl⟩
    · simp at hn
    · rw [List.concat_eq_append] at hn hl h0 ⊢
      have hd := hl d0 (by simp)
      by_cases he : l' = []
      · subst he
        have hd0 := h0 d0 (by simp)
        have hv : horner t ([] ++ [d0]) = d0.toNat := by simp [horner]
        refine ⟨?_, fun _ => by rw [hv]; omega⟩
        rw [hv, pushes_pos t _ ht (by omega), Nat.div_eq_of_lt hd, Nat.mod_eq_of_lt hd]
        simp [pushes]
      · have hp := ih l' (fun d h => hl d (by simp [h])) (fun d h => h0 d (by cases l' with | nil => simp at he | cons x xs => simpa using h)) (by simpa using hn)
        have hpos := hp.2 he
        have hm : 0 < horner t l' * t := Nat.mul_pos hpos (by omega)
        rw [horner_snoc]
        refine ⟨?_, fun _ => by omega⟩
        rw [pushes_pos t _ ht (by omega), show (horner t l' * t + d0.toNat) % t = d0.toNat by rw [Nat.mul_add_mod_self_right, Nat.mod_eq_of_lt hd],
          show (horner t l' * t + d0.toNat) / t = horner t l' by rw [Nat.mul_comm, Nat.mul_add_div (by omega), Nat.div_eq_of_lt hd]; rfl, hp.1]
        simp
theorem horner_pushes (t : Nat) (ht : 2 ≤ t) (ht2 : t ≤ 256) : ∀ (n V : Nat), V ≤ n → horner t (pushes t V V).reverse = V := by
  intro n
  induction n with
  | zero =>
    intro V hV
    obtain rfl : V = 0 := by omega
    rfl
  | succ n ih =>
    intro V hV
    by_cases h0 : V = 0
    · subst h0; rfl
    · have hlt : V / t < V := Nat.div_lt_self (by omega) (by omega)
      have hm := Nat.mod_lt V (show 0 < t by omega)
      rw [pushes_pos t V ht (by omega), List.reverse_cons, horner_snoc, ih (V / t) (by omega), UInt8.toNat_ofNat', Nat.mod_eq_of_lt (show V % t < 2 ^ 8 by omega)]
      have := Nat.div_add_mod V t
      rw [Nat.mul_comm]; exact this
theorem pushes_top (t : Nat) (ht : 2 ≤ t) (ht2 : t ≤ 256) : ∀ (n V : Nat), V ≤ n → ∀ d, (pushes t V V).reverse.head? = some d → d.toNat ≠ 0 := by
  intro n
  induction n with
  | zero =>
    intro V hV d hd
    obtain rfl : V = 0 := by omega
    simp [pushes] at hd
  | succ n ih =>
    intro V hV d hd
    by_cases h0 : V = 0
    · subst h0; simp [pushes] at hd
    · have hlt : V / t < V := Nat.div_lt_self (by omega) (by omega)
      have hm := Nat.mod_lt V (show 0 < t by omega)
      rw [pushes_pos t V ht (by omega), List.reverse_cons] at hd
      by_cases hq : V / t = 0
      · rw [hq] at hd
        simp only [pushes, List.reverse_nil, List.nil_append, List.head?_cons, Option.some.injEq] at hd
        have hVm : V % t = V := Nat.mod_eq_of_lt ((Nat.div_eq_zero_iff_lt (by omega)).1 hq)
        rw [← hd, UInt8.toNat_ofNat', Nat.mod_eq_of_lt (by omega)]; omega
      · refine ih (V / t) (by omega) d ?_
        cases hrev : (pushes t (V / t) (V / t)).reverse with
        | nil =>
          have := congrArg List.length hrev
          rw [pushes_pos t _ ht (Nat.pos_of_ne_zero hq)] at this
          simp at this
        | cons x xs => rw [hrev] at hd; simpa using hd
theorem pushes_digits (t : Nat) (ht : 2 ≤ t) (ht2 : t ≤ 256) (V : Nat) : ∀ d ∈ pushes t V V, d.toNat < t := pushes_lt t (by omega) ht2 V V
end Go.Proofs.YtkiigonikeeikaaGreatDoor

/-! ref03.FromBase58. -/
namespace Go.Proofs.YtkiigonikeeikaaGreatDoor
open Go.RowKit Go.Shelf

/-- The digits in the midst of a step, the lowest first. -/
def rowQ (X : List UInt8) (d q : Nat) : List UInt8 := (mid 58 256 (X.take q) d).1 ++ X.drop q
theorem rowQ_length (X : List UInt8) (d q : Nat) (h : q ≤ X.length) : (rowQ X d q).length = X.length := by rw [rowQ, List.length_append, mid_len]; simp; omega
theorem rowQ_zero (X : List UInt8) (d : Nat) : rowQ X d 0 = X := by simp [rowQ, mid]
theorem rowQ_end (X : List UInt8) (d : Nat) : rowQ X d X.length = (mid 58 256 X d).1 := by simp [rowQ]
def carQ (X : List UInt8) (d q : Nat) : Nat := (mid 58 256 (X.take q) d).2
theorem take_snoc (X : List UInt8) (q : Nat) (h : q < X.length) : X.take (q + 1) = X.take q ++ [X[q]] := by rw [List.take_succ_eq_append_getElem h]
theorem carQ_succ (X : List UInt8) (d q : Nat) (h : q < X.length) : carQ X d (q + 1) = (carQ X d q + X[q].toNat * 58) / 256 := by rw [carQ, take_snoc X q h, mid_snoc]; rfl
theorem rowQ_at (X : List UInt8) (d q : Nat) (h : q < X.length) : (rowQ X d q)[q]? = some X[q] := by
  rw [rowQ, List.getElem?_append_right (by rw [mid_len]; simp; omega), mid_len]
  simp [show min q X.length = q by omega, h]
theorem rowQ_set (X : List UInt8) (d q : Nat) (h : q < X.length) : (rowQ X d q).set q (UInt8.ofNat ((carQ X d q + X[q].toNat * 58) % 256)) = rowQ X d (q + 1) := by
  have hl : ((mid 58 256 (X.take q) d).1).length = q := by rw [mid_len]; simp; omega
  rw [rowQ, List.set_append_right _ _ (by omega), hl, Nat.sub_self, rowQ, take_snoc X q h, mid_snoc]
  rw [show X.drop q = X[q] :: X.drop (q + 1) from List.drop_eq_getElem_cons h, List.set_cons_zero]
  simp [carQ]
theorem rev_at (L : List UInt8) (q : Nat) (h : q < L.length) : L.reverse[L.length - 1 - q]? = L[q]? := by
  rw [List.getElem?_reverse (by omega)]; congr 1; omega
theorem rev_set (L : List UInt8) (q : Nat) (a : UInt8) (h : q < L.length) : L.reverse.set (L.length - 1 - q) a = (L.set q a).reverse := by
  apply List.ext_getElem (by simp)
  intro i h1 h2
  simp only [List.length_set, List.length_reverse] at h1 h2
  rw [List.getElem_set, List.getElem_reverse, List.getElem_reverse, List.getElem_set]
  simp only [List.length_set]
  by_cases e : L.length - 1 - q = i
  · rw [if_pos e, if_pos (by omega)]
  · rw [if_neg e, if_neg (by omega)]
theorem push_one (c : Nat) (hc : c < 256) : pushes 256 c c = if c = 0 then [] else [UInt8.ofNat c] := by
  by_cases h : c = 0
  · subst h; rfl
  · rw [if_neg h, pushes_pos 256 c (by omega) (by omega), Nat.div_eq_of_lt hc, Nat.mod_eq_of_lt hc]; rfl
theorem next_row (X : List UInt8) (d : Nat) (hd : d < 58) : (baseStep 58 256 X d).reverse = (if carQ X d X.length = 0 then [] else [UInt8.ofNat (carQ X d X.length)]) ++ (rowQ X d X.length).reverse := by
  have hc : carQ X d X.length = (mid 58 256 X d).2 := by simp [carQ]
  have h1 := mid_carry 58 256 (by omega) (by omega) X d (fun x _ => x.toNat_lt) hd
  rw [baseStep, rowQ_end, hc, push_one _ (by omega), List.reverse_append]
  split <;> simp
theorem carQ_lt (X : List UInt8) (d q : Nat) (hd : d < 58) : carQ X d q < 58 := mid_carry 58 256 (by omega) (by omega) _ _ (fun x _ => x.toNat_lt) hd
def ones (S : List UInt8) : Nat := S.length - (S.dropWhile (· == 49)).length
theorem ones_le (S : List UInt8) : ones S ≤ S.length := by unfold ones; omega
theorem ones_lt (S : List UInt8) (j : Nat) (h : j < ones S) : S[j]? = some 49 := by
  have hs : S = List.replicate (ones S) 49 ++ S.dropWhile (· == 49) := dropWhile_split S
  have h2 : S[j]? = (List.replicate (ones S) 49 ++ S.dropWhile (· == 49))[j]? := congrArg (fun l : List UInt8 => l[j]?) hs
  rw [h2, List.getElem?_append_left (by simpa using h)]
  exact List.getElem?_replicate_of_lt h
theorem ones_end (S : List UInt8) (y : UInt8) (hy : S[ones S]? = some y) : y ≠ 49 := by
  intro e
  have hs : S = List.replicate (ones S) 49 ++ S.dropWhile (· == 49) := dropWhile_split S
  have h2 : S[ones S]? = (List.replicate (ones S) 49 ++ S.dropWhile (· == 49))[ones S]? := congrArg (fun l : List UInt8 => l[ones S]?) hs
  rw [h2, List.getElem?_append_right (by simp)] at hy
  simp only [List.length_replicate, Nat.sub_self] at hy
  have hne : S.dropWhile (· == 49) ≠ [] := fun e => by rw [e] at hy; simp at hy
  have h3 := List.head_dropWhile_not (· == (49 : UInt8)) (l := S) hne
  rw [← List.head?_eq_getElem?, List.head?_eq_some_head hne] at hy
  injection hy with hy
  rw [hy, e] at h3
  simp at h3

end Go.Proofs.YtkiigonikeeikaaGreatDoor

/-! ref03.Base58. -/
namespace Go.Proofs.YtkiigonikeeikaaGreatDoor
open Go.RowKit Go.Shelf

/-- Long division by 58. -/
def divL : Nat → List UInt8 → List UInt8 × Nat
  | r, [] => ([], r)
  | r, d :: l => (UInt8.ofNat ((r * 256 + d.toNat) / 58) :: (divL ((r * 256 + d.toNat) % 58) l).1, (divL ((r * 256 + d.toNat) % 58) l).2)
theorem divL_append : ∀ (a b : List UInt8) (r : Nat), divL r (a ++ b) = ((divL r a).1 ++ (divL (divL r a).2 b).1, (divL (divL r a).2 b).2)
  | [], b, r => rfl
  | x :: a, b, r => by simp only [List.cons_append, divL, divL_append a b]
theorem divL_length : ∀ (l : List UInt8) (r : Nat), (divL r l).1.length = l.length
  | [], _ => rfl
  | x :: l, r => by simp [divL, divL_length l]
theorem divL_snoc (l : List UInt8) (d : UInt8) (r : Nat) : divL r (l ++ [d]) = ((divL r l).1 ++ [UInt8.ofNat (((divL r l).2 * 256 + d.toNat) / 58)], ((divL r l).2 * 256 + d.toNat) % 58) := by rw [divL_append]; rfl
theorem divL_value (l : List UInt8) : (divL 0 l).2 = horner 256 l % 58 ∧ horner 256 (divL 0 l).1 = horner 256 l / 58 := by
  induction hn : l.length generalizing l with
  | zero => rw [List.length_eq_zero_iff.1 hn]; exact ⟨rfl, rfl⟩
  | succ n ih =>
    rcases List.eq_nil_or_concat l with rfl | ⟨l', d, rfl⟩
    · simp at hn
    · rw [List.concat_eq_append] at hn ⊢
      obtain ⟨h1, h2⟩ := ih l' (by simpa using hn)
      obtain ⟨V, hV⟩ : ∃ V, V = horner 256 l' := ⟨_, rfl⟩
      rw [← hV] at h1 h2
      have hd := d.toNat_lt
      rw [divL_snoc, horner_snoc, ← hV]
      constructor
      · show ((divL 0 l').2 * 256 + d.toNat) % 58 = _
        rw [h1]; omega
      · show horner 256 ((divL 0 l').1 ++ [UInt8.ofNat (((divL 0 l').2 * 256 + d.toNat) / 58)]) = _
        rw [horner_snoc, h1, h2, UInt8.toNat_ofNat', Nat.mod_eq_of_lt (by omega)]; omega
theorem divL_rem (l : List UInt8) : (divL 0 l).2 < 58 := by rw [(divL_value l).1]; exact Nat.mod_lt _ (by omega)
theorem divL_zeros : ∀ (l : List UInt8), (∀ x ∈ l, x = 0) → divL 0 l = (l, 0)
  | [], _ => rfl
  | x :: l, h => by
    have hx : x = 0 := h x (by simp)
    subst hx
    have := divL_zeros l (fun y hy => h y (by simp [hy]))
    simp [divL, this]
theorem horner_zeros (l : List UInt8) (h : ∀ x ∈ l, x = 0) : horner 256 l = 0 := by
  have h1 := (divL_value l).2
  have h2 : l = List.replicate l.length 0 := List.eq_replicate_iff.2 ⟨rfl, h⟩
  rw [h2]
  generalize l.length = n
  induction n with
  | zero => rfl
  | succ n ih => rw [List.replicate_succ', horner_snoc, ih]; rfl
theorem horner_pos (l : List UInt8) (x : UInt8) (hx : x ∈ l) (h0 : x ≠ 0) : 0 < horner 256 l := by
  induction hn : l.length generalizing l with
  | zero => rw [List.length_eq_zero_iff.1 hn] at hx; simp at hx
  | succ n ih =>
    rcases List.eq_nil_or_concat l with rfl | ⟨l', d, rfl⟩
    · simp at hn
    · rw [List.concat_eq_append] at hn hx ⊢
      rw [horner_snoc]
      simp only [List.mem_append, List.mem_singleton] at hx
      rcases hx with hx | rfl
      · have := ih l' hx (by simpa using hn); omega
      · have : x.toNat ≠ 0 := fun e => h0 (UInt8.toNat_inj.1 (by simpa using e))
        omega
/-- The bytes in the midst of a division. -/
def rowD (L : List UInt8) (i : Nat) : List UInt8 := (divL 0 (L.take i)).1 ++ L.drop i
def remD (L : List UInt8) (i : Nat) : Nat := (divL 0 (L.take i)).2
theorem rowD_length (L : List UInt8) (i : Nat) (h : i ≤ L.length) : (rowD L i).length = L.length := by rw [rowD, List.length_append, divL_length]; simp; omega
theorem rowD_at (L : List UInt8) (i : Nat) (h : i < L.length) : (rowD L i)[i]? = some L[i] := by
  rw [rowD, List.getElem?_append_right (by rw [divL_length]; simp; omega), divL_length]
  simp [show min i L.length = i by omega, h]
theorem rowD_set (L : List UInt8) (i : Nat) (h : i < L.length) : (rowD L i).set i (UInt8.ofNat ((remD L i * 256 + L[i].toNat) / 58)) = rowD L (i + 1) := by
  have hl : ((divL 0 (L.take i)).1).length = i := by rw [divL_length]; simp; omega
  rw [rowD, List.set_append_right _ _ (by omega), hl, Nat.sub_self, rowD, take_snoc L i h, divL_snoc]
  rw [show L.drop i = L[i] :: L.drop (i + 1) from List.drop_eq_getElem_cons h, List.set_cons_zero]
  simp [remD]
theorem remD_succ (L : List UInt8) (i : Nat) (h : i < L.length) : remD L (i + 1) = (remD L i * 256 + L[i].toNat) % 58 := by rw [remD, take_snoc L i h, divL_snoc]; rfl
theorem rowD_begin (L : List UInt8) (k : Nat) (h : ∀ x ∈ L.take k, x = 0) : rowD L k = L ∧ remD L k = 0 := by
  rw [rowD, remD, divL_zeros _ h]; exact ⟨List.take_append_drop k L, rfl⟩
theorem rowD_end (L : List UInt8) : rowD L L.length = (divL 0 L).1 ∧ remD L L.length = (divL 0 L).2 := by simp [rowD, remD]
theorem rowD_zeros (L : List UInt8) (k : Nat) (hk : k ≤ L.length) (h : ∀ x ∈ L.take k, x = 0) : ∀ x ∈ (divL 0 L).1.take k, x = 0 := by
  have h1 : divL 0 L = divL 0 (L.take k ++ L.drop k) := by rw [List.take_append_drop]
  rw [h1, divL_append, divL_zeros _ h]
  simp only
  rw [List.take_append_of_le_length (by simp; omega), List.take_of_length_le (by simp; omega)]
  exact h
theorem digit_step (V : Nat) (h : 0 < V) : pushes 58 V V = UInt8.ofNat (V % 58) :: pushes 58 (V / 58) (V / 58) := pushes_pos 58 V (by omega) h
theorem letters58_nat (r : Nat) (hr : r < 58) (h : r < (⟨letters58.toArray⟩ : ByteArray).size) : (⟨letters58.toArray⟩ : ByteArray)[r] = let58 (UInt8.ofNat r) := by
  have e : (UInt8.ofNat r).toNat = r := by rw [UInt8.toNat_ofNat', Nat.mod_eq_of_lt (by omega)]
  have h' : r < letters58.length := h
  show letters58.toArray[r]'(by simpa using h') = _
  simp [let58, e, h']
theorem lz_lt : ∀ (b : List UInt8) (j : Nat), j < lz b → b[j]? = some 0
  | [], j, h => by simp [lz] at h
  | x :: b, j, h => by
    unfold lz at h
    split at h
    · rename_i hx
      cases j with
      | zero => simp [hx]
      | succ j => simpa using lz_lt b j (by omega)
    · omega
theorem lz_end : ∀ (b : List UInt8) (y : UInt8), b[lz b]? = some y → y ≠ 0
  | [], y, h => by simp at h
  | x :: b, y, h => by
    unfold lz at h
    split at h
    · exact lz_end b y (by simpa using h)
    · rename_i hx
      simp at h; rw [← h]; exact hx
def rowVal (g N : Nat) (w : World) : Nat := match w.heap[g]? with
  | some (.cells cur _ _) => (cur.toList.take N).foldl (fun v x => v * 256 + (intOf x).toNat) 0
  | _ => 0
theorem rowVal_ow {w : World} {base E g N c : Nat} {L : List UInt8} (h : Ow w base E (.slice (some ⟨g, 0, none⟩) N c) (B8 L)) (hN : 0 < N) : rowVal g N w = horner 256 L := by
  obtain ⟨A', c', e, h1, h2, h3⟩ := h
  injection e with e1 e2 e3
  obtain ⟨g', cur, e4, _, hh, _, ht⟩ := h3 (by omega)
  rw [← e1] at e4; injection e4 with e4; injection e4 with e4
  subst e4
  rw [rowVal, hh]
  simp only
  rw [e2, ht, B8, List.foldl_map]
  rfl

end Go.Proofs.YtkiigonikeeikaaGreatDoor
