/- The reference's step and sum of bech32. | The reference's Bech32. | strings.ToLower where nothing is great; text.plain. | text.FromBech32 of what Bech32 wrote. -/
import Derived.Test.YtkiigonikeeikaaGreatDoorU15
import Derived.Test.YtkiigonikeeikaaGreatDoorU14
import Derived.Test.YtkiigonikeeikaaGreatDoorU12

/-! The reference's step and sum of bech32. -/
namespace Go.Proofs.YtkiigonikeeikaaGreatDoor
open Go.RowKit Go.Shelf

theorem st_c (x : BitVec 64) (y : UInt8) : bits .xor .u64 ((x.toNat : Int) % 33554432 * 32) (y.toNat : Int) = ((((x &&& 0x1ffffff) <<< 5) ^^^ v64 y).toNat : Int) := by
  have h := sb_c x y
  have h1 : bits .and .u64 (x.toNat : Int) 33554431 = (x.toNat : Int) % 33554432 := by
    refine (u64_and_nat x.toNat 33554431 x.isLt (by omega)).trans ?_
    rw [show (33554431 : Nat) = 2 ^ 25 - 1 from rfl, Nat.and_two_pow_sub_one_eq_mod]; rfl
  rw [h1, IntKind.wrap_u64, Int.emod_eq_of_lt (by omega) (by omega)] at h
  exact h
theorem st_bit (b : BitVec 64) (q : Nat) : (b >>> q) &&& 1 = 1 ↔ b.toNat / 2 ^ q % 2 = 1 := by
  have e : ((b >>> q) &&& 1).toNat = b.toNat / 2 ^ q % 2 := by
    rw [BitVec.toNat_and, BitVec.toNat_ushiftRight, Nat.shiftRight_eq_div_pow, show (1 : BitVec 64).toNat = 2 ^ 1 - 1 from rfl, Nat.and_two_pow_sub_one_eq_mod, Nat.pow_one]
  rw [← e]
  constructor
  · intro h; rw [h]; rfl
  · intro h; exact BitVec.eq_of_toNat_eq h

end Go.Proofs.YtkiigonikeeikaaGreatDoor

/-! The reference's Bech32. -/
namespace Go.Proofs.YtkiigonikeeikaaGreatDoor
open Go.RowKit Go.Shelf

theorem Sl.row (w : World) (cs : List Value) (E : TypeId) : Sl (w.alloc (.cells cs.toArray E)) (w.heap.size + 1) (some ⟨w.heap.size, 0, none⟩) cs := fun _ =>
  ⟨w.heap.size, 0, rfl, by omega, fun j hj => by
    rw [Nat.zero_add, cell_of_row _ _ _ _ _ (0, 0) (heap_alloc_new w _)]
    simp [hj]⟩

end Go.Proofs.YtkiigonikeeikaaGreatDoor

/-! strings.ToLower where nothing is great; text.plain. -/
namespace Go.Proofs.YtkiigonikeeikaaGreatDoor
open Go.RowKit Go.Shelf

set_option maxRecDepth 100000 in
set_option maxHeartbeats 2000000 in
theorem toLower_any (s : ByteArray) (hsz : s.size ≤ maxLen) (hall : ∀ (j : Nat) (h : j < s.size), s[j].toNat < 128 ∧ (s[j].toNat < 65 ∨ 90 < s[j].toNat)) (w : World) :
    Calls Tryz.prog 74 #[.string s] w fun e w' => e = .returned (.string s) ∧ w' = w := by
  unfold maxLen at hsz
  have Hall := Lib.hid hall
  clear hall
  go_enter Tryz.func74, Tryz.ntmps74
  go_wp2
  go_loop [3, 4, 5] (fun z u i => ∃ k : Nat, k ≤ s.size ∧ i = .int .i64 k ∧ u = .bool false ∧ z = .bool true) (fun _ _ i => s.size - (intOf i).toNat)
  case atStart => exact ⟨0, Nat.zero_le _, rfl, rfl, rfl⟩
  case round =>
    obtain ⟨k, hk, rfl, rfl, rfl⟩ := hrel
    by_cases hlt : k < s.size
    · have h1 := (Hall.out k hlt).1
      rcases (Hall.out k hlt).2 with h2 | h2
      · go_wp2
        exact ⟨⟨k + 1, by omega, rfl, rfl, rfl⟩, by simp [intOf]; omega⟩
      · have h3 : 65 ≤ s[k].toNat := by omega
        go_wp2
        exact ⟨⟨k + 1, by omega, rfl, by congr 1; simp; omega, rfl⟩, by simp [intOf]; omega⟩
    · go_wp2
      go_ret
      exact ⟨rfl, rfl⟩

set_option maxRecDepth 100000 in
set_option maxHeartbeats 2000000 in
theorem plain_any (s : ByteArray) (hsz : s.size ≤ maxLen) (hall : ∀ (j : Nat) (h : j < s.size), 33 ≤ s[j].toNat ∧ s[j].toNat ≤ 126 ∧ (s[j].toNat < 65 ∨ 90 < s[j].toNat)) (w : World) :
    Calls Tryz.prog 53 #[.string s] w fun e w' => e = .returned (.tuple #[.string s, .bool true]) ∧ w' = w := by
  have hlow := toLower_any s hsz (fun j h => ⟨by have := hall j h; omega, (hall j h).2.2⟩)
  unfold maxLen at hsz
  have Hlow := Lib.hid hlow
  have Hall := Lib.hid hall
  clear hall hlow
  go_enter Tryz.func53, Tryz.ntmps53
  go_wp2
  go_loop [8] (fun i => ∃ k : Nat, k ≤ s.size ∧ i = .int .i64 k) (fun i => s.size - (intOf i).toNat)
  case atStart => exact ⟨0, Nat.zero_le _, rfl⟩
  case round =>
    obtain ⟨k, hk, rfl⟩ := hrel
    by_cases hlt : k < s.size
    · have h1 := (Hall.out k hlt).1
      have h2 := (Hall.out k hlt).2.1
      go_wp2
      exact ⟨⟨k + 1, by omega, rfl⟩, by simp [intOf]; omega⟩
    · go_wp2_with (go_at_call 74; refine (Hlow.out _).mono ?_; rintro e w' ⟨rfl, rfl⟩)
      go_ret2
      exact ⟨rfl, rfl⟩
end Go.Proofs.YtkiigonikeeikaaGreatDoor

/-! text.FromBech32 of what Bech32 wrote. -/
namespace Go.Proofs.YtkiigonikeeikaaGreatDoor
open Go.RowKit Go.Shelf

theorem let32_fine (y : UInt8) (h : y.toNat < 32) : 33 ≤ (let32 y).toNat ∧ (let32 y).toNat ≤ 126 ∧ ((let32 y).toNat < 65 ∨ 90 < (let32 y).toNat) ∧ (let32 y).toNat ≠ 49 ∧ placeZ letters32 (let32 y) = (y.toNat : Int) := by
  have : ∀ d : Fin 32, 33 ≤ (let32 (UInt8.ofNat d.val)).toNat ∧ (let32 (UInt8.ofNat d.val)).toNat ≤ 126 ∧ ((let32 (UInt8.ofNat d.val)).toNat < 65 ∨ 90 < (let32 (UInt8.ofNat d.val)).toNat) ∧ (let32 (UInt8.ofNat d.val)).toNat ≠ 49 ∧ placeZ letters32 (let32 (UInt8.ofNat d.val)) = (d.val : Int) := by decide
  have h2 := this ⟨y.toNat, h⟩
  simpa using h2

theorem results_tmp4 {fn : Func} {t u v x : Tmp} (h : fn.results = #[.tmp t, .tmp u, .tmp v, .tmp x]) (tmps : Array Value) (P : Program) (w : World) :
    (results fn tmps).run P w = .ok (.tuple #[tmps.getD t undef, tmps.getD u undef, tmps.getD v undef, tmps.getD x undef]) w := by
  simp [results, h]

set_option maxRecDepth 100000 in
set_option maxHeartbeats 4000000 in
theorem frombech_any (s : ByteArray) (S D : List UInt8) (m : Bool) (w : World) (hST : s.data.toList = S ++ [49] ++ (D ++ lets6 (bech (spreadL S ++ D ++ List.replicate 6 0) ^^^ conK m) 6).map let32) (hg : goodH S = true) (h32 : ∀ x ∈ D, x.toNat < 32) (hlen : S.length + D.length + 7 ≤ 90) :
    Calls Tryz.prog 28 #[.string s] w fun e W' => ∃ A, e = .returned (.tuple #[.string ⟨S.toArray⟩, .slice A D.length D.length, .bool m, .int .i64 0]) ∧ Sl W' W'.heap.size A (B8 D) ∧ Below w.heap.size w W' := by
  obtain ⟨M, hM⟩ : ∃ M, M = D ++ lets6 (bech (spreadL S ++ D ++ List.replicate 6 0) ^^^ conK m) 6 := ⟨_, rfl⟩
  rw [← hM] at hST
  have hMl : M.length = D.length + 6 := by rw [hM, List.length_append, lets6_length]
  have hM32 : ∀ y ∈ M, y.toNat < 32 := by
    intro y hy
    rw [hM] at hy
    rcases List.mem_append.1 hy with h | h
    · exact h32 y h
    · exact lets6_lt _ _ y h
  have hsum : bech (spreadL S ++ M) = conK m := by
    rw [hM, ← List.append_assoc]; exact bech_closes _ _ (conK_lt m)
  have hMD : M.take D.length = D := by rw [hM]; simp
  have hsz : s.size = S.length + 1 + M.length := by have h1 := congrArg List.length hST; simp at h1; omega
  have hS0 : 0 < S.length := by cases S with | nil => cases hg | cons => simp
  have hSok : ∀ c ∈ S, okc c = true := by
    unfold goodH at hg; simp only [Bool.and_eq_true] at hg
    exact List.all_eq_true.1 hg.2
  have hget : ∀ (j : Nat) (h : j < s.size), (S ++ [49] ++ M.map let32)[j]? = some s[j] := fun j h => by rw [← hST]; simp [h]; rfl
  have hlow : ∀ (j : Nat) (h : j < s.size), 33 ≤ s[j].toNat ∧ s[j].toNat ≤ 126 ∧ (s[j].toNat < 65 ∨ 90 < s[j].toNat) := by
    intro j h
    have hm := List.mem_of_getElem? (hget j h)
    simp only [List.mem_append, List.mem_singleton, List.mem_map] at hm
    rcases hm with (hm | hm) | ⟨y, hy, hm⟩
    · have := hSok _ hm
      simp [okc] at this
      omega
    · rw [hm]; decide
    · rw [← hm]
      have := let32_fine y (hM32 y hy)
      exact ⟨this.1, this.2.1, this.2.2.1⟩
  have hat : ∀ (h : S.length < s.size), s[S.length].toNat = 49 := fun h => by
    have h1 := hget S.length h
    rw [List.getElem?_append_left (by simp), List.getElem?_append_right (Nat.le_refl _)] at h1
    simp at h1
    rw [← h1]; rfl
  have hbeh : ∀ (q : Nat) (h : S.length + 1 + q < s.size) (hq : q < M.length), s[S.length + 1 + q] = let32 M[q] := fun q h hq => by
    have h1 := hget (S.length + 1 + q) h
    rw [List.getElem?_append_right (by simp)] at h1
    simp [hq] at h1
    exact h1.symm
  have hlast : ∀ (j : Nat) (h : j < s.size), S.length < j → s[j].toNat ≠ 49 := by
    intro j h hj
    obtain ⟨q, rfl⟩ : ∃ q, j = S.length + 1 + q := ⟨j - S.length - 1, by omega⟩
    have hq : q < M.length := by omega
    rw [hbeh q h hq]
    exact (let32_fine _ (hM32 _ (List.getElem_mem _))).2.2.2.1
  have hplain := plain_any s (by simp [maxLen]; omega) hlow
  have hlasti := lastIndex_any s 49 S.length (by simp [maxLen]; omega) (by omega) (hat (by omega)) hlast
  obtain ⟨n, hn⟩ : ∃ n, n = S.length := ⟨_, rfl⟩
  obtain ⟨N, hN⟩ : ∃ N, N = M.length := ⟨_, rfl⟩
  rw [← hn, ← hN] at hsz
  rw [← hn] at hlasti hlen hS0
  rw [← hN] at hMl
  have hs1 : s.size ≤ n + 1 + N := by omega
  have hs2 : n + 1 + N ≤ s.size := by omega
  have hN1 : N ≤ D.length + 6 := by omega
  have hN2 : D.length + 6 ≤ N := by omega
  have Hplain := Lib.hid hplain
  have Hlasti := Lib.hid hlasti
  have hbeh' : ∀ (q : Nat) (h : n + 1 + q < s.size) (hq : q < M.length), s[n + 1 + q] = let32 M[q] := by subst hn; exact hbeh
  have Hbeh := Lib.hid hbeh'
  have HM32 := Lib.hid hM32
  have HMD := Lib.hid hMD
  have Hsum := Lib.hid hsum
  have HST := Lib.hid hST
  have Hn := Lib.hid hn
  have HN := Lib.hid hN
  clear hplain hlasti hbeh hbeh' hM32 hMD hsum hST hn hN hlast hat hlow hget hSok hsz hMl hM hg h32
  go_enter Tryz.func28, Tryz.ntmps28
  go_wp2_with fail
  refine (Hplain.out _).mono ?_
  rintro e w' ⟨rfl, rfl⟩
  go_wp2_with fail
  refine (Hlasti.out _).mono ?_
  rintro e w' ⟨rfl, rfl⟩
  go_wp2_with fail
  obtain ⟨wZ, rfl⟩ : ∃ wZ, wZ = w' := ⟨_, rfl⟩
  go_loopw [8, 9] (fun v i wr => ∃ q : Nat, q ≤ N ∧ i = .int .i64 ((n + 1 + q : Nat) : Int) ∧ Ow wr wZ.heap.size 5 v (B8 (M.take q)) ∧ Below wZ.heap.size wZ wr) (fun _ i _ => s.size - (intOf i).toNat)
  case atStart => exact ⟨0, Nat.zero_le _, rfl, Ow.nil_ _ _ _ _, Below.refl _ _⟩
  case round =>
    obtain ⟨q, hq, rfl, ho, hb⟩ := hrel
    obtain ⟨L, hL⟩ : ∃ L, L = M.take q := ⟨_, rfl⟩
    have hLl : L.length = q := by rw [hL]; have := HN.out; simp; omega
    rw [← hL] at ho
    obtain ⟨Al, cl, rfl, hcl, hcl'⟩ := own_form ho
    rw [hLl] at ho hcl ⊢
    have HLl := Lib.hid hLl
    have HL := Lib.hid hL
    have hz := hb.size
    obtain ⟨m0, hm0⟩ : ∃ m0, m0 = n + 1 + q := ⟨_, rfl⟩
    rw [← hm0]
    have hm1 : m0 ≤ n + 1 + q := by omega
    have hm2 : n + 1 + q ≤ m0 := by omega
    have Hm0 := Lib.hid hm0
    clear hL hLl
    by_cases hlt : q < N
    · have hqM : q < M.length := by rw [← HN.out]; exact hlt
      have hms : m0 < s.size := by omega
      obtain ⟨y, hy⟩ : ∃ y, y = M[q] := ⟨_, rfl⟩
      have hy32 : y.toNat < 32 := HM32.out y (by rw [hy]; exact List.getElem_mem _)
      have hay : s[m0] = let32 y := by subst hm0; rw [hy]; exact Hbeh.out q hms hqM
      have hix := Tryz.strings_IndexByte ⟨letters32.toArray⟩ (s[m0].toNat : Int)
      rw [show (⟨letters32.toArray⟩ : ByteArray).data.toList = letters32 from rfl, indexByte_placeZ, show ((s[m0].toNat : Int)).toNat.toUInt8 = let32 y from by rw [hay]; simp, (let32_fine y hy32).2.2.2.2] at hix
      have Hix := Lib.hid hix
      have ha8 := s[m0].toNat_lt
      have hnew : L ++ [y] = M.take (q + 1) := by rw [HL.out, hy, List.take_succ_eq_append_getElem hqM]
      have Hnew := Lib.hid hnew
      have Hm0 := Lib.hid hm0
      clear hix hay hy hnew hm0
      go_wp2_with (first | (go_at_call 55; refine (Hix.out _).mono ?_; rintro e w' ⟨rfl, hww⟩; rw [hww]; clear hww) | (at_builtin; go_loud (refine wpList_append_Ow (m := 1) (c := 1) (base := wZ.heap.size) (xs := B8 L) (v := .slice Al q cl) (A := some ⟨wr.heap.size, 0, none⟩) (B := wr.heap.size + 1) (news := [.int .u8 (y.toNat : Int)]) elB rfl (.tmp 50) (.tmp 53) rfl rfl (ho.alloc _) rfl (Sl.one wr _ _) rfl (by simp; rfl) (by rw [B8_length, HLl.out]; simp [maxLen]; omega) (by rw [B8_length, HLl.out]; omega) (by have := hb.size; simp; omega) ?_); intro v3 w3 ho3 hg3 hr3))
      rw [b8_snoc L _ y rfl, Hnew.out] at ho3
      refine ⟨⟨q + 1, by omega, ?_, ho3, push_below hb (Nat.le_refl _) ho hg3⟩, by simp [intOf]; omega⟩
      have := Hm0.out
      congr 1
      omega
    · obtain rfl : q = N := by omega
      have hLM : L = M := by rw [HL.out]; exact List.take_of_length_le (by rw [← HN.out]; omega)
      rw [hLM] at ho
      obtain ⟨gD, rfl, _⟩ := ho.at_ (j := 0) (by rw [B8_length, ← HN.out]; omega)
      have hmx : Tryz.prog.follows .mixedOrders = true := by kernel_rfl
      have hms : m0 = s.size := by omega
      clear hLM HL Hm0 hm0
      go_wp2_with fail
      refine wp_region_plan [(1, 0), (2, 0), (3, 0), (5, 0), (0, 2), (4, 2), (6, 2), (7, 2), (8, 2)] 6 hmx (by kernel_rfl) (by intro c a d v w h; cases d <;> exact h) ?_
      repeat ((first | (refine wpPlan_pure rfl (fun K hK => ?_)) | (refine wpPlan_quiet rfl (fun K hK => ?_))); go_simp; (first | (refine hK _ ?_) | (simp only [IntWalk.iteOmega]; go_simp; refine hK _ ?_) | (go_bits; go_simp; refine hK _ ?_)); clear hK K; (try go_bits))
      refine wpPlan_loud rfl rfl (fun K hK => ?_)
      go_wp2_with fail
      refine (bech_any _).mono ?_
      rintro e w3 ⟨rfl, hb3⟩
      go_wp2_with fail
      refine ⟨.inr (ext_of_below hb3), ?_⟩
      have hb3 : Below wr.heap.size wr w3 := ⟨hb3.os, hb3.tape, hb3.output, hb3.size, hb3.block⟩
      have ho3 := ho.below hb3 (Nat.le_refl _)
      have hb3' := hb.trans (hb3.mono hz)
      clear ho hb hb3
      refine wpPlan_loud rfl rfl (fun K hK => ?_)
      go_wp2_with fail
      have hexS : s.extract 0 n = ⟨S.toArray⟩ := by
        apply ByteArray.ext
        apply Array.ext'
        have h1 := HST.out
        have h2 := Hn.out
        rw [ByteArray.data_extract, Array.toList_extract, h1, h2]
        simp
      have HexS := Lib.hid hexS
      have hsp := spread_any (s.extract 0 n) w3 (by rw [hexS]; show S.length ≤ 2000; rw [← Hn.out]; omega)
      rw [show (s.extract 0 n).data.toList = S by rw [hexS]] at hsp
      clear hexS
      refine hsp.mono ?_
      clear hsp
      rintro e w4 ⟨v4, rfl, ho4, hb4⟩
      obtain ⟨A4, c4, rfl, hc4, hc4'⟩ := own_form ho4
      obtain ⟨n4, hn4⟩ : ∃ n4, n4 = (spreadL S).length := ⟨_, rfl⟩
      have hn4l : n4 ≤ 200 := by rw [hn4, spreadL_length, ← Hn.out]; omega
      rw [← hn4] at ho4 hc4 ⊢
      have Hn4 := Lib.hid hn4
      clear hn4
      have hz3 := hb3'.size
      have hd4 := ho3.below hb4 (Nat.le_refl _)
      have hb4' := hb3'.trans (hb4.mono hz3)
      have hz4 := hb4.size
      go_wp2_with fail
      refine ⟨.inr (ext_of_below hb4), ?_⟩
      have hrow3 := ho3.row
      clear hb4 ho3 hb3'
      refine wpPlan_loud rfl rfl (fun K hK => ?_)
      refine wp_append_Ow (m := q) (c := cl) (base := w3.heap.size) (xs := B8 (spreadL S)) (v := .slice A4 n4 c4) (A := some ⟨gD, 0, none⟩) (B := w4.heap.size) (news := B8 M) elB (.tmp 59) (.tmp 60) rfl rfl ho4 rfl hd4.sl (by rw [B8_length]; exact HN.out.symm) (B8_oneCell _) (by rw [B8_length, ← Hn4.out]; simp [maxLen]; omega) (by rw [B8_length, ← Hn4.out]; omega) hz4 ?_
      intro v5 w5 ho5 hg5 hr5
      rw [← B8_append] at ho5
      have hd5 := hd4.kept hg5 (fun r hr e => by have h1 := (ho4.row r e).1; have h2 := (hrow3 r hr).2; omega)
      have hb5' : Below wZ.heap.size wZ w5 := hb4'.grown hg5 hb4'.size (fun r hr => by have := (ho4.row r hr).1; omega)
      refine (show K (Act.put _ (some 61) v5) w5 from ?_)
      conv in (Act.put _ (some 61) v5) => simp [Act.put]
      refine hK _ _ ⟨.inl (by decide), ?_⟩
      clear hK K
      obtain ⟨ALL, hALL⟩ : ∃ X, X = spreadL S ++ M := ⟨_, rfl⟩
      rw [← hALL] at ho5
      obtain ⟨A5, c5, rfl, hc5, hc5'⟩ := own_form ho5
      have hAl : ALL.length ≤ 400 := by rw [hALL, List.length_append, ← Hn4.out, ← HN.out]; omega
      have hA0 : 0 < ALL.length := by rw [hALL, List.length_append, spreadL_length]; omega
      have hbK : bech (ALL ++ List.replicate 0 0) = conK m := by rw [hALL, List.replicate_zero, List.append_nil]; exact Hsum.out
      have HbK := Lib.hid hbK
      clear hALL hg5 hr5 ho4 hd4 hb4' hbK
      refine wpPlan_loud rfl rfl (fun K hK => ?_)
      go_wp2_with fail
      refine (brun0_any A5 c5 ALL w5 ho5.sl (by omega) hA0).mono ?_
      rintro e w6 ⟨rfl, hb6⟩
      rw [HbK.out]
      go_wp2_with fail
      refine ⟨.inl (by decide), ?_⟩
      have hd6 := hd5.below hb6 (Nat.le_refl _)
      have hb6' := hb5'.trans (hb6.mono hb5'.size)
      clear hd5 hb5' hb6 ho5
      have e6 : (q : Int) - 6 = (D.length : Int) := by omega
      refine wpPlan_loud rfl rfl (fun K hK => ?_)
      cases m with
      | true =>
        rw [show ((conK true).toNat : Int) = 734539939 from rfl]
        go_wp2_with fail
        refine ⟨.inl (by decide), ?_⟩
        refine wpPlan_nil ?_
        go_wp2_with fail
        refine wp_region_plan [(0, 0), (1, 0), (2, 0), (3, 0), (4, 0), (5, 0), (6, 0), (7, 0), (9, 0), (10, 0), (8, 2), (11, 0), (12, 0), (13, 0), (14, 0)] 15 hmx (by kernel_rfl) (by intro c a d v w h; cases d <;> exact h) ?_
        repeat ((first | (refine wpPlan_pure rfl (fun K hK => ?_)) | (refine wpPlan_quiet rfl (fun K hK => ?_))); go_simp; (first | (refine hK _ ?_) | (simp only [IntWalk.iteOmega]; go_simp; refine hK _ ?_) | (go_bits; go_simp; refine hK _ ?_)); clear hK K; (try go_bits))
        refine wpPlan_loud rfl rfl (fun K hK => ?_)
        go_wp2_with fail
        refine (clip_any (some ⟨gD, 0, none⟩) D.length cl _ (by omega)).mono ?_
        rintro e w7 ⟨rfl, rfl⟩
        go_wp2_with fail
        refine ⟨.inr (Ext.refl _), ?_⟩
        repeat ((first | (refine wpPlan_pure rfl (fun K hK => ?_)) | (refine wpPlan_quiet rfl (fun K hK => ?_))); go_simp; (first | (refine hK _ ?_) | (simp only [IntWalk.iteOmega]; go_simp; refine hK _ ?_) | (go_bits; go_simp; refine hK _ ?_)); clear hK K; (try go_bits))
        refine wpPlan_nil ?_
        go_wp2_with fail
        refine bodyPost_ret (results_tmp4 rfl _ _ _) rfl ?_
        refine ⟨some ⟨gD, 0, none⟩, ?_, ?_, ?_⟩
        · rw [← HexS.out]; rfl
        · rw [← HMD.out, B8_take]; exact hd6.sl.take _
        · exact hb6'.drew
      | false =>
        rw [show ((conK false).toNat : Int) = 1 from rfl]
        go_wp2_with fail
        refine ⟨.inl (by decide), ?_⟩
        refine wpPlan_nil ?_
        go_wp2_with fail
        refine wp_region_plan [(0, 0), (1, 0), (2, 0), (3, 0), (4, 0), (5, 0), (6, 0), (7, 0), (9, 0), (10, 0), (8, 2), (11, 0), (12, 0), (13, 0), (14, 0)] 15 hmx (by kernel_rfl) (by intro c a d v w h; cases d <;> exact h) ?_
        repeat ((first | (refine wpPlan_pure rfl (fun K hK => ?_)) | (refine wpPlan_quiet rfl (fun K hK => ?_))); go_simp; (first | (refine hK _ ?_) | (simp only [IntWalk.iteOmega]; go_simp; refine hK _ ?_) | (go_bits; go_simp; refine hK _ ?_)); clear hK K; (try go_bits))
        refine wpPlan_loud rfl rfl (fun K hK => ?_)
        go_wp2_with fail
        refine (clip_any (some ⟨gD, 0, none⟩) D.length cl _ (by omega)).mono ?_
        rintro e w7 ⟨rfl, rfl⟩
        go_wp2_with fail
        refine ⟨.inr (Ext.refl _), ?_⟩
        repeat ((first | (refine wpPlan_pure rfl (fun K hK => ?_)) | (refine wpPlan_quiet rfl (fun K hK => ?_))); go_simp; (first | (refine hK _ ?_) | (simp only [IntWalk.iteOmega]; go_simp; refine hK _ ?_) | (go_bits; go_simp; refine hK _ ?_)); clear hK K; (try go_bits))
        refine wpPlan_nil ?_
        go_wp2_with fail
        refine bodyPost_ret (results_tmp4 rfl _ _ _) rfl ?_
        refine ⟨some ⟨gD, 0, none⟩, ?_, ?_, ?_⟩
        · rw [← HexS.out]; rfl
        · rw [← HMD.out, B8_take]; exact hd6.sl.take _
        · exact hb6'.drew
end Go.Proofs.YtkiigonikeeikaaGreatDoor
