/- hdkey.ParsePath. | slices.ContainsFunc of []uint32 at 'is it hard'. | Building a struct of several cells out of its parts; a slice as an array, in a region that draws. -/
import Derived.Test.YtcjioogololnoaaGreatDoorU18
import Derived.Test.YtcjioogololnoaaGreatDoorU19
import Derived.Test.YtcjioogololnoaaGreatDoorU8
import Derived.Test.YtcjioogololnoaaGreatDoorU9

/-! hdkey.ParsePath. -/
namespace Go.Proofs.YtcjioogololnoaaGreatDoor
open Go.RowKit Go.Shelf

/-- Numbers of 32 bits as cells. -/
def U32 (ns : List Nat) : List Value := ns.map fun (n : Nat) => .int .u32 (n : Int)
@[simp] theorem U32_length (ns : List Nat) : (U32 ns).length = ns.length := by simp [U32]
theorem U32_snoc (ns : List Nat) (n : Nat) : U32 ns ++ [.int .u32 (n : Int)] = U32 (ns ++ [n]) := by simp [U32]
theorem U32_get (ns : List Nat) (j : Nat) (h : j < (U32 ns).length) : (U32 ns)[j] = .int .u32 ((ns[j]'(by simpa using h) : Nat) : Int) := by simp [U32]
theorem elU : El Tryz.prog 60 55 (.int .u32 0) 4 := ⟨Tryz.underlying60, by kernel_rfl, rfl⟩
theorem Ow.form {w : World} {base E : Nat} {v : Value} {xs : List Value} (h : Ow w base E v xs) : ∃ A c, v = .slice A xs.length c ∧ xs.length ≤ c ∧ c ≤ maxLen := let ⟨A, c, e, h1, h2, _⟩ := h; ⟨A, c, e, h1, h2⟩
def numsP (ps : List (List UInt8)) : List Nat := ps.map fun p => (stepS p).2
def greatP (ps : List (List UInt8)) : Bool := ps.any fun p => decide ((stepS p).1 ≠ 0)
theorem stepsOf_eq : ∀ ps : List (List UInt8), stepsOf ps = if greatP ps then none else some (numsP ps)
  | [] => rfl
  | p :: ps => by
    rw [stepsOf, stepsOf_eq ps]
    by_cases h : (stepS p).1 = 0
    · have e : greatP (p :: ps) = greatP ps := by simp [greatP, h]
      rw [if_pos h, e]
      cases greatP ps <;> simp [numsP]
    · have e : greatP (p :: ps) = true := by simp [greatP, h]
      rw [if_neg h, e]; rfl
theorem greatP_snoc (ps : List (List UInt8)) (p : List UInt8) : greatP (ps ++ [p]) = (greatP ps || decide ((stepS p).1 ≠ 0)) := by simp [greatP]
theorem numsP_snoc (ps : List (List UInt8)) (p : List UInt8) : numsP (ps ++ [p]) = numsP ps ++ [(stepS p).2] := by simp [numsP]
theorem stepNum_err (s : List UInt8) : (stepNum s).1 = 0 ∨ (stepNum s).1 = 2 ∨ (stepNum s).1 = 3 := by
  unfold stepNum
  split
  · simp
  · split
    · split <;> simp
    · simp
theorem stepS_err (s : List UInt8) : (stepS s).1 = 0 ∨ (stepS s).1 = 2 ∨ (stepS s).1 = 3 := by
  have h := stepNum_err s.dropLast
  unfold stepS
  split
  · split
    · simp
    · exact h
  · exact stepNum_err s
theorem greatP_mem {ps : List (List UInt8)} {p : List UInt8} (h : p ∈ ps) (hp : (stepS p).1 ≠ 0) : greatP ps = true := List.any_eq_true.2 ⟨p, h, by simp [hp]⟩

set_option maxRecDepth 100000 in
set_option maxHeartbeats 4000000 in
theorem ppath_any (s : ByteArray) (hsz : s.size ≤ 4096) (hm : (pieces 47 s.data.toList).headD [] ≠ [109]) (hl : (pieces 47 s.data.toList).length ≤ 255) (w : World) (hE : Env w) :
    Calls Tryz.prog 104 #[.string s] w fun e W' => ∃ v E, e = .returned (.tuple #[v, .int .i64 ((E : Nat) : Int)]) ∧ ((E = 0 ∧ greatP (pieces 47 s.data.toList) = false ∧ Ow W' w.heap.size 55 v (U32 (numsP (pieces 47 s.data.toList)))) ∨ (E ≠ 0 ∧ greatP (pieces 47 s.data.toList) = true)) ∧ Below w.heap.size w W' := by
  have hsp := split_any s 47 (by omega) w hE
  obtain ⟨ps, hps⟩ : ∃ ps, ps = pieces 47 s.data.toList := ⟨_, rfl⟩
  rw [← hps] at hsp hm hl ⊢
  have hpl : ∀ p ∈ ps, p.length ≤ 4096 := fun p hp => by
    have := pieces_le 47 s.data.toList p (by rw [← hps]; exact hp)
    simp at this; omega
  obtain ⟨p0, pr, hp0⟩ : ∃ p0 pr, ps = p0 :: pr := by
    cases hh : ps with
    | nil => exact absurd hh (by rw [hps]; exact pieces_ne _ _)
    | cons a b => exact ⟨a, b, rfl⟩
  obtain ⟨n, hn⟩ : ∃ n, n = ps.length := ⟨_, rfl⟩
  rw [← hn] at hsp hl
  have hn0 : 0 < n := by rw [hn, hp0]; simp
  have hne0 : p0 ≠ [109] := by rw [hp0] at hm; exact hm
  obtain ⟨P0, hP0⟩ : ∃ P0 : ByteArray, P0 = ⟨p0.toArray⟩ := ⟨_, rfl⟩
  have hPne : (P0.toList == [109]) = false := by
    rw [hP0, ByteArray.toList_eq]
    simpa using hne0
  have Hsp := Lib.hid hsp
  have Hn := Lib.hid hn
  have Hpl := Lib.hid hpl
  have hrow := heap_alloc_new w (.cells (ST ps).toArray 9)
  obtain ⟨W1, hW1⟩ : ∃ W1, W1 = w.alloc (.cells (ST ps).toArray 9) := ⟨_, rfl⟩
  rw [← hW1] at hrow
  have hb1 : Below w.heap.size w W1 := by rw [hW1]; exact (Below.refl _ w).alloc (Nat.le_refl _) _
  have hz1 : W1.heap.size = w.heap.size + 1 := by rw [hW1]; simp
  have hcell : ∀ j (h : j < ps.length), W1.cell? ⟨w.heap.size, j, none⟩ = some (.string ⟨ps[j].toArray⟩) := fun j h => by
    rw [cell_of_row _ _ _ _ _ _ hrow, List.getElem?_toArray, List.getElem?_eq_getElem (by simpa using h), ST_get]
  have c0 : W1.cell? ⟨w.heap.size, 0, none⟩ = some (.string P0) := by
    rw [hcell 0 (by omega), hP0]
    simp only [hp0, List.getElem_cons_zero]
  have Hcell := Lib.hid hcell
  have HW1 := Lib.hid hW1
  clear hps hp0 hm hne0 hP0 hsp hn hpl hrow hW1 hcell
  go_enter Tryz.func104, Tryz.ntmps104
  go_wp2_with fail
  refine (Hsp.out).mono ?_
  rintro e w1 ⟨rfl, hw1⟩
  rw [← HW1.out] at hw1
  subst hw1
  obtain ⟨B, hB⟩ : ∃ B, B = w.heap.size := ⟨_, rfl⟩
  rw [← hB] at hb1 hz1 c0 Hcell ⊢
  have HB := Lib.hid hB
  have Hz1 := Lib.hid hz1
  clear hB hz1 Hsp HW1
  have h255 : decide ((255 : Int) < (n : Int)) = false := decide_eq_false (by omega)
  go_wp2_with fail
  go_loopw [2, 3, 5, 6, 24] (fun a b v g i wr => ∃ k : Nat, k ≤ n ∧ i = .int .i64 k ∧ a = .slice none 0 0 ∧ b = .int .i64 0 ∧ g = .bool (greatP (ps.take k)) ∧ Ow wr (B + 1) 55 v (U32 (numsP (ps.take k))) ∧ Below w1.heap.size w1 wr) (fun _ _ _ _ i _ => n - (intOf i).toNat)
  case atStart => exact ⟨0, Nat.zero_le _, rfl, rfl, rfl, rfl, Ow.nil_ _ _ _ _, Below.refl _ _⟩
  case round =>
    obtain ⟨k, hk, rfl, rfl, rfl, rfl, ho, hb⟩ := hrel
    obtain ⟨G, hG⟩ : ∃ G, G = greatP (ps.take k) := ⟨_, rfl⟩
    obtain ⟨L, hL⟩ : ∃ L, L = numsP (ps.take k) := ⟨_, rfl⟩
    rw [← hL] at ho
    rw [← hG]
    have HG := Lib.hid hG
    have HL := Lib.hid hL
    have hLk : L.length = k := by rw [hL]; simp [numsP]; have := Hn.out; omega
    have HLk := Lib.hid hLk
    obtain ⟨Av, cv, rfl, hc1, hc2⟩ := ho.form
    rw [U32_length, hLk] at ho hc1 ⊢
    have hbw : Below B w wr := hb1.trans (hb.mono (by have := Hz1.out; omega))
    have hBz : w1.heap.size ≤ B + 1 := by have := Hz1.out; omega
    have hzb : ∀ o, B + 1 ≤ (wr.alloc o).heap.size := fun o => by have h1 := hb.size; have h2 := Hz1.out; rw [World.size_alloc]; omega
    have Hzb := Lib.hid hzb
    clear hG hL hLk c0 h255 hzb
    by_cases hlt : k < n
    · have hkp : k < ps.length := by have := Hn.out; omega
      obtain ⟨p, hp⟩ : ∃ p, p = ps[k] := ⟨_, rfl⟩
      have hcp : wr.cell? ⟨B, k, none⟩ = some (.string ⟨p.toArray⟩) := by
        rw [hb.cell (p := ⟨B, k, none⟩) (show B < w1.heap.size by have := Hz1.out; omega), Hcell.out k hkp, hp]
      have hpm : p ∈ ps := by rw [hp]; exact List.getElem_mem _
      have htk : ps.take (k + 1) = ps.take k ++ [p] := by rw [List.take_succ_eq_append_getElem hkp, hp]
      have Htk := Lib.hid htk
      have Hpm := Lib.hid hpm
      have hpsz : (⟨p.toArray⟩ : ByteArray).size ≤ 4096 := by show p.toArray.size ≤ _; simpa using Hpl.out p hpm
      have hst := hstep_any ⟨p.toArray⟩ hpsz
      simp only [] at hst
      obtain ⟨P, hP⟩ : ∃ P : ByteArray, P = ⟨p.toArray⟩ := ⟨_, rfl⟩
      rw [← hP] at hst hcp
      obtain ⟨E, hEe⟩ : ∃ E, E = (stepS p).1 := ⟨_, rfl⟩
      obtain ⟨x, hx⟩ : ∃ x, x = (stepS p).2 := ⟨_, rfl⟩
      rw [← hEe, ← hx] at hst
      have herr : E = 0 ∨ E = 2 ∨ E = 3 := by rw [hEe]; exact stepS_err p
      have hx32 : x < 4294967296 := by rw [hx]; exact stepS_lt p
      have Hst := Lib.hid hst
      have HEe := Lib.hid hEe
      have Hx := Lib.hid hx
      clear hp hpm htk hpsz hst hP hEe hx
      rcases herr with rfl | rfl | rfl
      · cases G
        all_goals
          go_wp2_with (first | (go_at_call 146; refine (Hst.out _).mono ?_; rintro e w' ⟨rfl, hww⟩; rw [hww]; clear hww) | (at_builtin; go_loud (refine wpList_append_Ow (m := 1) (c := 1) (base := B + 1) (xs := U32 L) (v := .slice Av k cv) (A := some ⟨wr.heap.size, 0, none⟩) (B := wr.heap.size + 1) (news := [.int .u32 (x : Int)]) elU rfl (.tmp 41) (.tmp 43) rfl rfl (ho.alloc _) rfl (Sl.one wr _ _) rfl (by simp; rfl) (by rw [U32_length, HLk.out]; simp [maxLen]; omega) (by rw [U32_length, HLk.out]; omega) (Hzb.out _) ?_); intro v3 w3 ho3 hg3 hr3))
          rw [U32_snoc] at ho3
          exact ⟨⟨k + 1, by omega, rfl, rfl, rfl, by rw [Htk.out, greatP_snoc, ← HG.out, ← HEe.out]; rfl, by rw [Htk.out, numsP_snoc, ← HL.out, ← Hx.out]; exact ho3, push_below hb (Nat.le_refl _) (ho.mono hBz) hg3⟩, by simp [intOf]; omega⟩
      · cases G
        all_goals
          go_wp2_with (first | (go_at_call 146; refine (Hst.out _).mono ?_; rintro e w' ⟨rfl, hww⟩; rw [hww]; clear hww) | (at_builtin; go_loud (refine wpList_append_Ow (m := 1) (c := 1) (base := B + 1) (xs := U32 L) (v := .slice Av k cv) (A := some ⟨wr.heap.size, 0, none⟩) (B := wr.heap.size + 1) (news := [.int .u32 (x : Int)]) elU rfl (.tmp 41) (.tmp 43) rfl rfl (ho.alloc _) rfl (Sl.one wr _ _) rfl (by simp; rfl) (by rw [U32_length, HLk.out]; simp [maxLen]; omega) (by rw [U32_length, HLk.out]; omega) (Hzb.out _) ?_); intro v3 w3 ho3 hg3 hr3))
          rw [U32_snoc] at ho3
          exact ⟨⟨k + 1, by omega, rfl, rfl, rfl, by rw [Htk.out, greatP_snoc, ← HG.out, ← HEe.out]; rfl, by rw [Htk.out, numsP_snoc, ← HL.out, ← Hx.out]; exact ho3, push_below hb (Nat.le_refl _) (ho.mono hBz) hg3⟩, by simp [intOf]; omega⟩
      · have hgt : greatP ps = true := greatP_mem Hpm.out (by rw [← HEe.out]; decide)
        have Hgt := Lib.hid hgt
        have Hbw := Lib.hid hbw
        clear hgt hbw
        go_wp2_with (go_at_call 146; refine (Hst.out _).mono ?_; rintro e w' ⟨rfl, hww⟩; rw [hww]; clear hww)
        go_ret2
        exact ⟨_, 3, rfl, .inr ⟨by decide, Hgt.out⟩, by rw [← HB.out]; exact Hbw.out⟩
    · obtain rfl : k = n := by omega
      have hTt : ps.take k = ps := List.take_of_length_le (by have := Hn.out; omega)
      rw [hTt] at HG HL
      clear hTt hlt
      cases G with
      | true =>
        go_wp2_with fail
        go_ret2
        exact ⟨_, 2, rfl, .inr ⟨by decide, HG.out.symm⟩, by rw [← HB.out]; exact hbw⟩
      | false =>
        go_wp2_with fail
        go_ret2
        exact ⟨_, 0, rfl, .inl ⟨rfl, HG.out.symm, by rw [← HL.out, ← HB.out]; exact ho.mono (by omega)⟩, by rw [← HB.out]; exact hbw⟩
end Go.Proofs.YtcjioogololnoaaGreatDoor

/-! slices.ContainsFunc of []uint32 at 'is it hard'. -/
namespace Go.Proofs.YtcjioogololnoaaGreatDoor
open Go.RowKit Go.Shelf

set_option maxRecDepth 20000 in
set_option maxHeartbeats 1000000 in
theorem pathf_yes (n : Nat) (h : 2147483648 ≤ n) (w : World) :
    Calls Tryz.prog 106 #[.int .u32 (n : Int)] w fun e w' => e = .returned (.bool true) ∧ w = w' := by
  have hv : decide ((2147483648 : Int) ≤ (n : Int)) = true := decide_eq_true (by omega)
  clear h
  go_enter Tryz.func106, Tryz.ntmps106
  go_wp2
  go_ret
  exact ⟨rfl, rfl⟩
set_option maxRecDepth 20000 in
set_option maxHeartbeats 1000000 in
theorem pathf_no (n : Nat) (h : n < 2147483648) (w : World) :
    Calls Tryz.prog 106 #[.int .u32 (n : Int)] w fun e w' => e = .returned (.bool false) ∧ w = w' := by
  have hv : decide ((2147483648 : Int) ≤ (n : Int)) = false := decide_eq_false (by omega)
  clear h
  go_enter Tryz.func106, Tryz.ntmps106
  go_wp2
  go_ret
  exact ⟨rfl, rfl⟩
def hardN (n : Nat) : Bool := decide (2147483648 ≤ n)
def anyHard (ns : List Nat) : Bool := ns.any hardN
theorem pathf_any (n : Nat) (w : World) :
    Calls Tryz.prog 106 #[.int .u32 (n : Int)] w fun e w' => e = .returned (.bool (hardN n)) ∧ w = w' := by
  by_cases h : 2147483648 ≤ n
  · rw [hardN, decide_eq_true h]; exact pathf_yes n h w
  · rw [hardN, decide_eq_false h]; exact pathf_no n (by omega) w

set_option maxRecDepth 100000 in
set_option maxHeartbeats 2000000 in
theorem indexFunc_any (A : Option Addr) (c : Nat) (ns : List Nat) (hl : ns.length ≤ 4096) (w : World) (hs : Sl w w.heap.size A (U32 ns)) :
    Calls Tryz.prog 147 #[.slice A ns.length c, .func (.func 106) #[] #[]] w fun e w' => (∃ i : Int, e = .returned (.int .i64 i) ∧ ((0 ≤ i ∧ anyHard ns = true) ∨ (i = -1 ∧ anyHard ns = false))) ∧ w = w' := by
  obtain ⟨m, hm⟩ : ∃ m, m = ns.length := ⟨_, rfl⟩
  rw [← hm] at hl ⊢
  have Hm := Lib.hid hm
  clear hm
  go_enter Tryz.func147, Tryz.ntmps147
  go_wp2
  go_loop [4, 8] (fun r i => ∃ k : Nat, k ≤ m ∧ i = .int .i64 k ∧ r = .int .i64 0 ∧ Hid (anyHard (ns.take k) = false)) (fun _ i => m - (intOf i).toNat)
  case atStart => exact ⟨0, Nat.zero_le _, rfl, rfl, Lib.hid rfl⟩
  case round =>
    obtain ⟨k, hk, rfl, rfl, HN⟩ := hrel
    by_cases hlt : k < m
    · have hkn : k < ns.length := by have := Hm.out; omega
      obtain ⟨n, hn⟩ : ∃ n, n = ns[k] := ⟨_, rfl⟩
      obtain ⟨bA, oA, rfl, hbA, hcl⟩ := hs (by rw [U32_length]; have := Hm.out; omega)
      have hcell : w.cell? ⟨bA, oA + k, none⟩ = some (.int .u32 (n : Int)) := by rw [hcl k (by simpa using hkn), U32_get, hn]
      have htk : anyHard (ns.take (k + 1)) = hardN n := by
        have h0 := HN.out
        unfold anyHard at h0 ⊢
        rw [List.take_succ_eq_append_getElem hkn, List.any_append, h0, hn]; simp
      have hmem : n ∈ ns := by rw [hn]; exact List.getElem_mem _
      have Htk := Lib.hid htk
      have Hmem := Lib.hid hmem
      have Hpf := Lib.hid (fun W => pathf_any n W)
      obtain ⟨b, hb⟩ : ∃ b, b = hardN n := ⟨_, rfl⟩
      rw [← hb] at Hpf Htk
      have Hb := Lib.hid hb
      clear hn hcl htk hmem hs hb
      cases b with
      | true =>
        go_wp2_with (go_at_call 106; refine (Hpf.out _).mono ?_; rintro e w' ⟨rfl, rfl⟩)
        go_ret
        exact ⟨⟨_, rfl, .inl ⟨by omega, List.any_eq_true.2 ⟨n, Hmem.out, Hb.out.symm⟩⟩⟩, rfl⟩
      | false =>
        go_wp2_with (go_at_call 106; refine (Hpf.out _).mono ?_; rintro e w' ⟨rfl, rfl⟩)
        exact ⟨⟨k + 1, by omega, rfl, rfl, Htk⟩, by simp [intOf]; omega⟩
    · have hN : anyHard ns = false := by
        have := HN.out
        rwa [List.take_of_length_le (by have := Hm.out; omega)] at this
      have HN2 := Lib.hid hN
      clear hN
      go_wp2
      go_ret
      exact ⟨⟨_, rfl, .inr ⟨rfl, HN2.out⟩⟩, rfl⟩
set_option maxRecDepth 20000 in
set_option maxHeartbeats 1000000 in
theorem containsFunc_any (A : Option Addr) (c : Nat) (ns : List Nat) (hl : ns.length ≤ 4096) (w : World) (hs : Sl w w.heap.size A (U32 ns)) :
    Calls Tryz.prog 105 #[.slice A ns.length c, .func (.func 106) #[] #[]] w fun e w' => e = .returned (.bool (anyHard ns)) ∧ w = w' := by
  have H := Lib.hid (indexFunc_any A c ns hl w hs)
  clear hs
  go_enter Tryz.func105, Tryz.ntmps105
  go_wp2_with fail
  refine H.out.mono ?_
  rintro e w' ⟨⟨i, rfl, h⟩, rfl⟩
  obtain ⟨b, hb⟩ : ∃ b, b = anyHard ns := ⟨_, rfl⟩
  rw [← hb] at h
  have Hb := Lib.hid hb
  clear hb H
  rcases h with ⟨h0, rfl⟩ | ⟨rfl, rfl⟩
  all_goals
    go_wp2_with fail
    go_ret
    exact ⟨by rw [← Hb.out]; rfl, rfl⟩
end Go.Proofs.YtcjioogololnoaaGreatDoor

/-! Building a struct of several cells out of its parts; a slice as an array, in a region that draws. -/
namespace Go.Proofs.YtcjioogololnoaaGreatDoor
open Go Go.RowKit Go.Shelf

theorem fold_set (off : Nat) : ∀ (vs : List Value) (k : Nat) (cells : Array Value), off + k + vs.length ≤ cells.size →
    (vs.zipIdx k).foldl (fun cs (cj : Value × Nat) => cs.setIfInBounds (off + cj.2) cj.1) cells = (cells.toList.take (off + k) ++ (vs ++ cells.toList.drop (off + k + vs.length))).toArray
  | [], k, cells, h => by simp
  | v :: vs, k, cells, h => by
    have hl : off + k < cells.size := by simp at h; omega
    rw [List.zipIdx_cons, List.foldl_cons, fold_set off vs (k + 1) _ (by simp at h ⊢; omega)]
    congr 1
    have e1 : (cells.setIfInBounds (off + k) v).toList.take (off + (k + 1)) = cells.toList.take (off + k) ++ [v] := by
      rw [Array.toList_setIfInBounds, show off + (k + 1) = off + k + 1 by omega, List.take_succ_eq_append_getElem (by simpa using hl), List.take_set_of_le (Nat.le_refl _), List.getElem_set_self]
    have e2 : (cells.setIfInBounds (off + k) v).toList.drop (off + (k + 1) + vs.length) = cells.toList.drop (off + k + (v :: vs).length) := by
      rw [Array.toList_setIfInBounds, List.drop_set_of_lt (by omega)]
      congr 1; simp; omega
    show _ ++ _ = _
    rw [e1, e2]
    simp
theorem fill_part (place : Nat → Option (Nat × Nat)) (cells : Array Value) (i off size : Nat) (v : Value) (rest : List (Nat × Value)) (hp : place i = some (off, size)) (hv : v.cells.size = size) (hc : off + size ≤ cells.size) :
    Instr.fill place cells ((i, v) :: rest) = Instr.fill place (cells.toList.take off ++ (v.cells.toList ++ cells.toList.drop (off + size))).toArray rest := by
  rw [Instr.fill, hp]
  simp only [hv, ne_eq, not_true_eq_false, decide_false, Bool.false_or]
  rw [if_neg (by simp; omega)]
  congr 1
  have h := fold_set off v.cells.toList 0 cells (by simp [hv]; omega)
  simp only [Nat.add_zero] at h
  rw [show v.cells.toList.length = size by simp [hv]] at h
  rw [← h, ← Array.foldl_toList, Array.toList_zipIdx]
theorem fill_mid (place : Nat → Option (Nat × Nat)) (i : Nat) (v : Value) (rest : List (Nat × Value)) (pre old post : List Value) (hp : place i = some (pre.length, old.length)) (hv : v.cells.size = old.length) :
    Instr.fill place (pre ++ (old ++ post)).toArray ((i, v) :: rest) = Instr.fill place (pre ++ (v.cells.toList ++ post)).toArray rest := by
  rw [fill_part place _ i pre.length old.length v rest hp hv (by simp)]
  congr 2
  simp
section
variable {P : Program} {ops : Array Oper} {N : Nat} {Q : Act → World → Prop} {st : Nat → (Act → World → Prop) → Act → World → Prop}
theorem wpPlan_arrayPtr {i : Nat} {rest : List (Nat × Nat)} {o : Oper} {a : Act} {w : World} (ho : ops[i]? = some o) (hgd : o.guard = none) (arr : TypeId) (x : Operand) (hop : o.op = .sliceToArrayPointer arr x) (p : Option Addr) (len cap n : Nat) (e : TypeId) (hx : a.eval x = .slice p len cap)
    (hu : P.underlying arr = some (.array n e)) (hl : n ≤ len) (h : wpPlan P ops Q st N rest (a.put o.dst (.pointer p)) w) :
    wpPlan P ops Q st N ((i, 0) :: rest) a w := by
  simp only [wpPlan, if_true, ho]
  refine ⟨.pointer p, .inl ⟨by simp [Region.wanted, hgd], fun w' _ => ?_⟩, h⟩
  unfold execOp
  simp only [hop, hx, Sem.run_bind, run_arrayPtr p len cap w' hu hl, Result.andThen_ok]
  rfl
theorem wpPlan_buildC {i : Nat} {rest : List (Nat × Nat)} {o : Oper} {a : Act} {w : World} (ho : ops[i]? = some o) (hgd : o.guard = none) (t : TypeId) (parts : Array (Nat × Operand)) (hop : o.op = .build t parts) (cells : Array Value)
    (hf0 : P.built t (parts.toList.map fun (i, x) => (i, a.eval x)) = some cells) (h : wpPlan P ops Q st N rest (a.put o.dst (.agg cells)) w) :
    wpPlan P ops Q st N ((i, 0) :: rest) a w := by
  have hf : P.built t (parts.map fun (i, x) => (i, a.eval x)).toList = some cells := by rw [Array.toList_map]; exact hf0
  simp only [wpPlan, if_true, ho]
  refine ⟨.agg cells, .inl ⟨by simp [Region.wanted, hgd], fun w' _ => ?_⟩, h⟩
  unfold execOp
  simp only [hop, Sem.run_bind, run_build w' t _ cells hf, Result.andThen_ok]
  rfl
end
section
variable {P : Program} {ops : Array Oper} {rest : List Oper} {o : Oper} {a : Act} {w : World} {Q : Exit → Act → World → Prop}
/-- A guarded load of a whole row, and of a row's middle. -/
theorem wpList_load_row_gd (hw : Region.wanted o (yielded ops a.tmps) = true) (ty : TypeId) (x : Operand) (ho : o.op = .load ty x)
    (g : Nat) (hx : a.eval x = .pointer (some ⟨g, 0, none⟩)) (t : TypeId) (cs : Array Value) (fr : Nat × Nat) (d : TypeDesc) (hg : w.heap[g]? = some (.cells cs t fr))
    (hu : P.underlying ty = some d) (hd : (match d with | .struct _ | .array _ _ => true | _ => false) = true) (hi : (P.info? ty).map (·.size) = some cs.size)
    (h : wpList P ops Q rest (a.put o.dst (.agg cs)) w) : wpList P ops Q (o :: rest) a w :=
  BigFrame.wpList_want hw fun _ hK => wp_load_row ty x ho g hx t cs fr d hg hu hd hi (hK _ _ h)
theorem wpList_load_mid_gd (hw : Region.wanted o (yielded ops a.tmps) = true) (ty : TypeId) (x : Operand) (ho : o.op = .load ty x) (b off : Nat) (hx : a.eval x = .pointer (some ⟨b, off, none⟩)) (vals : List Value) (d : TypeDesc) (hr : w.rangeAt b off vals)
    (hu : P.underlying ty = some d) (hd : d.isRow = true) (hi : (P.info? ty).map (·.size) = some vals.length)
    (h : wpList P ops Q rest (a.put o.dst (.agg vals.toArray)) w) : wpList P ops Q (o :: rest) a w :=
  BigFrame.wpList_want hw fun _ hK => wp_load_mid ty x ho b off hx vals d hr hu hd hi (hK _ _ h)
end
def hkZero : HKey := ⟨0, [0, 0, 0, 0], 0, List.replicate 32 0, List.replicate 33 0⟩
theorem hkZero_ok : hkZero.Ok := ⟨rfl, by simp [hkZero], by simp [hkZero], by decide⟩
theorem built_places (parts : List (Nat × Value)) : Tryz.prog.built 59 parts = Instr.fill (fun x => (#[(0, 1), (1, 4), (5, 1), (6, 32), (38, 33)] : Array (Nat × Nat))[x]?) (keyC hkZero).toArray parts := by kernel_rfl
theorem built_key (k : HKey) (hk : k.Ok) : Tryz.prog.built 59 [(0, .int .u8 (k.depth.toNat : Int)), (1, .agg (B8 k.finger).toArray), (2, .int .u32 (k.child : Int)), (3, .agg (B8 k.chain).toArray), (4, .agg (B8 k.data).toArray)] = some (keyC k).toArray := by
  rw [built_places]
  have e0 : (keyC hkZero).toArray = ([] ++ ([Value.int .u8 0] ++ (B8 hkZero.finger ++ ([Value.int .u32 0] ++ (B8 hkZero.chain ++ B8 hkZero.data))))).toArray := rfl
  rw [e0, fill_mid _ 0 _ _ [] [.int .u8 0] _ rfl rfl]
  rw [List.nil_append, fill_mid _ 1 _ _ _ (B8 hkZero.finger) _ rfl (by simp [Value.cells, hk.finger, hkZero_ok.finger])]
  rw [← List.append_assoc, fill_mid _ 2 _ _ _ [.int .u32 0] _ (by simp [Value.cells, hk.finger]) rfl]
  rw [← List.append_assoc, fill_mid _ 3 _ _ _ (B8 hkZero.chain) _ (by simp [Value.cells, hk.finger, hkZero]) (by simp [Value.cells, hk.chain, hkZero_ok.chain])]
  rw [← List.append_assoc, ← List.append_nil (B8 hkZero.data), fill_mid _ 4 _ _ _ (B8 hkZero.data) [] (by simp [Value.cells, hk.finger, hk.chain, hkZero]) (by simp [Value.cells, hk.data, hkZero_ok.data])]
  rw [Instr.fill]
  simp [Value.cells, keyC]
end Go.Proofs.YtcjioogololnoaaGreatDoor
