/- desc.unwrap. | strings.Builder: copyCheck, WriteByte; text.Hex. | append(s, make([]T, n)...): as many zero values. -/
import Derived.Test.YtcjioogololnoaaGreatDoorU22
import Derived.Test.YtcjioogololnoaaGreatDoorShelf
import Derived.Test.YtcjioogololnoaaGreatDoorU1
import Derived.Shelf.Strings.Builder1
import Derived.Lib.Builder

/-! desc.unwrap. -/
namespace Go.Proofs.YtcjioogololnoaaGreatDoor
open Go.RowKit Go.Shelf

/-- What stands in brackets behind a word. -/
def unwrapL (s word : List UInt8) : Option (List UInt8) :=
  if Lib.hasPrefix s (word ++ [40]) then (if Lib.hasSuffix (s.drop (word.length + 1)) [41] then some ((s.drop (word.length + 1)).take ((s.drop (word.length + 1)).length - 1)) else none) else none
theorem data_app1 (a : ByteArray) (x : UInt8) : (a ++ ⟨#[x]⟩).data.toList = a.data.toList ++ [x] := by simp
set_option maxRecDepth 100000 in
set_option maxHeartbeats 1000000 in
theorem unwrap_any (s word : ByteArray) (hs : s.size ≤ 4096) (hw : word.size ≤ 100) (w : World) :
    Calls Tryz.prog 36 #[.string s, .string word] w fun e w' => (∃ u, e = .returned (.tuple #[.string u, .bool (unwrapL s.data.toList word.data.toList).isSome]) ∧ ∀ t, unwrapL s.data.toList word.data.toList = some t → u = ⟨t.toArray⟩) ∧ w = w' := by
  have hp := Tryz.strings_CutPrefix s (word ++ ⟨#[40]⟩)
  rw [data_app1] at hp
  obtain ⟨S, hS⟩ : ∃ S, S = s.data.toList := ⟨_, rfl⟩
  have hSl : S.length = s.size := by rw [hS]; simp
  obtain ⟨Wd, hW⟩ : ∃ W, W = word.data.toList := ⟨_, rfl⟩
  rw [← hS, ← hW] at hp ⊢
  obtain ⟨R, hR⟩ : ∃ R, R = unwrapL S Wd := ⟨_, rfl⟩
  rw [← hR]
  obtain ⟨b, hb⟩ : ∃ b, b = Lib.hasPrefix S (Wd ++ [40]) := ⟨_, rfl⟩
  obtain ⟨t, ht⟩ : ∃ t, t = Lib.trimPrefix S (Wd ++ [40]) := ⟨_, rfl⟩
  rw [← hb, ← ht] at hp
  cases b with
  | false =>
    have hRv : R = none := by rw [hR, unwrapL, ← hb]; rfl
    subst hRv
    have Hp := Lib.hid hp
    clear hp hb ht hR hS hW hSl
    go_enter Tryz.func36, Tryz.ntmps36
    go_wp2_with (go_at_call 63; refine (Hp.out _).mono ?_; rintro e w' ⟨rfl, hww⟩; rw [hww]; clear hww)
    go_ret2
    exact ⟨⟨_, rfl, fun t h => by cases h⟩, rfl⟩
  | true =>
    have htd : t = S.drop (Wd.length + 1) := by rw [ht, Lib.trimPrefix, ← hb, if_pos rfl]; simp
    have htl : t.length ≤ 4096 := by rw [htd, List.length_drop]; omega
    have hq := Tryz.strings_CutSuffix ⟨t.toArray⟩ ⟨#[41]⟩
    simp only [] at hq
    have hq' := fun w => hq w (by show t.toArray.size ≤ _; simp; omega)
    obtain ⟨b2, hb2⟩ : ∃ b, b = Lib.hasSuffix t [41] := ⟨_, rfl⟩
    obtain ⟨u, hu⟩ : ∃ u, u = Lib.trimSuffix t [41] := ⟨_, rfl⟩
    rw [← hb2, ← hu] at hq'
    have hRv : R = if b2 then some u else none := by
      rw [hR, unwrapL, ← hb, if_pos rfl, ← htd, ← hb2]
      cases b2 with
      | false => rfl
      | true => rw [hu, Lib.trimSuffix, ← hb2]; rfl
    have Hp := Lib.hid hp
    have Hq := Lib.hid hq'
    have HR := Lib.hid hRv
    clear hp hb ht hR hS hW hSl hq hq' hb2 hu hRv htd htl
    go_enter Tryz.func36, Tryz.ntmps36
    go_wp2_with (first | (go_at_call 63; refine (Hp.out _).mono ?_; rintro e w' ⟨rfl, hww⟩; rw [hww]; clear hww) | (go_at_call 64; refine (Hq.out _).mono ?_; rintro e w' ⟨rfl, hww⟩; rw [hww]; clear hww))
    go_ret2
    rw [HR.out]
    cases b2 with
    | false => exact ⟨⟨_, rfl, fun t h => by cases h⟩, rfl⟩
    | true => exact ⟨⟨_, rfl, fun t h => by injection h with h; rw [h]⟩, rfl⟩
theorem unwrap_some (s word : ByteArray) (t : List UInt8) (hs : s.size ≤ 4096) (hw : word.size ≤ 100) (h : unwrapL s.data.toList word.data.toList = some t) (w : World) :
    Calls Tryz.prog 36 #[.string s, .string word] w fun e w' => e = .returned (.tuple #[.string ⟨t.toArray⟩, .bool true]) ∧ w = w' :=
  (unwrap_any s word hs hw w).mono fun e w' ⟨⟨u, he, hu⟩, hww⟩ => ⟨by rw [he, h, hu t h]; rfl, hww⟩
theorem unwrap_none (s word : ByteArray) (hs : s.size ≤ 4096) (hw : word.size ≤ 100) (h : unwrapL s.data.toList word.data.toList = none) (w : World) :
    Calls Tryz.prog 36 #[.string s, .string word] w fun e w' => ∃ u, e = .returned (.tuple #[.string u, .bool false]) ∧ w = w' :=
  (unwrap_any s word hs hw w).mono fun e w' ⟨⟨u, he, hu⟩, hww⟩ => ⟨u, by rw [he, h]; rfl, hww⟩
end Go.Proofs.YtcjioogololnoaaGreatDoor

/-! strings.Builder: copyCheck, WriteByte; text.Hex. -/
namespace Go.Proofs.YtcjioogololnoaaGreatDoor
open Go.RowKit Go.Shelf

set_option maxHeartbeats 1000000 in
set_option maxRecDepth 100000 in
theorem copyCheck_used (b : Nat) (w : World) (h0 : w.cell? ⟨b, 0, none⟩ = some (.pointer (some ⟨b, 0, none⟩))) :
    Calls Tryz.prog 83 #[.pointer (some ⟨b, 0, none⟩)] w fun e w' => e = .returned (.tuple #[]) ∧ w' = w := by
  obtain ⟨j, hj, _⟩ := Option.map_eq_some_iff.1 (show (Tryz.prog.info? 102).map (·.size) = some 2 by kernel_rfl)
  go_enter Tryz.func83, Tryz.ntmps83
  go_wp2
  rw [Lib.run_neq_ptr_same w _ Tryz.underlying100 hj]
  go_wp2
  go_end0
  exact ⟨rfl, rfl⟩

set_option maxHeartbeats 1000000 in
set_option maxRecDepth 100000 in
theorem copyCheck_fresh (b : Nat) (w : World) (h0 : w.cell? ⟨b, 0, none⟩ = some (.pointer none)) (hsh : w.shape? b = some (102, 2)) (hfz : w.frozen? ⟨b, 0, none⟩ = false) :
    Calls Tryz.prog 83 #[.pointer (some ⟨b, 0, none⟩)] w fun e w' => e = .returned (.tuple #[]) ∧ w' = w.setCell ⟨b, 0, none⟩ (.pointer (some ⟨b, 0, none⟩)) := by
  obtain ⟨j, hj, hjs⟩ := Option.map_eq_some_iff.1 (show (Tryz.prog.info? 102).map (·.size) = some 2 by kernel_rfl)
  go_enter Tryz.func83, Tryz.ntmps83
  go_wp2
  rw [Lib.run_to_unsafe w ⟨b, 0, none⟩ Tryz.underlying100 Tryz.underlying170 hj (by rw [hjs]; decide) hsh (Nat.zero_lt_succ 1)]
  simp only [Result.andThen]
  rw [Oper.upon_value]
  go_wp2
  rw [run_callFunc_extern Tryz.func126 (by kernel_rfl) (by kernel_rfl) (by kernel_rfl) (e := Extern.AbiNoEscape.same) (by kernel_rfl)]
  rw [Lib.run_noEscape]
  simp only [Result.andThen]
  rw [Oper.upon_value]
  go_wp2
  rw [Lib.run_from_unsafe w ⟨b, 0, none⟩ Tryz.underlying170 Tryz.underlying100 hj hsh (by kernel_rfl)]
  simp only [Result.andThen]
  rw [Oper.upon_value]
  go_wp2
  go_end0
  exact ⟨rfl, rfl⟩

theorem copyCheck_any (B b : Nat) (bs : List Value) (w : World) (h : Lib.IsBuilder 102 5 B b bs w) :
    Calls Tryz.prog 83 #[.pointer (some ⟨b, 0, none⟩)] w fun e w' => e = .returned (.tuple #[]) ∧ (Lib.BuilderAt 102 5 B b (.pointer (some ⟨b, 0, none⟩)) bs w' ∧ Below B w w') := by
  rcases h with h | h
  · refine (copyCheck_fresh b w h.cell0 h.shape h.frozen0).mono ?_
    rintro e w' ⟨rfl, rfl⟩
    exact ⟨rfl, h.used _, (Below.refl B w).setCell (p := ⟨b, 0, none⟩) h.1 _⟩
  · refine (copyCheck_used b w h.cell0).mono ?_
    rintro e w' ⟨rfl, rfl⟩
    exact ⟨rfl, h, Below.refl B _⟩

set_option maxHeartbeats 2000000 in
set_option maxRecDepth 100000 in
theorem writeByte_any (B b : Nat) (bs : List Value) (c : Int) (w : World) (h : Lib.IsBuilder 102 5 B b bs w) (hlen : bs.length + 1 ≤ 140737488355328) (hBw : B ≤ w.heap.size) :
    Calls Tryz.prog 77 #[.pointer (some ⟨b, 0, none⟩), .int .u8 c] w fun e w' => e = .returned .nilIface ∧ (Lib.BuilderAt 102 5 B b (.pointer (some ⟨b, 0, none⟩)) (bs ++ [.int .u8 c]) w' ∧ Below B w w') := by
  obtain ⟨i0, hi, hz0, hz1, hz2⟩ := info_parts (show (Tryz.prog.info? 5).map (fun i => (i.zero, i.size, i.bytes)) = some (some (.int .u8 0), 1, 1) by kernel_rfl)
  go_enter Tryz.func77, Tryz.ntmps77
  go_wp2_with (go_at_call 83; refine (copyCheck_any B b bs _ h).mono ?_)
  rintro e w1 ⟨rfl, h1, hb1⟩
  obtain ⟨hB, v, hbk, hown, hne⟩ := h1
  have c0 : w1.cell? ⟨b, 0, none⟩ = some (.pointer (some ⟨b, 0, none⟩)) := by rw [Lib.cell_of_heap hbk]; rfl
  have c1 : w1.cell? ⟨b, 1, none⟩ = some v := by rw [Lib.cell_of_heap hbk]; rfl
  go_wp2_with (at_builtin; refine wpList_append_own _ rfl _ _ 37 rfl B 5 i0 (.int .u8 0) 1 1 Tryz.underlying37 hi hz0 hz1 hz2 rfl (by decide) _ _ _ rfl (hown.alloc _) ⟨w1.heap.size, 0, none⟩ 1 1 [.int .u8 c] rfl rfl ?c1 ?c2 ?c3 ?c4 ?c5 ?_)
  case c1 =>
    intro j u hj
    match j, hj with
    | 0, hj => simp at hj; subst hj; simp [Addr.add]
  case c2 => intro u hu; simp at hu; subst hu; rfl
  case c3 => unfold maxLen; omega
  case c4 => omega
  case c5 => have := hb1.size; simp; omega
  intro v' w2 hown' hgrow _
  have hlt : b < w1.heap.size := by
    rcases Nat.lt_or_ge b w1.heap.size with h' | h'
    · exact h'
    · simp [Array.getElem?_eq_none h'] at hbk
  have hb2 : w2.heap[b]? = some (.cells #[.pointer (some ⟨b, 0, none⟩), v] 102 (0, 0)) := by
    rw [hgrow.block b (by simp; omega) (fun e => hne e.symm), Lib.alloc_old w1 _ b hlt]
    exact hbk
  have d0 : w2.cell? ⟨b, 0, none⟩ = some (.pointer (some ⟨b, 0, none⟩)) := by rw [Lib.cell_of_heap hb2]; rfl
  have d1 : w2.cell? ⟨b, 1, none⟩ = some v := by rw [Lib.cell_of_heap hb2]; rfl
  have f1 : w2.frozen? ⟨b, 1, none⟩ = false := Lib.frozen_of_heap hb2 1
  obtain ⟨g, cap, rfl⟩ : ∃ g cap, v' = .slice (some ⟨g, 0, none⟩) (bs.length + 1) cap := by
    rcases hown'.2 with ⟨_, h0⟩ | ⟨g, cap, cur, hv, _⟩
    · omega
    · exact ⟨g, cap, hv⟩
  go_wp2
  go_ret
  refine ⟨rfl, ?_, ?_⟩
  · exact Lib.BuilderAt.put (T := 102) (e := 5) hB hb2 (bs' := bs ++ [.int .u8 c]) (by simpa using hown') (by decide)
  · exact ((hb1.alloc (by have := hb1.size; omega) _).grown hgrow (by have := hb1.size; simp; omega) (fun k hk => (hown.lt k hk).1)).setCell (p := ⟨b, 1, none⟩) hB _

def hexLetters : List UInt8 := [48, 49, 50, 51, 52, 53, 54, 55, 56, 57, 97, 98, 99, 100, 101, 102]
def hexd (d : Nat) : UInt8 := hexLetters.getD d 0
def hexL : List UInt8 → List UInt8
  | [] => []
  | b :: bs => hexd (b.toNat / 16) :: hexd (b.toNat % 16) :: hexL bs
theorem hexL_snoc : ∀ (bs : List UInt8) (b : UInt8), hexL (bs ++ [b]) = hexL bs ++ [hexd (b.toNat / 16)] ++ [hexd (b.toNat % 16)]
  | [], _ => rfl
  | a :: bs, b => by show hexd _ :: hexd _ :: hexL (bs ++ [b]) = _; rw [hexL_snoc bs b]; rfl
theorem hexL_length : ∀ bs : List UInt8, (hexL bs).length = 2 * bs.length
  | [] => rfl
  | a :: bs => by show (hexL bs).length + 1 + 1 = 2 * (bs.length + 1); rw [hexL_length bs]; omega
theorem hexd_at (d : Nat) (h : d < (⟨hexLetters.toArray⟩ : ByteArray).size) : (⟨hexLetters.toArray⟩ : ByteArray)[d] = hexd d := by
  have h' : d < hexLetters.length := h
  show hexLetters.toArray[d]'(by simpa using h') = _
  simp [hexd, h']
set_option maxRecDepth 20000 in
theorem and15 (y : UInt8) : bits .and .u8 (y.toNat : Int) 15 = ((y.toNat % 16 : Nat) : Int) := by
  have : ∀ p : Fin 256, bits .and .u8 (p.val : Int) 15 = ((p.val % 16 : Nat) : Int) := by decide
  exact this ⟨y.toNat, y.toNat_lt⟩

set_option maxRecDepth 100000 in
set_option maxHeartbeats 4000000 in
theorem hex_any (A : Option Addr) (c : Nat) (bs : List UInt8) (w : World) (hs : Sl w w.heap.size A (B8 bs)) (hl : bs.length ≤ 1048576) :
    Calls Tryz.prog 47 #[.slice A bs.length c] w fun e W' => e = .returned (.string ⟨(hexL bs).toArray⟩) ∧ Below w.heap.size w W' := by
  go_enter Tryz.func47, Tryz.ntmps47
  go_wp2_with fail
  go_loopw [8] (fun i wr => ∃ k : Nat, k ≤ bs.length ∧ i = .int .i64 k ∧ Lib.IsBuilder 102 5 w.heap.size w.heap.size (Lib.byteCells (hexL (bs.take k))) wr ∧ Below w.heap.size w wr) (fun i _ => bs.length - (intOf i).toNat)
  case atStart => exact ⟨0, Nat.zero_le _, rfl, Lib.fresh_isBuilder _ _ _, (Below.refl _ _).alloc (Nat.le_refl _) _⟩
  case round =>
    obtain ⟨k, hk, rfl, hB, hb⟩ := hrel
    have hz := hb.size
    by_cases hlt : k < bs.length
    · obtain ⟨y, hy⟩ : ∃ y, y = bs[k] := ⟨_, rfl⟩
      obtain ⟨b9, o9, rfl, hb9, hcl9⟩ := hs.at_ hlt
      have hcell : wr.cell? ⟨b9, o9 + k, none⟩ = some (.int .u8 (y.toNat : Int)) := by rw [hb.cell (p := ⟨b9, o9 + k, none⟩) hb9, hcl9 k hlt, hy]
      obtain ⟨d1, hd1⟩ : ∃ d1, d1 = y.toNat / 16 := ⟨_, rfl⟩
      obtain ⟨d2, hd2⟩ : ∃ d2, d2 = y.toNat % 16 := ⟨_, rfl⟩
      have hy8 := y.toNat_lt
      have e1 : (y.toNat : Int) / 16 = (d1 : Int) := by omega
      have e2 : bits .and .u8 (y.toNat : Int) 15 = (d2 : Int) := by rw [hd2]; exact and15 y
      have hd16 : d1 < 16 := by omega
      have hd26 : d2 < 16 := by omega
      have ht1 : ∀ h, (⟨hexLetters.toArray⟩ : ByteArray)[d1]'h = hexd d1 := fun h => hexd_at d1 h
      have ht2 : ∀ h, (⟨hexLetters.toArray⟩ : ByteArray)[d2]'h = hexd d2 := fun h => hexd_at d2 h
      obtain ⟨l1, hl1⟩ : ∃ l1, l1 = hexd d1 := ⟨_, rfl⟩
      obtain ⟨l2, hl2⟩ : ∃ l2, l2 = hexd d2 := ⟨_, rfl⟩
      rw [← hl1] at ht1
      rw [← hl2] at ht2
      simp only [hexLetters] at ht1 ht2
      have hnew : hexL (bs.take (k + 1)) = hexL (bs.take k) ++ [l1] ++ [l2] := by
        rw [List.take_succ_eq_append_getElem hlt, hexL_snoc, hl1, hl2, hd1, hd2, hy]
      have hlen : (hexL (bs.take k)).length ≤ 2097152 := by rw [hexL_length, List.length_take]; omega
      have Hnew := Lib.hid hnew
      clear hnew hl1 hl2 hd1 hd2 hy hcl9
      go_wp2_with (first | (go_at_call 77; refine (writeByte_any w.heap.size w.heap.size (Lib.byteCells (hexL (bs.take k)) ++ [.int .u8 (l1.toNat : Int)]) (l2.toNat : Int) w1 (Or.inr hB1) (by simp [Lib.byteCells]; omega) (by have := hb1.size; omega)).mono ?_; rintro e w2 ⟨rfl, hB2, hb2⟩) | (go_at_call 77; refine (writeByte_any w.heap.size w.heap.size (Lib.byteCells (hexL (bs.take k))) (l1.toNat : Int) wr hB (by simp [Lib.byteCells]; omega) hz).mono ?_; rintro e w1 ⟨rfl, hB1, hb1⟩))
      have hz1 := hb1.size
      refine ⟨⟨k + 1, by omega, rfl, ?_, hb.trans (hb1.trans hb2)⟩, by simp [intOf]; omega⟩
      rw [Hnew.out]
      have hc : Lib.byteCells (hexL (bs.take k) ++ [l1] ++ [l2]) = Lib.byteCells (hexL (bs.take k)) ++ [Value.int .u8 (l1.toNat : Int)] ++ [Value.int .u8 (l2.toNat : Int)] := by simp [Lib.byteCells]
      rw [hc]
      exact Or.inr hB2
    · obtain ⟨wS, hwS⟩ : ∃ wS, wS = wr := ⟨_, rfl⟩
      have ht : bs.take k = bs := List.take_of_length_le (by omega)
      rw [ht] at hB
      clear ht
      go_wp2_with (go_at_call 53; refine (Tryz.Builder_String_any w.heap.size w.heap.size (hexL bs) wr hB hz).mono ?_; rintro e w1 ⟨rfl, hb1⟩)
      go_ret
      exact ⟨rfl, hb.trans hb1⟩
end Go.Proofs.YtcjioogololnoaaGreatDoor

/-! append(s, make([]T, n)...): as many zero values. -/
namespace Go.Proofs.YtcjioogololnoaaGreatDoor
open Go.RowKit

theorem zeroCells_one (z : Value) (n : Nat) : Builtin.zeroCells #[z] n = Array.replicate n z := by
  apply Array.ext'
  apply List.ext_getElem (by simp [Builtin.zeroCells])
  intro i h1 h2
  simp [Builtin.zeroCells, Nat.mod_one]

section
variable {P : Program} (w : World)
theorem run_append_zeros (base : Nat) (t ti ty E : TypeId) (i : TypeInfo) (z : Value) (bytes : Nat) (ht : P.underlying t = some (.slice E)) (hti : P.underlying ti = some (.int .i64)) (hi : P.info? E = some i) (hz : i.zero = some z)
    (hsize : i.size = 1) (hby : i.bytes = bytes) (hzs : z.cells = #[z]) (hz1 : z.oneCell' = true)
    (v : Value) (xs : List Value) (hown : Ow w base E v xs) (n : Nat) (hn : 0 < n)
    (h63 : xs.length + n ≤ maxLen) (hbytes : (xs.length + n) * bytes ≤ 140737488355328) (hbase : base ≤ w.heap.size) :
    ∃ v' w', (Builtin.append_ #[t, ti] ty #[v, .int .i64 n]).run P w = .ok v' w' ∧ Ow w' base E v' (xs ++ List.replicate n z) ∧ w.grownBy w' (rowOf v) ∧
      (rowOf v' = rowOf v ∨ rowOf v' = some w.heap.size) := by
  subst hby
  have hm : xs.length + n ≤ 9223372036854775807 := by simp only [maxLen] at h63; omega
  obtain ⟨Av, cap, rfl, hxc, hcm, hrow⟩ := hown
  by_cases hc0 : cap = 0
  · subst hc0
    obtain rfl : xs = [] := List.eq_nil_of_length_eq_zero (by omega)
    simp only [List.length_nil, Nat.zero_add, List.nil_append] at h63 hbytes hm ⊢
    have hwrap : IntKind.i64.wrap (n : Int) = (n : Int) := by simp (disch := omega) only [IntWalk.i64_in]
    have hneg : ¬ ((n : Int) < 0) := by omega
    have hn0 : ¬ n = 0 := by omega
    have h48 : ¬ ((281474976710656 : Int) < (n : Int) * (i.bytes : Int)) := by
      have h2 : ((n * i.bytes : Nat) : Int) = (n : Int) * (i.bytes : Int) := by rw [Int.natCast_mul]
      omega
    have h63' : ¬ (9223372036854775807 < (n : Int)) := by omega
    have hfit : Builtin.nextslicecap n 0 * i.bytes ≤ 281474976710656 := by rw [nextslicecap_zero hn]; omega
    have h48' : ¬ (281474976710656 < Builtin.nextslicecap n 0 * i.bytes) := by omega
    have hge := grownCap_ge w n 0 E
    have hcm' := grownCap_le_maxLen w n 0 E h63
    have hof := Ow.of_row (w := w.drew) (cap := grownCap w n 0 E) (Array.replicate n z ++ Array.replicate (grownCap w n 0 E - n) z) E base hbase (by simp; omega) hcm' n hge
    have e : (Array.replicate n z ++ Array.replicate (grownCap w n 0 E - n) z).toList.take n = List.replicate n z := by simp [List.take_append, List.take_of_length_le]
    rw [e] at hof
    refine ⟨_, _, ?_, hof, ⟨rfl, rfl, rfl, by simp, fun k hk _ => Below.heap_alloc w.drew _ k hk⟩, .inr (by simp only [rowOf]; rw [if_neg (by omega)]; rfl)⟩
    cases Av <;> simp [Builtin.append_, run_underlying ht, run_underlying hti, sizeOf, typeInfo, hi, zeroValue, hz, hsize, asInt, asIntOf, hwrap, hneg, h48, hn0, h63', h48', hzs, zeroCells_one, Question.forced, Builtin.firstCells, loadCells, loadCellsFrom, newRow, grownCap]
  obtain ⟨g, cur, rfl, hbg, hg, hcs, htake⟩ := hrow (by omega)
  have hrw : rowOf (.slice (some ⟨g, 0, none⟩) xs.length cap) = some g := by simp [rowOf, hc0]
  have hwrap : IntKind.i64.wrap (n : Int) = (n : Int) := by simp (disch := omega) only [IntWalk.i64_in]
  have hneg : ¬ ((n : Int) < 0) := by omega
  have hn0 : ¬ n = 0 := by omega
  have h48 : ¬ ((281474976710656 : Int) < (n : Int) * (i.bytes : Int)) := by
    have h1 : n * i.bytes ≤ (xs.length + n) * i.bytes := Nat.mul_le_mul_right _ (by omega)
    have h2 : ((n * i.bytes : Nat) : Int) = (n : Int) * (i.bytes : Int) := by rw [Int.natCast_mul]
    omega
  by_cases hroom : xs.length + n ≤ cap
  · have hst := run_storeCells_at P g xs.length E (List.replicate n z) 0 cur w hg (by simp; omega) (by intro u hu; rw [List.eq_of_mem_replicate hu]; exact hz1)
    simp only [Nat.add_zero] at hst
    refine ⟨.slice (some ⟨g, 0, none⟩) (xs.length + n) cap, _, ?_, ⟨_, cap, by simp, by simp; omega, hcm, fun _ => ⟨g, _, rfl, hbg, setRow_heap w g cur (cur.toList.take xs.length ++ List.replicate n z ++ cur.toList.drop (xs.length + n)).toArray E _ hg, ?_, ?_⟩⟩, ⟨rfl, rfl, rfl, by simp, fun k hk hk2 => setRow_other w g k _ (fun e => hk2 (by rw [hrw, e]))⟩, .inl (by simp [rowOf, hc0])⟩
    · simp [Builtin.append_, run_underlying ht, run_underlying hti, sizeOf, typeInfo, hi, zeroValue, hz, hsize, asInt, asIntOf, hwrap, hneg, h48, hn0, hroom, hzs, zeroCells_one, Addr.add_lit, hst]
    · simp; omega
    · rw [htake]; simp [List.take_append, List.take_of_length_le]
  · have hnr : ¬ (xs.length + n ≤ cap) := hroom
    have h63' : ¬ (9223372036854775807 < ((xs.length : Int) + (n : Int))) := by omega
    have hfit : Builtin.nextslicecap (xs.length + n) cap * i.bytes ≤ 281474976710656 := growslice_fits (by omega) hbytes
    have h48' : ¬ (281474976710656 < Builtin.nextslicecap (xs.length + n) cap * i.bytes) := by omega
    have holds : ∀ j u, xs[j]? = some u → w.cell? ((⟨g, 0, none⟩ : Addr).add j) = some u := by
      intro j u hu
      obtain ⟨hj, e⟩ := List.getElem?_eq_some_iff.1 hu
      rw [add_lit', Nat.zero_add, cell_of_row w g j cur E (0, 0) hg]
      rw [← htake, List.getElem?_take, if_pos hj] at hu
      simpa using hu
    have hfo := run_firstCells_some (P := P) w.drew 1 xs.length ⟨g, 0, none⟩ xs.length cap xs (by simp) (by simpa using holds)
    have hge := grownCap_ge w (xs.length + n) cap E
    have hcm' := grownCap_le_maxLen w (xs.length + n) cap E h63
    have hof := Ow.of_row (w := w.drew) (cap := grownCap w (xs.length + n) cap E) (xs.toArray ++ Array.replicate n z ++ Array.replicate (grownCap w (xs.length + n) cap E - (xs.length + n)) z) E base hbase (by simp; omega) hcm' (xs.length + n) hge
    have e : (xs.toArray ++ Array.replicate n z ++ Array.replicate (grownCap w (xs.length + n) cap E - (xs.length + n)) z).toList.take (xs.length + n) = xs ++ List.replicate n z := by
      simp [List.take_append, List.take_of_length_le]
    rw [e] at hof
    refine ⟨_, _, ?_, hof, ⟨rfl, rfl, rfl, by simp, fun k hk _ => Below.heap_alloc w.drew _ k hk⟩, .inr (by simp only [rowOf]; rw [if_neg (by omega)]; rfl)⟩
    simp [Builtin.append_, run_underlying ht, run_underlying hti, sizeOf, typeInfo, hi, zeroValue, hz, hsize, asInt, asIntOf, hwrap, hneg, h48, hn0, hnr, h63', h48', hzs, zeroCells_one, Question.forced, hfo, newRow, grownCap]
theorem wpList_append_zeros {w : World} {ops : Array Oper} {rest : List Oper} {o : Oper} {a : Act} {Q : Exit → Act → World → Prop} {base t ti E : TypeId} {z : Value} {bytes : Nat} {v : Value} {xs : List Value} (hE : El P t E z bytes) (hti : P.underlying ti = some (.int .i64)) (hz1 : z.oneCell' = true) (hgd : o.guard = none) (s x : Operand)
    (ho : o.op = .call { callee := .builtin .append, args := #[s, x], argTypes := #[t, ti] }) (hs : a.eval s = v) (hown : Ow w base E v xs) (n : Nat) (hx : a.eval x = .int .i64 n) (hn : 0 < n)
    (h63 : xs.length + n ≤ maxLen) (hbytes : (xs.length + n) * bytes ≤ 140737488355328) (hbase : base ≤ w.heap.size)
    (h : ∀ v' w', Ow w' base E v' (xs ++ List.replicate n z) → w.grownBy w' (rowOf v) → (rowOf v' = rowOf v ∨ rowOf v' = some w.heap.size) → wpList P ops Q rest (a.put o.dst v') w') : wpList P ops Q (o :: rest) a w :=
  wpList_plain hgd fun _ hK => by
    obtain ⟨i0, hi, hz0, hz1', hz2⟩ := info_parts hE.info
    obtain ⟨v', w', hrun, h2, h3, h4⟩ := run_append_zeros (P := P) w base t ti o.type E i0 z bytes hE.und hti hi hz0 hz1' hz2 hE.zc hz1 v xs hown n hn h63 hbytes hbase
    unfold Oper.wp execOp
    simp only [ho, resolve, invoke, builtin, Sem.run_bind, Sem.run_pure, Result.andThen_ok, List.map_toArray, List.map_cons, List.map_nil, hs, hx, hrun]
    exact hK _ _ (h v' w' h2 h3 h4)
end
end Go.Proofs.YtcjioogololnoaaGreatDoor
