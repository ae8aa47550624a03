/- strings.Builder: copyCheck, WriteByte; text.Hex. -/
import Derived.Test.YtmfligfcejhjaaaDoorA1
import Derived.Test.YtmfligfcejhjaaaDoorR
import Derived.Test.YtmfligfcejhjaaaDoorShelf
import Derived.Shelf.Strings.Builder1
import Derived.Lib.Builder
namespace Go.Proofs.YtmfligfcejhjaaaDoor
open Go.RowKit Go.Shelf

set_option maxHeartbeats 1000000 in
set_option maxRecDepth 100000 in
theorem copyCheck_used (b : Nat) (w : World) (h0 : w.cell? ⟨b, 0, none⟩ = some (.pointer (some ⟨b, 0, none⟩))) :
    Calls Tryd.prog 45 #[.pointer (some ⟨b, 0, none⟩)] w fun e w' => e = .returned (.tuple #[]) ∧ w' = w := by
  obtain ⟨j, hj, _⟩ := Option.map_eq_some_iff.1 (show (Tryd.prog.info? 58).map (·.size) = some 2 by kernel_rfl)
  go_enter Tryd.func45, Tryd.ntmps45
  go_wp2
  rw [Lib.run_neq_ptr_same w _ Tryd.underlying56 hj]
  go_wp2
  go_end0
  exact ⟨rfl, rfl⟩

set_option maxHeartbeats 1000000 in
set_option maxRecDepth 100000 in
theorem copyCheck_fresh (b : Nat) (w : World) (h0 : w.cell? ⟨b, 0, none⟩ = some (.pointer none)) (hsh : w.shape? b = some (58, 2)) (hfz : w.frozen? ⟨b, 0, none⟩ = false) :
    Calls Tryd.prog 45 #[.pointer (some ⟨b, 0, none⟩)] w fun e w' => e = .returned (.tuple #[]) ∧ w' = w.setCell ⟨b, 0, none⟩ (.pointer (some ⟨b, 0, none⟩)) := by
  obtain ⟨j, hj, hjs⟩ := Option.map_eq_some_iff.1 (show (Tryd.prog.info? 58).map (·.size) = some 2 by kernel_rfl)
  go_enter Tryd.func45, Tryd.ntmps45
  go_wp2
  rw [Lib.run_to_unsafe w ⟨b, 0, none⟩ Tryd.underlying56 Tryd.underlying96 hj (by rw [hjs]; decide) hsh (Nat.zero_lt_succ 1)]
  simp only [Result.andThen]
  rw [Oper.upon_value]
  go_wp2
  rw [run_callFunc_extern Tryd.func60 (by kernel_rfl) (by kernel_rfl) (by kernel_rfl) (e := Extern.AbiNoEscape.same) (by kernel_rfl)]
  rw [Lib.run_noEscape]
  simp only [Result.andThen]
  rw [Oper.upon_value]
  go_wp2
  rw [Lib.run_from_unsafe w ⟨b, 0, none⟩ Tryd.underlying96 Tryd.underlying56 hj hsh (by kernel_rfl)]
  simp only [Result.andThen]
  rw [Oper.upon_value]
  go_wp2
  go_end0
  exact ⟨rfl, rfl⟩

theorem copyCheck_any (B b : Nat) (bs : List Value) (w : World) (h : Lib.IsBuilder 58 5 B b bs w) :
    Calls Tryd.prog 45 #[.pointer (some ⟨b, 0, none⟩)] w fun e w' => e = .returned (.tuple #[]) ∧ (Lib.BuilderAt 58 5 B b (.pointer (some ⟨b, 0, none⟩)) bs w' ∧ Below B w w') := by
  rcases h with h | h
  · refine (copyCheck_fresh b w h.cell0 h.shape h.frozen0).mono ?_
    rintro e w' ⟨rfl, rfl⟩
    exact ⟨rfl, h.used _, (Below.refl B w).setCell (p := ⟨b, 0, none⟩) h.1 _⟩
  · refine (copyCheck_used b w h.cell0).mono ?_
    rintro e w' ⟨rfl, rfl⟩
    exact ⟨rfl, h, Below.refl B _⟩

set_option maxHeartbeats 2000000 in
set_option maxRecDepth 100000 in
theorem writeByte_any (B b : Nat) (bs : List Value) (c : Int) (w : World) (h : Lib.IsBuilder 58 5 B b bs w) (hlen : bs.length + 1 ≤ 140737488355328) (hBw : B ≤ w.heap.size) :
    Calls Tryd.prog 34 #[.pointer (some ⟨b, 0, none⟩), .int .u8 c] w fun e w' => e = .returned .nilIface ∧ (Lib.BuilderAt 58 5 B b (.pointer (some ⟨b, 0, none⟩)) (bs ++ [.int .u8 c]) w' ∧ Below B w w') := by
  obtain ⟨i0, hi, hz0, hz1, hz2⟩ := info_parts (show (Tryd.prog.info? 5).map (fun i => (i.zero, i.size, i.bytes)) = some (some (.int .u8 0), 1, 1) by kernel_rfl)
  go_enter Tryd.func34, Tryd.ntmps34
  go_wp2_with (go_at_call 45; refine (copyCheck_any B b bs _ h).mono ?_)
  rintro e w1 ⟨rfl, h1, hb1⟩
  obtain ⟨hB, v, hbk, hown, hne⟩ := h1
  have c0 : w1.cell? ⟨b, 0, none⟩ = some (.pointer (some ⟨b, 0, none⟩)) := by rw [Lib.cell_of_heap hbk]; rfl
  have c1 : w1.cell? ⟨b, 1, none⟩ = some v := by rw [Lib.cell_of_heap hbk]; rfl
  go_wp2_with (at_builtin; refine wpList_append_own _ rfl _ _ 22 rfl B 5 i0 (.int .u8 0) 1 1 Tryd.underlying22 hi hz0 hz1 hz2 rfl (by decide) _ _ _ rfl (hown.alloc _) ⟨w1.heap.size, 0, none⟩ 1 1 [.int .u8 c] rfl rfl ?c1 ?c2 ?c3 ?c4 ?c5 ?_)
  case c1 =>
    intro j u hj
    match j, hj with
    | 0, hj => simp at hj; subst hj; simp [Addr.add]
  case c2 => intro u hu; simp at hu; subst hu; rfl
  case c3 => unfold maxLen; omega
  case c4 => omega
  case c5 => have := hb1.size; simp; omega
  intro v' w2 hown' hgrow _
  have hlt : b < w1.heap.size := by
    rcases Nat.lt_or_ge b w1.heap.size with h' | h'
    · exact h'
    · simp [Array.getElem?_eq_none h'] at hbk
  have hb2 : w2.heap[b]? = some (.cells #[.pointer (some ⟨b, 0, none⟩), v] 58 (0, 0)) := by
    rw [hgrow.block b (by simp; omega) (fun e => hne e.symm), Lib.alloc_old w1 _ b hlt]
    exact hbk
  have d0 : w2.cell? ⟨b, 0, none⟩ = some (.pointer (some ⟨b, 0, none⟩)) := by rw [Lib.cell_of_heap hb2]; rfl
  have d1 : w2.cell? ⟨b, 1, none⟩ = some v := by rw [Lib.cell_of_heap hb2]; rfl
  have f1 : w2.frozen? ⟨b, 1, none⟩ = false := Lib.frozen_of_heap hb2 1
  obtain ⟨g, cap, rfl⟩ : ∃ g cap, v' = .slice (some ⟨g, 0, none⟩) (bs.length + 1) cap := by
    rcases hown'.2 with ⟨_, h0⟩ | ⟨g, cap, cur, hv, _⟩
    · omega
    · exact ⟨g, cap, hv⟩
  go_wp2
  go_ret
  refine ⟨rfl, ?_, ?_⟩
  · exact Lib.BuilderAt.put (T := 58) (e := 5) hB hb2 (bs' := bs ++ [.int .u8 c]) (by simpa using hown') (by decide)
  · exact ((hb1.alloc (by have := hb1.size; omega) _).grown hgrow (by have := hb1.size; simp; omega) (fun k hk => (hown.lt k hk).1)).setCell (p := ⟨b, 1, none⟩) hB _

def hexLetters : List UInt8 := [48, 49, 50, 51, 52, 53, 54, 55, 56, 57, 97, 98, 99, 100, 101, 102]
def hexd (d : Nat) : UInt8 := hexLetters.getD d 0
def hexL : List UInt8 → List UInt8
  | [] => []
  | b :: bs => hexd (b.toNat / 16) :: hexd (b.toNat % 16) :: hexL bs
theorem hexL_snoc : ∀ (bs : List UInt8) (b : UInt8), hexL (bs ++ [b]) = hexL bs ++ [hexd (b.toNat / 16)] ++ [hexd (b.toNat % 16)]
  | [], _ => rfl
  | a :: bs, b => by show hexd _ :: hexd _ :: hexL (bs ++ [b]) = _; rw [hexL_snoc bs b]; rfl
theorem hexL_length : ∀ bs : List UInt8, (hexL bs).length = 2 * bs.length
  | [] => rfl
  | a :: bs => by show (hexL bs).length + 1 + 1 = 2 * (bs.length + 1); rw [hexL_length bs]; omega
theorem hexd_at (d : Nat) (h : d < (⟨hexLetters.toArray⟩ : ByteArray).size) : (⟨hexLetters.toArray⟩ : ByteArray)[d] = hexd d := by
  have h' : d < hexLetters.length := h
  show hexLetters.toArray[d]'(by simpa using h') = _
  simp [hexd, h']
set_option maxRecDepth 20000 in
theorem and15 (y : UInt8) : bits .and .u8 (y.toNat : Int) 15 = ((y.toNat % 16 : Nat) : Int) := by
  have : ∀ p : Fin 256, bits .and .u8 (p.val : Int) 15 = ((p.val % 16 : Nat) : Int) := by decide
  exact this ⟨y.toNat, y.toNat_lt⟩

set_option maxRecDepth 100000 in
set_option maxHeartbeats 4000000 in
theorem hex_any (A : Option Addr) (c : Nat) (bs : List UInt8) (w : World) (hs : Sl w w.heap.size A (B8 bs)) (hl : bs.length ≤ 1048576) :
    Calls Tryd.prog 18 #[.slice A bs.length c] w fun e W' => e = .returned (.string ⟨(hexL bs).toArray⟩) ∧ Below w.heap.size w W' := by
  go_enter Tryd.func18, Tryd.ntmps18
  go_wp2_with fail
  go_loopw [8] (fun i wr => ∃ k : Nat, k ≤ bs.length ∧ i = .int .i64 k ∧ Lib.IsBuilder 58 5 w.heap.size w.heap.size (Lib.byteCells (hexL (bs.take k))) wr ∧ Below w.heap.size w wr) (fun i _ => bs.length - (intOf i).toNat)
  case atStart => exact ⟨0, Nat.zero_le _, rfl, Lib.fresh_isBuilder _ _ _, (Below.refl _ _).alloc (Nat.le_refl _) _⟩
  case round =>
    obtain ⟨k, hk, rfl, hB, hb⟩ := hrel
    have hz := hb.size
    by_cases hlt : k < bs.length
    · obtain ⟨y, hy⟩ : ∃ y, y = bs[k] := ⟨_, rfl⟩
      obtain ⟨b9, o9, rfl, hb9, hcl9⟩ := hs.at_ hlt
      have hcell : wr.cell? ⟨b9, o9 + k, none⟩ = some (.int .u8 (y.toNat : Int)) := by rw [hb.cell (p := ⟨b9, o9 + k, none⟩) hb9, hcl9 k hlt, hy]
      obtain ⟨d1, hd1⟩ : ∃ d1, d1 = y.toNat / 16 := ⟨_, rfl⟩
      obtain ⟨d2, hd2⟩ : ∃ d2, d2 = y.toNat % 16 := ⟨_, rfl⟩
      have hy8 := y.toNat_lt
      have e1 : (y.toNat : Int) / 16 = (d1 : Int) := by omega
      have e2 : bits .and .u8 (y.toNat : Int) 15 = (d2 : Int) := by rw [hd2]; exact and15 y
      have hd16 : d1 < 16 := by omega
      have hd26 : d2 < 16 := by omega
      have ht1 : ∀ h, (⟨hexLetters.toArray⟩ : ByteArray)[d1]'h = hexd d1 := fun h => hexd_at d1 h
      have ht2 : ∀ h, (⟨hexLetters.toArray⟩ : ByteArray)[d2]'h = hexd d2 := fun h => hexd_at d2 h
      obtain ⟨l1, hl1⟩ : ∃ l1, l1 = hexd d1 := ⟨_, rfl⟩
      obtain ⟨l2, hl2⟩ : ∃ l2, l2 = hexd d2 := ⟨_, rfl⟩
      rw [← hl1] at ht1
      rw [← hl2] at ht2
      simp only [hexLetters] at ht1 ht2
      have hnew : hexL (bs.take (k + 1)) = hexL (bs.take k) ++ [l1] ++ [l2] := by
        rw [List.take_succ_eq_append_getElem hlt, hexL_snoc, hl1, hl2, hd1, hd2, hy]
      have hlen : (hexL (bs.take k)).length ≤ 2097152 := by rw [hexL_length, List.length_take]; omega
      have Hnew := Lib.hid hnew
      clear hnew hl1 hl2 hd1 hd2 hy hcl9
      go_wp2_with (first | (go_at_call 34; refine (writeByte_any w.heap.size w.heap.size (Lib.byteCells (hexL (bs.take k)) ++ [.int .u8 (l1.toNat : Int)]) (l2.toNat : Int) w1 (Or.inr hB1) (by simp [Lib.byteCells]; omega) (by have := hb1.size; omega)).mono ?_; rintro e w2 ⟨rfl, hB2, hb2⟩) | (go_at_call 34; refine (writeByte_any w.heap.size w.heap.size (Lib.byteCells (hexL (bs.take k))) (l1.toNat : Int) wr hB (by simp [Lib.byteCells]; omega) hz).mono ?_; rintro e w1 ⟨rfl, hB1, hb1⟩))
      have hz1 := hb1.size
      refine ⟨⟨k + 1, by omega, rfl, ?_, hb.trans (hb1.trans hb2)⟩, by simp [intOf]; omega⟩
      rw [Hnew.out]
      have hc : Lib.byteCells (hexL (bs.take k) ++ [l1] ++ [l2]) = Lib.byteCells (hexL (bs.take k)) ++ [Value.int .u8 (l1.toNat : Int)] ++ [Value.int .u8 (l2.toNat : Int)] := by simp [Lib.byteCells]
      rw [hc]
      exact Or.inr hB2
    · obtain ⟨wS, hwS⟩ : ∃ wS, wS = wr := ⟨_, rfl⟩
      have ht : bs.take k = bs := List.take_of_length_le (by omega)
      rw [ht] at hB
      clear ht
      go_wp2_with (go_at_call 35; refine (Tryd.Builder_String_any w.heap.size w.heap.size (hexL bs) wr hB hz).mono ?_; rintro e w1 ⟨rfl, hb1⟩)
      go_ret
      exact ⟨rfl, hb.trans hb1⟩
end Go.Proofs.YtmfligfcejhjaaaDoor
