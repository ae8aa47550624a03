/- text.letters; text.Checksum. | text.Checksum. | strings.Builder: copyCheck, WriteByte; text.Hex. | The law's awake. -/
import Derived.Test.YtjbknfjcdmafaaaDoorU8
import Derived.Test.YtjbknfjcdmafaaaDoorU9
import Derived.Test.YtjbknfjcdmafaaaDoorU2
import Derived.Test.YtjbknfjcdmafaaaDoorShelf
import Derived.Shelf.Strings.Builder1
import Derived.Lib.Builder
import Derived.Test.YtjbknfjcdmafaaaDoorU4

/-! text.letters; text.Checksum. -/
namespace Go.Proofs.YtjbknfjcdmafaaaDoor
open Go.RowKit Go.Shelf

def lettersL (c : BitVec 64) (k : Nat) : List UInt8 := (List.range k).map fun i => UInt8.ofNat (c.toNat / 2 ^ (5 * (7 - i)) % 32)
theorem lettersL_length (c : BitVec 64) (k : Nat) : (lettersL c k).length = k := by simp [lettersL]
theorem lettersL_succ (c : BitVec 64) (k : Nat) : lettersL c (k + 1) = lettersL c k ++ [UInt8.ofNat (c.toNat / 2 ^ (5 * (7 - k)) % 32)] := by simp [lettersL, List.range_succ]
theorem sp_31 (c : BitVec 64) (q : Nat) : bits .and .u64 ((c.toNat : Int) / 2 ^ q) 31 = ((c.toNat / 2 ^ q % 32 : Nat) : Int) := by
  have h1 : (c.toNat : Int) / 2 ^ q = ((c.toNat / 2 ^ q : Nat) : Int) := by rw [Int.natCast_ediv, Int.natCast_pow]; rfl
  have hc := c.isLt
  have h2 : c.toNat / 2 ^ q ≤ c.toNat := Nat.div_le_self _ _
  have h3 := u64_and_nat (c.toNat / 2 ^ q) 31 (by omega) (by omega)
  rw [h1]
  refine h3.trans ?_
  rw [show (31 : Nat) = 2 ^ 5 - 1 from rfl, Nat.and_two_pow_sub_one_eq_mod]

set_option maxRecDepth 100000 in
set_option maxHeartbeats 4000000 in
theorem letters_any (c : BitVec 64) (w : World) :
    Calls Tryd.prog 25 #[.int .u64 (c.toNat : Int), .int .i64 8] w fun e W' => ∃ v, e = .returned v ∧ Ow W' w.heap.size 5 v (B8 (lettersL c 8)) ∧ Below w.heap.size w W' := by
  have hc64 := c.isLt
  go_enter Tryd.func25, Tryd.ntmps25
  go_wp2_with fail
  go_loopw [5, 8] (fun v i wr => ∃ k : Nat, k ≤ 8 ∧ i = .int .i64 k ∧ Ow wr w.heap.size 5 v (B8 (lettersL c k)) ∧ Below w.heap.size w wr) (fun _ i _ => 8 - (intOf i).toNat)
  case atStart => exact ⟨0, Nat.zero_le _, rfl, Ow.nil_ _ _ _ _, Below.refl _ _⟩
  case round =>
    obtain ⟨k, hk, rfl, ho, hb⟩ := hrel
    obtain ⟨L, hL⟩ : ∃ L, L = lettersL c k := ⟨_, rfl⟩
    have hLl : L.length = k := by rw [hL, lettersL_length]
    rw [← hL] at ho
    obtain ⟨Al, cl, rfl, hcl, hcl'⟩ := own_form ho
    rw [hLl] at ho hcl ⊢
    by_cases hlt : k < 8
    · obtain ⟨sh, hsh⟩ : ∃ sh, sh = 5 * (7 - k) := ⟨_, rfl⟩
      have esh : (5 : Int) * (7 - (k : Int)) = (sh : Int) := by omega
      have hsh35 : sh ≤ 35 := by omega
      obtain ⟨d, hd⟩ : ∃ d, d = c.toNat / 2 ^ sh % 32 := ⟨_, rfl⟩
      have hd32 : d < 32 := by omega
      have h31 := sp_31 c sh
      rw [← hd] at h31
      have HL := Lib.hid hL
      have HLl := Lib.hid hLl
      have Hd := Lib.hid hd
      have Hsh := Lib.hid hsh
      clear hL hLl hd hsh
      go_wp2_with (at_builtin; go_loud (refine wpList_append_Ow (m := 1) (c := 1) (base := w.heap.size) (xs := B8 L) (v := .slice Al k cl) (A := some ⟨wr.heap.size, 0, none⟩) (B := wr.heap.size + 1) (news := [.int .u8 (d : Int)]) elB rfl (.tmp 11) (.tmp 21) rfl rfl (ho.alloc _) rfl (Sl.one wr _ _) rfl (by simp; rfl) (by rw [B8_length, HLl.out]; simp [maxLen]; omega) (by rw [B8_length, HLl.out]; omega) (by have := hb.size; simp; omega) ?_); intro v3 w3 ho3 hg3 hr3)
      rw [b8_snoc L _ (UInt8.ofNat d) (by simp; omega), HL.out, Hd.out, Hsh.out, ← lettersL_succ] at ho3
      exact ⟨⟨k + 1, by omega, rfl, ho3, push_below hb (Nat.le_refl _) ho hg3⟩, by simp [intOf]; omega⟩
    · obtain rfl : k = 8 := by omega
      go_wp2_with fail
      go_ret
      rw [hL] at ho
      exact ⟨_, rfl, ho, hb⟩

def inD : List UInt8 := [48, 49, 50, 51, 52, 53, 54, 55, 56, 57, 40, 41, 91, 93, 44, 39, 47, 42, 97, 98, 99, 100, 101, 102, 103, 104, 64, 58, 36, 37, 123, 125, 73, 74, 75, 76, 77, 78, 79, 80, 81, 82, 83, 84, 85, 86, 87, 88, 89, 90, 38, 43, 45, 46, 59, 60, 61, 62, 63, 33, 94, 95, 124, 126, 105, 106, 107, 108, 109, 110, 111, 112, 113, 114, 115, 116, 117, 118, 119, 120, 121, 122, 65, 66, 67, 68, 69, 70, 71, 72, 96, 35, 34, 92, 32]
def letters32 : List UInt8 := [113, 112, 122, 114, 121, 57, 120, 56, 103, 102, 50, 116, 118, 100, 119, 48, 115, 51, 106, 110, 53, 52, 107, 104, 99, 101, 54, 109, 117, 97, 55, 108]
def posD (c : UInt8) : Nat := inD.idxOf c
def csStep (st : List UInt8 × List UInt8) (c : UInt8) : List UInt8 × List UInt8 :=
  match st.2 with
  | [g0, g1] => (st.1 ++ [UInt8.ofNat (posD c % 32)] ++ [UInt8.ofNat (9 * g0.toNat + 3 * g1.toNat + posD c / 32)], [])
  | g => (st.1 ++ [UInt8.ofNat (posD c % 32)], g ++ [UInt8.ofNat (posD c / 32)])
def csEnd : List UInt8 × List UInt8 → List UInt8
  | (v, [g]) => v ++ [g]
  | (v, [g, h]) => v ++ [UInt8.ofNat (3 * g.toNat + h.toNat)]
  | (v, _) => v
def csVals (s : List UInt8) : List UInt8 × List UInt8 := s.foldl csStep ([], [])
def let32 (d : UInt8) : UInt8 := letters32.getD d.toNat 0
def checksum (s : List UInt8) : List UInt8 := (lettersL (poly (csEnd (csVals s) ++ List.replicate 8 0) ^^^ 1) 8).map let32

theorem checksum_awake : checksum [114, 97, 119, 40, 100, 101, 97, 100, 98, 101, 101, 102, 41] = [56, 57, 102, 56, 115, 112, 120, 109] := by kernel_rfl
end Go.Proofs.YtjbknfjcdmafaaaDoor

/-! text.Checksum. -/
namespace Go.Proofs.YtjbknfjcdmafaaaDoor
open Go.RowKit Go.Shelf

theorem keep_two {w w' : World} {base E : Nat} {v u : Value} {xs ys : List Value} (hv : Ow w base E v xs) (hne : ∀ r, rowOf v = some r → rowOf u ≠ some r) (hg : w.grownBy w' (rowOf u)) : Ow w' base E v xs :=
  hv.kept hg hne
theorem apart_new {w : World} {base E : Nat} {v u u' : Value} {xs : List Value} (hv : Ow w base E v xs) (hne : ∀ r, rowOf v = some r → rowOf u ≠ some r) (hu : rowOf u' = rowOf u ∨ rowOf u' = some w.heap.size) : ∀ r, rowOf v = some r → rowOf u' ≠ some r := by
  intro r hr e
  rcases hu with h | h
  · exact hne r hr (h ▸ e)
  · rw [h] at e; injection e with e
    have := (hv.row r hr).2; omega
theorem apart_grown {v u v' : Value} {r0 : Nat} (h : ∀ r, rowOf v = some r → rowOf u ≠ some r) (hv : rowOf v' = rowOf v ∨ rowOf v' = some r0) (hu : ∀ r, rowOf u = some r → r < r0) : ∀ r, rowOf v' = some r → rowOf u ≠ some r := by
  intro r hr e
  rcases hv with h1 | h1
  · exact h r (h1 ▸ hr) e
  · rw [h1] at hr; injection hr with hr
    have := hu r e; omega
theorem Ow.row_lt {w : World} {base E : Nat} {v : Value} {xs : List Value} (h : Ow w base E v xs) : ∀ r, rowOf v = some r → r < w.heap.size := fun r hr => (h.row r hr).2
theorem apart_symm {v u : Value} (h : ∀ r, rowOf v = some r → rowOf u ≠ some r) : ∀ r, rowOf u = some r → rowOf v ≠ some r := fun r hu hv => h r hv hu

theorem csVals_snoc (s : List UInt8) (c : UInt8) : csVals (s ++ [c]) = csStep (csVals s) c := by simp [csVals]
theorem csStep_short (V G : List UInt8) (c : UInt8) (h : G.length < 2) : csStep (V, G) c = (V ++ [UInt8.ofNat (posD c % 32)], G ++ [UInt8.ofNat (posD c / 32)]) := by
  unfold csStep
  match G, h with
  | [], _ => rfl
  | [g], _ => rfl
theorem csStep_full (V : List UInt8) (g0 g1 : UInt8) (c : UInt8) : csStep (V, [g0, g1]) c = (V ++ [UInt8.ofNat (posD c % 32)] ++ [UInt8.ofNat (9 * g0.toNat + 3 * g1.toNat + posD c / 32)], []) := rfl
theorem and31 (p : Nat) (h : p < 95) : bits .and .i64 (p : Int) 31 = ((p % 32 : Nat) : Int) := by
  have : ∀ p : Fin 95, bits .and .i64 (p.val : Int) 31 = ((p.val % 32 : Nat) : Int) := by decide
  exact this ⟨p, h⟩

theorem lettersL_lt (c : BitVec 64) (k : Nat) : ∀ d ∈ lettersL c k, d.toNat < 32 := by
  intro d hd
  obtain ⟨i, _, rfl⟩ := List.mem_map.1 hd
  rw [UInt8.toNat_ofNat']; omega
theorem letters32_at (d : UInt8) (h : d.toNat < (⟨letters32.toArray⟩ : ByteArray).size) : (⟨letters32.toArray⟩ : ByteArray)[d.toNat] = let32 d := by
  have h' : d.toNat < letters32.length := h
  show letters32.toArray[d.toNat]'(by simpa using h') = _
  simp [let32, h']

end Go.Proofs.YtjbknfjcdmafaaaDoor

/-! strings.Builder: copyCheck, WriteByte; text.Hex. -/
namespace Go.Proofs.YtjbknfjcdmafaaaDoor
open Go.RowKit Go.Shelf

set_option maxHeartbeats 1000000 in
set_option maxRecDepth 100000 in
theorem copyCheck_used (b : Nat) (w : World) (h0 : w.cell? ⟨b, 0, none⟩ = some (.pointer (some ⟨b, 0, none⟩))) :
    Calls Tryd.prog 33 #[.pointer (some ⟨b, 0, none⟩)] w fun e w' => e = .returned (.tuple #[]) ∧ w' = w := by
  obtain ⟨j, hj, _⟩ := Option.map_eq_some_iff.1 (show (Tryd.prog.info? 41).map (·.size) = some 2 by kernel_rfl)
  go_enter Tryd.func33, Tryd.ntmps33
  go_wp2
  rw [Lib.run_neq_ptr_same w _ Tryd.underlying39 hj]
  go_wp2
  go_end0
  exact ⟨rfl, rfl⟩

set_option maxHeartbeats 1000000 in
set_option maxRecDepth 100000 in
theorem copyCheck_fresh (b : Nat) (w : World) (h0 : w.cell? ⟨b, 0, none⟩ = some (.pointer none)) (hsh : w.shape? b = some (41, 2)) (hfz : w.frozen? ⟨b, 0, none⟩ = false) :
    Calls Tryd.prog 33 #[.pointer (some ⟨b, 0, none⟩)] w fun e w' => e = .returned (.tuple #[]) ∧ w' = w.setCell ⟨b, 0, none⟩ (.pointer (some ⟨b, 0, none⟩)) := by
  obtain ⟨j, hj, hjs⟩ := Option.map_eq_some_iff.1 (show (Tryd.prog.info? 41).map (·.size) = some 2 by kernel_rfl)
  go_enter Tryd.func33, Tryd.ntmps33
  go_wp2
  rw [Lib.run_to_unsafe w ⟨b, 0, none⟩ Tryd.underlying39 Tryd.underlying80 hj (by rw [hjs]; decide) hsh (Nat.zero_lt_succ 1)]
  simp only [Result.andThen]
  rw [Oper.upon_value]
  go_wp2
  rw [run_callFunc_extern Tryd.func46 (by kernel_rfl) (by kernel_rfl) (by kernel_rfl) (e := Extern.AbiNoEscape.same) (by kernel_rfl)]
  rw [Lib.run_noEscape]
  simp only [Result.andThen]
  rw [Oper.upon_value]
  go_wp2
  rw [Lib.run_from_unsafe w ⟨b, 0, none⟩ Tryd.underlying80 Tryd.underlying39 hj hsh (by kernel_rfl)]
  simp only [Result.andThen]
  rw [Oper.upon_value]
  go_wp2
  go_end0
  exact ⟨rfl, rfl⟩

theorem copyCheck_any (B b : Nat) (bs : List Value) (w : World) (h : Lib.IsBuilder 41 5 B b bs w) :
    Calls Tryd.prog 33 #[.pointer (some ⟨b, 0, none⟩)] w fun e w' => e = .returned (.tuple #[]) ∧ (Lib.BuilderAt 41 5 B b (.pointer (some ⟨b, 0, none⟩)) bs w' ∧ Below B w w') := by
  rcases h with h | h
  · refine (copyCheck_fresh b w h.cell0 h.shape h.frozen0).mono ?_
    rintro e w' ⟨rfl, rfl⟩
    exact ⟨rfl, h.used _, (Below.refl B w).setCell (p := ⟨b, 0, none⟩) h.1 _⟩
  · refine (copyCheck_used b w h.cell0).mono ?_
    rintro e w' ⟨rfl, rfl⟩
    exact ⟨rfl, h, Below.refl B _⟩

set_option maxHeartbeats 2000000 in
set_option maxRecDepth 100000 in
theorem writeByte_any (B b : Nat) (bs : List Value) (c : Int) (w : World) (h : Lib.IsBuilder 41 5 B b bs w) (hlen : bs.length + 1 ≤ 140737488355328) (hBw : B ≤ w.heap.size) :
    Calls Tryd.prog 15 #[.pointer (some ⟨b, 0, none⟩), .int .u8 c] w fun e w' => e = .returned .nilIface ∧ (Lib.BuilderAt 41 5 B b (.pointer (some ⟨b, 0, none⟩)) (bs ++ [.int .u8 c]) w' ∧ Below B w w') := by
  obtain ⟨i0, hi, hz0, hz1, hz2⟩ := info_parts (show (Tryd.prog.info? 5).map (fun i => (i.zero, i.size, i.bytes)) = some (some (.int .u8 0), 1, 1) by kernel_rfl)
  go_enter Tryd.func15, Tryd.ntmps15
  go_wp2_with (go_at_call 33; refine (copyCheck_any B b bs _ h).mono ?_)
  rintro e w1 ⟨rfl, h1, hb1⟩
  obtain ⟨hB, v, hbk, hown, hne⟩ := h1
  have c0 : w1.cell? ⟨b, 0, none⟩ = some (.pointer (some ⟨b, 0, none⟩)) := by rw [Lib.cell_of_heap hbk]; rfl
  have c1 : w1.cell? ⟨b, 1, none⟩ = some v := by rw [Lib.cell_of_heap hbk]; rfl
  go_wp2_with (at_builtin; refine wpList_append_own _ rfl _ _ 22 rfl B 5 i0 (.int .u8 0) 1 1 Tryd.underlying22 hi hz0 hz1 hz2 rfl (by decide) _ _ _ rfl (hown.alloc _) ⟨w1.heap.size, 0, none⟩ 1 1 [.int .u8 c] rfl rfl ?c1 ?c2 ?c3 ?c4 ?c5 ?_)
  case c1 =>
    intro j u hj
    match j, hj with
    | 0, hj => simp at hj; subst hj; simp [Addr.add]
  case c2 => intro u hu; simp at hu; subst hu; rfl
  case c3 => unfold maxLen; omega
  case c4 => omega
  case c5 => have := hb1.size; simp; omega
  intro v' w2 hown' hgrow _
  have hlt : b < w1.heap.size := by
    rcases Nat.lt_or_ge b w1.heap.size with h' | h'
    · exact h'
    · simp [Array.getElem?_eq_none h'] at hbk
  have hb2 : w2.heap[b]? = some (.cells #[.pointer (some ⟨b, 0, none⟩), v] 41 (0, 0)) := by
    rw [hgrow.block b (by simp; omega) (fun e => hne e.symm), Lib.alloc_old w1 _ b hlt]
    exact hbk
  have d0 : w2.cell? ⟨b, 0, none⟩ = some (.pointer (some ⟨b, 0, none⟩)) := by rw [Lib.cell_of_heap hb2]; rfl
  have d1 : w2.cell? ⟨b, 1, none⟩ = some v := by rw [Lib.cell_of_heap hb2]; rfl
  have f1 : w2.frozen? ⟨b, 1, none⟩ = false := Lib.frozen_of_heap hb2 1
  obtain ⟨g, cap, rfl⟩ : ∃ g cap, v' = .slice (some ⟨g, 0, none⟩) (bs.length + 1) cap := by
    rcases hown'.2 with ⟨_, h0⟩ | ⟨g, cap, cur, hv, _⟩
    · omega
    · exact ⟨g, cap, hv⟩
  go_wp2
  go_ret
  refine ⟨rfl, ?_, ?_⟩
  · exact Lib.BuilderAt.put (T := 41) (e := 5) hB hb2 (bs' := bs ++ [.int .u8 c]) (by simpa using hown') (by decide)
  · exact ((hb1.alloc (by have := hb1.size; omega) _).grown hgrow (by have := hb1.size; simp; omega) (fun k hk => (hown.lt k hk).1)).setCell (p := ⟨b, 1, none⟩) hB _

def hexLetters : List UInt8 := [48, 49, 50, 51, 52, 53, 54, 55, 56, 57, 97, 98, 99, 100, 101, 102]
def hexd (d : Nat) : UInt8 := hexLetters.getD d 0
def hexL : List UInt8 → List UInt8
  | [] => []
  | b :: bs => hexd (b.toNat / 16) :: hexd (b.toNat % 16) :: hexL bs
theorem hexL_snoc : ∀ (bs : List UInt8) (b : UInt8), hexL (bs ++ [b]) = hexL bs ++ [hexd (b.toNat / 16)] ++ [hexd (b.toNat % 16)]
  | [], _ => rfl
  | a :: bs, b => by show hexd _ :: hexd _ :: hexL (bs ++ [b]) = _; rw [hexL_snoc bs b]; rfl
theorem hexL_length : ∀ bs : List UInt8, (hexL bs).length = 2 * bs.length
  | [] => rfl
  | a :: bs => by show (hexL bs).length + 1 + 1 = 2 * (bs.length + 1); rw [hexL_length bs]; omega
theorem hexd_at (d : Nat) (h : d < (⟨hexLetters.toArray⟩ : ByteArray).size) : (⟨hexLetters.toArray⟩ : ByteArray)[d] = hexd d := by
  have h' : d < hexLetters.length := h
  show hexLetters.toArray[d]'(by simpa using h') = _
  simp [hexd, h']
set_option maxRecDepth 20000 in
theorem and15 (y : UInt8) : bits .and .u8 (y.toNat : Int) 15 = ((y.toNat % 16 : Nat) : Int) := by
  have : ∀ p : Fin 256, bits .and .u8 (p.val : Int) 15 = ((p.val % 16 : Nat) : Int) := by decide
  exact this ⟨y.toNat, y.toNat_lt⟩

set_option maxRecDepth 100000 in
set_option maxHeartbeats 4000000 in
theorem hex_any (A : Option Addr) (c : Nat) (bs : List UInt8) (w : World) (hs : Sl w w.heap.size A (B8 bs)) (hl : bs.length ≤ 1048576) :
    Calls Tryd.prog 5 #[.slice A bs.length c] w fun e W' => e = .returned (.string ⟨(hexL bs).toArray⟩) ∧ Below w.heap.size w W' := by
  go_enter Tryd.func5, Tryd.ntmps5
  go_wp2_with fail
  go_loopw [8] (fun i wr => ∃ k : Nat, k ≤ bs.length ∧ i = .int .i64 k ∧ Lib.IsBuilder 41 5 w.heap.size w.heap.size (Lib.byteCells (hexL (bs.take k))) wr ∧ Below w.heap.size w wr) (fun i _ => bs.length - (intOf i).toNat)
  case atStart => exact ⟨0, Nat.zero_le _, rfl, Lib.fresh_isBuilder _ _ _, (Below.refl _ _).alloc (Nat.le_refl _) _⟩
  case round =>
    obtain ⟨k, hk, rfl, hB, hb⟩ := hrel
    have hz := hb.size
    by_cases hlt : k < bs.length
    · obtain ⟨y, hy⟩ : ∃ y, y = bs[k] := ⟨_, rfl⟩
      obtain ⟨b9, o9, rfl, hb9, hcl9⟩ := hs.at_ hlt
      have hcell : wr.cell? ⟨b9, o9 + k, none⟩ = some (.int .u8 (y.toNat : Int)) := by rw [hb.cell (p := ⟨b9, o9 + k, none⟩) hb9, hcl9 k hlt, hy]
      obtain ⟨d1, hd1⟩ : ∃ d1, d1 = y.toNat / 16 := ⟨_, rfl⟩
      obtain ⟨d2, hd2⟩ : ∃ d2, d2 = y.toNat % 16 := ⟨_, rfl⟩
      have hy8 := y.toNat_lt
      have e1 : (y.toNat : Int) / 16 = (d1 : Int) := by omega
      have e2 : bits .and .u8 (y.toNat : Int) 15 = (d2 : Int) := by rw [hd2]; exact and15 y
      have hd16 : d1 < 16 := by omega
      have hd26 : d2 < 16 := by omega
      have ht1 : ∀ h, (⟨hexLetters.toArray⟩ : ByteArray)[d1]'h = hexd d1 := fun h => hexd_at d1 h
      have ht2 : ∀ h, (⟨hexLetters.toArray⟩ : ByteArray)[d2]'h = hexd d2 := fun h => hexd_at d2 h
      obtain ⟨l1, hl1⟩ : ∃ l1, l1 = hexd d1 := ⟨_, rfl⟩
      obtain ⟨l2, hl2⟩ : ∃ l2, l2 = hexd d2 := ⟨_, rfl⟩
      rw [← hl1] at ht1
      rw [← hl2] at ht2
      simp only [hexLetters] at ht1 ht2
      have hnew : hexL (bs.take (k + 1)) = hexL (bs.take k) ++ [l1] ++ [l2] := by
        rw [List.take_succ_eq_append_getElem hlt, hexL_snoc, hl1, hl2, hd1, hd2, hy]
      have hlen : (hexL (bs.take k)).length ≤ 2097152 := by rw [hexL_length, List.length_take]; omega
      have Hnew := Lib.hid hnew
      clear hnew hl1 hl2 hd1 hd2 hy hcl9
      go_wp2_with (first | (go_at_call 15; refine (writeByte_any w.heap.size w.heap.size (Lib.byteCells (hexL (bs.take k)) ++ [.int .u8 (l1.toNat : Int)]) (l2.toNat : Int) w1 (Or.inr hB1) (by simp [Lib.byteCells]; omega) (by have := hb1.size; omega)).mono ?_; rintro e w2 ⟨rfl, hB2, hb2⟩) | (go_at_call 15; refine (writeByte_any w.heap.size w.heap.size (Lib.byteCells (hexL (bs.take k))) (l1.toNat : Int) wr hB (by simp [Lib.byteCells]; omega) hz).mono ?_; rintro e w1 ⟨rfl, hB1, hb1⟩))
      have hz1 := hb1.size
      refine ⟨⟨k + 1, by omega, rfl, ?_, hb.trans (hb1.trans hb2)⟩, by simp [intOf]; omega⟩
      rw [Hnew.out]
      have hc : Lib.byteCells (hexL (bs.take k) ++ [l1] ++ [l2]) = Lib.byteCells (hexL (bs.take k)) ++ [Value.int .u8 (l1.toNat : Int)] ++ [Value.int .u8 (l2.toNat : Int)] := by simp [Lib.byteCells]
      rw [hc]
      exact Or.inr hB2
    · obtain ⟨wS, hwS⟩ : ∃ wS, wS = wr := ⟨_, rfl⟩
      have ht : bs.take k = bs := List.take_of_length_le (by omega)
      rw [ht] at hB
      clear ht
      go_wp2_with (go_at_call 16; refine (Tryd.Builder_String_any w.heap.size w.heap.size (hexL bs) wr hB hz).mono ?_; rintro e w1 ⟨rfl, hb1⟩)
      go_ret
      exact ⟨rfl, hb.trans hb1⟩
end Go.Proofs.YtjbknfjcdmafaaaDoor

/-! The law's awake. -/
namespace Go.Proofs.YtjbknfjcdmafaaaDoor
open Go.RowKit Go.Shelf

section
variable {P : Program} {ops : Array Oper} {N : Nat}
/-- An operation under a guard that lets it be done. -/
theorem wpPlan_loudG {i : Nat} {rest : List (Nat × Nat)} {o : Oper} {a : Act} {w : World} {Q : Exit → Act → World → Prop} (ho : ops[i]? = some o) (hg : Region.wanted o (yielded ops a.tmps) = true)
    (h : ∀ K : Act → World → Prop, (∀ a' w', ((N ≤ i ∨ Ext w w') ∧ wpPlan P ops (Q .normal) (fun i K a w => wpOp P ops Q i K a w) N rest a' w') → K a' w') → o.wp P a w K Q) :
    wpPlan P ops (Q .normal) (fun i K a w => wpOp P ops Q i K a w) N ((i, 2) :: rest) a w := by
  simp only [wpPlan, show ¬ (2 = 0) by decide, show ¬ (2 = 1) by decide, if_false, wpOp, ho, hg, if_true]
  exact .inl (h _ (fun _ _ h => h))
end

theorem b58_awake : b58L [0, 0, 1] = [49, 49, 50] := by decide
theorem hex_awake : hexL [10] = [48, 97] := by decide

end Go.Proofs.YtjbknfjcdmafaaaDoor
