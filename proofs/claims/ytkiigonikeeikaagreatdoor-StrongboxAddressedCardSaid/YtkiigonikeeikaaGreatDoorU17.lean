/- strings.Builder: copyCheck, WriteByte; text.Hex. | text.digit, text.FromHex of what Hex wrote; the reference's Digit and Hex. | Values of other bits, there and back, in plain Lean: by the number that they write. | text.Regroup: bytes as values of five bits. -/
import Derived.Test.YtkiigonikeeikaaGreatDoorU1
import Derived.Test.YtkiigonikeeikaaGreatDoorU2
import Derived.Test.YtkiigonikeeikaaGreatDoorShelf
import Derived.Shelf.Strings.Builder1
import Derived.Lib.Builder
import Derived.Test.YtkiigonikeeikaaGreatDoorU12

/-! strings.Builder: copyCheck, WriteByte; text.Hex. -/
namespace Go.Proofs.YtkiigonikeeikaaGreatDoor
open Go.RowKit Go.Shelf

set_option maxHeartbeats 1000000 in
set_option maxRecDepth 100000 in
theorem copyCheck_used (b : Nat) (w : World) (h0 : w.cell? ⟨b, 0, none⟩ = some (.pointer (some ⟨b, 0, none⟩))) :
    Calls Tryz.prog 109 #[.pointer (some ⟨b, 0, none⟩)] w fun e w' => e = .returned (.tuple #[]) ∧ w' = w := by
  obtain ⟨j, hj, _⟩ := Option.map_eq_some_iff.1 (show (Tryz.prog.info? 140).map (·.size) = some 2 by kernel_rfl)
  go_enter Tryz.func109, Tryz.ntmps109
  go_wp2
  rw [Lib.run_neq_ptr_same w _ Tryz.underlying138 hj]
  go_wp2
  go_end0
  exact ⟨rfl, rfl⟩

set_option maxHeartbeats 1000000 in
set_option maxRecDepth 100000 in
theorem copyCheck_fresh (b : Nat) (w : World) (h0 : w.cell? ⟨b, 0, none⟩ = some (.pointer none)) (hsh : w.shape? b = some (140, 2)) (hfz : w.frozen? ⟨b, 0, none⟩ = false) :
    Calls Tryz.prog 109 #[.pointer (some ⟨b, 0, none⟩)] w fun e w' => e = .returned (.tuple #[]) ∧ w' = w.setCell ⟨b, 0, none⟩ (.pointer (some ⟨b, 0, none⟩)) := by
  obtain ⟨j, hj, hjs⟩ := Option.map_eq_some_iff.1 (show (Tryz.prog.info? 140).map (·.size) = some 2 by kernel_rfl)
  go_enter Tryz.func109, Tryz.ntmps109
  go_wp2
  rw [Lib.run_to_unsafe w ⟨b, 0, none⟩ Tryz.underlying138 Tryz.underlying184 hj (by rw [hjs]; decide) hsh (Nat.zero_lt_succ 1)]
  simp only [Result.andThen]
  rw [Oper.upon_value]
  go_wp2
  rw [run_callFunc_extern Tryz.func129 (by kernel_rfl) (by kernel_rfl) (by kernel_rfl) (e := Extern.AbiNoEscape.same) (by kernel_rfl)]
  rw [Lib.run_noEscape]
  simp only [Result.andThen]
  rw [Oper.upon_value]
  go_wp2
  rw [Lib.run_from_unsafe w ⟨b, 0, none⟩ Tryz.underlying184 Tryz.underlying138 hj hsh (by kernel_rfl)]
  simp only [Result.andThen]
  rw [Oper.upon_value]
  go_wp2
  go_end0
  exact ⟨rfl, rfl⟩

theorem copyCheck_any (B b : Nat) (bs : List Value) (w : World) (h : Lib.IsBuilder 140 5 B b bs w) :
    Calls Tryz.prog 109 #[.pointer (some ⟨b, 0, none⟩)] w fun e w' => e = .returned (.tuple #[]) ∧ (Lib.BuilderAt 140 5 B b (.pointer (some ⟨b, 0, none⟩)) bs w' ∧ Below B w w') := by
  rcases h with h | h
  · refine (copyCheck_fresh b w h.cell0 h.shape h.frozen0).mono ?_
    rintro e w' ⟨rfl, rfl⟩
    exact ⟨rfl, h.used _, (Below.refl B w).setCell (p := ⟨b, 0, none⟩) h.1 _⟩
  · refine (copyCheck_used b w h.cell0).mono ?_
    rintro e w' ⟨rfl, rfl⟩
    exact ⟨rfl, h, Below.refl B _⟩

set_option maxHeartbeats 2000000 in
set_option maxRecDepth 100000 in
theorem writeByte_any (B b : Nat) (bs : List Value) (c : Int) (w : World) (h : Lib.IsBuilder 140 5 B b bs w) (hlen : bs.length + 1 ≤ 140737488355328) (hBw : B ≤ w.heap.size) :
    Calls Tryz.prog 93 #[.pointer (some ⟨b, 0, none⟩), .int .u8 c] w fun e w' => e = .returned .nilIface ∧ (Lib.BuilderAt 140 5 B b (.pointer (some ⟨b, 0, none⟩)) (bs ++ [.int .u8 c]) w' ∧ Below B w w') := by
  obtain ⟨i0, hi, hz0, hz1, hz2⟩ := info_parts (show (Tryz.prog.info? 5).map (fun i => (i.zero, i.size, i.bytes)) = some (some (.int .u8 0), 1, 1) by kernel_rfl)
  go_enter Tryz.func93, Tryz.ntmps93
  go_wp2_with (go_at_call 109; refine (copyCheck_any B b bs _ h).mono ?_)
  rintro e w1 ⟨rfl, h1, hb1⟩
  obtain ⟨hB, v, hbk, hown, hne⟩ := h1
  have c0 : w1.cell? ⟨b, 0, none⟩ = some (.pointer (some ⟨b, 0, none⟩)) := by rw [Lib.cell_of_heap hbk]; rfl
  have c1 : w1.cell? ⟨b, 1, none⟩ = some v := by rw [Lib.cell_of_heap hbk]; rfl
  go_wp2_with (at_builtin; refine wpList_append_own _ rfl _ _ 23 rfl B 5 i0 (.int .u8 0) 1 1 Tryz.underlying23 hi hz0 hz1 hz2 rfl (by decide) _ _ _ rfl (hown.alloc _) ⟨w1.heap.size, 0, none⟩ 1 1 [.int .u8 c] rfl rfl ?c1 ?c2 ?c3 ?c4 ?c5 ?_)
  case c1 =>
    intro j u hj
    match j, hj with
    | 0, hj => simp at hj; subst hj; simp [Addr.add]
  case c2 => intro u hu; simp at hu; subst hu; rfl
  case c3 => unfold maxLen; omega
  case c4 => omega
  case c5 => have := hb1.size; simp; omega
  intro v' w2 hown' hgrow _
  have hlt : b < w1.heap.size := by
    rcases Nat.lt_or_ge b w1.heap.size with h' | h'
    · exact h'
    · simp [Array.getElem?_eq_none h'] at hbk
  have hb2 : w2.heap[b]? = some (.cells #[.pointer (some ⟨b, 0, none⟩), v] 140 (0, 0)) := by
    rw [hgrow.block b (by simp; omega) (fun e => hne e.symm), Lib.alloc_old w1 _ b hlt]
    exact hbk
  have d0 : w2.cell? ⟨b, 0, none⟩ = some (.pointer (some ⟨b, 0, none⟩)) := by rw [Lib.cell_of_heap hb2]; rfl
  have d1 : w2.cell? ⟨b, 1, none⟩ = some v := by rw [Lib.cell_of_heap hb2]; rfl
  have f1 : w2.frozen? ⟨b, 1, none⟩ = false := Lib.frozen_of_heap hb2 1
  obtain ⟨g, cap, rfl⟩ : ∃ g cap, v' = .slice (some ⟨g, 0, none⟩) (bs.length + 1) cap := by
    rcases hown'.2 with ⟨_, h0⟩ | ⟨g, cap, cur, hv, _⟩
    · omega
    · exact ⟨g, cap, hv⟩
  go_wp2
  go_ret
  refine ⟨rfl, ?_, ?_⟩
  · exact Lib.BuilderAt.put (T := 140) (e := 5) hB hb2 (bs' := bs ++ [.int .u8 c]) (by simpa using hown') (by decide)
  · exact ((hb1.alloc (by have := hb1.size; omega) _).grown hgrow (by have := hb1.size; simp; omega) (fun k hk => (hown.lt k hk).1)).setCell (p := ⟨b, 1, none⟩) hB _

def hexLetters : List UInt8 := [48, 49, 50, 51, 52, 53, 54, 55, 56, 57, 97, 98, 99, 100, 101, 102]
def hexd (d : Nat) : UInt8 := hexLetters.getD d 0
def hexL : List UInt8 → List UInt8
  | [] => []
  | b :: bs => hexd (b.toNat / 16) :: hexd (b.toNat % 16) :: hexL bs
theorem hexL_snoc : ∀ (bs : List UInt8) (b : UInt8), hexL (bs ++ [b]) = hexL bs ++ [hexd (b.toNat / 16)] ++ [hexd (b.toNat % 16)]
  | [], _ => rfl
  | a :: bs, b => by show hexd _ :: hexd _ :: hexL (bs ++ [b]) = _; rw [hexL_snoc bs b]; rfl
theorem hexL_length : ∀ bs : List UInt8, (hexL bs).length = 2 * bs.length
  | [] => rfl
  | a :: bs => by show (hexL bs).length + 1 + 1 = 2 * (bs.length + 1); rw [hexL_length bs]; omega
theorem hexd_at (d : Nat) (h : d < (⟨hexLetters.toArray⟩ : ByteArray).size) : (⟨hexLetters.toArray⟩ : ByteArray)[d] = hexd d := by
  have h' : d < hexLetters.length := h
  show hexLetters.toArray[d]'(by simpa using h') = _
  simp [hexd, h']
set_option maxRecDepth 20000 in
theorem and15 (y : UInt8) : bits .and .u8 (y.toNat : Int) 15 = ((y.toNat % 16 : Nat) : Int) := by
  have : ∀ p : Fin 256, bits .and .u8 (p.val : Int) 15 = ((p.val % 16 : Nat) : Int) := by decide
  exact this ⟨y.toNat, y.toNat_lt⟩

end Go.Proofs.YtkiigonikeeikaaGreatDoor

/-! text.digit, text.FromHex of what Hex wrote; the reference's Digit and Hex. -/
namespace Go.Proofs.YtkiigonikeeikaaGreatDoor
open Go.RowKit Go.Shelf

theorem hexd_small (d : Nat) (hd : d < 16) : (hexd d).toNat < 65 ∨ 70 < (hexd d).toNat := by
  have : ∀ d : Fin 16, (hexd d.val).toNat < 65 ∨ 70 < (hexd d.val).toNat := by decide
  exact this ⟨d, hd⟩
theorem hexd_place (d : Nat) (hd : d < 16) : placeZ hexLetters (hexd d) = (d : Int) := by
  have : ∀ d : Fin 16, placeZ hexLetters (hexd d.val) = (d.val : Int) := by decide
  exact this ⟨d, hd⟩

theorem hexd_def (d : Nat) (hd : d < 16) : (hexd d).toNat = if d < 10 then 48 + d else 87 + d := by
  have : ∀ d : Fin 16, (hexd d.val).toNat = if d.val < 10 then 48 + d.val else 87 + d.val := by decide
  exact this ⟨d, hd⟩

end Go.Proofs.YtkiigonikeeikaaGreatDoor

/-! Values of other bits, there and back, in plain Lean: by the number that they write. -/
namespace Go.Proofs.YtkiigonikeeikaaGreatDoor

def val (b : Nat) (l : List UInt8) : Nat := l.foldl (fun a x => a * b + x.toNat) 0
theorem val_snoc (b : Nat) (l : List UInt8) (x : UInt8) : val b (l ++ [x]) = val b l * b + x.toNat := by simp [val]
theorem val_nil (b : Nat) : val b [] = 0 := rfl
theorem val_inj (b : Nat) : ∀ (n : Nat) (k l : List UInt8), k.length = n → l.length = n → (∀ x ∈ k, x.toNat < b) → (∀ x ∈ l, x.toNat < b) → val b k = val b l → k = l
  | 0, k, l, hk, hl, _, _, _ => by rw [List.eq_nil_of_length_eq_zero hk, List.eq_nil_of_length_eq_zero hl]
  | n + 1, k, l, hk, hl, hkb, hlb, h => by
    rcases List.eq_nil_or_concat k with rfl | ⟨k', x, rfl⟩
    · simp at hk
    rcases List.eq_nil_or_concat l with rfl | ⟨l', y, rfl⟩
    · simp at hl
    rw [List.concat_eq_append] at *
    rw [List.concat_eq_append] at *
    rw [val_snoc, val_snoc] at h
    have hx : x.toNat < b := hkb x (by simp)
    have hy : y.toNat < b := hlb y (by simp)
    have e1 : (val b k' * b + x.toNat) % b = x.toNat := by rw [Nat.add_comm, Nat.add_mul_mod_self_right]; exact Nat.mod_eq_of_lt hx
    have e2 : (val b l' * b + y.toNat) % b = y.toNat := by rw [Nat.add_comm, Nat.add_mul_mod_self_right]; exact Nat.mod_eq_of_lt hy
    have exy : x.toNat = y.toNat := by rw [← e1, ← e2, h]
    have hxy : x = y := UInt8.toNat_inj.1 exy
    have hv : val b k' = val b l' := by
      rw [exy] at h
      have h2 : val b k' * b = val b l' * b := by omega
      exact Nat.eq_of_mul_eq_mul_right (by omega) h2
    rw [hxy, val_inj b n k' l' (by simpa using hk) (by simpa using hl) (fun z hz => hkb z (by simp [hz])) (fun z hz => hlb z (by simp [hz])) hv]

/-- Bytes as values of five bits. -/
def Five (bs five : List UInt8) : Prop := (∀ x ∈ five, x.toNat < 32) ∧ ∃ p, p < 5 ∧ 5 * five.length = 8 * bs.length + p ∧ val 32 five = val 256 bs * 2 ^ p

/-- What is kept on the way: the values written, and the bits that are left, are the number that was read. -/
def Way (t : Nat) (X : Nat) (out : List UInt8) (b n : Nat) : Prop := val t out * 2 ^ n + b % 2 ^ n = X

theorem Way.take {t X : Nat} {out : List UInt8} {b n : Nat} (f v : Nat) (h : Way t X out b n) (hv : v < 2 ^ f) (hn : n + f ≤ 16) : Way t (X * 2 ^ f + v) out ((b * 2 ^ f + v) % 65536) (n + f) := by
  unfold Way at *
  have h1 : (b * 2 ^ f + v) % 65536 % 2 ^ (n + f) = (b * 2 ^ f + v) % 2 ^ (n + f) := by
    rw [show (65536 : Nat) = 2 ^ 16 from rfl]
    exact Nat.mod_mod_of_dvd _ (Nat.pow_dvd_pow 2 hn)
  have h2 : (b * 2 ^ f + v) % 2 ^ (n + f) = b % 2 ^ n * 2 ^ f + v := by
    rw [Nat.pow_add, Nat.mul_comm (2 ^ n), Nat.mod_mul]
    have e1 : (b * 2 ^ f + v) % 2 ^ f = v := by rw [Nat.add_comm, Nat.add_mul_mod_self_right]; exact Nat.mod_eq_of_lt hv
    have e2 : (b * 2 ^ f + v) / 2 ^ f = b := by
      rw [Nat.add_comm, Nat.add_mul_div_right _ _ (Nat.two_pow_pos f), Nat.div_eq_of_lt hv, Nat.zero_add]
    rw [e1, e2, Nat.mul_comm, Nat.add_comm]
  rw [h1, h2, ← h, Nat.pow_add, Nat.add_mul, Nat.mul_assoc]; omega

theorem Way.give {X : Nat} {out : List UInt8} {b n : Nat} (s m d : Nat) (x : UInt8) (h : Way (2 ^ s) X out b n) (hn : n = m + s) (hd : d = b / 2 ^ m % 2 ^ s) (hx : x.toNat = d) : Way (2 ^ s) X (out ++ [x]) b m := by
  unfold Way at *
  have h1 : b % 2 ^ n = b / 2 ^ m % 2 ^ s * 2 ^ m + b % 2 ^ m := by
    rw [hn, Nat.pow_add, Nat.mod_mul, Nat.mul_comm, Nat.add_comm]
  rw [val_snoc, hx, hd, ← h, h1, hn, Nat.pow_add, Nat.add_mul, Nat.mul_assoc, Nat.mul_comm (2 ^ s) (2 ^ m)]; omega

theorem val_take (b : Nat) (l : List UInt8) (k : Nat) (h : k < l.length) : val b (l.take (k + 1)) = val b (l.take k) * b + l[k].toNat := by
  rw [List.take_succ_eq_append_getElem h, val_snoc]

theorem five_end0 {bs five : List UInt8} {b : Nat} (h : Way 32 (val 256 bs) five b 0) (hl : 5 * five.length + 0 = 8 * bs.length) (h32 : ∀ x ∈ five, x.toNat < 32) : Five bs five := by
  refine ⟨h32, 0, by omega, by omega, ?_⟩
  unfold Way at h
  simpa [Nat.mod_one] using h
theorem five_end {bs five : List UInt8} {b n : Nat} (x : UInt8) (h : Way 32 (val 256 bs) five b n) (hn : n < 5) (hn0 : 0 < n) (hl : 5 * five.length + n = 8 * bs.length) (h32 : ∀ x ∈ five, x.toNat < 32) (hx : x.toNat = b % 2 ^ n * 2 ^ (5 - n)) : Five bs (five ++ [x]) := by
  have hb : b % 2 ^ n < 2 ^ n := Nat.mod_lt _ (Nat.two_pow_pos n)
  have hp : 2 ^ n * 2 ^ (5 - n) = 32 := by rw [← Nat.pow_add, show n + (5 - n) = 5 by omega]
  refine ⟨fun y hy => ?_, 5 - n, by omega, by simp; omega, ?_⟩
  · rcases List.mem_append.1 hy with hy | hy
    · exact h32 y hy
    · rw [List.mem_singleton.1 hy, hx, ← hp]
      exact Nat.mul_lt_mul_of_pos_right hb (Nat.two_pow_pos _)
  · unfold Way at h
    rw [val_snoc, hx, ← h, Nat.add_mul, Nat.mul_assoc, hp]

/-- The way back ends at the bytes, with nothing left. -/
theorem five_back {bs five out : List UInt8} {b n : Nat} (h5 : Five bs five) (h : Way 256 (val 32 five) out b n) (hl : 8 * out.length + n = 5 * five.length) (hn : n < 8) : out = bs ∧ n < 5 ∧ b % 2 ^ n = 0 := by
  obtain ⟨_, p, hp, hlen, hv⟩ := h5
  have hnp : n = p := by omega
  have hol : out.length = bs.length := by omega
  subst hnp
  unfold Way at h
  rw [hv] at h
  have hb : b % 2 ^ n < 2 ^ n := Nat.mod_lt _ (Nat.two_pow_pos n)
  have e1 : (val 256 out * 2 ^ n + b % 2 ^ n) % 2 ^ n = b % 2 ^ n := by rw [Nat.add_comm, Nat.add_mul_mod_self_right]; exact Nat.mod_eq_of_lt hb
  have e2 : b % 2 ^ n = 0 := by rw [← e1, h]; exact Nat.mul_mod_left _ _
  rw [e2, Nat.add_zero] at h
  have e3 := Nat.eq_of_mul_eq_mul_right (Nat.two_pow_pos n) h
  exact ⟨val_inj 256 bs.length out bs hol rfl (fun x _ => x.toNat_lt) (fun x _ => x.toNat_lt) e3, hp, e2⟩
end Go.Proofs.YtkiigonikeeikaaGreatDoor

/-! text.Regroup: bytes as values of five bits. -/
namespace Go.Proofs.YtkiigonikeeikaaGreatDoor
open Go.RowKit Go.Shelf

theorem ofInt_i64 (a : Nat) (ha : a < 9223372036854775808) : (BitVec.ofInt 64 (a : Int)).toNat = a := by
  rw [BitVec.ofInt_natCast, BitVec.toNat_ofNat]; exact Nat.mod_eq_of_lt (by omega)
theorem i64_and_nat (a b : Nat) (ha : a < 9223372036854775808) (hb : b < 9223372036854775808) : bits .and .i64 (a : Int) (b : Int) = ((a &&& b : Nat) : Int) := by
  have hx : a &&& b < 2 ^ 63 := Nat.and_lt_two_pow _ (by omega)
  show IntKind.i64.wrap ((BitVec.ofInt 64 (a : Int) &&& BitVec.ofInt 64 (b : Int)).toNat : Int) = _
  rw [BitVec.toNat_and, ofInt_i64 a ha, ofInt_i64 b hb, IntKind.wrap_i64]
  omega
theorem i64_or_nat (a b : Nat) (ha : a < 9223372036854775808) (hb : b < 9223372036854775808) : bits .or .i64 (a : Int) (b : Int) = ((a ||| b : Nat) : Int) := by
  have hx : a ||| b < 2 ^ 63 := Nat.or_lt_two_pow (by omega) (by omega)
  show IntKind.i64.wrap ((BitVec.ofInt 64 (a : Int) ||| BitVec.ofInt 64 (b : Int)).toNat : Int) = _
  rw [BitVec.toNat_or, ofInt_i64 a ha, ofInt_i64 b hb, IntKind.wrap_i64]
  omega
theorem rg_take (f B y : Nat) (hf : f ≤ 8) (hB : B < 65536) (hy : y < 2 ^ f) : bits .and .i64 (bits .or .i64 ((B * 2 ^ f : Nat) : Int) (y : Int)) 65535 = (((B * 2 ^ f + y) % 65536 : Nat) : Int) := by
  have h2 : 2 ^ f ≤ 256 := Nat.pow_le_pow_right (by omega) hf
  have h3 : B * 2 ^ f ≤ 65535 * 256 := Nat.mul_le_mul (by omega) h2
  have e : B * 2 ^ f ||| y = B * 2 ^ f + y := by rw [Nat.mul_comm]; exact (Nat.two_pow_add_eq_or_of_lt hy B).symm
  rw [i64_or_nat _ _ (by omega) (by omega), e]
  refine (i64_and_nat _ 65535 (by omega) (by omega)).trans ?_
  rw [show (65535 : Nat) = 2 ^ 16 - 1 from rfl, Nat.and_two_pow_sub_one_eq_mod]
theorem rg_give (s B m : Nat) (hs : s ≤ 8) (hB : B < 65536) : bits .and .i64 ((B : Int) / 2 ^ m) ((2 ^ s - 1 : Nat) : Int) = ((B / 2 ^ m % 2 ^ s : Nat) : Int) := by
  have h2 : 2 ^ s ≤ 256 := Nat.pow_le_pow_right (by omega) hs
  have h1 : (B : Int) / 2 ^ m = ((B / 2 ^ m : Nat) : Int) := by rw [Int.natCast_ediv, Int.natCast_pow]; rfl
  have h3 : B / 2 ^ m ≤ B := Nat.div_le_self _ _
  rw [h1, i64_and_nat _ _ (by omega) (by omega), Nat.and_two_pow_sub_one_eq_mod]

set_option maxRecDepth 100000 in
set_option maxHeartbeats 4000000 in
theorem regroup85_any (A : Option Addr) (c : Nat) (bs : List UInt8) (w : World) (hs : Sl w w.heap.size A (B8 bs)) (hl : bs.length ≤ 4096) :
    Calls Tryz.prog 26 #[.slice A bs.length c, .int .i64 8, .int .i64 5, .bool true] w fun e W' => ∃ v five, e = .returned (.tuple #[v, .int .i64 0]) ∧ Five bs five ∧ Ow W' w.heap.size 5 v (B8 five) ∧ Below w.heap.size w W' := by
  go_enter Tryz.func26, Tryz.ntmps26
  go_wp2_with fail
  go_loopw [10, 11, 12, 32] (fun v b n i wr => ∃ (k N B : Nat) (L : List UInt8), k ≤ bs.length ∧ i = .int .i64 k ∧ b = .int .i64 B ∧ n = .int .i64 N ∧ N < 5 ∧ B < 65536 ∧ 5 * L.length + N = 8 * k ∧ Hid (Way 32 (val 256 (bs.take k)) L B N ∧ ∀ x ∈ L, x.toNat < 32) ∧ Ow wr w.heap.size 5 v (B8 L) ∧ Below w.heap.size w wr) (fun _ _ _ i _ => bs.length - (intOf i).toNat)
  case atStart => exact ⟨0, 0, 0, [], Nat.zero_le _, rfl, rfl, rfl, by omega, by omega, rfl, Lib.hid ⟨rfl, by simp⟩, Ow.nil_ _ _ _ _, Below.refl _ _⟩
  case round =>
    obtain ⟨k, N, B, L, hk, rfl, rfl, rfl, hN, hB, hlen, HW, ho, hb⟩ := hrel
    obtain ⟨m, hm⟩ : ∃ m, m = L.length := ⟨_, rfl⟩
    obtain ⟨Al, cl, rfl, hcl, hcl'⟩ := own_form ho
    rw [← hm] at ho hcl hlen ⊢
    have hle1 : 5 * m + N ≤ 8 * k := by omega
    have hle2 : 8 * k ≤ 5 * m + N := by omega
    have Hm := Lib.hid hm
    have hz := hb.size
    by_cases hlt : k < bs.length
    · obtain ⟨y, hy⟩ : ∃ y, y = bs[k] := ⟨_, rfl⟩
      obtain ⟨b9, o9, rfl, hb9, hcl9⟩ := hs.at_ hlt
      have hcell : wr.cell? ⟨b9, o9 + k, none⟩ = some (.int .u8 (y.toNat : Int)) := by rw [hb.cell (p := ⟨b9, o9 + k, none⟩) hb9, hcl9 k hlt, hy]
      have hy8 := y.toNat_lt
      have hy0 : (y.toNat : Int) / 256 = 0 := by omega
      have Hy := Lib.hid hy
      clear hcl9 hm hlen hy
      go_wp2_with fail
      have htk := rg_take 8 B y.toNat (by omega) hB (by omega)
      obtain ⟨B1, hB1⟩ : ∃ B1, B1 = (B * 2 ^ 8 + y.toNat) % 65536 := ⟨_, rfl⟩
      rw [← hB1] at htk
      have htk' : bits .and .i64 (bits .or .i64 ((B : Int) * 256) (y.toNat : Int)) 65535 = (B1 : Int) := htk
      rw [htk']
      have hB65 : B1 < 65536 := by omega
      have HW1 : Hid (Way 32 (val 256 (bs.take (k + 1))) L B1 (N + 8) ∧ ∀ x ∈ L, x.toNat < 32) := Lib.hid ⟨by
        rw [val_take 256 bs k hlt, ← Hy.out, hB1]
        exact HW.out.1.take 8 y.toNat (by omega) (by omega), HW.out.2⟩
      clear htk htk' hB1 HW hcell hy0 Hy
      obtain ⟨wS, rfl⟩ : ∃ wS, wS = wr := ⟨_, rfl⟩
      go_loopw [10, 12] (fun v n wr => ∃ (N : Nat) (L : List UInt8), n = .int .i64 N ∧ N < 13 ∧ 5 * L.length + N = 8 * (k + 1) ∧ Hid (Way 32 (val 256 (bs.take (k + 1))) L B1 N ∧ ∀ x ∈ L, x.toNat < 32) ∧ Ow wr w.heap.size 5 v (B8 L) ∧ Below w.heap.size w wr) (fun _ n _ => (intOf n).toNat)
      case atStart => exact ⟨N + 8, L, rfl, by omega, by rw [← Hm.out]; omega, HW1, ho, hb⟩
      case round =>
        clear hN ho hb HW1 hcl hcl' Hm hle1 hle2 hz
        obtain ⟨N, L, rfl, hN, hlen, HW, ho, hb⟩ := hrel
        obtain ⟨m, hm⟩ : ∃ m, m = L.length := ⟨_, rfl⟩
        obtain ⟨Al, cl, rfl, hcl, hcl'⟩ := own_form ho
        rw [← hm] at ho hcl hlen ⊢
        have hle1 : 5 * m + N ≤ 8 * (k + 1) := by omega
        have hle2 : 8 * (k + 1) ≤ 5 * m + N := by omega
        have Hm := Lib.hid hm
        have hz := hb.size
        clear hlen hm
        by_cases h5 : 5 ≤ N
        · obtain ⟨M, hM⟩ : ∃ M, M = N - 5 := ⟨_, rfl⟩
          have eM : (N : Int) - 5 = (M : Int) := by omega
          have hgv := rg_give 5 B1 M (by omega) hB65
          obtain ⟨d, hd⟩ : ∃ d, d = B1 / 2 ^ M % 2 ^ 5 := ⟨_, rfl⟩
          rw [← hd] at hgv
          have hgv' : bits .and .i64 ((B1 : Int) / 2 ^ M) 31 = (d : Int) := hgv
          have hd32 : d < 32 := by omega
          have HM := Lib.hid hM
          have Hd := Lib.hid hd
          have hMN : M ≤ 12 := by omega
          have hmx : Tryz.prog.follows .mixedOrders = true := by kernel_rfl
          clear hgv hd hM
          go_wp2_with fail
          refine wp_region_plan [(0, 0), (1, 0), (2, 0), (3, 0), (4, 0), (5, 0), (6, 0), (7, 0), (8, 0), (9, 0), (10, 0), (11, 2), (12, 2), (13, 2)] 12 hmx (by kernel_rfl) (by intro c a d v w h; cases d <;> exact h) ?_
          repeat ((first | (refine wpPlan_pure rfl (fun K hK => ?_)) | (refine wpPlan_quiet rfl (fun K hK => ?_))); go_simp; (first | (refine hK _ ?_) | (simp only [IntWalk.iteOmega]; go_simp; refine hK _ ?_) | (go_bits; go_simp; refine hK _ ?_)); clear hK K; (try go_bits))
          refine wpPlan_loud rfl rfl (fun K hK => ?_)
          go_wp2_with fail
          refine ⟨.inr (ext_alloc_drew _ _), ?_⟩
          obtain ⟨w5, hw5⟩ : ∃ w5, w5 = (wr.alloc (.cells #[.int .u8 (d : Int)] 5)).drew := ⟨_, rfl⟩
          rw [← hw5]
          have hb5 : Below w.heap.size w w5 := by rw [hw5]; exact (hb.alloc hz _).drew
          have ho5 : Ow w5 w.heap.size 5 (.slice Al m cl) (B8 L) := by rw [hw5]; exact (ho.alloc _).drew
          have hn5 : Sl w5 (wr.heap.size + 1) (some ⟨wr.heap.size, 0, none⟩) [.int .u8 (d : Int)] := by rw [hw5]; exact (Sl.one wr _ _).drew
          have hz5 := hb5.size
          clear hw5
          refine wpPlan_loud rfl rfl (fun K hK => ?_)
          refine wp_append_Ow (m := 1) (c := 1) (base := w.heap.size) (xs := B8 L) (v := .slice Al m cl) (A := some ⟨wr.heap.size, 0, none⟩) (B := wr.heap.size + 1) (news := [.int .u8 (d : Int)]) elB (.tmp 57) (.tmp 68) rfl rfl ho5 rfl hn5 rfl (by simp; rfl) (by rw [B8_length, ← Hm.out]; simp [maxLen]; omega) (by rw [B8_length, ← Hm.out]; omega) hz5 ?_
          intro v6 w6 ho6 hg6 hr6
          have hb6 : Below w.heap.size w w6 := hb5.grown hg6 hz5 (fun r hr => (ho5.row r hr).1)
          refine (show K (Act.put _ (some 69) v6) w6 from ?_)
          conv in (Act.put _ (some 69) v6) => simp [Act.put]
          refine hK _ _ ⟨.inl (by decide), ?_⟩
          clear hK K
          rw [b8_snoc L _ (UInt8.ofNat d) (by simp; omega)] at ho6
          refine wpPlan_loud rfl rfl (fun K hK => ?_)
          refine Go.BigFrame.wp_assign (.tmp 69) rfl ?_
          refine (show K (Act.put _ (some 10) v6) w6 from ?_)
          conv in (Act.put _ (some 10) _) => simp [Act.put]
          refine hK _ _ ⟨.inl (by decide), ?_⟩
          clear hK K
          refine wpPlan_nil ?_
          clear ho ho5 hg6 hr6 hn5 hb5
          go_wp2_with fail
          exact ⟨⟨M, L ++ [UInt8.ofNat d], rfl, by omega, by rw [List.length_append, ← Hm.out]; simp; have := HM.out; omega, Lib.hid ⟨HW.out.1.give 5 M d _ (by have := HM.out; omega) Hd.out (by simp; omega), fun x hx => by
            rcases List.mem_append.1 hx with hx | hx
            · exact HW.out.2 x hx
            · rw [List.mem_singleton.1 hx]; simp; omega⟩, ho6, hb6⟩, by simp [intOf]; omega⟩
        · go_wp2_with fail
          exact ⟨⟨k + 1, N, B1, L, by omega, rfl, rfl, rfl, by omega, hB65, by rw [← Hm.out]; omega, HW, ho, hb⟩, by simp [intOf]; omega⟩
    · have hke : k = bs.length := by omega
      have htk : bs.take k = bs := by rw [hke]; exact List.take_of_length_le (Nat.le_refl _)
      rw [htk] at HW
      clear htk
      by_cases hN0 : N = 0
      · subst hN0
        have hB0 : bits .and .i64 (B : Int) 0 = 0 := (i64_and_nat B 0 (by omega) (by omega)).trans (by simp)
        have hfive : Five bs L := five_end0 HW.out.1 (by rw [← Hm.out]; omega) HW.out.2
        have HF := Lib.hid hfive
        clear hfive hm hke
        go_wp2_with fail
        go_ret2
        exact ⟨_, _, rfl, HF.out, ho, hb⟩
      · have hc : N = 1 ∨ N = 2 ∨ N = 3 ∨ N = 4 := by omega
        clear hN0 hN
        rcases hc with rfl | rfl | rfl | rfl
        ·
          obtain ⟨r, hr⟩ : ∃ r, r = B % 2 ^ 1 := ⟨_, rfl⟩
          have hB0 : bits .and .i64 (B : Int) 1 = (r : Int) := by
            rw [hr]
            refine (i64_and_nat B 1 (by omega) (by omega)).trans ?_
            rw [show (1 : Nat) = 2 ^ 1 - 1 from rfl, Nat.and_two_pow_sub_one_eq_mod]
          have hr32 : r ≤ 1 := by omega
          have hfive : Five bs (L ++ [UInt8.ofNat (r * 16)]) := five_end _ HW.out.1 (by omega) (by omega) (by rw [← Hm.out]; omega) HW.out.2 (by rw [← hr]; simp; omega)
          have HF := Lib.hid hfive
          clear hfive hm hke hr
          go_wp2_with (at_builtin; go_loud (refine wpList_append_Ow (m := 1) (c := 1) (base := w.heap.size) (xs := B8 L) (v := .slice Al m cl) (A := some ⟨wr.heap.size, 0, none⟩) (B := wr.heap.size + 1) (news := [.int .u8 ((r : Int) * 16)]) elB rfl (.tmp 82) (.tmp 89) rfl rfl (ho.alloc _) rfl (Sl.one wr _ _) rfl (by simp; rfl) (by rw [B8_length, ← Hm.out]; simp [maxLen]; omega) (by rw [B8_length, ← Hm.out]; omega) (by simp; omega) ?_); intro v3 w3 ho3 hg3 hr3)
          go_ret2
          rw [b8_snoc L _ (UInt8.ofNat (r * 16)) (by simp; omega)] at ho3
          exact ⟨_, _, rfl, HF.out, ho3, push_below hb (Nat.le_refl _) ho hg3⟩
        ·
          obtain ⟨r, hr⟩ : ∃ r, r = B % 2 ^ 2 := ⟨_, rfl⟩
          have hB0 : bits .and .i64 (B : Int) 3 = (r : Int) := by
            rw [hr]
            refine (i64_and_nat B 3 (by omega) (by omega)).trans ?_
            rw [show (3 : Nat) = 2 ^ 2 - 1 from rfl, Nat.and_two_pow_sub_one_eq_mod]
          have hr32 : r ≤ 3 := by omega
          have hfive : Five bs (L ++ [UInt8.ofNat (r * 8)]) := five_end _ HW.out.1 (by omega) (by omega) (by rw [← Hm.out]; omega) HW.out.2 (by rw [← hr]; simp; omega)
          have HF := Lib.hid hfive
          clear hfive hm hke hr
          go_wp2_with (at_builtin; go_loud (refine wpList_append_Ow (m := 1) (c := 1) (base := w.heap.size) (xs := B8 L) (v := .slice Al m cl) (A := some ⟨wr.heap.size, 0, none⟩) (B := wr.heap.size + 1) (news := [.int .u8 ((r : Int) * 8)]) elB rfl (.tmp 82) (.tmp 89) rfl rfl (ho.alloc _) rfl (Sl.one wr _ _) rfl (by simp; rfl) (by rw [B8_length, ← Hm.out]; simp [maxLen]; omega) (by rw [B8_length, ← Hm.out]; omega) (by simp; omega) ?_); intro v3 w3 ho3 hg3 hr3)
          go_ret2
          rw [b8_snoc L _ (UInt8.ofNat (r * 8)) (by simp; omega)] at ho3
          exact ⟨_, _, rfl, HF.out, ho3, push_below hb (Nat.le_refl _) ho hg3⟩
        ·
          obtain ⟨r, hr⟩ : ∃ r, r = B % 2 ^ 3 := ⟨_, rfl⟩
          have hB0 : bits .and .i64 (B : Int) 7 = (r : Int) := by
            rw [hr]
            refine (i64_and_nat B 7 (by omega) (by omega)).trans ?_
            rw [show (7 : Nat) = 2 ^ 3 - 1 from rfl, Nat.and_two_pow_sub_one_eq_mod]
          have hr32 : r ≤ 7 := by omega
          have hfive : Five bs (L ++ [UInt8.ofNat (r * 4)]) := five_end _ HW.out.1 (by omega) (by omega) (by rw [← Hm.out]; omega) HW.out.2 (by rw [← hr]; simp; omega)
          have HF := Lib.hid hfive
          clear hfive hm hke hr
          go_wp2_with (at_builtin; go_loud (refine wpList_append_Ow (m := 1) (c := 1) (base := w.heap.size) (xs := B8 L) (v := .slice Al m cl) (A := some ⟨wr.heap.size, 0, none⟩) (B := wr.heap.size + 1) (news := [.int .u8 ((r : Int) * 4)]) elB rfl (.tmp 82) (.tmp 89) rfl rfl (ho.alloc _) rfl (Sl.one wr _ _) rfl (by simp; rfl) (by rw [B8_length, ← Hm.out]; simp [maxLen]; omega) (by rw [B8_length, ← Hm.out]; omega) (by simp; omega) ?_); intro v3 w3 ho3 hg3 hr3)
          go_ret2
          rw [b8_snoc L _ (UInt8.ofNat (r * 4)) (by simp; omega)] at ho3
          exact ⟨_, _, rfl, HF.out, ho3, push_below hb (Nat.le_refl _) ho hg3⟩
        ·
          obtain ⟨r, hr⟩ : ∃ r, r = B % 2 ^ 4 := ⟨_, rfl⟩
          have hB0 : bits .and .i64 (B : Int) 15 = (r : Int) := by
            rw [hr]
            refine (i64_and_nat B 15 (by omega) (by omega)).trans ?_
            rw [show (15 : Nat) = 2 ^ 4 - 1 from rfl, Nat.and_two_pow_sub_one_eq_mod]
          have hr32 : r ≤ 15 := by omega
          have hfive : Five bs (L ++ [UInt8.ofNat (r * 2)]) := five_end _ HW.out.1 (by omega) (by omega) (by rw [← Hm.out]; omega) HW.out.2 (by rw [← hr]; simp; omega)
          have HF := Lib.hid hfive
          clear hfive hm hke hr
          go_wp2_with (at_builtin; go_loud (refine wpList_append_Ow (m := 1) (c := 1) (base := w.heap.size) (xs := B8 L) (v := .slice Al m cl) (A := some ⟨wr.heap.size, 0, none⟩) (B := wr.heap.size + 1) (news := [.int .u8 ((r : Int) * 2)]) elB rfl (.tmp 82) (.tmp 89) rfl rfl (ho.alloc _) rfl (Sl.one wr _ _) rfl (by simp; rfl) (by rw [B8_length, ← Hm.out]; simp [maxLen]; omega) (by rw [B8_length, ← Hm.out]; omega) (by simp; omega) ?_); intro v3 w3 ho3 hg3 hr3)
          go_ret2
          rw [b8_snoc L _ (UInt8.ofNat (r * 2)) (by simp; omega)] at ho3
          exact ⟨_, _, rfl, HF.out, ho3, push_below hb (Nat.le_refl _) ho hg3⟩
end Go.Proofs.YtkiigonikeeikaaGreatDoor
