/- Plain facts on 32-bit words as the walk spells them. | Words for memory: a slice that reads as a list of one-cell elements; a slice that a call may append to. | SHA-256: plain words, and the words as the walk spells them. | Rotations. -/
import Derived.WalkKit
import Derived.Deep.Draws
import Derived.RangeFuncBox
import Derived.CallsIn
import Derived.Laws.CopyOwn
import Derived.Test.YtkiigonikeeikaaGreatDoorRows
import Derived.WalkSpells
import Derived.WalkLawsBesides
import Derived.Lib.Hide

/-! Plain facts on 32-bit words as the walk spells them. -/
namespace Go.Proofs.YtkiigonikeeikaaGreatDoor
open Go

theorem bits_or32 (a b : Nat) (ha : a < 4294967296) (hb : b < 4294967296) : bits .or .u32 (a : Int) (b : Int) = ((a ||| b : Nat) : Int) := u32_or_nat a b ha hb

theorem rotl_spell (x : BitVec 32) (n : Nat) (h0 : 0 < n) (h1 : n < 32) :
    bits .or .u32 ((x.toNat : Int) * 2 ^ n % 4294967296) ((x.toNat : Int) / 2 ^ (32 - n)) = ((x.rotateLeft n).toNat : Int) := by
  have hx := x.isLt
  have e1 : ((x.toNat : Int) * 2 ^ n % 4294967296) = ((x.toNat * 2 ^ n % 4294967296 : Nat) : Int) := by simp
  have e2 : ((x.toNat : Int) / 2 ^ (32 - n)) = ((x.toNat / 2 ^ (32 - n) : Nat) : Int) := by simp
  rw [e1, e2, bits_or32 _ _ (Nat.mod_lt _ (by omega)) (Nat.lt_of_le_of_lt (Nat.div_le_self _ _) hx)]
  congr 1
  rw [BitVec.rotateLeft_def, BitVec.toNat_or, BitVec.toNat_shiftLeft, BitVec.toNat_ushiftRight, Nat.mod_eq_of_lt h1, Nat.shiftLeft_eq, Nat.shiftRight_eq_div_pow]

theorem rotr_rotl (x : BitVec 32) (n : Nat) (h0 : 0 < n) (h1 : n < 32) : x.rotateLeft (32 - n) = x.rotateRight n := by
  rw [BitVec.rotateLeft_def, BitVec.rotateRight_def, Nat.mod_eq_of_lt h1, Nat.mod_eq_of_lt (by omega), show 32 - (32 - n) = n by omega, BitVec.or_comm]

theorem wrapu64_neg (n : Nat) (h0 : 0 < n) (h1 : n < 32) : bits .and .u64 (IntKind.u64.wrap (-(n : Int))) 31 = ((32 - n : Nat) : Int) := by
  have : ∀ n : Fin 32, 0 < n.val → bits .and .u64 (IntKind.u64.wrap (-(n.val : Int))) 31 = ((32 - n.val : Nat) : Int) := by decide
  exact this ⟨n, h1⟩ h0
end Go.Proofs.YtkiigonikeeikaaGreatDoor

/-! Words for memory: a slice that reads as a list of one-cell elements; a slice that a call may append to. -/
namespace Go.Proofs.YtkiigonikeeikaaGreatDoor
open Go.RowKit

theorem add_lit' (b o k : Nat) : (⟨b, o, none⟩ : Addr).add k = ⟨b, o + k, none⟩ := by unfold Addr.add; split <;> simp_all

/-- The slice with this address reads as xs (elements of one cell), below block B. -/
def Sl (w : World) (B : Nat) (A : Option Addr) (xs : List Value) : Prop :=
  0 < xs.length → ∃ b o, A = some ⟨b, o, none⟩ ∧ b < B ∧ ∀ j (h : j < xs.length), w.cell? ⟨b, o + j, none⟩ = some xs[j]

/-- Bytes as cells. -/
def B8 (bs : List UInt8) : List Value := bs.map fun b => .int .u8 (b.toNat : Int)
@[simp] theorem B8_length (bs : List UInt8) : (B8 bs).length = bs.length := by simp [B8]
theorem B8_get (bs : List UInt8) (j : Nat) (h : j < (B8 bs).length) : (B8 bs)[j] = .int .u8 ((bs[j]'(by simpa using h)).toNat : Int) := by simp [B8]
theorem B8_append (a b : List UInt8) : B8 (a ++ b) = B8 a ++ B8 b := by simp [B8]
theorem B8_one (b : UInt8) : B8 [b] = [.int .u8 (b.toNat : Int)] := rfl
theorem B8_take (a : List UInt8) (n : Nat) : B8 (a.take n) = (B8 a).take n := by simp [B8]
theorem B8_drop (a : List UInt8) (n : Nat) : B8 (a.drop n) = (B8 a).drop n := by simp [B8]
theorem B8_oneCell (a : List UInt8) : ∀ u ∈ B8 a, u.oneCell' = true := by
  intro u hu; simp only [B8, List.mem_map] at hu; obtain ⟨b, _, rfl⟩ := hu; rfl

section
variable {w w' : World} {B B' : Nat} {A : Option Addr} {xs : List Value} {bs : List UInt8}
theorem Sl.nil : Sl w B A [] := fun h => absurd h (by simp)
theorem Sl.keep (h : Sl w B A xs) (hk : ∀ p : Addr, p.block < B → w'.cell? p = w.cell? p) : Sl w' B A xs := fun hn => by
  obtain ⟨b, o, e, hb, hc⟩ := h hn
  exact ⟨b, o, e, hb, fun j hj => (hk ⟨b, o + j, none⟩ hb).trans (hc j hj)⟩
theorem Sl.mono (h : Sl w B A xs) (hB : B ≤ B') : Sl w B' A xs := fun hn => by
  obtain ⟨b, o, e, hb, hc⟩ := h hn
  exact ⟨b, o, e, by omega, hc⟩
theorem Sl.below (h : Sl w B A xs) (hb : Below B w w') : Sl w' B A xs := h.keep fun _ hp => hb.cell hp
theorem Sl.drew (h : Sl w B A xs) : Sl w.drew B A xs := h
theorem Sl.alloc (h : Sl w B A xs) (hB : B ≤ w.heap.size) (o : Obj) : Sl (w.alloc o) B A xs := h.keep fun p hp => World.cell?_alloc_lt w o p (by omega)
theorem Sl.setCell (h : Sl w B A xs) {p : Addr} (hp : B ≤ p.block) (u : Value) : Sl (w.setCell p u) B A xs :=
  h.keep fun q hq => World.cell?_setCell_other w p q u (fun e => by subst e; omega)
theorem Sl.grown (h : Sl w B A xs) {row : Option Nat} (hg : w.grownBy w' row) (hB : B ≤ w.heap.size) (hr : ∀ g, row = some g → B ≤ g) : Sl w' B A xs :=
  h.keep fun p hp => World.cell?_of_block (hg.block p.block (by omega) (fun e => by have := hr _ e.symm; omega))
/-- Inside a round. -/
theorem Sl.at_ (h : Sl w B A (B8 bs)) {k : Nat} (hk : k < bs.length) : ∃ b o, A = some ⟨b, o, none⟩ ∧ b < B ∧ ∀ j (h : j < bs.length), w.cell? ⟨b, o + j, none⟩ = some (.int .u8 (bs[j].toNat : Int)) := by
  obtain ⟨b, o, e, hb, hc⟩ := h (by simp; omega)
  exact ⟨b, o, e, hb, fun j hj => by rw [hc j (by simpa using hj), B8_get]⟩
theorem Sl.cut (h : Sl w B A xs) {k m cap : Nat} (hk : k + m ≤ xs.length) (hc : xs.length ≤ cap) :
    Sl w B (if cap = k then A else A.map (·.add k)) ((xs.drop k).take m) := fun hn => by
  have hm : 0 < m ∧ k < xs.length := by simp at hn; omega
  obtain ⟨b, o, rfl, hb, hcell⟩ := h (by omega)
  rw [if_neg (by omega)]
  refine ⟨b, o + k, by simp [add_lit'], hb, fun j hj => ?_⟩
  have := hcell (k + j) (by simp at hj; omega)
  rw [Nat.add_assoc, this]
  simp
theorem Sl.take (h : Sl w B A xs) (n : Nat) : Sl w B A (xs.take n) := fun hn => by
  obtain ⟨b, o, rfl, hb, hcell⟩ := h (by simp at hn; omega)
  exact ⟨b, o, rfl, hb, fun j hj => by rw [hcell j (by simp at hj; omega)]; simp⟩
end

/-- The slice value v holds xs (elements of one cell, of type E) and may be appended to: it has no room at all, or it is the head of a row of the call's own (from block 'base' on). -/
def Ow (w : World) (base : Nat) (E : TypeId) (v : Value) (xs : List Value) : Prop :=
  ∃ A c, v = .slice A xs.length c ∧ xs.length ≤ c ∧ c ≤ maxLen ∧
    (0 < c → ∃ g cur, A = some ⟨g, 0, none⟩ ∧ base ≤ g ∧ w.heap[g]? = some (.cells cur E (0, 0)) ∧ c ≤ cur.size ∧ cur.toList.take xs.length = xs)

/-- The block that an append to v may write. -/
def rowOf : Value → Option Nat
  | .slice (some a) _ c => if c = 0 then none else some a.block
  | _ => none

section
variable {w w' : World} {base E : Nat} {v : Value} {xs : List Value} {A : Option Addr} {n c : Nat}
theorem Ow.nil_ (w : World) (base : Nat) (E : TypeId) (A : Option Addr) : Ow w base E (.slice A 0 0) [] := ⟨A, 0, rfl, by simp, by simp, fun h => absurd h (by omega)⟩
theorem Ow.len (h : Ow w base E (.slice A n c) xs) : n = xs.length ∧ n ≤ c ∧ c ≤ maxLen := by
  obtain ⟨A', c', e, h1, h2, _⟩ := h
  injection e with e1 e2 e3; subst e1 e2 e3; exact ⟨rfl, h1, h2⟩
theorem Ow.row (h : Ow w base E v xs) : ∀ g, rowOf v = some g → base ≤ g ∧ g < w.heap.size := by
  obtain ⟨A, c, rfl, h1, h2, h3⟩ := h
  intro g hg
  cases A with
  | none => simp [rowOf] at hg
  | some a =>
    by_cases hc : c = 0
    · simp [rowOf, hc] at hg
    · obtain ⟨g', cur, e, hb, hh, _⟩ := h3 (by omega)
      injection e with e; subst e
      simp [rowOf, hc] at hg; subst hg
      exact ⟨hb, (Array.getElem?_eq_some_iff.1 hh).1⟩
theorem Ow.kept {row : Option Nat} (h : Ow w base E v xs) (hg : w.grownBy w' row) (hne : ∀ g, rowOf v = some g → row ≠ some g) : Ow w' base E v xs := by
  obtain ⟨A, c, rfl, h1, h2, h3⟩ := h
  refine ⟨A, c, rfl, h1, h2, fun hc => ?_⟩
  obtain ⟨g', cur, rfl, hb, hh, r⟩ := h3 hc
  refine ⟨g', cur, rfl, hb, ?_, r⟩
  rw [hg.block g' (Array.getElem?_eq_some_iff.1 hh).1 (fun e => hne g' (by simp [rowOf]; omega) e.symm)]
  exact hh
theorem Ow.alloc (h : Ow w base E v xs) (o : Obj) : Ow (w.alloc o) base E v xs := h.kept (World.grownBy_alloc w o none) (by simp)
theorem Ow.drew (h : Ow w base E v xs) : Ow w.drew base E v xs := h
theorem Ow.mono {base' : Nat} (h : Ow w base E v xs) (hb : base' ≤ base) : Ow w base' E v xs := by
  obtain ⟨A, c, rfl, h1, h2, h3⟩ := h
  exact ⟨A, c, rfl, h1, h2, fun hc => let ⟨g, cur, e, hg, r⟩ := h3 hc; ⟨g, cur, e, by omega, r⟩⟩
theorem Ow.setCell (h : Ow w base E v xs) {p : Addr} (hp : ∀ g, rowOf v = some g → p.block ≠ g) (u : Value) : Ow (w.setCell p u) base E v xs := by
  obtain ⟨A, c, rfl, h1, h2, h3⟩ := h
  refine ⟨A, c, rfl, h1, h2, fun hc => ?_⟩
  obtain ⟨g', cur, rfl, hb, hh, r⟩ := h3 hc
  refine ⟨g', cur, rfl, hb, ?_, r⟩
  rw [Below.heap_setCell w p u g' (fun e => hp g' (by simp [rowOf]; omega) e.symm)]
  exact hh
theorem Ow.below {B : Nat} (h : Ow w base E v xs) (hb : Below B w w') (hB : w.heap.size ≤ B) : Ow w' base E v xs := by
  obtain ⟨A, c, rfl, h1, h2, h3⟩ := h
  refine ⟨A, c, rfl, h1, h2, fun hc => ?_⟩
  obtain ⟨g', cur, rfl, hbg, hh, r⟩ := h3 hc
  refine ⟨g', cur, rfl, hbg, ?_, r⟩
  rw [hb.block g' (by have := (Array.getElem?_eq_some_iff.1 hh).1; omega)]
  exact hh
theorem Ow.sl (h : Ow w base E (.slice A n c) xs) : Sl w w.heap.size A xs := fun hn => by
  obtain ⟨A', c', e, h1, h2, h3⟩ := h
  injection e with e1 e2 e3; subst e1 e2 e3
  obtain ⟨g, cur, rfl, hb, hh, hs, ht⟩ := h3 (by omega)
  refine ⟨g, 0, rfl, (Array.getElem?_eq_some_iff.1 hh).1, fun j hj => ?_⟩
  rw [Nat.zero_add, cell_of_row w g j cur E (0, 0) hh]
  have hjc : j < cur.size := by omega
  rw [Array.getElem?_eq_getElem hjc]
  congr 1
  have : xs[j]? = (cur.toList.take xs.length)[j]? := by rw [ht]
  rw [List.getElem?_take, if_pos hj, List.getElem?_eq_getElem hj] at this
  rw [show cur.toList[j]? = cur[j]? by simp, Array.getElem?_eq_getElem hjc] at this
  injection this with this; exact this.symm
theorem Ow.of_row {cap : Nat} (cur : Array Value) (E base : Nat) (hb : base ≤ w.heap.size) (hs : cur.size = cap) (hm : cap ≤ maxLen) (n : Nat) (hn : n ≤ cap) :
    Ow (w.alloc (.cells cur E)) base E (.slice (some ⟨w.heap.size, 0, none⟩) n cap) (cur.toList.take n) := by
  have hl : (cur.toList.take n).length = n := by simp; omega
  refine ⟨_, cap, by rw [hl], by omega, hm, fun _ => ⟨_, cur, rfl, hb, heap_alloc_new w _, by omega, by rw [hl]⟩⟩
end

section
variable {P : Program} (w : World)
theorem run_append_Own (base : Nat) (t ty E : TypeId) (i : TypeInfo) (z : Value) (bytes : Nat) (ht : P.underlying t = some (.slice E)) (hi : P.info? E = some i) (hz : i.zero = some z)
    (hsize : i.size = 1) (hby : i.bytes = bytes) (hzs : z.cells.size = 1)
    (v : Value) (xs : List Value) (hown : Ow w base E v xs)
    (B : Nat) (A : Option Addr) (m c : Nat) (news : List Value) (hr : Sl w B A news) (hm : news.length = m) (h1 : ∀ u ∈ news, u.oneCell' = true)
    (h63 : xs.length + m ≤ maxLen) (hbytes : (xs.length + m) * bytes ≤ 140737488355328) (hbase : base ≤ w.heap.size) :
    ∃ v' w', (Builtin.append_ #[t, t] ty #[v, .slice A m c]).run P w = .ok v' w' ∧ Ow w' base E v' (xs ++ news) ∧ w.grownBy w' (rowOf v) ∧
      (rowOf v' = rowOf v ∨ rowOf v' = some w.heap.size) := by
  subst hm hby
  have hsmall : xs.length + news.length ≤ 9223372036854775807 := by simp only [maxLen] at h63; omega
  obtain ⟨Av, cap, rfl, hxc, hcm, hrow⟩ := hown
  by_cases hn0 : news = []
  · subst hn0
    refine ⟨.slice Av xs.length cap, w, ?_, by simpa using ⟨Av, cap, rfl, hxc, hcm, hrow⟩, World.grownBy.refl w _, .inl rfl⟩
    cases A <;> cases Av <;> simp [Builtin.append_, run_underlying ht, sizeOf, typeInfo, hi, Builtin.lenOf, Builtin.firstCells, loadCells, loadCellsFrom, hxc, storeCells]
  have hnl : 0 < news.length := List.length_pos_iff.2 hn0
  obtain ⟨b, o, rfl, _, hcell⟩ := hr hnl
  have hnews : ∀ j u, news[j]? = some u → w.cell? ((⟨b, o, none⟩ : Addr).add j) = some u := by
    intro j u hu
    obtain ⟨hj, e⟩ := List.getElem?_eq_some_iff.1 hu
    rw [add_lit', hcell j hj, e]
  have grown : ∀ (old : Nat), old < xs.length + news.length → 
      Ow (w.drew.alloc (.cells (xs.toArray ++ news.toArray ++ Builtin.zeroCells z.cells (grownCap w (xs.length + news.length) old E - (xs.length + news.length))) E)) base E
        (.slice (some ⟨w.heap.size, 0, none⟩) (xs.length + news.length) (grownCap w (xs.length + news.length) old E)) (xs ++ news) ∧
      (∀ row, w.grownBy (w.drew.alloc (.cells (xs.toArray ++ news.toArray ++ Builtin.zeroCells z.cells (grownCap w (xs.length + news.length) old E - (xs.length + news.length))) E)) row) ∧
      rowOf (.slice (some ⟨w.heap.size, 0, none⟩) (xs.length + news.length) (grownCap w (xs.length + news.length) old E)) = some w.heap.size := by
    intro old ho
    have hge := grownCap_ge w (xs.length + news.length) old E
    have hcm := grownCap_le_maxLen w (xs.length + news.length) old E h63
    refine ⟨?_, fun row => ⟨rfl, rfl, rfl, by simp, fun k hk _ => Below.heap_alloc w.drew _ k hk⟩, by simp only [rowOf]; rw [if_neg (by omega)]⟩
    have := Ow.of_row (w := w.drew) (cap := grownCap w (xs.length + news.length) old E)
      (xs.toArray ++ news.toArray ++ Builtin.zeroCells z.cells (grownCap w (xs.length + news.length) old E - (xs.length + news.length))) E base hbase
      (by simp [size_zeroCells, hzs]; omega) hcm (xs.length + news.length) hge
    have e : (xs.toArray ++ news.toArray ++ Builtin.zeroCells z.cells (grownCap w (xs.length + news.length) old E - (xs.length + news.length))).toList.take (xs.length + news.length) = xs ++ news := by
      simp [List.take_append, List.take_of_length_le]
    rw [e] at this
    exact this
  by_cases hc0 : cap = 0
  · subst hc0
    have hx : xs = [] := List.eq_nil_of_length_eq_zero (by omega)
    subst hx
    have hfit : Builtin.nextslicecap news.length 0 * i.bytes ≤ 281474976710656 := by rw [nextslicecap_zero hnl]; simp at hbytes; omega
    have hgr := grown 0 (by simpa using hnl)
    cases Av with
    | none =>
      have hr := run_append_nil (P := P) w t ty E i z ht hi hz ⟨b, o, none⟩ news.length c news (by simp [hsize]) hnews hnl (by simp at hsmall; omega) (by simp at hbytes; omega)
      simp only [List.length_nil, Nat.zero_add, List.nil_append, Array.empty_append] at hgr ⊢
      exact ⟨_, _, hr, hgr.1, hgr.2.1 _, .inr hgr.2.2⟩
    | some a =>
      have hr := run_append_grow (P := P) w t ty E i z ht hi hz a 0 0 [] (by simp) (by simp) ⟨b, o, none⟩ news.length c news (by simp [hsize]) hnews (by omega) (by simp at hsmall ⊢; omega) (by simpa using hfit)
      simp only [List.length_nil, Nat.zero_add, List.nil_append, Array.empty_append] at hgr hr ⊢
      exact ⟨_, _, hr, hgr.1, hgr.2.1 _, .inr hgr.2.2⟩
  · obtain ⟨g, cur, rfl, hbg, hg, hcs, htake⟩ := hrow (by omega)
    have hrw : rowOf (.slice (some ⟨g, 0, none⟩) xs.length cap) = some g := by simp [rowOf, hc0]
    by_cases hroom : xs.length + news.length ≤ cap
    · have hr := run_append_room (P := P) w t ty E i ht hi g xs.length cap cur hg ⟨b, o, none⟩ news.length c news (by simp [hsize]) hnews h1 hroom (by rw [hsize]; omega)
      refine ⟨_, _, hr, ⟨_, cap, by simp, by simp; omega, hcm, fun _ => ⟨g, _, rfl, hbg, setRow_heap w g cur _ E _ hg, ?_, ?_⟩⟩, ⟨rfl, rfl, rfl, by simp, fun k hk hk2 => setRow_other w g k _ (fun e => hk2 (by rw [hrw, e]))⟩, .inl (by simp [rowOf, hc0])⟩
      · simp [hsize]; omega
      · simp only [hsize, Nat.mul_one, htake]
        simp [List.take_append, List.take_of_length_le]
    · have holds : ∀ j u, xs[j]? = some u → w.cell? ((⟨g, 0, none⟩ : Addr).add j) = some u := by
        intro j u hu
        obtain ⟨hj, e⟩ := List.getElem?_eq_some_iff.1 hu
        have hjc : j < cur.size := by omega
        rw [add_lit', Nat.zero_add, cell_of_row w g j cur E (0, 0) hg]
        rw [← htake, List.getElem?_take, if_pos hj] at hu
        simpa using hu
      have hr := run_append_grow (P := P) w t ty E i z ht hi hz ⟨g, 0, none⟩ xs.length cap xs (by simp [hsize]) holds ⟨b, o, none⟩ news.length c news (by simp [hsize]) hnews (by omega) (by omega) (growslice_fits (by omega) hbytes)
      have hgr := grown cap (by omega)
      exact ⟨_, _, hr, hgr.1, hgr.2.1 _, .inr hgr.2.2⟩
end

section
variable {P : Program} (w : World)
/-- 'string(b)'. -/
theorem run_str_Sl (src dst E : TypeId) (hs : P.underlying src = some (.slice E)) (he : P.underlying E = some (.int .u8)) (hd : P.underlying dst = some .string)
    (B : Nat) (A : Option Addr) (c : Nat) (bs : List UInt8) (h : Sl w B A (B8 bs)) :
    (convert src dst (.slice A bs.length c)).run P w = .ok (.string ⟨bs.toArray⟩) w := by
  by_cases hb : bs = []
  · subst hb
    cases A with
    | none => exact run_convert_bytes_nil w src E hs he _ c dst hd
    | some a => exact run_convert_bytes_back w src dst E a c [] hs he hd (fun j hj => absurd hj (by simp))
  · obtain ⟨b, o, rfl, _, hc⟩ := h.at_ (k := 0) (List.length_pos_iff.2 hb)
    exact run_convert_bytes_back w src dst E _ c bs hs he hd (fun j hj => by rw [add_lit']; exact hc j hj)
end

section
variable {P : Program}
/-- 'make([]T, n, c)', elements of one cell. -/
theorem run_makeN (t e : TypeId) (i : TypeInfo) (z : Value) (bytes : Nat) (ht : P.underlying t = some (.slice e)) (hi : P.info? e = some i) (hz : i.zero = some z) (hsize : i.size = 1) (hby : i.bytes = bytes) (hzs : z.cells = #[z])
    (kl kc : IntKind) (l c : Int) (n cap : Nat) (hl : l = n) (hc : c = cap) (hnc : n ≤ cap) (hb : bytes * cap ≤ 281474976710656) (hm : cap ≤ maxLen) (W : World) :
    (Instr.makeSlice t (.int kl l) (.int kc c)).run P W = .ok (.slice (some ⟨W.heap.size, 0, none⟩) n cap) (W.alloc (.cells (Array.replicate cap z) e)) := by
  subst hl hc hby
  have hm' : cap ≤ 9223372036854775807 := by simp only [maxLen] at hm; omega
  have hb' : (i.bytes : Int) * (cap : Int) ≤ 281474976710656 := by
    have h : ((i.bytes * cap : Nat) : Int) ≤ 281474976710656 := by omega
    rwa [Int.natCast_mul] at h
  have hr := run_make (P := P) W t e i z ht hi hz kl kc n cap (by omega) (by omega) hb' (by omega)
  simp only [Int.toNat_natCast] at hr
  rw [hr, hsize, hzs]
  have : madeCells #[z] (cap * 1) = Array.replicate cap z := by
    apply Array.ext'
    rw [Nat.mul_one, toList_madeCells_one]; simp
  rw [this]
end

/-- Row g has n cells of type E; its first k are those of xs. -/
def Fill (w : World) (g : Nat) (E : TypeId) (n : Nat) (xs : List Value) (k : Nat) : Prop :=
  ∃ cur, w.heap[g]? = some (.cells cur E (0, 0)) ∧ cur.size = n ∧ ∀ j, j < k → cur[j]? = xs[j]?
section
variable {w w' : World} {g E n k j : Nat} {xs : List Value} {v : Value}
theorem Fill.new (w : World) (E : TypeId) (cur : Array Value) (xs : List Value) : Fill (w.alloc (.cells cur E)) w.heap.size E cur.size xs 0 := ⟨cur, heap_alloc_new w _, rfl, by omega⟩
theorem Fill.new' (w : World) (E : TypeId) (n : Nat) (z : Value) (xs : List Value) : Fill (w.alloc (.cells (Array.replicate n z) E)) w.heap.size E n xs 0 := ⟨_, heap_alloc_new w _, by simp, by omega⟩
theorem Fill.cell (h : Fill w g E n xs k) (hj : j < n) : ∃ v, w.cell? ⟨g, j, none⟩ = some v := by
  obtain ⟨cur, hh, hs, hc⟩ := h
  exact ⟨_, by rw [cell_of_row w g j cur _ _ hh, Array.getElem?_eq_getElem (show j < cur.size by omega)]⟩
theorem Fill.known (h : Fill w g E n xs k) (hj : j < k) (hx : xs[j]? = some v) : w.cell? ⟨g, j, none⟩ = some v := by
  obtain ⟨cur, hh, hs, hc⟩ := h
  rw [cell_of_row w g j cur _ _ hh, hc j hj, hx]
theorem Fill.frozen (h : Fill w g E n xs k) (j : Nat) : w.frozen? ⟨g, j, none⟩ = false := by
  obtain ⟨cur, hh, hs, hc⟩ := h
  exact frozen_of_row w g j cur _ hh
theorem Fill.set (h : Fill w g E n xs k) (hk : k < n) (hx : xs[k]? = some v) : Fill (w.setCell ⟨g, k, none⟩ v) g E n xs (k + 1) := by
  obtain ⟨cur, hh, hs, hc⟩ := h
  refine ⟨_, heap_setCell_same w g k cur _ v hh, by simpa using hs, fun j hj => ?_⟩
  rw [Array.getElem?_setIfInBounds]
  by_cases e : k = j
  · subst e; rw [if_pos rfl, if_pos (by omega), hx]
  · rw [if_neg e, hc j (by omega)]
theorem Fill.put (h : Fill w g E n xs k) (hk : k ≤ j) (u : Value) : Fill (w.setCell ⟨g, j, none⟩ u) g E n xs k := by
  obtain ⟨cur, hh, hs, hc⟩ := h
  refine ⟨_, heap_setCell_same w g j cur _ u hh, by simpa using hs, fun i hi => ?_⟩
  rw [Array.getElem?_setIfInBounds, if_neg (by omega), hc i (by omega)]
theorem Fill.far (h : Fill w g E n xs k) {p : Addr} (hp : g ≠ p.block) (u : Value) : Fill (w.setCell p u) g E n xs k := by
  obtain ⟨cur, hh, hs, hc⟩ := h
  exact ⟨cur, (Below.heap_setCell w p u g hp).trans hh, hs, hc⟩
theorem Fill.lt (h : Fill w g E n xs k) : g < w.heap.size := by
  obtain ⟨cur, hh, hs, hc⟩ := h
  exact (Array.getElem?_eq_some_iff.1 hh).1
theorem Fill.alloc (h : Fill w g E n xs k) (o : Obj) : Fill (w.alloc o) g E n xs k := by
  have hl := h.lt
  obtain ⟨cur, hh, hs, hc⟩ := h
  exact ⟨cur, (Below.heap_alloc w o g hl).trans hh, hs, hc⟩
theorem Fill.drew (h : Fill w g E n xs k) : Fill w.drew g E n xs k := h
theorem Fill.drewN (h : Fill w g E n xs k) (m : Nat) : Fill (w.drewN m) g E n xs k := h
theorem Fill.below {B : Nat} (h : Fill w g E n xs k) (hb : Below B w w') (hg : g < B) : Fill w' g E n xs k := by
  obtain ⟨cur, hh, hs, hc⟩ := h
  exact ⟨cur, (hb.block g hg).trans hh, hs, hc⟩
theorem Fill.done (h : Fill w g E n xs n) (hx : xs.length = n) : w.heap[g]? = some (.cells xs.toArray E (0, 0)) := by
  obtain ⟨cur, hh, hs, hc⟩ := h
  rw [hh]
  have : cur = xs.toArray := by
    apply Array.ext_getElem?
    intro i
    by_cases hi : i < n
    · rw [hc i hi]; simp
    · rw [Array.getElem?_eq_none (by omega)]; simp; omega
  rw [this]
end
theorem below_drewN' {B : Nat} {a w : World} (h : Below B a w) (n : Nat) : Below B a (w.drewN n) := ⟨h.os, h.tape, h.output, h.size, h.block⟩

section
variable {w w' : World} {base E n c : Nat} {v : Value} {A : Option Addr} {xs : List Value}
/-- An element of what is owned: its cell, and what a store does. -/
theorem Ow.at_ (h : Ow w base E (.slice A n c) xs) {j : Nat} (hj : j < xs.length) : ∃ g, A = some ⟨g, 0, none⟩ ∧ base ≤ g ∧ rowOf (.slice A n c) = some g ∧ w.cell? ⟨g, j, none⟩ = some xs[j] ∧ w.frozen? ⟨g, j, none⟩ = false := by
  have hsl := h.sl
  obtain ⟨A', c', e, h1, h2, h3⟩ := h
  injection e with e1 e2 e3; subst e1 e2 e3
  obtain ⟨g, cur, rfl, hb, hh, hs, ht⟩ := h3 (by omega)
  obtain ⟨b, o, e, _, hc⟩ := hsl (by omega)
  simp at e; obtain ⟨rfl, rfl⟩ := e
  exact ⟨g, rfl, hb, by simp [rowOf]; omega, by have := hc j hj; rwa [Nat.zero_add] at this, frozen_of_row w g j cur _ hh⟩
theorem Ow.store {g : Nat} (h : Ow w base E (.slice (some ⟨g, 0, none⟩) n c) xs) (j : Nat) (hc : 0 < c) (u : Value) : Ow (w.setCell ⟨g, j, none⟩ u) base E (.slice (some ⟨g, 0, none⟩) n c) (xs.set j u) := by
  obtain ⟨A', c', e, h1, h2, h3⟩ := h
  injection e with e1 e2 e3; subst e1 e2 e3
  obtain ⟨g', cur, e, hb, hh, hs, ht⟩ := h3 hc
  simp at e; subst e
  refine ⟨_, c, by rw [List.length_set], by simpa using h1, h2, fun _ => ⟨g, _, rfl, hb, heap_setCell_same w g j cur _ u hh, by simpa using hs, ?_⟩⟩
  rw [List.length_set, Array.toList_setIfInBounds, List.take_set, ht]
theorem Ow.keepsOthers {row : Option Nat} (h : Ow w base E v xs) (hg : w.grownBy w' row) (hr : row = rowOf v) : KeepsOthers w w' :=
  KeepsOthers.of_grownBy hg fun j o e ho => by
    obtain ⟨A, c, rfl, h1, h2, h3⟩ := h
    cases A with
    | none => rw [hr] at e; simp [rowOf] at e
    | some a =>
      by_cases hc : c = 0
      · rw [hr] at e; simp [rowOf, hc] at e
      · obtain ⟨g, cur, ea, _, hh, _⟩ := h3 (by omega)
        injection ea with ea; subst ea
        rw [hr] at e; simp [rowOf, hc] at e; subst e
        rw [hh] at ho; injection ho with ho; subst ho; rfl
theorem Ow.others {row : Option Nat} (h : Ow w base E v xs) (hg : w.grownBy w' row) (hr : ∀ r, row = some r → ∃ o : Obj, w.heap[r]? = some o ∧ o.isCells = false) : Ow w' base E v xs :=
  h.kept hg fun g hgr e => by
    obtain ⟨o, ho, hc⟩ := hr g e
    obtain ⟨A, c, rfl, h1, h2, h3⟩ := h
    cases A with
    | none => simp [rowOf] at hgr
    | some a =>
      by_cases hc0 : c = 0
      · simp [rowOf, hc0] at hgr
      · obtain ⟨g', cur, ea, _, hh, _⟩ := h3 (by omega)
        injection ea with ea; subst ea
        simp [rowOf, hc0] at hgr; subst hgr
        rw [hh] at ho; injection ho with ho; subst ho; cases hc
/-- A block of one known cell abides what turns no cells. -/
theorem boxed_others {b t : Nat} {row : Option Nat} (h : Boxed w b t v) (hg : w.grownBy w' row) (hr : ∀ r, row = some r → ∃ o : Obj, w.heap[r]? = some o ∧ o.isCells = false) : Boxed w' b t v :=
  h.kept hg fun e => by
    obtain ⟨o, ho, hc⟩ := hr b e.symm
    rw [show w.heap[b]? = _ from h] at ho; injection ho with ho; subst ho; cases hc
theorem boxed_drew {b t : Nat} (h : Boxed w b t v) : Boxed w.drew b t v := h
theorem boxed_far {b t : Nat} (h : Boxed w b t v) {p : Addr} (hp : b ≠ p.block) (u : Value) : Boxed (w.setCell p u) b t v := (Below.heap_setCell w p u b hp).trans h
theorem Ow.row_ne_box {b t : Nat} {u : Value} (h : Ow w base E v xs) (hb : Boxed w b t u) (hte : t ≠ E) : ∀ g, rowOf v = some g → g ≠ b := by
  obtain ⟨A, c, rfl, h1, h2, h3⟩ := h
  intro g hg e
  subst e
  cases A with
  | none => simp [rowOf] at hg
  | some a =>
    by_cases hc0 : c = 0
    · simp [rowOf, hc0] at hg
    · obtain ⟨g', cur, ea, _, hh, _⟩ := h3 (by omega)
      injection ea with ea; subst ea
      simp [rowOf, hc0] at hg; subst hg
      rw [show w.heap[g']? = _ from hb] at hh; injection hh with hh; injection hh with _ ht; exact hte ht
end

/-- A slice type and its element type, one cell each. -/
structure El (P : Program) (t E : TypeId) (z : Value) (bytes : Nat) : Prop where
  und : P.underlying t = some (.slice E)
  info : (P.info? E).map (fun i => (i.zero, i.size, i.bytes)) = some (some z, 1, bytes)
  zc : z.cells = #[z]
section
variable {P : Program} {w : World} {base t E : Nat} {z : Value} {bytes : Nat} {v : Value} {xs : List Value} {B : Nat} {A : Option Addr} {m c : Nat} {news : List Value}
theorem El.append (hE : El P t E z bytes) (ty : TypeId) (hown : Ow w base E v xs) (hr : Sl w B A news) (hm : news.length = m) (h1 : ∀ u ∈ news, u.oneCell' = true)
    (h63 : xs.length + m ≤ maxLen) (hbytes : (xs.length + m) * bytes ≤ 140737488355328) (hbase : base ≤ w.heap.size) :
    ∃ v' w', (Builtin.append_ #[t, t] ty #[v, .slice A m c]).run P w = .ok v' w' ∧ Ow w' base E v' (xs ++ news) ∧ w.grownBy w' (rowOf v) ∧ (rowOf v' = rowOf v ∨ rowOf v' = some w.heap.size) := by
  obtain ⟨i0, hi, hz0, hz1, hz2⟩ := info_parts hE.info
  exact run_append_Own w base t ty E i0 z bytes hE.und hi hz0 hz1 hz2 (by rw [hE.zc]; rfl) v xs hown B A m c news hr hm h1 h63 hbytes hbase
/-- append at a plain operation. -/
theorem wp_append_Ow {o : Oper} {a : Act} {K : Act → World → Prop} {Q : Exit → Act → World → Prop} (hE : El P t E z bytes) (s x : Operand)
    (ho : o.op = .call { callee := .builtin .append, args := #[s, x], argTypes := #[t, t] }) (hs : a.eval s = v) (hown : Ow w base E v xs) (hx : a.eval x = .slice A m c) (hr : Sl w B A news) (hm : news.length = m) (h1 : ∀ u ∈ news, u.oneCell' = true)
    (h63 : xs.length + m ≤ maxLen) (hbytes : (xs.length + m) * bytes ≤ 140737488355328) (hbase : base ≤ w.heap.size)
    (h : ∀ v' w', Ow w' base E v' (xs ++ news) → w.grownBy w' (rowOf v) → (rowOf v' = rowOf v ∨ rowOf v' = some w.heap.size) → K (a.put o.dst v') w') : o.wp P a w K Q := by
  obtain ⟨v', w', hrun, h2, h3, h4⟩ := hE.append (c := c) o.type hown hr hm h1 h63 hbytes hbase
  unfold Oper.wp execOp
  simp only [ho, resolve, invoke, builtin, Sem.run_bind, Sem.run_pure, Result.andThen_ok, List.map_toArray, List.map_cons, List.map_nil, hs, hx, hrun]
  exact h v' w' h2 h3 h4
theorem wpIn_append_Ow {F : Fence} {n : Nat} (hF : ∀ k, F.fn k) {o : Oper} {a : Act} {K : Act → World → Prop} {Q : Exit → Act → World → Prop} (hE : El P t E z bytes) (s x : Operand)
    (ho : o.op = .call { callee := .builtin .append, args := #[s, x], argTypes := #[t, t] }) (hs : a.eval s = v) (hown : Ow w base E v xs) (hx : a.eval x = .slice A m c) (hr : Sl w B A news) (hm : news.length = m) (h1 : ∀ u ∈ news, u.oneCell' = true)
    (h63 : xs.length + m ≤ maxLen) (hbytes : (xs.length + m) * bytes ≤ 140737488355328) (hbase : base ≤ w.heap.size)
    (h : ∀ v' w', Ow w' base E v' (xs ++ news) → w.grownBy w' (rowOf v) → (rowOf v' = rowOf v ∨ rowOf v' = some w.heap.size) → K (a.put o.dst v') w') : o.wpIn F n P a w K Q := by
  obtain ⟨v', w', hrun, h2, h3, h4⟩ := hE.append (c := c) o.type hown hr hm h1 h63 hbytes hbase
  refine ⟨fun f _ => hF f, ?_⟩
  rw [Oper.semAt_eq _ _ _ (by simp [ho])]
  unfold execOp
  simp only [ho, resolve, invoke, builtin, Sem.run_bind, Sem.run_pure, Result.andThen_ok, List.map_toArray, List.map_cons, List.map_nil, hs, hx, hrun]
  exact h v' w' h2 h3 h4
theorem wpList_append_Ow {ops : Array Oper} {rest : List Oper} {o : Oper} {a : Act} {Q : Exit → Act → World → Prop} (hE : El P t E z bytes) (hgd : o.guard = none) (s x : Operand)
    (ho : o.op = .call { callee := .builtin .append, args := #[s, x], argTypes := #[t, t] }) (hs : a.eval s = v) (hown : Ow w base E v xs) (hx : a.eval x = .slice A m c) (hr : Sl w B A news) (hm : news.length = m) (h1 : ∀ u ∈ news, u.oneCell' = true)
    (h63 : xs.length + m ≤ maxLen) (hbytes : (xs.length + m) * bytes ≤ 140737488355328) (hbase : base ≤ w.heap.size)
    (h : ∀ v' w', Ow w' base E v' (xs ++ news) → w.grownBy w' (rowOf v) → (rowOf v' = rowOf v ∨ rowOf v' = some w.heap.size) → wpList P ops Q rest (a.put o.dst v') w') : wpList P ops Q (o :: rest) a w :=
  wpList_plain hgd fun _ hK => wp_append_Ow hE s x ho hs hown hx hr hm h1 h63 hbytes hbase fun v' w' h2 h3 h4 => hK _ _ (h v' w' h2 h3 h4)
/-- The one cell that 'append(s, x)' lays first. -/
theorem Sl.one (w : World) (u : Value) (E : TypeId) : Sl (w.alloc (.cells #[u] E)) (w.heap.size + 1) (some ⟨w.heap.size, 0, none⟩) [u] := fun _ =>
  ⟨w.heap.size, 0, rfl, by omega, fun j hj => by
    have : j = 0 := by simp at hj; omega
    subst this
    simp⟩
end

section
variable {P : Program} {w : World} {dT sT E : Nat} {z : Value} {bytes g off dLen dCap sLen sCap B : Nat} {A : Option Addr} {cur : Array Value} {t : TypeId} {cs : List Value}
theorem run_copy_Sl (hE : El P dT E z bytes) (ty : TypeId) (hg : w.heap[g]? = some (.cells cur t (0, 0))) (hn : cs.length = Nat.min sLen dLen) (hsrc : Sl w B A cs) (hfit : off + cs.length ≤ cur.size) (h1 : ∀ v ∈ cs, v.oneCell' = true) :
    (Builtin.copy_ #[dT, sT] ty #[.slice (some ⟨g, off, none⟩) dLen dCap, .slice A sLen sCap]).run P w = .ok (.int .i64 (cs.length : Int)) (w.setRow g (cur.toList.take off ++ cs ++ cur.toList.drop (off + cs.length)).toArray) := by
  obtain ⟨i0, hi, hz0, hz1, hz2⟩ := info_parts hE.info
  have hsz : (P.info? E).map (·.size) = some 1 := by rw [hi]; simp [hz1]
  by_cases h0 : cs.length = 0
  · obtain rfl : cs = [] := List.eq_nil_of_length_eq_zero h0
    rw [run_copy_none (P := P) w dT sT ty E (some ⟨g, off, none⟩) A dLen dCap sLen sCap hE.und hsz (by simpa using hn.symm)]
    simp only [List.append_nil, List.length_nil, Nat.add_zero, List.take_append_drop]
    rw [show cur.toList.toArray = cur from rfl, setRow_self w g cur t _ hg]
    rfl
  · obtain ⟨b, o, rfl, _, hc⟩ := hsrc (by omega)
    have hrun := run_copy_row (P := P) w dT sT ty E g off dLen dCap ⟨b, o, none⟩ sLen sCap cur t cs hE.und hsz hg hn (fun j v hj => by
      obtain ⟨hj', e⟩ := List.getElem?_eq_some_iff.1 hj
      rw [add_lit', hc j hj', e]) hfit h1
    rw [hrun]
    rfl
theorem wp_copy_Sl {o : Oper} {a : Act} {K : Act → World → Prop} {Q : Exit → Act → World → Prop} (hE : El P dT E z bytes) (d s : Operand)
    (ho : o.op = .call { callee := .builtin .copy, args := #[d, s], argTypes := #[dT, sT] }) (hd : a.eval d = .slice (some ⟨g, off, none⟩) dLen dCap) (hs : a.eval s = .slice A sLen sCap)
    (hg : w.heap[g]? = some (.cells cur t (0, 0))) (hn : cs.length = Nat.min sLen dLen) (hsrc : Sl w B A cs) (hfit : off + cs.length ≤ cur.size) (h1 : ∀ v ∈ cs, v.oneCell' = true)
    (h : K (a.put o.dst (.int .i64 (cs.length : Int))) (w.setRow g (cur.toList.take off ++ cs ++ cur.toList.drop (off + cs.length)).toArray)) : o.wp P a w K Q := by
  have hrun := run_copy_Sl (sT := sT) (dCap := dCap) (sCap := sCap) hE o.type hg hn hsrc hfit h1
  unfold Oper.wp execOp
  simp only [ho, resolve, invoke, builtin, Sem.run_bind, Sem.run_pure, Result.andThen_ok, List.map_toArray, List.map_cons, List.map_nil, hd, hs, hrun]
  exact h
theorem wpList_copy_Sl {ops : Array Oper} {rest : List Oper} {o : Oper} {a : Act} {Q : Exit → Act → World → Prop} (hE : El P dT E z bytes) (hgd : o.guard = none) (d s : Operand)
    (ho : o.op = .call { callee := .builtin .copy, args := #[d, s], argTypes := #[dT, sT] }) (hd : a.eval d = .slice (some ⟨g, off, none⟩) dLen dCap) (hs : a.eval s = .slice A sLen sCap)
    (hg : w.heap[g]? = some (.cells cur t (0, 0))) (hn : cs.length = Nat.min sLen dLen) (hsrc : Sl w B A cs) (hfit : off + cs.length ≤ cur.size) (h1 : ∀ v ∈ cs, v.oneCell' = true)
    (h : ∀ w', w' = w.setRow g (cur.toList.take off ++ cs ++ cur.toList.drop (off + cs.length)).toArray → wpList P ops Q rest (a.put o.dst (.int .i64 (cs.length : Int))) w') : wpList P ops Q (o :: rest) a w :=
  wpList_plain hgd fun _ hK => wp_copy_Sl hE d s ho hd hs hg hn hsrc hfit h1 (hK _ _ (h _ rfl))
end
theorem Fill.splice {w : World} {g E n k m : Nat} {xs : List Value} {cur : Array Value} (hg : w.heap[g]? = some (.cells cur E (0, 0))) (hs : cur.size = n) (hc : ∀ j, j < k → cur[j]? = xs[j]?) (hm : k + m ≤ n) (hx : k + m ≤ xs.length) {cs : List Value} (e : cs = (xs.drop k).take m) :
    Fill (w.setRow g (cur.toList.take k ++ cs ++ cur.toList.drop (k + cs.length)).toArray) g E n xs (k + m) := by
  have hl : cs.length = m := by rw [e]; simp; omega
  refine ⟨_, setRow_heap w g cur _ E _ hg, by simp; omega, fun j hj => ?_⟩
  simp only [List.getElem?_toArray]
  by_cases h1 : j < k
  · rw [List.append_assoc, List.getElem?_append_left (by simp; omega), List.getElem?_take, if_pos h1, Array.getElem?_toList]; exact hc j h1
  · rw [List.append_assoc, List.getElem?_append_right (by simp; omega), List.getElem?_append_left (by simp; omega), e, List.getElem?_take, List.getElem?_drop]
    simp only [List.length_take, Array.length_toList]
    rw [if_pos (by omega)]; congr 1; omega
theorem below_setRow' {B : Nat} {w0 w : World} {g : Nat} (hb : Below B w0 w) (hBg : B ≤ g) (cs : Array Value) : Below B w0 (w.setRow g cs) := below_setRow hb hBg cs
end Go.Proofs.YtkiigonikeeikaaGreatDoor

/-! SHA-256: plain words, and the words as the walk spells them. -/
namespace Go.Proofs.YtkiigonikeeikaaGreatDoor
open Go

def W32 (xs : List (BitVec 32)) : List Value := xs.map fun x => .int .u32 (x.toNat : Int)
@[simp] theorem W32_length (xs : List (BitVec 32)) : (W32 xs).length = xs.length := by simp [W32]
theorem W32_get? (xs : List (BitVec 32)) (k : Nat) : (W32 xs)[k]? = xs[k]?.map fun x => .int .u32 (x.toNat : Int) := by simp [W32]

def sig0 (x : BitVec 32) : BitVec 32 := x.rotateRight 7 ^^^ x.rotateRight 18 ^^^ (x >>> 3)
def sig1 (x : BitVec 32) : BitVec 32 := x.rotateRight 17 ^^^ x.rotateRight 19 ^^^ (x >>> 10)
def Sig0 (x : BitVec 32) : BitVec 32 := x.rotateRight 2 ^^^ x.rotateRight 13 ^^^ x.rotateRight 22
def Sig1 (x : BitVec 32) : BitVec 32 := x.rotateRight 6 ^^^ x.rotateRight 11 ^^^ x.rotateRight 25
def word (b : List UInt8) (i : Nat) : BitVec 32 :=
  (b.getD (4 * i) 0).toBitVec.setWidth 32 <<< 24 ||| (b.getD (4 * i + 1) 0).toBitVec.setWidth 32 <<< 16 ||| (b.getD (4 * i + 2) 0).toBitVec.setWidth 32 <<< 8 ||| (b.getD (4 * i + 3) 0).toBitVec.setWidth 32
def wd (b : List UInt8) (k : Nat) : BitVec 32 :=
  if k < 16 then word b k else wd b (k - 16) + wd b (k - 7) + sig0 (wd b (k - 15)) + sig1 (wd b (k - 2))
termination_by k
decreasing_by all_goals omega
theorem wd_lo (b : List UInt8) (k : Nat) (h : k < 16) : wd b k = word b k := by rw [wd, if_pos h]
theorem wd_hi (b : List UInt8) (k : Nat) (h : ¬ k < 16) : wd b k = wd b (k - 16) + wd b (k - 7) + sig0 (wd b (k - 15)) + sig1 (wd b (k - 2)) := by rw [wd, if_neg h]
def wds (b : List UInt8) : List (BitVec 32) := (List.range 64).map (wd b)
theorem wds_get? (b : List UInt8) (k : Nat) (h : k < 64) : (W32 (wds b))[k]? = some (.int .u32 ((wd b k).toNat : Int)) := by rw [W32_get?]; simp [wds, h]
theorem wds_length (b : List UInt8) : (wds b).length = 64 := by simp [wds]

def ch (e f g : BitVec 32) : BitVec 32 := (e &&& f) ^^^ (~~~e &&& g)
def maj (a b c : BitVec 32) : BitVec 32 := ((a &&& b) ^^^ (a &&& c)) ^^^ (b &&& c)
def rnd (k x : BitVec 32) : List (BitVec 32) → List (BitVec 32)
  | [a, b, c, d, e, f, g, h] => [h + Sig1 e + ch e f g + k + x + (Sig0 a + maj a b c), a, b, c, d + (h + Sig1 e + ch e f g + k + x), e, f, g]
  | l => l
def rnds (ks : List (BitVec 32)) (bs : List UInt8) (st : List (BitVec 32)) : Nat → List (BitVec 32)
  | 0 => st
  | k + 1 => rnd (ks.getD k 0) (wd bs k) (rnds ks bs st k)
def stepW (ks : List (BitVec 32)) (bs : List UInt8) (st : List (BitVec 32)) : List (BitVec 32) := List.zipWith (· + ·) st (rnds ks bs st 64)

theorem sp_add (x y : BitVec 32) : ((x.toNat : Int) + (y.toNat : Int)) % 4294967296 = ((x + y).toNat : Int) := by simp [BitVec.toNat_add]
theorem sp_xor (x y : BitVec 32) : bits .xor .u32 (x.toNat : Int) (y.toNat : Int) = ((x ^^^ y).toNat : Int) := by rw [u32_xor_nat _ _ x.isLt y.isLt, BitVec.toNat_xor]
theorem sp_and (x y : BitVec 32) : bits .and .u32 (x.toNat : Int) (y.toNat : Int) = ((x &&& y).toNat : Int) := by rw [u32_and_nat _ _ x.isLt y.isLt, BitVec.toNat_and]
theorem sp_or (x y : BitVec 32) : bits .or .u32 (x.toNat : Int) (y.toNat : Int) = ((x ||| y).toNat : Int) := by rw [u32_or_nat _ _ x.isLt y.isLt, BitVec.toNat_or]
theorem sp_shr (x : BitVec 32) (n : Nat) : (x.toNat : Int) / 2 ^ n = ((x >>> n).toNat : Int) := by simp [BitVec.toNat_ushiftRight, Nat.shiftRight_eq_div_pow]
theorem sp_shl (x : BitVec 32) (n : Nat) : (x.toNat : Int) * 2 ^ n % 4294967296 = ((x <<< n).toNat : Int) := by simp [BitVec.toNat_shiftLeft, Nat.shiftLeft_eq]
theorem sp_byte (x : UInt8) : (x.toNat : Int) = ((x.toBitVec.setWidth 32).toNat : Int) := by
  have h := x.toNat_lt
  rw [BitVec.toNat_setWidth, UInt8.toNat_toBitVec, Nat.mod_eq_of_lt (by omega)]
theorem sp_s0 (x r1 r2 : BitVec 32) : bits .xor .u32 (bits .xor .u32 (r1.toNat : Int) (r2.toNat : Int)) ((x.toNat : Int) / 8) = ((r1 ^^^ r2 ^^^ (x >>> 3)).toNat : Int) := by
  rw [sp_xor, show (8 : Int) = 2 ^ 3 from rfl, sp_shr, sp_xor]
theorem sp_s1 (x r1 r2 : BitVec 32) : bits .xor .u32 (bits .xor .u32 (r1.toNat : Int) (r2.toNat : Int)) ((x.toNat : Int) / 1024) = ((r1 ^^^ r2 ^^^ (x >>> 10)).toNat : Int) := by
  rw [sp_xor, show (1024 : Int) = 2 ^ 10 from rfl, sp_shr, sp_xor]
theorem sp_S (r1 r2 r3 : BitVec 32) : bits .xor .u32 (bits .xor .u32 (r1.toNat : Int) (r2.toNat : Int)) (r3.toNat : Int) = ((r1 ^^^ r2 ^^^ r3).toNat : Int) := by
  rw [sp_xor, sp_xor]
theorem sp_add4 (a b c d : BitVec 32) : ((a.toNat : Int) + (b.toNat : Int) + (c.toNat : Int) + (d.toNat : Int)) % 4294967296 = ((a + b + c + d).toNat : Int) := by
  simp [BitVec.toNat_add]
theorem sp_add5 (a b c d e : BitVec 32) : ((a.toNat : Int) + (b.toNat : Int) + (c.toNat : Int) + (d.toNat : Int) + (e.toNat : Int)) % 4294967296 = ((a + b + c + d + e).toNat : Int) := by
  simp [BitVec.toNat_add]
theorem sp_not (x : BitVec 32) : bits .xor .u32 IntKind.u32.max (x.toNat : Int) = ((~~~x).toNat : Int) := by
  have h : IntKind.u32.max = (((BitVec.allOnes 32).toNat : Nat) : Int) := by decide
  rw [h, sp_xor, BitVec.allOnes_xor]
theorem sp_t (h e f g k x r1 r2 r3 : BitVec 32) :
    ((h.toNat : Int) + bits .xor .u32 (bits .xor .u32 (r1.toNat : Int) (r2.toNat : Int)) (r3.toNat : Int) + bits .xor .u32 (bits .and .u32 (e.toNat : Int) (f.toNat : Int)) (bits .and .u32 (bits .xor .u32 IntKind.u32.max (e.toNat : Int)) (g.toNat : Int)) + (k.toNat : Int) + (x.toNat : Int)) % 4294967296
      = ((h + (r1 ^^^ r2 ^^^ r3) + ch e f g + k + x).toNat : Int) := by
  rw [sp_S, sp_not, sp_and, sp_and, sp_xor, sp_add5]; rfl
theorem sp_u (a b c r1 r2 r3 : BitVec 32) :
    (bits .xor .u32 (bits .xor .u32 (r1.toNat : Int) (r2.toNat : Int)) (r3.toNat : Int) + bits .xor .u32 (bits .xor .u32 (bits .and .u32 (a.toNat : Int) (b.toNat : Int)) (bits .and .u32 (a.toNat : Int) (c.toNat : Int))) (bits .and .u32 (b.toNat : Int) (c.toNat : Int))) % 4294967296
      = (((r1 ^^^ r2 ^^^ r3) + maj a b c).toNat : Int) := by
  rw [sp_S, sp_and, sp_and, sp_and, sp_xor, sp_xor, sp_add]; rfl
def mixed (ss vs : List (BitVec 32)) (k : Nat) : List (BitVec 32) := (List.zipWith (· + ·) ss vs).take k ++ ss.drop k
theorem mixed_zero (ss vs : List (BitVec 32)) : mixed ss vs 0 = ss := by simp [mixed]
theorem mixed_end (ss vs : List (BitVec 32)) (h1 : ss.length = 8) (h2 : vs.length = 8) : mixed ss vs 8 = List.zipWith (· + ·) ss vs := by
  rw [mixed, List.take_of_length_le (by simp [h1, h2]), List.drop_eq_nil_of_le (by omega), List.append_nil]
theorem mixed_length (ss vs : List (BitVec 32)) (h1 : ss.length = 8) (h2 : vs.length = 8) (k : Nat) (hk : k ≤ 8) : (mixed ss vs k).length = 8 := by simp [mixed, h1, h2]; omega
theorem mixed_at (ss vs : List (BitVec 32)) (h1 : ss.length = 8) (h2 : vs.length = 8) (rest : List Value) (k : Nat) (hk : k < 8) :
    (W32 (mixed ss vs k) ++ rest).toArray[k]? = some (.int .u32 ((ss.getD k 0).toNat : Int)) := by
  have hl := mixed_length ss vs h1 h2 k (by omega)
  rw [List.getElem?_toArray, List.getElem?_append_left (by simp [hl, hk]), W32_get?, mixed, List.getElem?_append_right (by simp; omega)]
  simp [h1, h2, show min k 8 = k by omega, hk]
theorem mixed_set (ss vs : List (BitVec 32)) (h1 : ss.length = 8) (h2 : vs.length = 8) (rest : List Value) (k : Nat) (hk : k < 8) :
    (W32 (mixed ss vs k) ++ rest).toArray.setIfInBounds k (.int .u32 ((ss.getD k 0 + vs.getD k 0).toNat : Int)) = (W32 (mixed ss vs (k + 1)) ++ rest).toArray := by
  match ss, h1, vs, h2 with
  | [s0, s1, s2, s3, s4, s5, s6, s7], _, [a0, a1, a2, a3, a4, a5, a6, a7], _ =>
  match k, hk with
  | 0, _ => simp [mixed, W32]
  | 1, _ => simp [mixed, W32]
  | 2, _ => simp [mixed, W32]
  | 3, _ => simp [mixed, W32]
  | 4, _ => simp [mixed, W32]
  | 5, _ => simp [mixed, W32]
  | 6, _ => simp [mixed, W32]
  | 7, _ => simp [mixed, W32]
theorem elW : El Tryz.prog 124 54 (.int .u32 0) 4 := ⟨by kernel_rfl, by kernel_rfl, rfl⟩
theorem run_index_u32 {P : Program} (t e : TypeId) (n : Nat) (cs : Array Value) (kk : IntKind) (k : Nat) (v : Value) (h : P.underlying t = some (.array n e)) (he : P.underlying e = some (.int .u32)) (hs : (P.info? e).map (·.size) = some 1) (hk : k < n) (hv : cs[k]? = some v) (w : World) :
    (Instr.index t (.agg cs) (.int kk (k : Int))).run P w = .ok v w := by
  have hsz : (sizeOf e).run P w = .ok 1 w := by
    cases hq : P.info? e with
    | none => simp [hq] at hs
    | some i => simp [hq] at hs; simp [sizeOf, typeInfo, hq, hs]
  have hag : (isAgg e).run P w = .ok false w := by
    unfold isAgg
    rw [Sem.run_bind, run_underlying he w]
    rfl
  simp [Instr.index, asIntOf, run_underlying h, hsz, part, hag, hv, hk, go_sem]
end Go.Proofs.YtkiigonikeeikaaGreatDoor

/-! Rotations. -/
namespace Go.Proofs.YtkiigonikeeikaaGreatDoor
open Go.RowKit

set_option maxHeartbeats 400000 in
theorem rotateLeft32_any (x : BitVec 32) (n : Nat) (h0 : 0 < n) (h1 : n < 32) (w : World) :
    Calls Tryz.prog 85 #[.int .u32 (x.toNat : Int), .int .i64 (-(n : Int))] w fun e w' => e = .returned (.int .u32 ((x.rotateRight n).toNat : Int)) ∧ w = w' := by
  obtain ⟨m, hm⟩ : ∃ m, m = 32 - n := ⟨_, rfl⟩
  have hb : bits .and .u64 (IntKind.u64.wrap (-(n : Int))) 31 = (m : Int) := by rw [hm]; exact wrapu64_neg n h0 h1
  have h2 : 0 < m := by omega
  have h3 : m < 32 := by omega
  rw [← rotr_rotl x n h0 h1, ← hm]
  clear hm h0 h1
  go_enter Tryz.func85, Tryz.ntmps85
  go_wp2
  go_ret
  exact ⟨by rw [← rotl_spell x m h2 h3]; rfl, rfl⟩
set_option maxHeartbeats 400000 in
theorem right_any (x : BitVec 32) (n : Nat) (h0 : 0 < n) (h1 : n < 32) (w : World) :
    Calls Tryz.prog 73 #[.int .u32 (x.toNat : Int), .int .i64 n] w fun e w' => e = .returned (.int .u32 ((x.rotateRight n).toNat : Int)) ∧ w = w' := by
  go_enter Tryz.func73, Tryz.ntmps73
  go_wp2_with (go_at_call 85; refine (rotateLeft32_any x n h0 h1 _).mono ?_; rintro e w' ⟨rfl, rfl⟩)
  go_ret
  exact ⟨rfl, rfl⟩
end Go.Proofs.YtkiigonikeeikaaGreatDoor
