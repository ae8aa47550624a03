/- Words for memory: a slice that reads as a list of one-cell elements; a slice that a call may append to. | Small functions of the references and the laws, walked. | Regions that draw their order: one walk along a plan serves every order. The plan takes first what yields its value in every later world (its cells as they are now); what is left comes up alone. -/
import Derived.WalkKit
import Derived.Deep.Draws
import Derived.RangeFuncBox
import Derived.CallsIn
import Derived.Laws.CopyOwn
import Derived.Test.YtcjioogololnoaaGreatDoorRows
import Derived.WalkSpells
import Derived.WalkLawsBesides
import Derived.Lib.Hide
import Derived.BigQuiet
import Derived.Deep.QuietTactic
import Derived.OrdersHeld
import Derived.OrdersIn
import Derived.Below

/-! Words for memory: a slice that reads as a list of one-cell elements; a slice that a call may append to. -/
namespace Go.Proofs.YtcjioogololnoaaGreatDoor
open Go.RowKit

theorem add_lit' (b o k : Nat) : (⟨b, o, none⟩ : Addr).add k = ⟨b, o + k, none⟩ := by unfold Addr.add; split <;> simp_all

/-- The slice with this address reads as xs (elements of one cell), below block B. -/
def Sl (w : World) (B : Nat) (A : Option Addr) (xs : List Value) : Prop :=
  0 < xs.length → ∃ b o, A = some ⟨b, o, none⟩ ∧ b < B ∧ ∀ j (h : j < xs.length), w.cell? ⟨b, o + j, none⟩ = some xs[j]

/-- Bytes as cells. -/
def B8 (bs : List UInt8) : List Value := bs.map fun b => .int .u8 (b.toNat : Int)
@[simp] theorem B8_length (bs : List UInt8) : (B8 bs).length = bs.length := by simp [B8]
theorem B8_get (bs : List UInt8) (j : Nat) (h : j < (B8 bs).length) : (B8 bs)[j] = .int .u8 ((bs[j]'(by simpa using h)).toNat : Int) := by simp [B8]
theorem B8_append (a b : List UInt8) : B8 (a ++ b) = B8 a ++ B8 b := by simp [B8]
theorem B8_one (b : UInt8) : B8 [b] = [.int .u8 (b.toNat : Int)] := rfl
theorem B8_take (a : List UInt8) (n : Nat) : B8 (a.take n) = (B8 a).take n := by simp [B8]
theorem B8_drop (a : List UInt8) (n : Nat) : B8 (a.drop n) = (B8 a).drop n := by simp [B8]
theorem B8_oneCell (a : List UInt8) : ∀ u ∈ B8 a, u.oneCell' = true := by
  intro u hu; simp only [B8, List.mem_map] at hu; obtain ⟨b, _, rfl⟩ := hu; rfl

section
variable {w w' : World} {B B' : Nat} {A : Option Addr} {xs : List Value} {bs : List UInt8}
theorem Sl.nil : Sl w B A [] := fun h => absurd h (by simp)
theorem Sl.keep (h : Sl w B A xs) (hk : ∀ p : Addr, p.block < B → w'.cell? p = w.cell? p) : Sl w' B A xs := fun hn => by
  obtain ⟨b, o, e, hb, hc⟩ := h hn
  exact ⟨b, o, e, hb, fun j hj => (hk ⟨b, o + j, none⟩ hb).trans (hc j hj)⟩
theorem Sl.mono (h : Sl w B A xs) (hB : B ≤ B') : Sl w B' A xs := fun hn => by
  obtain ⟨b, o, e, hb, hc⟩ := h hn
  exact ⟨b, o, e, by omega, hc⟩
theorem Sl.below (h : Sl w B A xs) (hb : Below B w w') : Sl w' B A xs := h.keep fun _ hp => hb.cell hp
theorem Sl.drew (h : Sl w B A xs) : Sl w.drew B A xs := h
theorem Sl.alloc (h : Sl w B A xs) (hB : B ≤ w.heap.size) (o : Obj) : Sl (w.alloc o) B A xs := h.keep fun p hp => World.cell?_alloc_lt w o p (by omega)
theorem Sl.setCell (h : Sl w B A xs) {p : Addr} (hp : B ≤ p.block) (u : Value) : Sl (w.setCell p u) B A xs :=
  h.keep fun q hq => World.cell?_setCell_other w p q u (fun e => by subst e; omega)
theorem Sl.grown (h : Sl w B A xs) {row : Option Nat} (hg : w.grownBy w' row) (hB : B ≤ w.heap.size) (hr : ∀ g, row = some g → B ≤ g) : Sl w' B A xs :=
  h.keep fun p hp => World.cell?_of_block (hg.block p.block (by omega) (fun e => by have := hr _ e.symm; omega))
/-- Inside a round. -/
theorem Sl.at_ (h : Sl w B A (B8 bs)) {k : Nat} (hk : k < bs.length) : ∃ b o, A = some ⟨b, o, none⟩ ∧ b < B ∧ ∀ j (h : j < bs.length), w.cell? ⟨b, o + j, none⟩ = some (.int .u8 (bs[j].toNat : Int)) := by
  obtain ⟨b, o, e, hb, hc⟩ := h (by simp; omega)
  exact ⟨b, o, e, hb, fun j hj => by rw [hc j (by simpa using hj), B8_get]⟩
theorem Sl.cut (h : Sl w B A xs) {k m cap : Nat} (hk : k + m ≤ xs.length) (hc : xs.length ≤ cap) :
    Sl w B (if cap = k then A else A.map (·.add k)) ((xs.drop k).take m) := fun hn => by
  have hm : 0 < m ∧ k < xs.length := by simp at hn; omega
  obtain ⟨b, o, rfl, hb, hcell⟩ := h (by omega)
  rw [if_neg (by omega)]
  refine ⟨b, o + k, by simp [add_lit'], hb, fun j hj => ?_⟩
  have := hcell (k + j) (by simp at hj; omega)
  rw [Nat.add_assoc, this]
  simp
theorem Sl.take (h : Sl w B A xs) (n : Nat) : Sl w B A (xs.take n) := fun hn => by
  obtain ⟨b, o, rfl, hb, hcell⟩ := h (by simp at hn; omega)
  exact ⟨b, o, rfl, hb, fun j hj => by rw [hcell j (by simp at hj; omega)]; simp⟩
end

/-- The slice value v holds xs (elements of one cell, of type E) and may be appended to: it has no room at all, or it is the head of a row of the call's own (from block 'base' on). -/
def Ow (w : World) (base : Nat) (E : TypeId) (v : Value) (xs : List Value) : Prop :=
  ∃ A c, v = .slice A xs.length c ∧ xs.length ≤ c ∧ c ≤ maxLen ∧
    (0 < c → ∃ g cur, A = some ⟨g, 0, none⟩ ∧ base ≤ g ∧ w.heap[g]? = some (.cells cur E (0, 0)) ∧ c ≤ cur.size ∧ cur.toList.take xs.length = xs)

/-- The block that an append to v may write. -/
def rowOf : Value → Option Nat
  | .slice (some a) _ c => if c = 0 then none else some a.block
  | _ => none

section
variable {w w' : World} {base E : Nat} {v : Value} {xs : List Value} {A : Option Addr} {n c : Nat}
theorem Ow.nil_ (w : World) (base : Nat) (E : TypeId) (A : Option Addr) : Ow w base E (.slice A 0 0) [] := ⟨A, 0, rfl, by simp, by simp, fun h => absurd h (by omega)⟩
theorem Ow.len (h : Ow w base E (.slice A n c) xs) : n = xs.length ∧ n ≤ c ∧ c ≤ maxLen := by
  obtain ⟨A', c', e, h1, h2, _⟩ := h
  injection e with e1 e2 e3; subst e1 e2 e3; exact ⟨rfl, h1, h2⟩
theorem Ow.row (h : Ow w base E v xs) : ∀ g, rowOf v = some g → base ≤ g ∧ g < w.heap.size := by
  obtain ⟨A, c, rfl, h1, h2, h3⟩ := h
  intro g hg
  cases A with
  | none => simp [rowOf] at hg
  | some a =>
    by_cases hc : c = 0
    · simp [rowOf, hc] at hg
    · obtain ⟨g', cur, e, hb, hh, _⟩ := h3 (by omega)
      injection e with e; subst e
      simp [rowOf, hc] at hg; subst hg
      exact ⟨hb, (Array.getElem?_eq_some_iff.1 hh).1⟩
theorem Ow.kept {row : Option Nat} (h : Ow w base E v xs) (hg : w.grownBy w' row) (hne : ∀ g, rowOf v = some g → row ≠ some g) : Ow w' base E v xs := by
  obtain ⟨A, c, rfl, h1, h2, h3⟩ := h
  refine ⟨A, c, rfl, h1, h2, fun hc => ?_⟩
  obtain ⟨g', cur, rfl, hb, hh, r⟩ := h3 hc
  refine ⟨g', cur, rfl, hb, ?_, r⟩
  rw [hg.block g' (Array.getElem?_eq_some_iff.1 hh).1 (fun e => hne g' (by simp [rowOf]; omega) e.symm)]
  exact hh
theorem Ow.alloc (h : Ow w base E v xs) (o : Obj) : Ow (w.alloc o) base E v xs := h.kept (World.grownBy_alloc w o none) (by simp)
theorem Ow.drew (h : Ow w base E v xs) : Ow w.drew base E v xs := h
theorem Ow.mono {base' : Nat} (h : Ow w base E v xs) (hb : base' ≤ base) : Ow w base' E v xs := by
  obtain ⟨A, c, rfl, h1, h2, h3⟩ := h
  exact ⟨A, c, rfl, h1, h2, fun hc => let ⟨g, cur, e, hg, r⟩ := h3 hc; ⟨g, cur, e, by omega, r⟩⟩
theorem Ow.setCell (h : Ow w base E v xs) {p : Addr} (hp : ∀ g, rowOf v = some g → p.block ≠ g) (u : Value) : Ow (w.setCell p u) base E v xs := by
  obtain ⟨A, c, rfl, h1, h2, h3⟩ := h
  refine ⟨A, c, rfl, h1, h2, fun hc => ?_⟩
  obtain ⟨g', cur, rfl, hb, hh, r⟩ := h3 hc
  refine ⟨g', cur, rfl, hb, ?_, r⟩
  rw [Below.heap_setCell w p u g' (fun e => hp g' (by simp [rowOf]; omega) e.symm)]
  exact hh
theorem Ow.below {B : Nat} (h : Ow w base E v xs) (hb : Below B w w') (hB : w.heap.size ≤ B) : Ow w' base E v xs := by
  obtain ⟨A, c, rfl, h1, h2, h3⟩ := h
  refine ⟨A, c, rfl, h1, h2, fun hc => ?_⟩
  obtain ⟨g', cur, rfl, hbg, hh, r⟩ := h3 hc
  refine ⟨g', cur, rfl, hbg, ?_, r⟩
  rw [hb.block g' (by have := (Array.getElem?_eq_some_iff.1 hh).1; omega)]
  exact hh
theorem Ow.sl (h : Ow w base E (.slice A n c) xs) : Sl w w.heap.size A xs := fun hn => by
  obtain ⟨A', c', e, h1, h2, h3⟩ := h
  injection e with e1 e2 e3; subst e1 e2 e3
  obtain ⟨g, cur, rfl, hb, hh, hs, ht⟩ := h3 (by omega)
  refine ⟨g, 0, rfl, (Array.getElem?_eq_some_iff.1 hh).1, fun j hj => ?_⟩
  rw [Nat.zero_add, cell_of_row w g j cur E (0, 0) hh]
  have hjc : j < cur.size := by omega
  rw [Array.getElem?_eq_getElem hjc]
  congr 1
  have : xs[j]? = (cur.toList.take xs.length)[j]? := by rw [ht]
  rw [List.getElem?_take, if_pos hj, List.getElem?_eq_getElem hj] at this
  rw [show cur.toList[j]? = cur[j]? by simp, Array.getElem?_eq_getElem hjc] at this
  injection this with this; exact this.symm
theorem Ow.of_row {cap : Nat} (cur : Array Value) (E base : Nat) (hb : base ≤ w.heap.size) (hs : cur.size = cap) (hm : cap ≤ maxLen) (n : Nat) (hn : n ≤ cap) :
    Ow (w.alloc (.cells cur E)) base E (.slice (some ⟨w.heap.size, 0, none⟩) n cap) (cur.toList.take n) := by
  have hl : (cur.toList.take n).length = n := by simp; omega
  refine ⟨_, cap, by rw [hl], by omega, hm, fun _ => ⟨_, cur, rfl, hb, heap_alloc_new w _, by omega, by rw [hl]⟩⟩
end

section
variable {P : Program} (w : World)
theorem run_append_Own (base : Nat) (t ty E : TypeId) (i : TypeInfo) (z : Value) (bytes : Nat) (ht : P.underlying t = some (.slice E)) (hi : P.info? E = some i) (hz : i.zero = some z)
    (hsize : i.size = 1) (hby : i.bytes = bytes) (hzs : z.cells.size = 1)
    (v : Value) (xs : List Value) (hown : Ow w base E v xs)
    (B : Nat) (A : Option Addr) (m c : Nat) (news : List Value) (hr : Sl w B A news) (hm : news.length = m) (h1 : ∀ u ∈ news, u.oneCell' = true)
    (h63 : xs.length + m ≤ maxLen) (hbytes : (xs.length + m) * bytes ≤ 140737488355328) (hbase : base ≤ w.heap.size) :
    ∃ v' w', (Builtin.append_ #[t, t] ty #[v, .slice A m c]).run P w = .ok v' w' ∧ Ow w' base E v' (xs ++ news) ∧ w.grownBy w' (rowOf v) ∧
      (rowOf v' = rowOf v ∨ rowOf v' = some w.heap.size) := by
  subst hm hby
  have hsmall : xs.length + news.length ≤ 9223372036854775807 := by simp only [maxLen] at h63; omega
  obtain ⟨Av, cap, rfl, hxc, hcm, hrow⟩ := hown
  by_cases hn0 : news = []
  · subst hn0
    refine ⟨.slice Av xs.length cap, w, ?_, by simpa using ⟨Av, cap, rfl, hxc, hcm, hrow⟩, World.grownBy.refl w _, .inl rfl⟩
    cases A <;> cases Av <;> simp [Builtin.append_, run_underlying ht, sizeOf, typeInfo, hi, Builtin.lenOf, Builtin.firstCells, loadCells, loadCellsFrom, hxc, storeCells]
  have hnl : 0 < news.length := List.length_pos_iff.2 hn0
  obtain ⟨b, o, rfl, _, hcell⟩ := hr hnl
  have hnews : ∀ j u, news[j]? = some u → w.cell? ((⟨b, o, none⟩ : Addr).add j) = some u := by
    intro j u hu
    obtain ⟨hj, e⟩ := List.getElem?_eq_some_iff.1 hu
    rw [add_lit', hcell j hj, e]
  have grown : ∀ (old : Nat), old < xs.length + news.length → 
      Ow (w.drew.alloc (.cells (xs.toArray ++ news.toArray ++ Builtin.zeroCells z.cells (grownCap w (xs.length + news.length) old E - (xs.length + news.length))) E)) base E
        (.slice (some ⟨w.heap.size, 0, none⟩) (xs.length + news.length) (grownCap w (xs.length + news.length) old E)) (xs ++ news) ∧
      (∀ row, w.grownBy (w.drew.alloc (.cells (xs.toArray ++ news.toArray ++ Builtin.zeroCells z.cells (grownCap w (xs.length + news.length) old E - (xs.length + news.length))) E)) row) ∧
      rowOf (.slice (some ⟨w.heap.size, 0, none⟩) (xs.length + news.length) (grownCap w (xs.length + news.length) old E)) = some w.heap.size := by
    intro old ho
    have hge := grownCap_ge w (xs.length + news.length) old E
    have hcm := grownCap_le_maxLen w (xs.length + news.length) old E h63
    refine ⟨?_, fun row => ⟨rfl, rfl, rfl, by simp, fun k hk _ => Below.heap_alloc w.drew _ k hk⟩, by simp only [rowOf]; rw [if_neg (by omega)]⟩
    have := Ow.of_row (w := w.drew) (cap := grownCap w (xs.length + news.length) old E)
      (xs.toArray ++ news.toArray ++ Builtin.zeroCells z.cells (grownCap w (xs.length + news.length) old E - (xs.length + news.length))) E base hbase
      (by simp [size_zeroCells, hzs]; omega) hcm (xs.length + news.length) hge
    have e : (xs.toArray ++ news.toArray ++ Builtin.zeroCells z.cells (grownCap w (xs.length + news.length) old E - (xs.length + news.length))).toList.take (xs.length + news.length) = xs ++ news := by
      simp [List.take_append, List.take_of_length_le]
    rw [e] at this
    exact this
  by_cases hc0 : cap = 0
  · subst hc0
    have hx : xs = [] := List.eq_nil_of_length_eq_zero (by omega)
    subst hx
    have hfit : Builtin.nextslicecap news.length 0 * i.bytes ≤ 281474976710656 := by rw [nextslicecap_zero hnl]; simp at hbytes; omega
    have hgr := grown 0 (by simpa using hnl)
    cases Av with
    | none =>
      have hr := run_append_nil (P := P) w t ty E i z ht hi hz ⟨b, o, none⟩ news.length c news (by simp [hsize]) hnews hnl (by simp at hsmall; omega) (by simp at hbytes; omega)
      simp only [List.length_nil, Nat.zero_add, List.nil_append, Array.empty_append] at hgr ⊢
      exact ⟨_, _, hr, hgr.1, hgr.2.1 _, .inr hgr.2.2⟩
    | some a =>
      have hr := run_append_grow (P := P) w t ty E i z ht hi hz a 0 0 [] (by simp) (by simp) ⟨b, o, none⟩ news.length c news (by simp [hsize]) hnews (by omega) (by simp at hsmall ⊢; omega) (by simpa using hfit)
      simp only [List.length_nil, Nat.zero_add, List.nil_append, Array.empty_append] at hgr hr ⊢
      exact ⟨_, _, hr, hgr.1, hgr.2.1 _, .inr hgr.2.2⟩
  · obtain ⟨g, cur, rfl, hbg, hg, hcs, htake⟩ := hrow (by omega)
    have hrw : rowOf (.slice (some ⟨g, 0, none⟩) xs.length cap) = some g := by simp [rowOf, hc0]
    by_cases hroom : xs.length + news.length ≤ cap
    · have hr := run_append_room (P := P) w t ty E i ht hi g xs.length cap cur hg ⟨b, o, none⟩ news.length c news (by simp [hsize]) hnews h1 hroom (by rw [hsize]; omega)
      refine ⟨_, _, hr, ⟨_, cap, by simp, by simp; omega, hcm, fun _ => ⟨g, _, rfl, hbg, setRow_heap w g cur _ E _ hg, ?_, ?_⟩⟩, ⟨rfl, rfl, rfl, by simp, fun k hk hk2 => setRow_other w g k _ (fun e => hk2 (by rw [hrw, e]))⟩, .inl (by simp [rowOf, hc0])⟩
      · simp [hsize]; omega
      · simp only [hsize, Nat.mul_one, htake]
        simp [List.take_append, List.take_of_length_le]
    · have holds : ∀ j u, xs[j]? = some u → w.cell? ((⟨g, 0, none⟩ : Addr).add j) = some u := by
        intro j u hu
        obtain ⟨hj, e⟩ := List.getElem?_eq_some_iff.1 hu
        have hjc : j < cur.size := by omega
        rw [add_lit', Nat.zero_add, cell_of_row w g j cur E (0, 0) hg]
        rw [← htake, List.getElem?_take, if_pos hj] at hu
        simpa using hu
      have hr := run_append_grow (P := P) w t ty E i z ht hi hz ⟨g, 0, none⟩ xs.length cap xs (by simp [hsize]) holds ⟨b, o, none⟩ news.length c news (by simp [hsize]) hnews (by omega) (by omega) (growslice_fits (by omega) hbytes)
      have hgr := grown cap (by omega)
      exact ⟨_, _, hr, hgr.1, hgr.2.1 _, .inr hgr.2.2⟩
end

section
variable {P : Program} (w : World)
/-- 'string(b)'. -/
theorem run_str_Sl (src dst E : TypeId) (hs : P.underlying src = some (.slice E)) (he : P.underlying E = some (.int .u8)) (hd : P.underlying dst = some .string)
    (B : Nat) (A : Option Addr) (c : Nat) (bs : List UInt8) (h : Sl w B A (B8 bs)) :
    (convert src dst (.slice A bs.length c)).run P w = .ok (.string ⟨bs.toArray⟩) w := by
  by_cases hb : bs = []
  · subst hb
    cases A with
    | none => exact run_convert_bytes_nil w src E hs he _ c dst hd
    | some a => exact run_convert_bytes_back w src dst E a c [] hs he hd (fun j hj => absurd hj (by simp))
  · obtain ⟨b, o, rfl, _, hc⟩ := h.at_ (k := 0) (List.length_pos_iff.2 hb)
    exact run_convert_bytes_back w src dst E _ c bs hs he hd (fun j hj => by rw [add_lit']; exact hc j hj)
end

section
variable {P : Program}
/-- 'make([]T, n, c)', elements of one cell. -/
theorem run_makeN (t e : TypeId) (i : TypeInfo) (z : Value) (bytes : Nat) (ht : P.underlying t = some (.slice e)) (hi : P.info? e = some i) (hz : i.zero = some z) (hsize : i.size = 1) (hby : i.bytes = bytes) (hzs : z.cells = #[z])
    (kl kc : IntKind) (l c : Int) (n cap : Nat) (hl : l = n) (hc : c = cap) (hnc : n ≤ cap) (hb : bytes * cap ≤ 281474976710656) (hm : cap ≤ maxLen) (W : World) :
    (Instr.makeSlice t (.int kl l) (.int kc c)).run P W = .ok (.slice (some ⟨W.heap.size, 0, none⟩) n cap) (W.alloc (.cells (Array.replicate cap z) e)) := by
  subst hl hc hby
  have hm' : cap ≤ 9223372036854775807 := by simp only [maxLen] at hm; omega
  have hb' : (i.bytes : Int) * (cap : Int) ≤ 281474976710656 := by
    have h : ((i.bytes * cap : Nat) : Int) ≤ 281474976710656 := by omega
    rwa [Int.natCast_mul] at h
  have hr := run_make (P := P) W t e i z ht hi hz kl kc n cap (by omega) (by omega) hb' (by omega)
  simp only [Int.toNat_natCast] at hr
  rw [hr, hsize, hzs]
  have : madeCells #[z] (cap * 1) = Array.replicate cap z := by
    apply Array.ext'
    rw [Nat.mul_one, toList_madeCells_one]; simp
  rw [this]
end

/-- Row g has n cells of type E; its first k are those of xs. -/
def Fill (w : World) (g : Nat) (E : TypeId) (n : Nat) (xs : List Value) (k : Nat) : Prop :=
  ∃ cur, w.heap[g]? = some (.cells cur E (0, 0)) ∧ cur.size = n ∧ ∀ j, j < k → cur[j]? = xs[j]?
section
variable {w w' : World} {g E n k j : Nat} {xs : List Value} {v : Value}
theorem Fill.new (w : World) (E : TypeId) (cur : Array Value) (xs : List Value) : Fill (w.alloc (.cells cur E)) w.heap.size E cur.size xs 0 := ⟨cur, heap_alloc_new w _, rfl, by omega⟩
theorem Fill.new' (w : World) (E : TypeId) (n : Nat) (z : Value) (xs : List Value) : Fill (w.alloc (.cells (Array.replicate n z) E)) w.heap.size E n xs 0 := ⟨_, heap_alloc_new w _, by simp, by omega⟩
theorem Fill.cell (h : Fill w g E n xs k) (hj : j < n) : ∃ v, w.cell? ⟨g, j, none⟩ = some v := by
  obtain ⟨cur, hh, hs, hc⟩ := h
  exact ⟨_, by rw [cell_of_row w g j cur _ _ hh, Array.getElem?_eq_getElem (show j < cur.size by omega)]⟩
theorem Fill.known (h : Fill w g E n xs k) (hj : j < k) (hx : xs[j]? = some v) : w.cell? ⟨g, j, none⟩ = some v := by
  obtain ⟨cur, hh, hs, hc⟩ := h
  rw [cell_of_row w g j cur _ _ hh, hc j hj, hx]
theorem Fill.frozen (h : Fill w g E n xs k) (j : Nat) : w.frozen? ⟨g, j, none⟩ = false := by
  obtain ⟨cur, hh, hs, hc⟩ := h
  exact frozen_of_row w g j cur _ hh
theorem Fill.set (h : Fill w g E n xs k) (hk : k < n) (hx : xs[k]? = some v) : Fill (w.setCell ⟨g, k, none⟩ v) g E n xs (k + 1) := by
  obtain ⟨cur, hh, hs, hc⟩ := h
  refine ⟨_, heap_setCell_same w g k cur _ v hh, by simpa using hs, fun j hj => ?_⟩
  rw [Array.getElem?_setIfInBounds]
  by_cases e : k = j
  · subst e; rw [if_pos rfl, if_pos (by omega), hx]
  · rw [if_neg e, hc j (by omega)]
theorem Fill.put (h : Fill w g E n xs k) (hk : k ≤ j) (u : Value) : Fill (w.setCell ⟨g, j, none⟩ u) g E n xs k := by
  obtain ⟨cur, hh, hs, hc⟩ := h
  refine ⟨_, heap_setCell_same w g j cur _ u hh, by simpa using hs, fun i hi => ?_⟩
  rw [Array.getElem?_setIfInBounds, if_neg (by omega), hc i (by omega)]
theorem Fill.far (h : Fill w g E n xs k) {p : Addr} (hp : g ≠ p.block) (u : Value) : Fill (w.setCell p u) g E n xs k := by
  obtain ⟨cur, hh, hs, hc⟩ := h
  exact ⟨cur, (Below.heap_setCell w p u g hp).trans hh, hs, hc⟩
theorem Fill.lt (h : Fill w g E n xs k) : g < w.heap.size := by
  obtain ⟨cur, hh, hs, hc⟩ := h
  exact (Array.getElem?_eq_some_iff.1 hh).1
theorem Fill.alloc (h : Fill w g E n xs k) (o : Obj) : Fill (w.alloc o) g E n xs k := by
  have hl := h.lt
  obtain ⟨cur, hh, hs, hc⟩ := h
  exact ⟨cur, (Below.heap_alloc w o g hl).trans hh, hs, hc⟩
theorem Fill.drew (h : Fill w g E n xs k) : Fill w.drew g E n xs k := h
theorem Fill.drewN (h : Fill w g E n xs k) (m : Nat) : Fill (w.drewN m) g E n xs k := h
theorem Fill.below {B : Nat} (h : Fill w g E n xs k) (hb : Below B w w') (hg : g < B) : Fill w' g E n xs k := by
  obtain ⟨cur, hh, hs, hc⟩ := h
  exact ⟨cur, (hb.block g hg).trans hh, hs, hc⟩
theorem Fill.done (h : Fill w g E n xs n) (hx : xs.length = n) : w.heap[g]? = some (.cells xs.toArray E (0, 0)) := by
  obtain ⟨cur, hh, hs, hc⟩ := h
  rw [hh]
  have : cur = xs.toArray := by
    apply Array.ext_getElem?
    intro i
    by_cases hi : i < n
    · rw [hc i hi]; simp
    · rw [Array.getElem?_eq_none (by omega)]; simp; omega
  rw [this]
end
theorem below_drewN' {B : Nat} {a w : World} (h : Below B a w) (n : Nat) : Below B a (w.drewN n) := ⟨h.os, h.tape, h.output, h.size, h.block⟩

section
variable {w w' : World} {base E n c : Nat} {v : Value} {A : Option Addr} {xs : List Value}
/-- An element of what is owned: its cell, and what a store does. -/
theorem Ow.at_ (h : Ow w base E (.slice A n c) xs) {j : Nat} (hj : j < xs.length) : ∃ g, A = some ⟨g, 0, none⟩ ∧ base ≤ g ∧ rowOf (.slice A n c) = some g ∧ w.cell? ⟨g, j, none⟩ = some xs[j] ∧ w.frozen? ⟨g, j, none⟩ = false := by
  have hsl := h.sl
  obtain ⟨A', c', e, h1, h2, h3⟩ := h
  injection e with e1 e2 e3; subst e1 e2 e3
  obtain ⟨g, cur, rfl, hb, hh, hs, ht⟩ := h3 (by omega)
  obtain ⟨b, o, e, _, hc⟩ := hsl (by omega)
  simp at e; obtain ⟨rfl, rfl⟩ := e
  exact ⟨g, rfl, hb, by simp [rowOf]; omega, by have := hc j hj; rwa [Nat.zero_add] at this, frozen_of_row w g j cur _ hh⟩
theorem Ow.store {g : Nat} (h : Ow w base E (.slice (some ⟨g, 0, none⟩) n c) xs) (j : Nat) (hc : 0 < c) (u : Value) : Ow (w.setCell ⟨g, j, none⟩ u) base E (.slice (some ⟨g, 0, none⟩) n c) (xs.set j u) := by
  obtain ⟨A', c', e, h1, h2, h3⟩ := h
  injection e with e1 e2 e3; subst e1 e2 e3
  obtain ⟨g', cur, e, hb, hh, hs, ht⟩ := h3 hc
  simp at e; subst e
  refine ⟨_, c, by rw [List.length_set], by simpa using h1, h2, fun _ => ⟨g, _, rfl, hb, heap_setCell_same w g j cur _ u hh, by simpa using hs, ?_⟩⟩
  rw [List.length_set, Array.toList_setIfInBounds, List.take_set, ht]
theorem Ow.keepsOthers {row : Option Nat} (h : Ow w base E v xs) (hg : w.grownBy w' row) (hr : row = rowOf v) : KeepsOthers w w' :=
  KeepsOthers.of_grownBy hg fun j o e ho => by
    obtain ⟨A, c, rfl, h1, h2, h3⟩ := h
    cases A with
    | none => rw [hr] at e; simp [rowOf] at e
    | some a =>
      by_cases hc : c = 0
      · rw [hr] at e; simp [rowOf, hc] at e
      · obtain ⟨g, cur, ea, _, hh, _⟩ := h3 (by omega)
        injection ea with ea; subst ea
        rw [hr] at e; simp [rowOf, hc] at e; subst e
        rw [hh] at ho; injection ho with ho; subst ho; rfl
theorem Ow.others {row : Option Nat} (h : Ow w base E v xs) (hg : w.grownBy w' row) (hr : ∀ r, row = some r → ∃ o : Obj, w.heap[r]? = some o ∧ o.isCells = false) : Ow w' base E v xs :=
  h.kept hg fun g hgr e => by
    obtain ⟨o, ho, hc⟩ := hr g e
    obtain ⟨A, c, rfl, h1, h2, h3⟩ := h
    cases A with
    | none => simp [rowOf] at hgr
    | some a =>
      by_cases hc0 : c = 0
      · simp [rowOf, hc0] at hgr
      · obtain ⟨g', cur, ea, _, hh, _⟩ := h3 (by omega)
        injection ea with ea; subst ea
        simp [rowOf, hc0] at hgr; subst hgr
        rw [hh] at ho; injection ho with ho; subst ho; cases hc
/-- A block of one known cell abides what turns no cells. -/
theorem boxed_others {b t : Nat} {row : Option Nat} (h : Boxed w b t v) (hg : w.grownBy w' row) (hr : ∀ r, row = some r → ∃ o : Obj, w.heap[r]? = some o ∧ o.isCells = false) : Boxed w' b t v :=
  h.kept hg fun e => by
    obtain ⟨o, ho, hc⟩ := hr b e.symm
    rw [show w.heap[b]? = _ from h] at ho; injection ho with ho; subst ho; cases hc
theorem boxed_drew {b t : Nat} (h : Boxed w b t v) : Boxed w.drew b t v := h
theorem boxed_far {b t : Nat} (h : Boxed w b t v) {p : Addr} (hp : b ≠ p.block) (u : Value) : Boxed (w.setCell p u) b t v := (Below.heap_setCell w p u b hp).trans h
theorem Ow.row_ne_box {b t : Nat} {u : Value} (h : Ow w base E v xs) (hb : Boxed w b t u) (hte : t ≠ E) : ∀ g, rowOf v = some g → g ≠ b := by
  obtain ⟨A, c, rfl, h1, h2, h3⟩ := h
  intro g hg e
  subst e
  cases A with
  | none => simp [rowOf] at hg
  | some a =>
    by_cases hc0 : c = 0
    · simp [rowOf, hc0] at hg
    · obtain ⟨g', cur, ea, _, hh, _⟩ := h3 (by omega)
      injection ea with ea; subst ea
      simp [rowOf, hc0] at hg; subst hg
      rw [show w.heap[g']? = _ from hb] at hh; injection hh with hh; injection hh with _ ht; exact hte ht
end

/-- A slice type and its element type, one cell each. -/
structure El (P : Program) (t E : TypeId) (z : Value) (bytes : Nat) : Prop where
  und : P.underlying t = some (.slice E)
  info : (P.info? E).map (fun i => (i.zero, i.size, i.bytes)) = some (some z, 1, bytes)
  zc : z.cells = #[z]
section
variable {P : Program} {w : World} {base t E : Nat} {z : Value} {bytes : Nat} {v : Value} {xs : List Value} {B : Nat} {A : Option Addr} {m c : Nat} {news : List Value}
theorem El.append (hE : El P t E z bytes) (ty : TypeId) (hown : Ow w base E v xs) (hr : Sl w B A news) (hm : news.length = m) (h1 : ∀ u ∈ news, u.oneCell' = true)
    (h63 : xs.length + m ≤ maxLen) (hbytes : (xs.length + m) * bytes ≤ 140737488355328) (hbase : base ≤ w.heap.size) :
    ∃ v' w', (Builtin.append_ #[t, t] ty #[v, .slice A m c]).run P w = .ok v' w' ∧ Ow w' base E v' (xs ++ news) ∧ w.grownBy w' (rowOf v) ∧ (rowOf v' = rowOf v ∨ rowOf v' = some w.heap.size) := by
  obtain ⟨i0, hi, hz0, hz1, hz2⟩ := info_parts hE.info
  exact run_append_Own w base t ty E i0 z bytes hE.und hi hz0 hz1 hz2 (by rw [hE.zc]; rfl) v xs hown B A m c news hr hm h1 h63 hbytes hbase
/-- append at a plain operation. -/
theorem wp_append_Ow {o : Oper} {a : Act} {K : Act → World → Prop} {Q : Exit → Act → World → Prop} (hE : El P t E z bytes) (s x : Operand)
    (ho : o.op = .call { callee := .builtin .append, args := #[s, x], argTypes := #[t, t] }) (hs : a.eval s = v) (hown : Ow w base E v xs) (hx : a.eval x = .slice A m c) (hr : Sl w B A news) (hm : news.length = m) (h1 : ∀ u ∈ news, u.oneCell' = true)
    (h63 : xs.length + m ≤ maxLen) (hbytes : (xs.length + m) * bytes ≤ 140737488355328) (hbase : base ≤ w.heap.size)
    (h : ∀ v' w', Ow w' base E v' (xs ++ news) → w.grownBy w' (rowOf v) → (rowOf v' = rowOf v ∨ rowOf v' = some w.heap.size) → K (a.put o.dst v') w') : o.wp P a w K Q := by
  obtain ⟨v', w', hrun, h2, h3, h4⟩ := hE.append (c := c) o.type hown hr hm h1 h63 hbytes hbase
  unfold Oper.wp execOp
  simp only [ho, resolve, invoke, builtin, Sem.run_bind, Sem.run_pure, Result.andThen_ok, List.map_toArray, List.map_cons, List.map_nil, hs, hx, hrun]
  exact h v' w' h2 h3 h4
theorem wpIn_append_Ow {F : Fence} {n : Nat} (hF : ∀ k, F.fn k) {o : Oper} {a : Act} {K : Act → World → Prop} {Q : Exit → Act → World → Prop} (hE : El P t E z bytes) (s x : Operand)
    (ho : o.op = .call { callee := .builtin .append, args := #[s, x], argTypes := #[t, t] }) (hs : a.eval s = v) (hown : Ow w base E v xs) (hx : a.eval x = .slice A m c) (hr : Sl w B A news) (hm : news.length = m) (h1 : ∀ u ∈ news, u.oneCell' = true)
    (h63 : xs.length + m ≤ maxLen) (hbytes : (xs.length + m) * bytes ≤ 140737488355328) (hbase : base ≤ w.heap.size)
    (h : ∀ v' w', Ow w' base E v' (xs ++ news) → w.grownBy w' (rowOf v) → (rowOf v' = rowOf v ∨ rowOf v' = some w.heap.size) → K (a.put o.dst v') w') : o.wpIn F n P a w K Q := by
  obtain ⟨v', w', hrun, h2, h3, h4⟩ := hE.append (c := c) o.type hown hr hm h1 h63 hbytes hbase
  refine ⟨fun f _ => hF f, ?_⟩
  rw [Oper.semAt_eq _ _ _ (by simp [ho])]
  unfold execOp
  simp only [ho, resolve, invoke, builtin, Sem.run_bind, Sem.run_pure, Result.andThen_ok, List.map_toArray, List.map_cons, List.map_nil, hs, hx, hrun]
  exact h v' w' h2 h3 h4
theorem wpList_append_Ow {ops : Array Oper} {rest : List Oper} {o : Oper} {a : Act} {Q : Exit → Act → World → Prop} (hE : El P t E z bytes) (hgd : o.guard = none) (s x : Operand)
    (ho : o.op = .call { callee := .builtin .append, args := #[s, x], argTypes := #[t, t] }) (hs : a.eval s = v) (hown : Ow w base E v xs) (hx : a.eval x = .slice A m c) (hr : Sl w B A news) (hm : news.length = m) (h1 : ∀ u ∈ news, u.oneCell' = true)
    (h63 : xs.length + m ≤ maxLen) (hbytes : (xs.length + m) * bytes ≤ 140737488355328) (hbase : base ≤ w.heap.size)
    (h : ∀ v' w', Ow w' base E v' (xs ++ news) → w.grownBy w' (rowOf v) → (rowOf v' = rowOf v ∨ rowOf v' = some w.heap.size) → wpList P ops Q rest (a.put o.dst v') w') : wpList P ops Q (o :: rest) a w :=
  wpList_plain hgd fun _ hK => wp_append_Ow hE s x ho hs hown hx hr hm h1 h63 hbytes hbase fun v' w' h2 h3 h4 => hK _ _ (h v' w' h2 h3 h4)
/-- The one cell that 'append(s, x)' lays first. -/
theorem Sl.one (w : World) (u : Value) (E : TypeId) : Sl (w.alloc (.cells #[u] E)) (w.heap.size + 1) (some ⟨w.heap.size, 0, none⟩) [u] := fun _ =>
  ⟨w.heap.size, 0, rfl, by omega, fun j hj => by
    have : j = 0 := by simp at hj; omega
    subst this
    simp⟩
end

section
variable {P : Program} {w : World} {dT sT E : Nat} {z : Value} {bytes g off dLen dCap sLen sCap B : Nat} {A : Option Addr} {cur : Array Value} {t : TypeId} {cs : List Value}
theorem run_copy_Sl (hE : El P dT E z bytes) (ty : TypeId) (hg : w.heap[g]? = some (.cells cur t (0, 0))) (hn : cs.length = Nat.min sLen dLen) (hsrc : Sl w B A cs) (hfit : off + cs.length ≤ cur.size) (h1 : ∀ v ∈ cs, v.oneCell' = true) :
    (Builtin.copy_ #[dT, sT] ty #[.slice (some ⟨g, off, none⟩) dLen dCap, .slice A sLen sCap]).run P w = .ok (.int .i64 (cs.length : Int)) (w.setRow g (cur.toList.take off ++ cs ++ cur.toList.drop (off + cs.length)).toArray) := by
  obtain ⟨i0, hi, hz0, hz1, hz2⟩ := info_parts hE.info
  have hsz : (P.info? E).map (·.size) = some 1 := by rw [hi]; simp [hz1]
  by_cases h0 : cs.length = 0
  · obtain rfl : cs = [] := List.eq_nil_of_length_eq_zero h0
    rw [run_copy_none (P := P) w dT sT ty E (some ⟨g, off, none⟩) A dLen dCap sLen sCap hE.und hsz (by simpa using hn.symm)]
    simp only [List.append_nil, List.length_nil, Nat.add_zero, List.take_append_drop]
    rw [show cur.toList.toArray = cur from rfl, setRow_self w g cur t _ hg]
    rfl
  · obtain ⟨b, o, rfl, _, hc⟩ := hsrc (by omega)
    have hrun := run_copy_row (P := P) w dT sT ty E g off dLen dCap ⟨b, o, none⟩ sLen sCap cur t cs hE.und hsz hg hn (fun j v hj => by
      obtain ⟨hj', e⟩ := List.getElem?_eq_some_iff.1 hj
      rw [add_lit', hc j hj', e]) hfit h1
    rw [hrun]
    rfl
theorem wp_copy_Sl {o : Oper} {a : Act} {K : Act → World → Prop} {Q : Exit → Act → World → Prop} (hE : El P dT E z bytes) (d s : Operand)
    (ho : o.op = .call { callee := .builtin .copy, args := #[d, s], argTypes := #[dT, sT] }) (hd : a.eval d = .slice (some ⟨g, off, none⟩) dLen dCap) (hs : a.eval s = .slice A sLen sCap)
    (hg : w.heap[g]? = some (.cells cur t (0, 0))) (hn : cs.length = Nat.min sLen dLen) (hsrc : Sl w B A cs) (hfit : off + cs.length ≤ cur.size) (h1 : ∀ v ∈ cs, v.oneCell' = true)
    (h : K (a.put o.dst (.int .i64 (cs.length : Int))) (w.setRow g (cur.toList.take off ++ cs ++ cur.toList.drop (off + cs.length)).toArray)) : o.wp P a w K Q := by
  have hrun := run_copy_Sl (sT := sT) (dCap := dCap) (sCap := sCap) hE o.type hg hn hsrc hfit h1
  unfold Oper.wp execOp
  simp only [ho, resolve, invoke, builtin, Sem.run_bind, Sem.run_pure, Result.andThen_ok, List.map_toArray, List.map_cons, List.map_nil, hd, hs, hrun]
  exact h
theorem wpList_copy_Sl {ops : Array Oper} {rest : List Oper} {o : Oper} {a : Act} {Q : Exit → Act → World → Prop} (hE : El P dT E z bytes) (hgd : o.guard = none) (d s : Operand)
    (ho : o.op = .call { callee := .builtin .copy, args := #[d, s], argTypes := #[dT, sT] }) (hd : a.eval d = .slice (some ⟨g, off, none⟩) dLen dCap) (hs : a.eval s = .slice A sLen sCap)
    (hg : w.heap[g]? = some (.cells cur t (0, 0))) (hn : cs.length = Nat.min sLen dLen) (hsrc : Sl w B A cs) (hfit : off + cs.length ≤ cur.size) (h1 : ∀ v ∈ cs, v.oneCell' = true)
    (h : ∀ w', w' = w.setRow g (cur.toList.take off ++ cs ++ cur.toList.drop (off + cs.length)).toArray → wpList P ops Q rest (a.put o.dst (.int .i64 (cs.length : Int))) w') : wpList P ops Q (o :: rest) a w :=
  wpList_plain hgd fun _ hK => wp_copy_Sl hE d s ho hd hs hg hn hsrc hfit h1 (hK _ _ (h _ rfl))
end
theorem Fill.splice {w : World} {g E n k m : Nat} {xs : List Value} {cur : Array Value} (hg : w.heap[g]? = some (.cells cur E (0, 0))) (hs : cur.size = n) (hc : ∀ j, j < k → cur[j]? = xs[j]?) (hm : k + m ≤ n) (hx : k + m ≤ xs.length) {cs : List Value} (e : cs = (xs.drop k).take m) :
    Fill (w.setRow g (cur.toList.take k ++ cs ++ cur.toList.drop (k + cs.length)).toArray) g E n xs (k + m) := by
  have hl : cs.length = m := by rw [e]; simp; omega
  refine ⟨_, setRow_heap w g cur _ E _ hg, by simp; omega, fun j hj => ?_⟩
  simp only [List.getElem?_toArray]
  by_cases h1 : j < k
  · rw [List.append_assoc, List.getElem?_append_left (by simp; omega), List.getElem?_take, if_pos h1, Array.getElem?_toList]; exact hc j h1
  · rw [List.append_assoc, List.getElem?_append_right (by simp; omega), List.getElem?_append_left (by simp; omega), e, List.getElem?_take, List.getElem?_drop]
    simp only [List.length_take, Array.length_toList]
    rw [if_pos (by omega)]; congr 1; omega
theorem below_setRow' {B : Nat} {w0 w : World} {g : Nat} (hb : Below B w0 w) (hBg : B ≤ g) (cs : Array Value) : Below B w0 (w.setRow g cs) := below_setRow hb hBg cs
end Go.Proofs.YtcjioogololnoaaGreatDoor

/-! Small functions of the references and the laws, walked. -/
namespace Go.Proofs.YtcjioogololnoaaGreatDoor
open Go.RowKit

def placeZ (l : List UInt8) (c : UInt8) : Int := if c ∈ l then (l.idxOf c : Int) else -1

theorem placeZ_found (l : List UInt8) (c : UInt8) (k : Nat) (h : k < l.length) (hn : c ∉ l.take k) (he : l[k] = c) : placeZ l c = (k : Int) := by
  have hm : c ∈ l := he ▸ List.getElem_mem h
  unfold placeZ
  rw [if_pos hm]
  have : l = l.take k ++ c :: l.drop (k + 1) := by rw [← he, List.getElem_cons_drop, List.take_append_drop]
  rw [this, List.idxOf_append, if_neg hn]
  simp; omega
theorem placeZ_none (l : List UInt8) (c : UInt8) (hn : c ∉ l) : placeZ l c = -1 := by unfold placeZ; rw [if_neg hn]
theorem not_mem_take_succ (l : List UInt8) (c : UInt8) (k : Nat) (h : k < l.length) (hn : c ∉ l.take k) (he : l[k] ≠ c) : c ∉ l.take (k + 1) := by
  rw [List.take_succ_eq_append_getElem h]; simp only [List.mem_append, List.mem_singleton, not_or]; exact ⟨hn, fun e => he e.symm⟩

set_option maxHeartbeats 400000 in
theorem place_any (s : ByteArray) (c : Nat) (hc : c < 256) (w : World) (hs : s.size ≤ maxLen) :
    Calls Tryz.prog 42 #[.string s, .int .u8 c] w fun e w' => e = .returned (.int .i64 (placeZ s.data.toList (UInt8.ofNat c))) ∧ w = w' := by
  unfold maxLen at hs
  go_enter Tryz.func42, Tryz.ntmps42
  go_wp2
  go_loop [5] (fun i => ∃ k : Nat, k ≤ s.size ∧ i = .int .i64 k ∧ UInt8.ofNat c ∉ s.data.toList.take k) (fun i => s.size - (intOf i).toNat)
  case atStart => exact ⟨0, Nat.zero_le _, rfl, by simp⟩
  case round =>
    obtain ⟨k, hk, rfl, hn⟩ := hrel
    by_cases hlt : k < s.size
    · have hl : k < s.data.toList.length := by simpa using hlt
      go_wp2
      · go_ret
        rename_i h _
        exact ⟨by rw [placeZ_found s.data.toList _ k hl hn (by
          have h1 : (s[k].toNat : Int) = c := by simpa using h
          have h2 : s[k].toNat = c := by omega
          rw [← h2]; simp; rfl)]; rfl, rfl⟩
      · rename_i h
        refine ⟨⟨k + 1, by omega, by go_num, not_mem_take_succ _ _ k hl hn (fun e => ?_)⟩, by simp [intOf]; omega⟩
        have h2 : s[k] = UInt8.ofNat c := e
        rw [h2] at h
        simp at h
        omega
    · go_wp2
      go_ret
      exact ⟨by rw [placeZ_none s.data.toList _ (by rw [List.take_of_length_le (by simp; omega)] at hn; exact hn)]; rfl, rfl⟩

def spareB (b : List UInt8) : List UInt8 := b ++ (List.range 9).map fun i => UInt8.ofNat (201 + b.length + i)
theorem spareB_len (b : List UInt8) : (spareB b).length = b.length + 9 := by simp [spareB]
theorem spareB_lo (b : List UInt8) (k : Nat) (h : k < b.length) (h' : k < (spareB b).length) : (spareB b)[k] = b[k] := by simp [spareB, List.getElem_append, h]
theorem spareB_hi (b : List UInt8) (k : Nat) (h : b.length ≤ k) (h' : k < (spareB b).length) : (spareB b)[k] = UInt8.ofNat (201 + k) := by
  have h2 := h'
  rw [spareB_len] at h2
  simp only [spareB, List.getElem_append]
  rw [dif_neg (by omega)]; simp only [List.getElem_map, List.getElem_range]; congr 1; omega

theorem u8_info : (Tryz.prog.info? 5).map (fun i => (i.zero, i.size, i.bytes)) = some (some (.int .u8 0), 1, 1) := by kernel_rfl

theorem elB : El Tryz.prog 37 5 (.int .u8 0) 1 := ⟨Tryz.underlying37, by kernel_rfl, rfl⟩

end Go.Proofs.YtcjioogololnoaaGreatDoor

/-! Regions that draw their order: one walk along a plan serves every order. The plan takes first what yields its value in every later world (its cells as they are now); what is left comes up alone. -/
namespace Go.Proofs.YtcjioogololnoaaGreatDoor
open Go Go.RowKit

/-- w with blocks behind its own, and some other count of draws. -/
def _root_.Go.World.ext (w : World) (objs : Array Obj) (d : Nat) : World := { w with heap := w.heap ++ objs, drawn := d }
/-- Whatever world in which the blocks of w are as they were. -/
def Ext (w w' : World) : Prop := ∃ objs d, w' = w.ext objs d
theorem ext_of_below {w w' : World} (h : Below w.heap.size w w') : Ext w w' := by
  refine ⟨w'.heap.extract w.heap.size w'.heap.size, w'.drawn, ?_⟩
  have hh : w'.heap = w.heap ++ w'.heap.extract w.heap.size w'.heap.size := by
    apply Array.ext_getElem?
    intro i
    by_cases hi : i < w.heap.size
    · rw [h.block i hi, Array.getElem?_append_left hi]
    · rw [Array.getElem?_append_right (by omega)]
      rw [Array.getElem?_extract]
      by_cases h2 : i < w'.heap.size
      · rw [if_pos (by omega)]; congr 1; omega
      · rw [if_neg (by omega), Array.getElem?_eq_none (by omega)]
  cases w' with | mk hp tp dr os ou =>
  cases w with | mk hp2 tp2 dr2 os2 ou2 =>
  obtain ⟨rfl, rfl, rfl⟩ : os = os2 ∧ tp = tp2 ∧ ou = ou2 := ⟨h.os, h.tape, h.output⟩
  simp only [World.ext] at hh ⊢
  rw [← hh]
theorem Ext.below {w w' : World} (h : Ext w w') : Below w.heap.size w w' := by
  obtain ⟨objs, d, rfl⟩ := h
  exact ⟨rfl, rfl, rfl, by simp [World.ext], fun k hk => by simp [World.ext, Array.getElem?_append_left hk]⟩
theorem Ext.refl (w : World) : Ext w w := ext_of_below (Below.refl _ _)
theorem Ext.trans {a b c : World} (h : Ext a b) (k : Ext b c) : Ext a c := ext_of_below (h.below.trans (k.below.mono h.below.size))
theorem ext_alloc (w : World) (o : Obj) : Ext w (w.alloc o) := ext_of_below ((Below.refl _ w).alloc (Nat.le_refl _) o)
theorem ext_alloc_drew (w : World) (o : Obj) : Ext w.drew (w.alloc o).drew := ext_of_below ⟨rfl, rfl, rfl, by simp, fun k hk => Below.heap_alloc w o k hk⟩
theorem Ext.drew {a b : World} (h : Ext a b) : Ext a b.drew := ext_of_below h.below.drew
theorem ext_of_below_drew {w w' : World} (h : Below w.heap.size w w') : Ext w.drew w' := ext_of_below ⟨h.os, h.tape, h.output, h.size, h.block⟩
@[go_sem] theorem cell?_ext (w : World) (objs : Array Obj) (d : Nat) (a : Addr) (h : (w.cell? a).isSome = true) : (w.ext objs d).cell? a = w.cell? a := by
  obtain ⟨v, hv⟩ := Option.isSome_iff_exists.1 h
  exact (Ext.below ⟨objs, d, rfl⟩).cell (World.block_lt_of_cell? w a hv)
@[go_sem] theorem frozen?_ext (w : World) (objs : Array Obj) (d : Nat) (a : Addr) (h : (w.cell? a).isSome = true) : (w.ext objs d).frozen? a = w.frozen? a := by
  obtain ⟨v, hv⟩ := Option.isSome_iff_exists.1 h
  exact (Ext.below ⟨objs, d, rfl⟩).frozen (World.block_lt_of_cell? w a hv)

section
variable {P : Program} {ops : Array Oper} {md : Region.Mode}

/-- What is asked of one operation's coming up: three laws that the plain walk and the fenced one both have. -/
structure StepLaws (P : Program) (ops : Array Oper) (Q : Act → World → Prop) (st : Nat → (Act → World → Prop) → Act → World → Prop) : Prop where
  mono : ∀ {i : Nat} {K K' : Act → World → Prop} {a : Act} {w : World}, (∀ a w, K a w → K' a w) → st i K a w → st i K' a w
  yield : ∀ {i : Nat} {o : Oper} {v : Value} {a : Act} {w : World} {K : Act → World → Prop} {S : World → Prop}, ops[i]? = some o → YieldsIf P ops S o v a → S w → K (a.put o.dst v) w → st i K a w
  put : ∀ {j : Nat} {oi oj : Oper} {v : Value} {a : Act} {w : World} {K : Act → World → Prop} {S : World → Prop}, ops[j]? = some oj → oi.apart ops oj = true → (∀ cs b, oi.op ≠ .select cs b) → (∀ cs b, oj.op ≠ .select cs b) →
    YieldsIf P ops S oi v a → st j K (a.put oi.dst v) w → st j (fun a' w' => YieldsIf P ops S oi v a' ∧ K (a'.put oi.dst v) w') a w

variable {Q : Act → World → Prop} {st : Nat → (Act → World → Prop) → Act → World → Prop} {N : Nat}

/-- Has the tail begun? -/
def tb (N : Nat) (listed : Array Bool) : Prop := ∃ t, N ≤ t ∧ listed.getD t false = true
theorem tb_set {N i : Nat} {listed : Array Bool} (hi : i < N) : tb N (listed.setIfInBounds i true) ↔ tb N listed := by
  unfold tb
  constructor
  · rintro ⟨t, ht, h⟩; exact ⟨t, ht, by rwa [getD_set_ne false (by omega)] at h⟩
  · rintro ⟨t, ht, h⟩; exact ⟨t, ht, getD_set_true h⟩
theorem tb_mono {N i : Nat} {listed : Array Bool} (h : tb N listed) : tb N (listed.setIfInBounds i true) := by
  obtain ⟨t, ht, h⟩ := h; exact ⟨t, ht, getD_set_true h⟩
def wpAnyS (md : Region.Mode) (ops : Array Oper) (Q : Act → World → Prop) (st : Nat → (Act → World → Prop) → Act → World → Prop) (N : Nat) (S : World → Prop) : Nat → Array Bool → Act → World → Prop
  | 0, listed, a, w => Region.ready md ops listed = [] ∧ Q a w
  | fuel + 1, listed, a, w => (Region.ready md ops listed = [] → Q a w) ∧
    ∀ i ∈ Region.ready md ops listed, st i (fun a' w' => (tb N (listed.setIfInBounds i true) ∨ S w') ∧ wpAnyS md ops Q st N S fuel (listed.setIfInBounds i true) a' w') a w

/-- Whatever has come up, all that it waits for has. -/
def Closed (md : Region.Mode) (ops : Array Oper) (listed : Array Bool) : Prop :=
  listed.size = ops.size ∧ ∀ j oj, ops[j]? = some oj → listed.getD j false = true → ∀ e ∈ oj.after, Region.binds md e = true → listed.getD e.on false = true
def anc (md : Region.Mode) (ops : Array Oper) : Nat → Nat → Nat → Bool
  | 0, _, _ => false
  | f + 1, j, i => match ops[j]? with
    | some oj => oj.after.any fun e => Region.binds md e && (e.on == i || anc md ops f e.on i)
    | none => false
theorem anc_listed {listed : Array Bool} (hc : Closed md ops listed) : ∀ (f j i : Nat), listed.getD j false = true → anc md ops f j i = true → listed.getD i false = true := by
  intro f
  induction f with
  | zero => intro j i _ h; cases h
  | succ f ih =>
    intro j i hj h
    unfold anc at h
    split at h
    · rename_i oj ho
      obtain ⟨e, he, hb⟩ := Array.any_eq_true'.1 h
      simp only [Bool.and_eq_true, Bool.or_eq_true, beq_iff_eq] at hb
      have hl := hc.2 j oj ho hj e he hb.1
      rcases hb.2 with rfl | h2
      · exact hl
      · exact ih e.on i hl h2
    · cases h
theorem anc_ready {listed : Array Bool} (hc : Closed md ops listed) {f j i : Nat} (hj : j ∈ Region.ready md ops listed) (h : anc md ops f j i = true) : listed.getD i false = true := by
  obtain ⟨_, o, ho, hall⟩ := mem_ready.1 hj
  cases f with
  | zero => cases h
  | succ f =>
    unfold anc at h
    simp only [ho] at h
    obtain ⟨e, he, hb⟩ := Array.any_eq_true'.1 h
    simp only [Bool.and_eq_true, Bool.or_eq_true, beq_iff_eq] at hb
    have hl := hall e he hb.1
    rcases hb.2 with rfl | h2
    · exact hl
    · exact anc_listed hc f e.on i hl h2
theorem Closed.set {listed : Array Bool} (hc : Closed md ops listed) {i : Nat} (hi : i ∈ Region.ready md ops listed) : Closed md ops (listed.setIfInBounds i true) := by
  obtain ⟨_, o, ho, hall⟩ := mem_ready.1 hi
  refine ⟨by simpa using hc.1, ?_⟩
  intro j oj hj hl e he hb
  by_cases hij : i = j
  · subst hij
    have : oj = o := Option.some.inj (hj.symm.trans ho)
    subst this
    exact getD_set_true (hall e he hb)
  · rw [getD_set_ne false hij] at hl
    exact getD_set_true (hc.2 j oj hj hl e he hb)
theorem unlisted_false {listed : Array Bool} {i : Nat} (h : listed.getD i true = false) : listed.getD i false = false := by
  rcases Nat.lt_or_ge i listed.size with h' | h'
  · simp [h'] at h ⊢; exact h
  · simp [Array.getElem?_eq_none h'] at h

theorem wpAnyS_weak (L : StepLaws P ops Q st) {S S' : World → Prop} (hS : ∀ w, S' w → S w) : ∀ (fuel : Nat) (listed : Array Bool) (a : Act) (w : World), wpAnyS md ops Q st N S' fuel listed a w → wpAnyS md ops Q st N S fuel listed a w
  | 0, _, _, _, h => h
  | fuel + 1, _, _, _, h => ⟨h.1, fun i hi => L.mono (fun a' w' h' => ⟨h'.1.imp id (hS _), wpAnyS_weak L hS fuel _ a' w' h'.2⟩) (h.2 i hi)⟩

/-- What keeps S at hand while i has not come up: the tail waits for i, or i asks nothing of the world. -/
theorem wpAnyS_first (L : StepLaws P ops Q st) {S S1 : World → Prop} {i : Nat} {oi : Oper} {v : Value} (hi : ops[i]? = some oi) (hsel : ∀ (j : Nat) (o : Oper) cs b, ops[j]? = some o → o.op ≠ .select cs b) (hiN : i < N)
    (hS1 : ∀ listed w, Closed md ops listed → listed.getD i true = false → tb N listed ∨ S w → S1 w) :
    ∀ (fuel : Nat) (listed : Array Bool) (a : Act) (w : World), Closed md ops listed →
      (∀ j oj, ops[j]? = some oj → j ≠ i → listed.getD j true = false → (∀ e ∈ oj.after, Region.binds md e = true → e.on ≠ i) → oi.apart ops oj = true) →
      i ∈ Region.ready md ops listed → YieldsIf P ops S1 oi v a → (tb N listed ∨ S w) →
      wpAnyS md ops Q st N S fuel (listed.setIfInBounds i true) (a.put oi.dst v) w → wpAnyS md ops Q st N S (fuel + 1) listed a w := by
  intro fuel
  induction fuel with
  | zero =>
    intro listed a w hcl hfree hr hy hS H
    refine ⟨fun h => (by rw [h] at hr; cases hr), fun j hj => ?_⟩
    by_cases hji : j = i
    · subst hji; exact L.yield hi hy (hS1 listed w hcl (mem_ready.1 hr).1 hS) ⟨hS.imp tb_mono id, H⟩
    · have := ready_mono hj hji
      rw [H.1] at this
      cases this
  | succ fuel ih =>
    intro listed a w hcl hfree hr hy hS H
    refine ⟨fun h => (by rw [h] at hr; cases hr), fun j hj => ?_⟩
    by_cases hji : j = i
    · subst hji; exact L.yield hi hy (hS1 listed w hcl (mem_ready.1 hr).1 hS) ⟨hS.imp tb_mono id, H⟩
    · have h1 := H.2 j (ready_mono hj hji)
      obtain ⟨hjun, oj, hoj, hall⟩ := mem_ready.1 hj
      have hnot : ∀ e ∈ oj.after, Region.binds md e = true → e.on ≠ i := fun e he hb heq => by
        have h1 := hall e he hb
        have h0 := (mem_ready.1 hr).1
        rw [heq] at h1
        rcases Nat.lt_or_ge i listed.size with h' | h'
        · simp [h'] at h0 h1; rw [h0] at h1; cases h1
        · simp [Array.getElem?_eq_none h'] at h1
      have h2 := L.put hoj (hfree j oj hoj hji hjun hnot) (fun cs b => hsel i oi cs b hi) (fun cs b => hsel j oj cs b hoj) hy h1
      have hfree' : ∀ k ok, ops[k]? = some ok → k ≠ i → (listed.setIfInBounds j true).getD k true = false →
          (∀ e ∈ ok.after, Region.binds md e = true → e.on ≠ i) → oi.apart ops ok = true := fun k ok hk hki hun hno => by
        refine hfree k ok hk hki ?_ hno
        by_cases hjk : j = k
        · subst hjk; exact hjun
        · rw [getD_set_ne true hjk] at hun; exact hun
      refine L.mono (fun a' w' h3 => ?_) h2
      have hS' : tb N (listed.setIfInBounds j true) ∨ S w' := by
        have := h3.2.1
        rw [Array.setIfInBounds_comm _ _ (Ne.symm hji), tb_set hiN] at this
        exact this
      refine ⟨hS', ih (listed.setIfInBounds j true) a' w' (hcl.set hj) hfree' (ready_mono hr (Ne.symm hji)) h3.1 hS' ?_⟩
      rw [Array.setIfInBounds_comm _ _ hji]
      exact h3.2.2

/-- The plan is one. 0: it asks nothing of the world; 1: it reads cells that lie ahead of the region, and the tail waits for it; 2: it comes up alone. -/
def planB (md : Region.Mode) (ops : Array Oper) (N : Nat) : List (Nat × Nat) → Array Bool → Bool
  | [], listed => Region.ready md ops listed == []
  | (i, k) :: rest, listed =>
    (if k = 0 then (Region.ready md ops listed).contains i && Region.free md ops listed i && decide (i < N)
     else if k = 1 then (Region.ready md ops listed).contains i && Region.free md ops listed i && decide (i < N) && ((List.range ops.size).all fun j => decide (j < N) || anc md ops ops.size j i)
     else (Region.ready md ops listed == [i]) && (decide (i < N) || rest.all fun p => decide (2 ≤ p.2) && decide (N ≤ p.1))) && planB md ops N rest (listed.setIfInBounds i true)

def wpPlan (P : Program) (ops : Array Oper) (Q : Act → World → Prop) (st : Nat → (Act → World → Prop) → Act → World → Prop) (N : Nat) : List (Nat × Nat) → Act → World → Prop
  | [], a, w => Q a w
  | (i, k) :: rest, a, w =>
    if k = 0 then (match ops[i]? with
      | none => False
      | some o => ∃ v, YieldsIf P ops (fun _ => True) o v a ∧ wpPlan P ops Q st N rest (a.put o.dst v) w)
    else if k = 1 then (match ops[i]? with
      | none => False
      | some o => ∃ v, YieldsIf P ops (Ext w) o v a ∧ wpPlan P ops Q st N rest (a.put o.dst v) w)
    else st i (fun a' w' => (N ≤ i ∨ Ext w w') ∧ wpPlan P ops Q st N rest a' w') a w

theorem tail_sound (L : StepLaws P ops Q st) {S : World → Prop} : ∀ (plan : List (Nat × Nat)) (listed : Array Bool) (a : Act) (w : World) (extra : Nat),
    planB md ops N plan listed = true → (plan.all fun p => decide (2 ≤ p.2) && decide (N ≤ p.1)) = true → listed.size = ops.size → wpPlan P ops Q st N plan a w → wpAnyS md ops Q st N S (plan.length + extra) listed a w
  | [], listed, a, w, extra, hB, _, _, h => by
    have hr : Region.ready md ops listed = [] := by simpa [planB] using hB
    cases extra with
    | zero => exact ⟨hr, h⟩
    | succ e => exact ⟨fun _ => h, by rw [hr]; simp⟩
  | (i, k) :: rest, listed, a, w, extra, hB, hA, hsz, h => by
    simp only [List.all_cons, Bool.and_eq_true, decide_eq_true_eq] at hA
    have hk0 : ¬ k = 0 := by omega
    have hk1 : ¬ k = 1 := by omega
    simp only [planB, hk0, hk1, if_false, Bool.and_eq_true] at hB
    obtain ⟨⟨hr, _⟩, hrest⟩ := hB
    have hr : Region.ready md ops listed = [i] := by simpa using hr
    rw [List.length_cons, show rest.length + 1 + extra = rest.length + extra + 1 by omega]
    refine ⟨fun h0 => (by rw [h0] at hr; cases hr), fun j hj => ?_⟩
    rw [hr] at hj
    obtain rfl : j = i := by simpa using hj
    have hlt : j < listed.size := by
      have hj' : j ∈ Region.ready md ops listed := by rw [hr]; simp
      obtain ⟨_, o, ho, _⟩ := mem_ready.1 hj'
      rw [hsz]; exact (Array.getElem?_eq_some_iff.1 ho).1
    simp only [wpPlan, hk0, hk1, if_false] at h
    exact L.mono (fun a' w' h' => ⟨.inl ⟨j, hA.1.2, by simp [hlt]⟩, tail_sound L rest _ a' w' extra hrest (by simpa using hA.2) (by simpa using hsz) h'.2⟩) h

theorem plan_sound (L : StepLaws P ops Q st) (hsel : Region.noSelect ops = true) : ∀ (plan : List (Nat × Nat)) (listed : Array Bool) (a : Act) (w w0 : World) (extra : Nat),
    planB md ops N plan listed = true → Closed md ops listed → listed.size = ops.size → Ext w0 w → wpPlan P ops Q st N plan a w → wpAnyS md ops Q st N (Ext w0) (plan.length + extra) listed a w
  | [], listed, a, w, w0, extra, hB, _, _, _, h => by
    have hr : Region.ready md ops listed = [] := by simpa [planB] using hB
    cases extra with
    | zero => exact ⟨hr, h⟩
    | succ e => exact ⟨fun _ => h, by rw [hr]; simp⟩
  | (i, k) :: rest, listed, a, w, w0, extra, hB, hcl, hsz, hE, h => by
    have hB0 := hB
    by_cases hk0 : k = 0
    · simp only [planB, hk0, if_true, Bool.and_eq_true, decide_eq_true_eq] at hB
      obtain ⟨⟨⟨hr, hf⟩, hiN⟩, hrest⟩ := hB
      have hr' : i ∈ Region.ready md ops listed := by simpa using hr
      simp only [wpPlan, hk0, if_true] at h
      split at h
      · exact h.elim
      · rename_i o ho
        obtain ⟨v, hy, hK⟩ := h
        have hrec := plan_sound L hsel rest (listed.setIfInBounds i true) (a.put o.dst v) w w0 extra hrest (hcl.set hr') (by simpa using hsz) hE hK
        have h1 := wpAnyS_first L (S := Ext w0) (S1 := fun _ => True) ho (Region.noSelect_spec hsel) hiN (fun _ _ _ _ _ => trivial) (rest.length + extra) listed a w hcl (Region.free_spec ho hf) hr' hy (.inr hE) hrec
        rw [List.length_cons, show rest.length + 1 + extra = rest.length + extra + 1 by omega]
        exact h1
    by_cases hk1 : k = 1
    · subst hk1
      simp only [planB, if_true, Bool.and_eq_true, decide_eq_true_eq, Nat.one_ne_zero, if_false] at hB
      obtain ⟨⟨⟨⟨hr, hf⟩, hiN⟩, hanc⟩, hrest⟩ := hB
      have hr' : i ∈ Region.ready md ops listed := by simpa using hr
      simp only [wpPlan, if_true, Nat.one_ne_zero, if_false] at h
      split at h
      · exact h.elim
      · rename_i o ho
        obtain ⟨v, hy, hK⟩ := h
        have hrec := plan_sound L hsel rest (listed.setIfInBounds i true) (a.put o.dst v) w w extra hrest (hcl.set hr') (by simpa using hsz) (Ext.refl w) hK
        have h1 := wpAnyS_first L (S := Ext w) (S1 := Ext w) ho (Region.noSelect_spec hsel) hiN (fun l w' hc hu ht => by
          rcases ht with ⟨t, ht, hl⟩ | h
          · exfalso
            have hts : t < ops.size ∨ ¬ t < ops.size := Decidable.em _
            rcases hts with hts | hts
            · have := List.all_eq_true.1 hanc t (List.mem_range.2 hts)
              simp only [Bool.or_eq_true, decide_eq_true_eq] at this
              have := anc_listed hc _ _ _ hl (this.resolve_left (by omega))
              rw [unlisted_false hu] at this
              cases this
            · -- a listed place beyond the operations: closed lists bear none that matter
              rw [show l.getD t false = false by simp [Array.getElem?_eq_none (show l.size ≤ t by rw [hc.1]; omega)]] at hl
              cases hl
          · exact h) (rest.length + extra) listed a w hcl (Region.free_spec ho hf) hr' hy (.inr (Ext.refl w)) hrec
        rw [List.length_cons, show rest.length + 1 + extra = rest.length + extra + 1 by omega]
        exact wpAnyS_weak L (fun w' hw' => hE.trans hw') _ _ _ _ h1
    · simp only [planB, hk0, hk1, if_false, Bool.and_eq_true] at hB
      obtain ⟨⟨hr, ht⟩, hrest⟩ := hB
      by_cases hiN : N ≤ i
      · refine tail_sound L ((i, k) :: rest) listed a w extra hB0 ?_ hsz h
        simp only [Bool.or_eq_true, decide_eq_true_eq] at ht
        have := ht.resolve_left (by omega)
        simp only [List.all_cons, this, hiN, decide_true, Bool.and_true, decide_eq_true_eq]
        omega
      have hr : Region.ready md ops listed = [i] := by simpa using hr
      have hr' : i ∈ Region.ready md ops listed := by rw [hr]; simp
      rw [List.length_cons, show rest.length + 1 + extra = rest.length + extra + 1 by omega]
      refine ⟨fun h0 => (by rw [h0] at hr; cases hr), fun j hj => ?_⟩
      rw [hr] at hj
      obtain rfl : j = i := by simpa using hj
      simp only [wpPlan, hk0, hk1, if_false] at h
      refine L.mono (fun a' w' h' => ?_) h
      have hE' := hE.trans (h'.1.resolve_left hiN)
      exact ⟨.inr hE', plan_sound L hsel rest _ a' w' w0 extra hrest (hcl.set hr') (by simpa using hsz) hE' h'.2⟩

/-! ### The steps of a walk -/
/-- One value, in every world that has the cells of w. -/
def stillUpon (w : World) (v : Value) : Result Next → Prop
  | .ok (.value u) w' => w' = w ∧ u = v
  | _ => False
def stillOp (P : Program) (o : Oper) (a : Act) (w : World) (K : Act → Prop) : Prop := ∃ v, (∀ objs d, stillUpon (w.ext objs d) v ((execOp a.eval o).run P (w.ext objs d))) ∧ K (a.put o.dst v)
def pureOp (P : Program) (o : Oper) (a : Act) (K : Act → Prop) : Prop := ∃ v, (∀ W, stillUpon W v ((execOp a.eval o).run P W)) ∧ K (a.put o.dst v)
theorem wpPlan_pure {i : Nat} {rest : List (Nat × Nat)} {o : Oper} {a : Act} {w : World} (ho : ops[i]? = some o)
    (h : ∀ K : Act → Prop, (∀ a, wpPlan P ops Q st N rest a w → K a) → if Region.wanted o (yielded ops a.tmps) then pureOp P o a K else K (a.put o.dst undef)) :
    wpPlan P ops Q st N ((i, 0) :: rest) a w := by
  have h := h _ (fun _ h => h)
  simp only [wpPlan, if_true, ho]
  split at h
  · rename_i hw
    obtain ⟨v, hv, hK⟩ := h
    refine ⟨v, .inl ⟨hw, fun w' _ => ?_⟩, hK⟩
    have := hv w'
    generalize (execOp a.eval o).run P w' = r at *
    cases r with
    | ok n w' => cases n <;> simp only [stillUpon] at this
                 obtain ⟨rfl, rfl⟩ := this; rfl
    | halt x w' => simp only [stillUpon] at this
  · rename_i hw
    exact ⟨undef, .inr ⟨by simpa using hw, rfl⟩, h⟩
theorem wpPlan_quiet {i : Nat} {rest : List (Nat × Nat)} {o : Oper} {a : Act} {w : World} (ho : ops[i]? = some o)
    (h : ∀ K : Act → Prop, (∀ a, wpPlan P ops Q st N rest a w → K a) → if Region.wanted o (yielded ops a.tmps) then stillOp P o a w K else K (a.put o.dst undef)) :
    wpPlan P ops Q st N ((i, 1) :: rest) a w := by
  have h := h _ (fun _ h => h)
  simp only [wpPlan, if_true, ho, Nat.one_ne_zero, if_false]
  split at h
  · rename_i hw
    obtain ⟨v, hv, hK⟩ := h
    refine ⟨v, .inl ⟨hw, fun w' hw' => ?_⟩, hK⟩
    obtain ⟨objs, d, rfl⟩ := hw'
    have := hv objs d
    generalize (execOp a.eval o).run P (w.ext objs d) = r at *
    cases r with
    | ok n w' => cases n <;> simp only [stillUpon] at this
                 obtain ⟨rfl, rfl⟩ := this; rfl
    | halt x w' => simp only [stillUpon] at this
  · rename_i hw
    exact ⟨undef, .inr ⟨by simpa using hw, rfl⟩, h⟩
theorem wpPlan_nil {a : Act} {w : World} (h : Q a w) : wpPlan P ops Q st N [] a w := h
end
attribute [go_sem] stillOp stillUpon pureOp

section
variable {P : Program} {ops : Array Oper} {N : Nat}
/-! ### The plain walk -/
theorem plainLaws (Q : Exit → Act → World → Prop) (hQ : ∀ c a d v w, Q (.panic c) (Act.put a d v) w → Q (.panic c) a w) : StepLaws P ops (Q .normal) (fun i K a w => wpOp P ops Q i K a w) :=
  ⟨fun h hh => wpOp_mono h hh, fun ho hy hS hK => hy.wpOp ho hS hK, fun hj hap hsi hsj hy h => wpOp_putIf hj hap hsi hsj (fun c a w h => hQ c _ _ _ w h) hy h⟩
theorem wpAny_of_S {Q : Exit → Act → World → Prop} {S : World → Prop} : ∀ (fuel : Nat) (listed : Array Bool) (a : Act) (w : World), wpAnyS .any ops (Q .normal) (fun i K a w => wpOp P ops Q i K a w) N S fuel listed a w → wpAny P .any ops Q fuel listed a w
  | 0, _, _, _, h => h
  | fuel + 1, _, _, _, h => ⟨h.1, fun i hi => wpOp_mono (fun a' w' h' => wpAny_of_S fuel _ a' w' h'.2) (h.2 i hi)⟩
/-- **A region that draws, along a plan.** -/
theorem wp_region_plan {id : Nat} {Q : Exit → Act → World → Prop} {a : Act} {w : World} {l : List Oper} (plan : List (Nat × Nat)) (N : Nat) (hm : P.follows .mixedOrders = true)
    (hB : (Region.noSelect l.toArray && decide (plan.length = l.length) && planB .any l.toArray N plan (Array.replicate l.length false)) = true) (hQ : ∀ c a d v w, Q (.panic c) (Act.put a d v) w → Q (.panic c) a w)
    (h : wpPlan P l.toArray (Q .normal) (fun i K a w => wpOp P l.toArray Q i K a w) N plan a w.drew) : (Code.region id l.toArray true).wp P Q a w := by
  simp only [Bool.and_eq_true, decide_eq_true_eq] at hB
  refine wp_region_any hm ?_
  have := plan_sound (plainLaws Q hQ) hB.1.1 plan (Array.replicate l.length false) a w.drew w.drew 0 hB.2 ⟨by simp, fun j oj hj hl => by
    rcases Nat.lt_or_ge j l.length with h | h
    · simp [h] at hl
    · simp [h] at hl⟩ (by simp) (Ext.refl _) h
  rw [Nat.add_zero, hB.1.2] at this
  have := wpAny_of_S _ _ _ _ this
  simpa using this
theorem wpPlan_loud {i : Nat} {rest : List (Nat × Nat)} {o : Oper} {a : Act} {w : World} {Q : Exit → Act → World → Prop} (ho : ops[i]? = some o) (hg : o.guard = none)
    (h : ∀ K : Act → World → Prop, (∀ a' w', ((N ≤ i ∨ Ext w w') ∧ wpPlan P ops (Q .normal) (fun i K a w => wpOp P ops Q i K a w) N rest a' w') → K a' w') → o.wp P a w K Q) :
    wpPlan P ops (Q .normal) (fun i K a w => wpOp P ops Q i K a w) N ((i, 2) :: rest) a w := by
  simp only [wpPlan, show ¬ (2 = 0) by decide, show ¬ (2 = 1) by decide, if_false, wpOp, ho, Region.wanted, hg, if_true]
  exact .inl (h _ (fun _ _ h => h))

/-! ### The fenced walk, in a round or not, where the fence lets every function by -/
def Region.noDefer (ops : Array Oper) : Bool := ops.all fun o => match o.op with | .defer _ => false | _ => true
theorem noDefer_spec (h : Region.noDefer ops = true) (j : Nat) (o : Oper) (ho : ops[j]? = some o) : ∀ c, o.op ≠ .defer c := by
  intro c heq
  have := Array.all_eq_true_iff_forall_mem.1 h o (Array.mem_of_getElem? ho)
  simp [heq] at this
variable {F : Fence} {n : Nat}
theorem YieldsIf.wpOpIn {S : World → Prop} {Q : Exit → Act → World → Prop} (hF : ∀ k, F.fn k) (hnd : Region.noDefer ops = true) {i : Nat} {o : Oper} {v : Value} {a : Act} (hi : ops[i]? = some o) (hy : YieldsIf P ops S o v a)
    {K : Act → World → Prop} {w : World} (hS : S w) (h : K (a.put o.dst v) w) : wpOpIn F n P ops Q i K a w := by
  unfold Go.wpOpIn
  simp only [hi]
  rcases hy with ⟨hw, hv⟩ | ⟨hw, rfl⟩
  · simp only [hw, if_true, Oper.wpIn, Oper.semAt_eq _ _ _ (noDefer_spec hnd i o hi), hv w hS, Oper.uponIn]; exact ⟨fun f _ => hF f, h⟩
  · simp only [hw, Bool.false_eq_true, if_false]; exact ⟨fun f _ => hF f, h⟩
theorem wpOpIn_putIf {S : World → Prop} {Q : Exit → Act → World → Prop} (hF : ∀ k, F.fn k) (hnd : Region.noDefer ops = true) {j : Nat} {oi oj : Oper} {v : Value} (hj : ops[j]? = some oj) (hap : oi.apart ops oj = true)
    (hsi : ∀ cs b, oi.op ≠ .select cs b) (hsj : ∀ cs b, oj.op ≠ .select cs b)
    (hQ : ∀ c a d v w, Q (.panic c) (Act.put a d v) w → Q (.panic c) a w) {K : Act → World → Prop} {a : Act} {w : World}
    (hy : YieldsIf P ops S oi v a) (h : wpOpIn F n P ops Q j K (a.put oi.dst v) w) :
    wpOpIn F n P ops Q j (fun a' w' => YieldsIf P ops S oi v a' ∧ K (a'.put oi.dst v) w') a w := by
  obtain ⟨h1, h2, h3⟩ := Oper.apart_spec hap
  have keep : ∀ (a : Act), YieldsIf P ops S oi v a → ∀ u, YieldsIf P ops S oi v (a.put oj.dst u) := fun a hy u =>
    hy.of_same (execOp_put oi hsi a oj.dst u h3) (wanted_put oi a oj.dst u h3)
  have keepD : ∀ d, YieldsIf P ops S oi v { a with defers := d :: a.defers } := fun d => hy.of_same rfl rfl
  have hnj := noDefer_spec hnd j oj hj
  unfold wpOpIn at *
  simp only [hj] at *
  rw [wanted_put oj a oi.dst v h1] at h
  split
  · rename_i hw
    simp only [hw, if_true] at h
    unfold Oper.wpIn at *
    refine ⟨fun f _ => hF f, ?_⟩
    have h := h.2
    rw [Oper.semAt_eq _ _ _ hnj] at h ⊢
    rw [execOp_put oj hsj a oi.dst v h1] at h
    generalize (execOp a.eval oj).run P w = r at *
    cases r with
    | ok m w' =>
      cases m <;> simp only [Oper.uponIn] at h ⊢
      case value u => exact ⟨keep a hy u, by rw [← Act.put_comm a v u h2]; exact h⟩
      case skip => exact ⟨keep a hy _, by rw [← Act.put_comm a v undef h2]; exact h⟩
      case defer d =>
        refine ⟨keep _ (keepD d) _, ?_⟩
        rw [← Act.put_comm _ v undef h2, ← Act.put_defers]
        exact h
      case enter f args =>
        refine ⟨h.1, CallsIn.mono h.2 fun e w'' he => ?_⟩
        cases e with
        | returned u => exact ⟨keep a hy u, by rw [← Act.put_comm a v u h2]; exact he⟩
        | panicked c => exact hQ _ _ _ _ _ he
        | outgrown => exact he
      case row row args => exact ⟨h.1, RowsIn.mono h.2 fun u w'' he => ⟨keep a hy u, by rw [← Act.put_comm a v u h2]; exact he⟩⟩
      case round =>
        refine ⟨h.1, RoundIn.mono h.2 fun e w'' he => ?_⟩
        cases e with
        | returned u => exact ⟨keep a hy u, by rw [← Act.put_comm a v u h2]; exact he⟩
        | panicked c => exact hQ _ _ _ _ _ he
        | outgrown => exact he
    | halt x w' =>
      cases x <;> simp only [Oper.uponIn] at h ⊢
      case panic u => exact hQ _ _ _ _ _ h
  · rename_i hw
    simp only [hw] at h
    exact ⟨fun f _ => hF f, keep a hy _, by rw [← Act.put_comm a v undef h2]; exact h.2⟩
theorem fencedLaws (Q : Exit → Act → World → Prop) (hF : ∀ k, F.fn k) (hnd : Region.noDefer ops = true) (hQ : ∀ c a d v w, Q (.panic c) (Act.put a d v) w → Q (.panic c) a w) : StepLaws P ops (Q .normal) (fun i K a w => wpOpIn F n P ops Q i K a w) :=
  ⟨fun h hh => wpOpIn_mono h hh, fun ho hy hS hK => YieldsIf.wpOpIn hF hnd ho hy hS hK, fun hj hap hsi hsj hy h => wpOpIn_putIf hF hnd hj hap hsi hsj hQ hy h⟩
theorem wpAnyIn_of_S {Q : Exit → Act → World → Prop} {S : World → Prop} : ∀ (fuel : Nat) (listed : Array Bool) (a : Act) (w : World), wpAnyS .any ops (Q .normal) (fun i K a w => wpOpIn F n P ops Q i K a w) N S fuel listed a w → wpAnyIn F n P .any ops Q fuel listed a w
  | 0, _, _, _, h => h
  | fuel + 1, _, _, _, h => ⟨h.1, fun i hi => wpOpIn_mono (fun a' w' h' => wpAnyIn_of_S fuel _ a' w' h'.2) (h.2 i hi)⟩
theorem wpIn_region_plan {id : Nat} {Q : Exit → Act → World → Prop} {a : Act} {w : World} {l : List Oper} (plan : List (Nat × Nat)) (N : Nat) (hF : ∀ k, F.fn k) (hm : P.follows .mixedOrders = true)
    (hB : (Region.noSelect l.toArray && Region.noDefer l.toArray && decide (plan.length = l.length) && planB .any l.toArray N plan (Array.replicate l.length false)) = true) (hQ : ∀ c a d v w, Q (.panic c) (Act.put a d v) w → Q (.panic c) a w)
    (h : wpPlan P l.toArray (Q .normal) (fun i K a w => wpOpIn F n P l.toArray Q i K a w) N plan a w.drew) : (Code.region id l.toArray true).wpIn F n P Q a w := by
  simp only [Bool.and_eq_true, decide_eq_true_eq] at hB
  refine wpIn_region_any hm ?_
  have := plan_sound (fencedLaws (F := F) (n := n) Q hF hB.1.1.2 hQ) hB.1.1.1 plan (Array.replicate l.length false) a w.drew w.drew 0 hB.2 ⟨by simp, fun j oj hj hl => by
    rcases Nat.lt_or_ge j l.length with h | h
    · simp [h] at hl
    · simp [h] at hl⟩ (by simp) (Ext.refl _) h
  rw [Nat.add_zero, hB.1.2] at this
  have := wpAnyIn_of_S _ _ _ _ this
  simpa using this
theorem wpPlanIn_loud {i : Nat} {rest : List (Nat × Nat)} {o : Oper} {a : Act} {w : World} {Q : Exit → Act → World → Prop} (ho : ops[i]? = some o) (hg : o.guard = none)
    (h : ∀ K : Act → World → Prop, (∀ a' w', ((N ≤ i ∨ Ext w w') ∧ wpPlan P ops (Q .normal) (fun i K a w => wpOpIn F n P ops Q i K a w) N rest a' w') → K a' w') → o.wpIn F n P a w K Q) :
    wpPlan P ops (Q .normal) (fun i K a w => wpOpIn F n P ops Q i K a w) N ((i, 2) :: rest) a w := by
  simp only [wpPlan, show ¬ (2 = 0) by decide, show ¬ (2 = 1) by decide, if_false, wpOpIn, ho, Region.wanted, hg, if_true]
  exact h _ (fun _ _ h => h)
end
end Go.Proofs.YtcjioogololnoaaGreatDoor
