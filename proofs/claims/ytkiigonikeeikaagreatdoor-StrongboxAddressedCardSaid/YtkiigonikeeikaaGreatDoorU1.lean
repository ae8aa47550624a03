/- Words for memory: a slice that reads as a list of one-cell elements; a slice that a call may append to. | The iterator that slices.Backward of a []byte hands back: its contract, for whatever loop body keeps what lay below. | Small functions of the references and the laws, walked. -/
import Derived.WalkKit
import Derived.Deep.Draws
import Derived.RangeFuncBox
import Derived.CallsIn
import Derived.Laws.CopyOwn
import Derived.RangeFuncNested
import Derived.RangeFuncCalls
import Derived.RangeFuncLeaves
import Derived.Shelf.Abstract
import Derived.OwnWalkIn
import Derived.TacticsInMore
import Derived.LoopNIn
import Derived.LoopIn
import Derived.Lib.Hide
import Derived.Test.YtkiigonikeeikaaGreatDoorRows
import Derived.WalkSpells
import Derived.WalkLawsBesides
import Derived.BigQuiet
import Derived.Deep.QuietTactic

/-! Words for memory: a slice that reads as a list of one-cell elements; a slice that a call may append to. -/
namespace Go.Proofs.YtkiigonikeeikaaGreatDoor
open Go.RowKit

theorem add_lit' (b o k : Nat) : (⟨b, o, none⟩ : Addr).add k = ⟨b, o + k, none⟩ := by unfold Addr.add; split <;> simp_all

/-- The slice with this address reads as xs (elements of one cell), below block B. -/
def Sl (w : World) (B : Nat) (A : Option Addr) (xs : List Value) : Prop :=
  0 < xs.length → ∃ b o, A = some ⟨b, o, none⟩ ∧ b < B ∧ ∀ j (h : j < xs.length), w.cell? ⟨b, o + j, none⟩ = some xs[j]

/-- Bytes as cells. -/
def B8 (bs : List UInt8) : List Value := bs.map fun b => .int .u8 (b.toNat : Int)
@[simp] theorem B8_length (bs : List UInt8) : (B8 bs).length = bs.length := by simp [B8]
theorem B8_get (bs : List UInt8) (j : Nat) (h : j < (B8 bs).length) : (B8 bs)[j] = .int .u8 ((bs[j]'(by simpa using h)).toNat : Int) := by simp [B8]
theorem B8_append (a b : List UInt8) : B8 (a ++ b) = B8 a ++ B8 b := by simp [B8]
theorem B8_one (b : UInt8) : B8 [b] = [.int .u8 (b.toNat : Int)] := rfl
theorem B8_take (a : List UInt8) (n : Nat) : B8 (a.take n) = (B8 a).take n := by simp [B8]
theorem B8_drop (a : List UInt8) (n : Nat) : B8 (a.drop n) = (B8 a).drop n := by simp [B8]
theorem B8_oneCell (a : List UInt8) : ∀ u ∈ B8 a, u.oneCell' = true := by
  intro u hu; simp only [B8, List.mem_map] at hu; obtain ⟨b, _, rfl⟩ := hu; rfl

section
variable {w w' : World} {B B' : Nat} {A : Option Addr} {xs : List Value} {bs : List UInt8}
theorem Sl.nil : Sl w B A [] := fun h => absurd h (by simp)
theorem Sl.keep (h : Sl w B A xs) (hk : ∀ p : Addr, p.block < B → w'.cell? p = w.cell? p) : Sl w' B A xs := fun hn => by
  obtain ⟨b, o, e, hb, hc⟩ := h hn
  exact ⟨b, o, e, hb, fun j hj => (hk ⟨b, o + j, none⟩ hb).trans (hc j hj)⟩
theorem Sl.mono (h : Sl w B A xs) (hB : B ≤ B') : Sl w B' A xs := fun hn => by
  obtain ⟨b, o, e, hb, hc⟩ := h hn
  exact ⟨b, o, e, by omega, hc⟩
theorem Sl.below (h : Sl w B A xs) (hb : Below B w w') : Sl w' B A xs := h.keep fun _ hp => hb.cell hp
theorem Sl.drew (h : Sl w B A xs) : Sl w.drew B A xs := h
theorem Sl.alloc (h : Sl w B A xs) (hB : B ≤ w.heap.size) (o : Obj) : Sl (w.alloc o) B A xs := h.keep fun p hp => World.cell?_alloc_lt w o p (by omega)
theorem Sl.setCell (h : Sl w B A xs) {p : Addr} (hp : B ≤ p.block) (u : Value) : Sl (w.setCell p u) B A xs :=
  h.keep fun q hq => World.cell?_setCell_other w p q u (fun e => by subst e; omega)
theorem Sl.grown (h : Sl w B A xs) {row : Option Nat} (hg : w.grownBy w' row) (hB : B ≤ w.heap.size) (hr : ∀ g, row = some g → B ≤ g) : Sl w' B A xs :=
  h.keep fun p hp => World.cell?_of_block (hg.block p.block (by omega) (fun e => by have := hr _ e.symm; omega))
/-- Inside a round. -/
theorem Sl.at_ (h : Sl w B A (B8 bs)) {k : Nat} (hk : k < bs.length) : ∃ b o, A = some ⟨b, o, none⟩ ∧ b < B ∧ ∀ j (h : j < bs.length), w.cell? ⟨b, o + j, none⟩ = some (.int .u8 (bs[j].toNat : Int)) := by
  obtain ⟨b, o, e, hb, hc⟩ := h (by simp; omega)
  exact ⟨b, o, e, hb, fun j hj => by rw [hc j (by simpa using hj), B8_get]⟩
theorem Sl.cut (h : Sl w B A xs) {k m cap : Nat} (hk : k + m ≤ xs.length) (hc : xs.length ≤ cap) :
    Sl w B (if cap = k then A else A.map (·.add k)) ((xs.drop k).take m) := fun hn => by
  have hm : 0 < m ∧ k < xs.length := by simp at hn; omega
  obtain ⟨b, o, rfl, hb, hcell⟩ := h (by omega)
  rw [if_neg (by omega)]
  refine ⟨b, o + k, by simp [add_lit'], hb, fun j hj => ?_⟩
  have := hcell (k + j) (by simp at hj; omega)
  rw [Nat.add_assoc, this]
  simp
theorem Sl.take (h : Sl w B A xs) (n : Nat) : Sl w B A (xs.take n) := fun hn => by
  obtain ⟨b, o, rfl, hb, hcell⟩ := h (by simp at hn; omega)
  exact ⟨b, o, rfl, hb, fun j hj => by rw [hcell j (by simp at hj; omega)]; simp⟩
end

/-- The slice value v holds xs (elements of one cell, of type E) and may be appended to: it has no room at all, or it is the head of a row of the call's own (from block 'base' on). -/
def Ow (w : World) (base : Nat) (E : TypeId) (v : Value) (xs : List Value) : Prop :=
  ∃ A c, v = .slice A xs.length c ∧ xs.length ≤ c ∧ c ≤ maxLen ∧
    (0 < c → ∃ g cur, A = some ⟨g, 0, none⟩ ∧ base ≤ g ∧ w.heap[g]? = some (.cells cur E (0, 0)) ∧ c ≤ cur.size ∧ cur.toList.take xs.length = xs)

/-- The block that an append to v may write. -/
def rowOf : Value → Option Nat
  | .slice (some a) _ c => if c = 0 then none else some a.block
  | _ => none

section
variable {w w' : World} {base E : Nat} {v : Value} {xs : List Value} {A : Option Addr} {n c : Nat}
theorem Ow.nil_ (w : World) (base : Nat) (E : TypeId) (A : Option Addr) : Ow w base E (.slice A 0 0) [] := ⟨A, 0, rfl, by simp, by simp, fun h => absurd h (by omega)⟩
theorem Ow.len (h : Ow w base E (.slice A n c) xs) : n = xs.length ∧ n ≤ c ∧ c ≤ maxLen := by
  obtain ⟨A', c', e, h1, h2, _⟩ := h
  injection e with e1 e2 e3; subst e1 e2 e3; exact ⟨rfl, h1, h2⟩
theorem Ow.row (h : Ow w base E v xs) : ∀ g, rowOf v = some g → base ≤ g ∧ g < w.heap.size := by
  obtain ⟨A, c, rfl, h1, h2, h3⟩ := h
  intro g hg
  cases A with
  | none => simp [rowOf] at hg
  | some a =>
    by_cases hc : c = 0
    · simp [rowOf, hc] at hg
    · obtain ⟨g', cur, e, hb, hh, _⟩ := h3 (by omega)
      injection e with e; subst e
      simp [rowOf, hc] at hg; subst hg
      exact ⟨hb, (Array.getElem?_eq_some_iff.1 hh).1⟩
theorem Ow.kept {row : Option Nat} (h : Ow w base E v xs) (hg : w.grownBy w' row) (hne : ∀ g, rowOf v = some g → row ≠ some g) : Ow w' base E v xs := by
  obtain ⟨A, c, rfl, h1, h2, h3⟩ := h
  refine ⟨A, c, rfl, h1, h2, fun hc => ?_⟩
  obtain ⟨g', cur, rfl, hb, hh, r⟩ := h3 hc
  refine ⟨g', cur, rfl, hb, ?_, r⟩
  rw [hg.block g' (Array.getElem?_eq_some_iff.1 hh).1 (fun e => hne g' (by simp [rowOf]; omega) e.symm)]
  exact hh
theorem Ow.alloc (h : Ow w base E v xs) (o : Obj) : Ow (w.alloc o) base E v xs := h.kept (World.grownBy_alloc w o none) (by simp)
theorem Ow.drew (h : Ow w base E v xs) : Ow w.drew base E v xs := h
theorem Ow.mono {base' : Nat} (h : Ow w base E v xs) (hb : base' ≤ base) : Ow w base' E v xs := by
  obtain ⟨A, c, rfl, h1, h2, h3⟩ := h
  exact ⟨A, c, rfl, h1, h2, fun hc => let ⟨g, cur, e, hg, r⟩ := h3 hc; ⟨g, cur, e, by omega, r⟩⟩
theorem Ow.setCell (h : Ow w base E v xs) {p : Addr} (hp : ∀ g, rowOf v = some g → p.block ≠ g) (u : Value) : Ow (w.setCell p u) base E v xs := by
  obtain ⟨A, c, rfl, h1, h2, h3⟩ := h
  refine ⟨A, c, rfl, h1, h2, fun hc => ?_⟩
  obtain ⟨g', cur, rfl, hb, hh, r⟩ := h3 hc
  refine ⟨g', cur, rfl, hb, ?_, r⟩
  rw [Below.heap_setCell w p u g' (fun e => hp g' (by simp [rowOf]; omega) e.symm)]
  exact hh
theorem Ow.below {B : Nat} (h : Ow w base E v xs) (hb : Below B w w') (hB : w.heap.size ≤ B) : Ow w' base E v xs := by
  obtain ⟨A, c, rfl, h1, h2, h3⟩ := h
  refine ⟨A, c, rfl, h1, h2, fun hc => ?_⟩
  obtain ⟨g', cur, rfl, hbg, hh, r⟩ := h3 hc
  refine ⟨g', cur, rfl, hbg, ?_, r⟩
  rw [hb.block g' (by have := (Array.getElem?_eq_some_iff.1 hh).1; omega)]
  exact hh
theorem Ow.sl (h : Ow w base E (.slice A n c) xs) : Sl w w.heap.size A xs := fun hn => by
  obtain ⟨A', c', e, h1, h2, h3⟩ := h
  injection e with e1 e2 e3; subst e1 e2 e3
  obtain ⟨g, cur, rfl, hb, hh, hs, ht⟩ := h3 (by omega)
  refine ⟨g, 0, rfl, (Array.getElem?_eq_some_iff.1 hh).1, fun j hj => ?_⟩
  rw [Nat.zero_add, cell_of_row w g j cur E (0, 0) hh]
  have hjc : j < cur.size := by omega
  rw [Array.getElem?_eq_getElem hjc]
  congr 1
  have : xs[j]? = (cur.toList.take xs.length)[j]? := by rw [ht]
  rw [List.getElem?_take, if_pos hj, List.getElem?_eq_getElem hj] at this
  rw [show cur.toList[j]? = cur[j]? by simp, Array.getElem?_eq_getElem hjc] at this
  injection this with this; exact this.symm
theorem Ow.of_row {cap : Nat} (cur : Array Value) (E base : Nat) (hb : base ≤ w.heap.size) (hs : cur.size = cap) (hm : cap ≤ maxLen) (n : Nat) (hn : n ≤ cap) :
    Ow (w.alloc (.cells cur E)) base E (.slice (some ⟨w.heap.size, 0, none⟩) n cap) (cur.toList.take n) := by
  have hl : (cur.toList.take n).length = n := by simp; omega
  refine ⟨_, cap, by rw [hl], by omega, hm, fun _ => ⟨_, cur, rfl, hb, heap_alloc_new w _, by omega, by rw [hl]⟩⟩
end

section
variable {P : Program} (w : World)
theorem run_append_Own (base : Nat) (t ty E : TypeId) (i : TypeInfo) (z : Value) (bytes : Nat) (ht : P.underlying t = some (.slice E)) (hi : P.info? E = some i) (hz : i.zero = some z)
    (hsize : i.size = 1) (hby : i.bytes = bytes) (hzs : z.cells.size = 1)
    (v : Value) (xs : List Value) (hown : Ow w base E v xs)
    (B : Nat) (A : Option Addr) (m c : Nat) (news : List Value) (hr : Sl w B A news) (hm : news.length = m) (h1 : ∀ u ∈ news, u.oneCell' = true)
    (h63 : xs.length + m ≤ maxLen) (hbytes : (xs.length + m) * bytes ≤ 140737488355328) (hbase : base ≤ w.heap.size) :
    ∃ v' w', (Builtin.append_ #[t, t] ty #[v, .slice A m c]).run P w = .ok v' w' ∧ Ow w' base E v' (xs ++ news) ∧ w.grownBy w' (rowOf v) ∧
      (rowOf v' = rowOf v ∨ rowOf v' = some w.heap.size) := by
  subst hm hby
  have hsmall : xs.length + news.length ≤ 9223372036854775807 := by simp only [maxLen] at h63; omega
  obtain ⟨Av, cap, rfl, hxc, hcm, hrow⟩ := hown
  by_cases hn0 : news = []
  · subst hn0
    refine ⟨.slice Av xs.length cap, w, ?_, by simpa using ⟨Av, cap, rfl, hxc, hcm, hrow⟩, World.grownBy.refl w _, .inl rfl⟩
    cases A <;> cases Av <;> simp [Builtin.append_, run_underlying ht, sizeOf, typeInfo, hi, Builtin.lenOf, Builtin.firstCells, loadCells, loadCellsFrom, hxc, storeCells]
  have hnl : 0 < news.length := List.length_pos_iff.2 hn0
  obtain ⟨b, o, rfl, _, hcell⟩ := hr hnl
  have hnews : ∀ j u, news[j]? = some u → w.cell? ((⟨b, o, none⟩ : Addr).add j) = some u := by
    intro j u hu
    obtain ⟨hj, e⟩ := List.getElem?_eq_some_iff.1 hu
    rw [add_lit', hcell j hj, e]
  have grown : ∀ (old : Nat), old < xs.length + news.length → 
      Ow (w.drew.alloc (.cells (xs.toArray ++ news.toArray ++ Builtin.zeroCells z.cells (grownCap w (xs.length + news.length) old E - (xs.length + news.length))) E)) base E
        (.slice (some ⟨w.heap.size, 0, none⟩) (xs.length + news.length) (grownCap w (xs.length + news.length) old E)) (xs ++ news) ∧
      (∀ row, w.grownBy (w.drew.alloc (.cells (xs.toArray ++ news.toArray ++ Builtin.zeroCells z.cells (grownCap w (xs.length + news.length) old E - (xs.length + news.length))) E)) row) ∧
      rowOf (.slice (some ⟨w.heap.size, 0, none⟩) (xs.length + news.length) (grownCap w (xs.length + news.length) old E)) = some w.heap.size := by
    intro old ho
    have hge := grownCap_ge w (xs.length + news.length) old E
    have hcm := grownCap_le_maxLen w (xs.length + news.length) old E h63
    refine ⟨?_, fun row => ⟨rfl, rfl, rfl, by simp, fun k hk _ => Below.heap_alloc w.drew _ k hk⟩, by simp only [rowOf]; rw [if_neg (by omega)]⟩
    have := Ow.of_row (w := w.drew) (cap := grownCap w (xs.length + news.length) old E)
      (xs.toArray ++ news.toArray ++ Builtin.zeroCells z.cells (grownCap w (xs.length + news.length) old E - (xs.length + news.length))) E base hbase
      (by simp [size_zeroCells, hzs]; omega) hcm (xs.length + news.length) hge
    have e : (xs.toArray ++ news.toArray ++ Builtin.zeroCells z.cells (grownCap w (xs.length + news.length) old E - (xs.length + news.length))).toList.take (xs.length + news.length) = xs ++ news := by
      simp [List.take_append, List.take_of_length_le]
    rw [e] at this
    exact this
  by_cases hc0 : cap = 0
  · subst hc0
    have hx : xs = [] := List.eq_nil_of_length_eq_zero (by omega)
    subst hx
    have hfit : Builtin.nextslicecap news.length 0 * i.bytes ≤ 281474976710656 := by rw [nextslicecap_zero hnl]; simp at hbytes; omega
    have hgr := grown 0 (by simpa using hnl)
    cases Av with
    | none =>
      have hr := run_append_nil (P := P) w t ty E i z ht hi hz ⟨b, o, none⟩ news.length c news (by simp [hsize]) hnews hnl (by simp at hsmall; omega) (by simp at hbytes; omega)
      simp only [List.length_nil, Nat.zero_add, List.nil_append, Array.empty_append] at hgr ⊢
      exact ⟨_, _, hr, hgr.1, hgr.2.1 _, .inr hgr.2.2⟩
    | some a =>
      have hr := run_append_grow (P := P) w t ty E i z ht hi hz a 0 0 [] (by simp) (by simp) ⟨b, o, none⟩ news.length c news (by simp [hsize]) hnews (by omega) (by simp at hsmall ⊢; omega) (by simpa using hfit)
      simp only [List.length_nil, Nat.zero_add, List.nil_append, Array.empty_append] at hgr hr ⊢
      exact ⟨_, _, hr, hgr.1, hgr.2.1 _, .inr hgr.2.2⟩
  · obtain ⟨g, cur, rfl, hbg, hg, hcs, htake⟩ := hrow (by omega)
    have hrw : rowOf (.slice (some ⟨g, 0, none⟩) xs.length cap) = some g := by simp [rowOf, hc0]
    by_cases hroom : xs.length + news.length ≤ cap
    · have hr := run_append_room (P := P) w t ty E i ht hi g xs.length cap cur hg ⟨b, o, none⟩ news.length c news (by simp [hsize]) hnews h1 hroom (by rw [hsize]; omega)
      refine ⟨_, _, hr, ⟨_, cap, by simp, by simp; omega, hcm, fun _ => ⟨g, _, rfl, hbg, setRow_heap w g cur _ E _ hg, ?_, ?_⟩⟩, ⟨rfl, rfl, rfl, by simp, fun k hk hk2 => setRow_other w g k _ (fun e => hk2 (by rw [hrw, e]))⟩, .inl (by simp [rowOf, hc0])⟩
      · simp [hsize]; omega
      · simp only [hsize, Nat.mul_one, htake]
        simp [List.take_append, List.take_of_length_le]
    · have holds : ∀ j u, xs[j]? = some u → w.cell? ((⟨g, 0, none⟩ : Addr).add j) = some u := by
        intro j u hu
        obtain ⟨hj, e⟩ := List.getElem?_eq_some_iff.1 hu
        have hjc : j < cur.size := by omega
        rw [add_lit', Nat.zero_add, cell_of_row w g j cur E (0, 0) hg]
        rw [← htake, List.getElem?_take, if_pos hj] at hu
        simpa using hu
      have hr := run_append_grow (P := P) w t ty E i z ht hi hz ⟨g, 0, none⟩ xs.length cap xs (by simp [hsize]) holds ⟨b, o, none⟩ news.length c news (by simp [hsize]) hnews (by omega) (by omega) (growslice_fits (by omega) hbytes)
      have hgr := grown cap (by omega)
      exact ⟨_, _, hr, hgr.1, hgr.2.1 _, .inr hgr.2.2⟩
end

section
variable {P : Program} (w : World)
/-- 'string(b)'. -/
theorem run_str_Sl (src dst E : TypeId) (hs : P.underlying src = some (.slice E)) (he : P.underlying E = some (.int .u8)) (hd : P.underlying dst = some .string)
    (B : Nat) (A : Option Addr) (c : Nat) (bs : List UInt8) (h : Sl w B A (B8 bs)) :
    (convert src dst (.slice A bs.length c)).run P w = .ok (.string ⟨bs.toArray⟩) w := by
  by_cases hb : bs = []
  · subst hb
    cases A with
    | none => exact run_convert_bytes_nil w src E hs he _ c dst hd
    | some a => exact run_convert_bytes_back w src dst E a c [] hs he hd (fun j hj => absurd hj (by simp))
  · obtain ⟨b, o, rfl, _, hc⟩ := h.at_ (k := 0) (List.length_pos_iff.2 hb)
    exact run_convert_bytes_back w src dst E _ c bs hs he hd (fun j hj => by rw [add_lit']; exact hc j hj)
end

section
variable {P : Program}
/-- 'make([]T, n, c)', elements of one cell. -/
theorem run_makeN (t e : TypeId) (i : TypeInfo) (z : Value) (bytes : Nat) (ht : P.underlying t = some (.slice e)) (hi : P.info? e = some i) (hz : i.zero = some z) (hsize : i.size = 1) (hby : i.bytes = bytes) (hzs : z.cells = #[z])
    (kl kc : IntKind) (l c : Int) (n cap : Nat) (hl : l = n) (hc : c = cap) (hnc : n ≤ cap) (hb : bytes * cap ≤ 281474976710656) (hm : cap ≤ maxLen) (W : World) :
    (Instr.makeSlice t (.int kl l) (.int kc c)).run P W = .ok (.slice (some ⟨W.heap.size, 0, none⟩) n cap) (W.alloc (.cells (Array.replicate cap z) e)) := by
  subst hl hc hby
  have hm' : cap ≤ 9223372036854775807 := by simp only [maxLen] at hm; omega
  have hb' : (i.bytes : Int) * (cap : Int) ≤ 281474976710656 := by
    have h : ((i.bytes * cap : Nat) : Int) ≤ 281474976710656 := by omega
    rwa [Int.natCast_mul] at h
  have hr := run_make (P := P) W t e i z ht hi hz kl kc n cap (by omega) (by omega) hb' (by omega)
  simp only [Int.toNat_natCast] at hr
  rw [hr, hsize, hzs]
  have : madeCells #[z] (cap * 1) = Array.replicate cap z := by
    apply Array.ext'
    rw [Nat.mul_one, toList_madeCells_one]; simp
  rw [this]
end

/-- Row g has n cells of type E; its first k are those of xs. -/
def Fill (w : World) (g : Nat) (E : TypeId) (n : Nat) (xs : List Value) (k : Nat) : Prop :=
  ∃ cur, w.heap[g]? = some (.cells cur E (0, 0)) ∧ cur.size = n ∧ ∀ j, j < k → cur[j]? = xs[j]?
section
variable {w w' : World} {g E n k j : Nat} {xs : List Value} {v : Value}
theorem Fill.new (w : World) (E : TypeId) (cur : Array Value) (xs : List Value) : Fill (w.alloc (.cells cur E)) w.heap.size E cur.size xs 0 := ⟨cur, heap_alloc_new w _, rfl, by omega⟩
theorem Fill.new' (w : World) (E : TypeId) (n : Nat) (z : Value) (xs : List Value) : Fill (w.alloc (.cells (Array.replicate n z) E)) w.heap.size E n xs 0 := ⟨_, heap_alloc_new w _, by simp, by omega⟩
theorem Fill.cell (h : Fill w g E n xs k) (hj : j < n) : ∃ v, w.cell? ⟨g, j, none⟩ = some v := by
  obtain ⟨cur, hh, hs, hc⟩ := h
  exact ⟨_, by rw [cell_of_row w g j cur _ _ hh, Array.getElem?_eq_getElem (show j < cur.size by omega)]⟩
theorem Fill.known (h : Fill w g E n xs k) (hj : j < k) (hx : xs[j]? = some v) : w.cell? ⟨g, j, none⟩ = some v := by
  obtain ⟨cur, hh, hs, hc⟩ := h
  rw [cell_of_row w g j cur _ _ hh, hc j hj, hx]
theorem Fill.frozen (h : Fill w g E n xs k) (j : Nat) : w.frozen? ⟨g, j, none⟩ = false := by
  obtain ⟨cur, hh, hs, hc⟩ := h
  exact frozen_of_row w g j cur _ hh
theorem Fill.set (h : Fill w g E n xs k) (hk : k < n) (hx : xs[k]? = some v) : Fill (w.setCell ⟨g, k, none⟩ v) g E n xs (k + 1) := by
  obtain ⟨cur, hh, hs, hc⟩ := h
  refine ⟨_, heap_setCell_same w g k cur _ v hh, by simpa using hs, fun j hj => ?_⟩
  rw [Array.getElem?_setIfInBounds]
  by_cases e : k = j
  · subst e; rw [if_pos rfl, if_pos (by omega), hx]
  · rw [if_neg e, hc j (by omega)]
theorem Fill.put (h : Fill w g E n xs k) (hk : k ≤ j) (u : Value) : Fill (w.setCell ⟨g, j, none⟩ u) g E n xs k := by
  obtain ⟨cur, hh, hs, hc⟩ := h
  refine ⟨_, heap_setCell_same w g j cur _ u hh, by simpa using hs, fun i hi => ?_⟩
  rw [Array.getElem?_setIfInBounds, if_neg (by omega), hc i (by omega)]
theorem Fill.far (h : Fill w g E n xs k) {p : Addr} (hp : g ≠ p.block) (u : Value) : Fill (w.setCell p u) g E n xs k := by
  obtain ⟨cur, hh, hs, hc⟩ := h
  exact ⟨cur, (Below.heap_setCell w p u g hp).trans hh, hs, hc⟩
theorem Fill.lt (h : Fill w g E n xs k) : g < w.heap.size := by
  obtain ⟨cur, hh, hs, hc⟩ := h
  exact (Array.getElem?_eq_some_iff.1 hh).1
theorem Fill.alloc (h : Fill w g E n xs k) (o : Obj) : Fill (w.alloc o) g E n xs k := by
  have hl := h.lt
  obtain ⟨cur, hh, hs, hc⟩ := h
  exact ⟨cur, (Below.heap_alloc w o g hl).trans hh, hs, hc⟩
theorem Fill.drew (h : Fill w g E n xs k) : Fill w.drew g E n xs k := h
theorem Fill.drewN (h : Fill w g E n xs k) (m : Nat) : Fill (w.drewN m) g E n xs k := h
theorem Fill.below {B : Nat} (h : Fill w g E n xs k) (hb : Below B w w') (hg : g < B) : Fill w' g E n xs k := by
  obtain ⟨cur, hh, hs, hc⟩ := h
  exact ⟨cur, (hb.block g hg).trans hh, hs, hc⟩
theorem Fill.done (h : Fill w g E n xs n) (hx : xs.length = n) : w.heap[g]? = some (.cells xs.toArray E (0, 0)) := by
  obtain ⟨cur, hh, hs, hc⟩ := h
  rw [hh]
  have : cur = xs.toArray := by
    apply Array.ext_getElem?
    intro i
    by_cases hi : i < n
    · rw [hc i hi]; simp
    · rw [Array.getElem?_eq_none (by omega)]; simp; omega
  rw [this]
end
theorem below_drewN' {B : Nat} {a w : World} (h : Below B a w) (n : Nat) : Below B a (w.drewN n) := ⟨h.os, h.tape, h.output, h.size, h.block⟩

section
variable {w w' : World} {base E n c : Nat} {v : Value} {A : Option Addr} {xs : List Value}
/-- An element of what is owned: its cell, and what a store does. -/
theorem Ow.at_ (h : Ow w base E (.slice A n c) xs) {j : Nat} (hj : j < xs.length) : ∃ g, A = some ⟨g, 0, none⟩ ∧ base ≤ g ∧ rowOf (.slice A n c) = some g ∧ w.cell? ⟨g, j, none⟩ = some xs[j] ∧ w.frozen? ⟨g, j, none⟩ = false := by
  have hsl := h.sl
  obtain ⟨A', c', e, h1, h2, h3⟩ := h
  injection e with e1 e2 e3; subst e1 e2 e3
  obtain ⟨g, cur, rfl, hb, hh, hs, ht⟩ := h3 (by omega)
  obtain ⟨b, o, e, _, hc⟩ := hsl (by omega)
  simp at e; obtain ⟨rfl, rfl⟩ := e
  exact ⟨g, rfl, hb, by simp [rowOf]; omega, by have := hc j hj; rwa [Nat.zero_add] at this, frozen_of_row w g j cur _ hh⟩
theorem Ow.store {g : Nat} (h : Ow w base E (.slice (some ⟨g, 0, none⟩) n c) xs) (j : Nat) (hc : 0 < c) (u : Value) : Ow (w.setCell ⟨g, j, none⟩ u) base E (.slice (some ⟨g, 0, none⟩) n c) (xs.set j u) := by
  obtain ⟨A', c', e, h1, h2, h3⟩ := h
  injection e with e1 e2 e3; subst e1 e2 e3
  obtain ⟨g', cur, e, hb, hh, hs, ht⟩ := h3 hc
  simp at e; subst e
  refine ⟨_, c, by rw [List.length_set], by simpa using h1, h2, fun _ => ⟨g, _, rfl, hb, heap_setCell_same w g j cur _ u hh, by simpa using hs, ?_⟩⟩
  rw [List.length_set, Array.toList_setIfInBounds, List.take_set, ht]
theorem Ow.keepsOthers {row : Option Nat} (h : Ow w base E v xs) (hg : w.grownBy w' row) (hr : row = rowOf v) : KeepsOthers w w' :=
  KeepsOthers.of_grownBy hg fun j o e ho => by
    obtain ⟨A, c, rfl, h1, h2, h3⟩ := h
    cases A with
    | none => rw [hr] at e; simp [rowOf] at e
    | some a =>
      by_cases hc : c = 0
      · rw [hr] at e; simp [rowOf, hc] at e
      · obtain ⟨g, cur, ea, _, hh, _⟩ := h3 (by omega)
        injection ea with ea; subst ea
        rw [hr] at e; simp [rowOf, hc] at e; subst e
        rw [hh] at ho; injection ho with ho; subst ho; rfl
theorem Ow.others {row : Option Nat} (h : Ow w base E v xs) (hg : w.grownBy w' row) (hr : ∀ r, row = some r → ∃ o : Obj, w.heap[r]? = some o ∧ o.isCells = false) : Ow w' base E v xs :=
  h.kept hg fun g hgr e => by
    obtain ⟨o, ho, hc⟩ := hr g e
    obtain ⟨A, c, rfl, h1, h2, h3⟩ := h
    cases A with
    | none => simp [rowOf] at hgr
    | some a =>
      by_cases hc0 : c = 0
      · simp [rowOf, hc0] at hgr
      · obtain ⟨g', cur, ea, _, hh, _⟩ := h3 (by omega)
        injection ea with ea; subst ea
        simp [rowOf, hc0] at hgr; subst hgr
        rw [hh] at ho; injection ho with ho; subst ho; cases hc
/-- A block of one known cell abides what turns no cells. -/
theorem boxed_others {b t : Nat} {row : Option Nat} (h : Boxed w b t v) (hg : w.grownBy w' row) (hr : ∀ r, row = some r → ∃ o : Obj, w.heap[r]? = some o ∧ o.isCells = false) : Boxed w' b t v :=
  h.kept hg fun e => by
    obtain ⟨o, ho, hc⟩ := hr b e.symm
    rw [show w.heap[b]? = _ from h] at ho; injection ho with ho; subst ho; cases hc
theorem boxed_drew {b t : Nat} (h : Boxed w b t v) : Boxed w.drew b t v := h
theorem boxed_far {b t : Nat} (h : Boxed w b t v) {p : Addr} (hp : b ≠ p.block) (u : Value) : Boxed (w.setCell p u) b t v := (Below.heap_setCell w p u b hp).trans h
theorem Ow.row_ne_box {b t : Nat} {u : Value} (h : Ow w base E v xs) (hb : Boxed w b t u) (hte : t ≠ E) : ∀ g, rowOf v = some g → g ≠ b := by
  obtain ⟨A, c, rfl, h1, h2, h3⟩ := h
  intro g hg e
  subst e
  cases A with
  | none => simp [rowOf] at hg
  | some a =>
    by_cases hc0 : c = 0
    · simp [rowOf, hc0] at hg
    · obtain ⟨g', cur, ea, _, hh, _⟩ := h3 (by omega)
      injection ea with ea; subst ea
      simp [rowOf, hc0] at hg; subst hg
      rw [show w.heap[g']? = _ from hb] at hh; injection hh with hh; injection hh with _ ht; exact hte ht
end

/-- A slice type and its element type, one cell each. -/
structure El (P : Program) (t E : TypeId) (z : Value) (bytes : Nat) : Prop where
  und : P.underlying t = some (.slice E)
  info : (P.info? E).map (fun i => (i.zero, i.size, i.bytes)) = some (some z, 1, bytes)
  zc : z.cells = #[z]
section
variable {P : Program} {w : World} {base t E : Nat} {z : Value} {bytes : Nat} {v : Value} {xs : List Value} {B : Nat} {A : Option Addr} {m c : Nat} {news : List Value}
theorem El.append (hE : El P t E z bytes) (ty : TypeId) (hown : Ow w base E v xs) (hr : Sl w B A news) (hm : news.length = m) (h1 : ∀ u ∈ news, u.oneCell' = true)
    (h63 : xs.length + m ≤ maxLen) (hbytes : (xs.length + m) * bytes ≤ 140737488355328) (hbase : base ≤ w.heap.size) :
    ∃ v' w', (Builtin.append_ #[t, t] ty #[v, .slice A m c]).run P w = .ok v' w' ∧ Ow w' base E v' (xs ++ news) ∧ w.grownBy w' (rowOf v) ∧ (rowOf v' = rowOf v ∨ rowOf v' = some w.heap.size) := by
  obtain ⟨i0, hi, hz0, hz1, hz2⟩ := info_parts hE.info
  exact run_append_Own w base t ty E i0 z bytes hE.und hi hz0 hz1 hz2 (by rw [hE.zc]; rfl) v xs hown B A m c news hr hm h1 h63 hbytes hbase
/-- append at a plain operation. -/
theorem wp_append_Ow {o : Oper} {a : Act} {K : Act → World → Prop} {Q : Exit → Act → World → Prop} (hE : El P t E z bytes) (s x : Operand)
    (ho : o.op = .call { callee := .builtin .append, args := #[s, x], argTypes := #[t, t] }) (hs : a.eval s = v) (hown : Ow w base E v xs) (hx : a.eval x = .slice A m c) (hr : Sl w B A news) (hm : news.length = m) (h1 : ∀ u ∈ news, u.oneCell' = true)
    (h63 : xs.length + m ≤ maxLen) (hbytes : (xs.length + m) * bytes ≤ 140737488355328) (hbase : base ≤ w.heap.size)
    (h : ∀ v' w', Ow w' base E v' (xs ++ news) → w.grownBy w' (rowOf v) → (rowOf v' = rowOf v ∨ rowOf v' = some w.heap.size) → K (a.put o.dst v') w') : o.wp P a w K Q := by
  obtain ⟨v', w', hrun, h2, h3, h4⟩ := hE.append (c := c) o.type hown hr hm h1 h63 hbytes hbase
  unfold Oper.wp execOp
  simp only [ho, resolve, invoke, builtin, Sem.run_bind, Sem.run_pure, Result.andThen_ok, List.map_toArray, List.map_cons, List.map_nil, hs, hx, hrun]
  exact h v' w' h2 h3 h4
theorem wpIn_append_Ow {F : Fence} {n : Nat} (hF : ∀ k, F.fn k) {o : Oper} {a : Act} {K : Act → World → Prop} {Q : Exit → Act → World → Prop} (hE : El P t E z bytes) (s x : Operand)
    (ho : o.op = .call { callee := .builtin .append, args := #[s, x], argTypes := #[t, t] }) (hs : a.eval s = v) (hown : Ow w base E v xs) (hx : a.eval x = .slice A m c) (hr : Sl w B A news) (hm : news.length = m) (h1 : ∀ u ∈ news, u.oneCell' = true)
    (h63 : xs.length + m ≤ maxLen) (hbytes : (xs.length + m) * bytes ≤ 140737488355328) (hbase : base ≤ w.heap.size)
    (h : ∀ v' w', Ow w' base E v' (xs ++ news) → w.grownBy w' (rowOf v) → (rowOf v' = rowOf v ∨ rowOf v' = some w.heap.size) → K (a.put o.dst v') w') : o.wpIn F n P a w K Q := by
  obtain ⟨v', w', hrun, h2, h3, h4⟩ := hE.append (c := c) o.type hown hr hm h1 h63 hbytes hbase
  refine ⟨fun f _ => hF f, ?_⟩
  rw [Oper.semAt_eq _ _ _ (by simp [ho])]
  unfold execOp
  simp only [ho, resolve, invoke, builtin, Sem.run_bind, Sem.run_pure, Result.andThen_ok, List.map_toArray, List.map_cons, List.map_nil, hs, hx, hrun]
  exact h v' w' h2 h3 h4
theorem wpList_append_Ow {ops : Array Oper} {rest : List Oper} {o : Oper} {a : Act} {Q : Exit → Act → World → Prop} (hE : El P t E z bytes) (hgd : o.guard = none) (s x : Operand)
    (ho : o.op = .call { callee := .builtin .append, args := #[s, x], argTypes := #[t, t] }) (hs : a.eval s = v) (hown : Ow w base E v xs) (hx : a.eval x = .slice A m c) (hr : Sl w B A news) (hm : news.length = m) (h1 : ∀ u ∈ news, u.oneCell' = true)
    (h63 : xs.length + m ≤ maxLen) (hbytes : (xs.length + m) * bytes ≤ 140737488355328) (hbase : base ≤ w.heap.size)
    (h : ∀ v' w', Ow w' base E v' (xs ++ news) → w.grownBy w' (rowOf v) → (rowOf v' = rowOf v ∨ rowOf v' = some w.heap.size) → wpList P ops Q rest (a.put o.dst v') w') : wpList P ops Q (o :: rest) a w :=
  wpList_plain hgd fun _ hK => wp_append_Ow hE s x ho hs hown hx hr hm h1 h63 hbytes hbase fun v' w' h2 h3 h4 => hK _ _ (h v' w' h2 h3 h4)
/-- The one cell that 'append(s, x)' lays first. -/
theorem Sl.one (w : World) (u : Value) (E : TypeId) : Sl (w.alloc (.cells #[u] E)) (w.heap.size + 1) (some ⟨w.heap.size, 0, none⟩) [u] := fun _ =>
  ⟨w.heap.size, 0, rfl, by omega, fun j hj => by
    have : j = 0 := by simp at hj; omega
    subst this
    simp⟩
end

section
variable {P : Program} {w : World} {dT sT E : Nat} {z : Value} {bytes g off dLen dCap sLen sCap B : Nat} {A : Option Addr} {cur : Array Value} {t : TypeId} {cs : List Value}
theorem run_copy_Sl (hE : El P dT E z bytes) (ty : TypeId) (hg : w.heap[g]? = some (.cells cur t (0, 0))) (hn : cs.length = Nat.min sLen dLen) (hsrc : Sl w B A cs) (hfit : off + cs.length ≤ cur.size) (h1 : ∀ v ∈ cs, v.oneCell' = true) :
    (Builtin.copy_ #[dT, sT] ty #[.slice (some ⟨g, off, none⟩) dLen dCap, .slice A sLen sCap]).run P w = .ok (.int .i64 (cs.length : Int)) (w.setRow g (cur.toList.take off ++ cs ++ cur.toList.drop (off + cs.length)).toArray) := by
  obtain ⟨i0, hi, hz0, hz1, hz2⟩ := info_parts hE.info
  have hsz : (P.info? E).map (·.size) = some 1 := by rw [hi]; simp [hz1]
  by_cases h0 : cs.length = 0
  · obtain rfl : cs = [] := List.eq_nil_of_length_eq_zero h0
    rw [run_copy_none (P := P) w dT sT ty E (some ⟨g, off, none⟩) A dLen dCap sLen sCap hE.und hsz (by simpa using hn.symm)]
    simp only [List.append_nil, List.length_nil, Nat.add_zero, List.take_append_drop]
    rw [show cur.toList.toArray = cur from rfl, setRow_self w g cur t _ hg]
    rfl
  · obtain ⟨b, o, rfl, _, hc⟩ := hsrc (by omega)
    have hrun := run_copy_row (P := P) w dT sT ty E g off dLen dCap ⟨b, o, none⟩ sLen sCap cur t cs hE.und hsz hg hn (fun j v hj => by
      obtain ⟨hj', e⟩ := List.getElem?_eq_some_iff.1 hj
      rw [add_lit', hc j hj', e]) hfit h1
    rw [hrun]
    rfl
theorem wp_copy_Sl {o : Oper} {a : Act} {K : Act → World → Prop} {Q : Exit → Act → World → Prop} (hE : El P dT E z bytes) (d s : Operand)
    (ho : o.op = .call { callee := .builtin .copy, args := #[d, s], argTypes := #[dT, sT] }) (hd : a.eval d = .slice (some ⟨g, off, none⟩) dLen dCap) (hs : a.eval s = .slice A sLen sCap)
    (hg : w.heap[g]? = some (.cells cur t (0, 0))) (hn : cs.length = Nat.min sLen dLen) (hsrc : Sl w B A cs) (hfit : off + cs.length ≤ cur.size) (h1 : ∀ v ∈ cs, v.oneCell' = true)
    (h : K (a.put o.dst (.int .i64 (cs.length : Int))) (w.setRow g (cur.toList.take off ++ cs ++ cur.toList.drop (off + cs.length)).toArray)) : o.wp P a w K Q := by
  have hrun := run_copy_Sl (sT := sT) (dCap := dCap) (sCap := sCap) hE o.type hg hn hsrc hfit h1
  unfold Oper.wp execOp
  simp only [ho, resolve, invoke, builtin, Sem.run_bind, Sem.run_pure, Result.andThen_ok, List.map_toArray, List.map_cons, List.map_nil, hd, hs, hrun]
  exact h
theorem wpList_copy_Sl {ops : Array Oper} {rest : List Oper} {o : Oper} {a : Act} {Q : Exit → Act → World → Prop} (hE : El P dT E z bytes) (hgd : o.guard = none) (d s : Operand)
    (ho : o.op = .call { callee := .builtin .copy, args := #[d, s], argTypes := #[dT, sT] }) (hd : a.eval d = .slice (some ⟨g, off, none⟩) dLen dCap) (hs : a.eval s = .slice A sLen sCap)
    (hg : w.heap[g]? = some (.cells cur t (0, 0))) (hn : cs.length = Nat.min sLen dLen) (hsrc : Sl w B A cs) (hfit : off + cs.length ≤ cur.size) (h1 : ∀ v ∈ cs, v.oneCell' = true)
    (h : ∀ w', w' = w.setRow g (cur.toList.take off ++ cs ++ cur.toList.drop (off + cs.length)).toArray → wpList P ops Q rest (a.put o.dst (.int .i64 (cs.length : Int))) w') : wpList P ops Q (o :: rest) a w :=
  wpList_plain hgd fun _ hK => wp_copy_Sl hE d s ho hd hs hg hn hsrc hfit h1 (hK _ _ (h _ rfl))
end
theorem Fill.splice {w : World} {g E n k m : Nat} {xs : List Value} {cur : Array Value} (hg : w.heap[g]? = some (.cells cur E (0, 0))) (hs : cur.size = n) (hc : ∀ j, j < k → cur[j]? = xs[j]?) (hm : k + m ≤ n) (hx : k + m ≤ xs.length) {cs : List Value} (e : cs = (xs.drop k).take m) :
    Fill (w.setRow g (cur.toList.take k ++ cs ++ cur.toList.drop (k + cs.length)).toArray) g E n xs (k + m) := by
  have hl : cs.length = m := by rw [e]; simp; omega
  refine ⟨_, setRow_heap w g cur _ E _ hg, by simp; omega, fun j hj => ?_⟩
  simp only [List.getElem?_toArray]
  by_cases h1 : j < k
  · rw [List.append_assoc, List.getElem?_append_left (by simp; omega), List.getElem?_take, if_pos h1, Array.getElem?_toList]; exact hc j h1
  · rw [List.append_assoc, List.getElem?_append_right (by simp; omega), List.getElem?_append_left (by simp; omega), e, List.getElem?_take, List.getElem?_drop]
    simp only [List.length_take, Array.length_toList]
    rw [if_pos (by omega)]; congr 1; omega
theorem below_setRow' {B : Nat} {w0 w : World} {g : Nat} (hb : Below B w0 w) (hBg : B ≤ g) (cs : Array Value) : Below B w0 (w.setRow g cs) := below_setRow hb hBg cs
end Go.Proofs.YtkiigonikeeikaaGreatDoor

/-! The iterator that slices.Backward of a []byte hands back: its contract, for whatever loop body keeps what lay below. -/
namespace Go.Proofs.YtkiigonikeeikaaGreatDoor
open Go.RowKit Go.Shelf
attribute [local go_sem] Oper.semAt_some

/-- What comes of bs in k rounds from the end: places and bytes. -/
def bwd (bs : List UInt8) (k : Nat) : List (Nat × UInt8) := (List.range k).map fun j => (bs.length - 1 - j, bs[bs.length - 1 - j]?.getD 0)
theorem bwd_succ (bs : List UInt8) (k : Nat) : bwd bs (k + 1) = bwd bs k ++ [(bs.length - 1 - k, bs[bs.length - 1 - k]?.getD 0)] := by simp [bwd, List.range_succ]
theorem bwd_length (bs : List UInt8) (k : Nat) : (bwd bs k).length = k := by simp [bwd]
theorem bwd_bytes (bs : List UInt8) : (bwd bs bs.length).map (·.2) = bs.reverse := by
  apply List.ext_getElem
  · simp [bwd]
  · intro i h1 h2
    have : bs.length - 1 - i < bs.length := by simp [bwd] at h1; omega
    simp [bwd, this]

/-- What a loop's body must keep for an iterator that looks into the box Bs and at what lies below n₀. -/
def Keep (n₀ Bs : Nat) (W W' : World) : Prop := Below n₀ W W' ∧ W'.heap[Bs]? = W.heap[Bs]?
theorem keepK_t {n₀ Bs : Nat} {A B C : World} (h : Keep n₀ Bs A B) (k : Keep n₀ Bs B C) : Keep n₀ Bs A C := ⟨h.1.trans k.1, k.2.trans h.2⟩
theorem keepK_b {n₀ Bs : Nat} {w : World} (hn : n₀ ≤ w.heap.size) (hb : Bs < w.heap.size) (W : World) (l : Nat) (o o' : Obj) (hl : w.heap.size ≤ l) (h : W.heap[l]? = some o) (hc : o.isCells = false) (hw : o.isWalk = false) : Keep n₀ Bs W (W.putObj l o') :=
  ⟨belowK_b hn W l o o' hl h hc hw, World.putObj_heap_other (by omega)⟩
theorem Keep.refl (n₀ Bs : Nat) (W : World) : Keep n₀ Bs W W := ⟨Below.refl _ _, rfl⟩
theorem Keep.cell {n₀ Bs : Nat} {W W' : World} (h : Keep n₀ Bs W W') {v : Value} (hc : W.cell? ⟨Bs, 0, none⟩ = some v) : W'.cell? ⟨Bs, 0, none⟩ = some v := (World.cell?_of_block (a := ⟨Bs, 0, none⟩) h.2).trans hc

/-- The same, and the row itself that the iterator reads. -/
def Keep3 (n₀ Bs gA : Nat) (W W' : World) : Prop := Keep n₀ Bs W W' ∧ W'.heap[gA]? = W.heap[gA]?
theorem Keep3.refl (n₀ Bs gA : Nat) (W : World) : Keep3 n₀ Bs gA W W := ⟨Keep.refl _ _ _, rfl⟩
theorem Keep3.trans {n₀ Bs gA : Nat} {a b c : World} (h : Keep3 n₀ Bs gA a b) (k : Keep3 n₀ Bs gA b c) : Keep3 n₀ Bs gA a c := ⟨keepK_t h.1 k.1, k.2.trans h.2⟩
theorem Keep3.b {n₀ Bs gA : Nat} {w : World} (hn : n₀ ≤ w.heap.size) (hb : Bs < w.heap.size) (hA : gA < w.heap.size) (W : World) (l : Nat) (o o' : Obj) (hl : w.heap.size ≤ l) (h : W.heap[l]? = some o) (hc : o.isCells = false) (hw : o.isWalk = false) : Keep3 n₀ Bs gA W (W.putObj l o') :=
  ⟨keepK_b hn hb W l o o' hl h hc hw, World.putObj_heap_other (by omega)⟩
theorem Sl.keep3 {n₀ Bs gA N : Nat} {A : Option Addr} {W W' : World} {xs : List Value} (h : Sl W N A xs) (hA : 0 < xs.length → ∀ a, A = some a → a.block = gA) (k : Keep3 n₀ Bs gA W W') : Sl W' N A xs := fun hn => by
  obtain ⟨b, o, e, hb, hc⟩ := h hn
  have hk := k.2
  rw [← hA hn _ e] at hk
  exact ⟨b, o, e, hb, fun j hj => (World.cell?_of_block (a := ⟨b, o + j, none⟩) hk).trans (hc j hj)⟩
/-- The row of a slice of one's own, for such an iterator. -/
theorem Ow.rowAt {w : World} {base E n c : Nat} {A : Option Addr} {xs : List Value} (h : Ow w base E (.slice A n c) xs) (hlt : base < w.heap.size + 1) : ∃ gA, base ≤ gA ∧ gA ≤ w.heap.size ∧ (0 < xs.length → ∀ a, A = some a → a.block = gA) := by
  obtain ⟨A', c', e, h1, h2, h3⟩ := h
  injection e with e1 e2 e3; subst e1 e2 e3
  by_cases hc : 0 < c
  · obtain ⟨g, cur, rfl, hb, hh, _⟩ := h3 hc
    exact ⟨g, hb, by have := (Array.getElem?_eq_some_iff.1 hh).1; omega, fun _ a ha => by cases ha; rfl⟩
  · exact ⟨w.heap.size, by omega, by omega, fun hn => by omega⟩

set_option maxRecDepth 100000 in
set_option maxHeartbeats 2000000 in
theorem bwdB1_in (F : Fence) (hF : ∀ k, F.fn k) (hro : F.round = none) (n : Nat) (hn : 1 ≤ n) (l Bs N : Nat) (K : World → World → Prop) (hKr : ∀ W, K W W) (hKt : ∀ {A B C : World}, K A B → K B C → K A C) (hKc : ∀ {W W' : World}, K W W' → W'.heap[Bs]? = W.heap[Bs]?) (A : Option Addr) (cap : Nat) (bs : List UInt8) (hreach : bs.length ≤ 140737488351232) {α : Type} (enc : α → Nat × UInt8) (hen : ∀ j (h : j < bs.length), ∃ x, enc x = (j, bs[j])) (J Jx : List α → World → Prop)
    (hY : ∀ pre x W, J pre W → pre.length < bs.length → YieldAt F (n - 1) Tryz.prog l #[Value.int .i64 ((enc x).1 : Int), .int .u8 ((enc x).2.toNat : Int)] W fun e W' =>
      (e = .returned (.bool true) ∧ J (pre ++ [x]) W' ∧ K W W') ∨ (e = .returned (.bool false) ∧ Jx (pre ++ [x]) W'))
    (W : World) (hBs : W.cell? ⟨Bs, 0, none⟩ = some (.slice A bs.length cap)) (hs : ∀ W', K W W' → Sl W' N A (B8 bs)) (h0 : J [] W) :
    CallsIn F n Tryz.prog 89 #[.func (.yield l) #[] #[], .pointer (some ⟨Bs, 0, none⟩)] W fun e W' => (∃ v, e = .returned v) ∧
      ((∃ ys, ys.map enc = bwd bs bs.length ∧ J ys W') ∨ (∃ pre, (∃ k, k ≤ bs.length ∧ pre.map enc = bwd bs k) ∧ Jx pre W')) := by
  refine callsIn_of_wp Tryz.func89 rfl (hF _) ?_ hro
  simp only [Tryz.ntmps89, List.size_toArray, List.length_cons, List.length_nil, Nat.reduceAdd, Nat.reduceSub, Array.replicate_succ, Array.replicate_zero, List.push_toArray, List.append_toArray, List.nil_append, List.cons_append]
  gi_wp2
  gi_loopw [3] (fun i wr => ∃ k : Nat, k ≤ bs.length ∧ i = .int .i64 ((bs.length : Int) - 1 - (k : Int)) ∧ (∃ pre, pre.map enc = bwd bs k ∧ J pre wr) ∧ K W wr)
    (fun i _ => (intOf i + 1).toNat)
  case atStart => exact ⟨0, Nat.zero_le _, by go_num, ⟨[], rfl, h0⟩, hKr _⟩
  case round =>
    obtain ⟨k, hk, rfl, ⟨pre, hpre, hJs⟩, hnx⟩ := hrel
    have Hpre := Lib.hid hpre
    have hpl : pre.length = k := by have := congrArg List.length hpre; simpa [bwd_length] using this
    clear hpre
    by_cases hlt : k < bs.length
    · obtain ⟨m, hm⟩ : ∃ m, m = bs.length - 1 - k := ⟨_, rfl⟩
      have hm1 : m < bs.length := by omega
      have hmI : (bs.length : Int) - 1 - (k : Int) = (m : Int) := by omega
      obtain ⟨b, o, rfl, hb, hc⟩ := (hs wr hnx).at_ (k := m) hm1
      have hcm := hc m hm1
      have hcx := (World.cell?_of_block (a := ⟨Bs, 0, none⟩) (hKc hnx)).trans hBs
      obtain ⟨x, hx⟩ := hen m hm1
      obtain ⟨fn, tmps, assign, body, hy, hR⟩ := hY _ x wr hJs (by rw [hpl]; exact hlt)
      simp only [hx] at hy hR
      have Hx := Lib.hid hx
      clear hx hpl
      rw [hmI]
      have hnx' := hnx
      have Hm := Lib.hid hm
      clear hmI hc hs hBs hnx hm
      gi_wp2
      refine hR.mono ?_
      rintro e W3 (⟨rfl, hJ3, hk3⟩ | ⟨rfl, hJx3⟩)
      · gi_wp2
        go_roundw
        case rel => 
          have hm := Hm.out
          exact ⟨k + 1, by omega, by go_num, ⟨_, by rw [List.map_append, Hpre.out, bwd_succ, ← hm, List.getElem?_eq_getElem hm1, List.map_cons, List.map_nil, Hx.out]; rfl, hJ3⟩, hKt hnx' hk3⟩
        case measure => simp [intOf]
      · gi_wp2
        refine bodyPost_ret (results_none rfl _ _ _) rfl ?_
        have hm := Hm.out
        exact ⟨⟨_, rfl⟩, .inr ⟨_, ⟨k + 1, by omega, by rw [List.map_append, Hpre.out, bwd_succ, ← hm, List.getElem?_eq_getElem hm1, List.map_cons, List.map_nil, Hx.out]; rfl⟩, hJx3⟩⟩
    · obtain rfl : k = bs.length := by omega
      have e1 : (bs.length : Int) - 1 - (bs.length : Int) = -1 := by omega
      rw [e1]
      gi_wp2
      go_end0
      exact ⟨⟨_, rfl⟩, .inl ⟨_, Hpre.out, hJs⟩⟩

set_option maxHeartbeats 1000000 in
theorem bwdB_in (F : Fence) (hF : ∀ k, F.fn k) (hro : F.round = none) (n : Nat) (a : Option Addr) (len cap : Nat) (w : World) :
    CallsIn F n Tryz.prog 69 #[.slice a len cap] w fun e w' => e = .returned (.func (.func 89) #[] #[.pointer (some ⟨w.heap.size, 0, none⟩)]) ∧ w' = w.alloc (.cells #[.slice a len cap] 23) := by
  refine callsIn_of_wp Tryz.func69 rfl (hF _) ?_ hro
  simp only [Tryz.ntmps69, List.size_toArray, List.length_cons, List.length_nil, Nat.reduceAdd, Nat.reduceSub, Array.replicate_succ, Array.replicate_zero, List.push_toArray, List.append_toArray, List.nil_append, List.cons_append]
  gi_wp2
  go_ret
  exact ⟨rfl, rfl⟩

theorem bwdB_stopsK (F : Fence) (hF : ∀ k, F.fn k) (hro : F.round = none) (n : Nat) (hn : 1 ≤ n) (Bs N : Nat) (K : World → World → Prop) (hKr : ∀ W, K W W) (hKt : ∀ {A B C : World}, K A B → K B C → K A C) (hKc : ∀ {W W' : World}, K W W' → W'.heap[Bs]? = W.heap[Bs]?)
    (A : Option Addr) (cap : Nat) (bs : List UInt8) (hreach : bs.length ≤ 140737488351232) {α : Type} (enc : α → Nat × UInt8) (hen : ∀ j (h : j < bs.length), ∃ x, enc x = (j, bs[j])) (w : World)
    (hwK : ∀ W, Below w.heap.size w W → K w W) (hc : w.cell? ⟨Bs, 0, none⟩ = some (.slice A bs.length cap)) (hs : ∀ W', K w W' → Sl W' N A (B8 bs)) :
    SeqStopsK F n Tryz.prog 89 #[.pointer (some ⟨Bs, 0, none⟩)] (fun x : α => #[Value.int .i64 ((enc x).1 : Int), Value.int .u8 ((enc x).2.toNat : Int)]) K (fun ys => ys.map enc = bwd bs bs.length)
      (fun pre => ∃ k, k ≤ bs.length ∧ pre.map enc = bwd bs k) bs.length w := fun l J Jx W hW _ _ hY h0 =>
  bwdB1_in F hF hro n hn l Bs N K hKr hKt hKc A cap bs hreach enc hen J Jx hY W ((World.cell?_of_block (a := ⟨Bs, 0, none⟩) (hKc (hwK W hW))).trans hc) (fun W' h => hs W' (hKt (hwK W hW) h)) h0

theorem bwdB_stops (F : Fence) (hF : ∀ k, F.fn k) (hro : F.round = none) (n : Nat) (hn : 1 ≤ n) (Bs n₀ : Nat) (A : Option Addr) (cap : Nat) (bs : List UInt8) (hreach : bs.length ≤ 140737488351232) (w : World) (hBs : Bs < w.heap.size) (hn₀ : n₀ ≤ w.heap.size)
    (hc : w.cell? ⟨Bs, 0, none⟩ = some (.slice A bs.length cap)) (hs : Sl w n₀ A (B8 bs)) :
    SeqStopsK F n Tryz.prog 89 #[.pointer (some ⟨Bs, 0, none⟩)] (fun x : Nat × UInt8 => #[Value.int .i64 (x.1 : Int), Value.int .u8 (x.2.toNat : Int)]) (Keep n₀ Bs) (fun ys => ys = bwd bs bs.length)
      (fun pre => ∃ k, k ≤ bs.length ∧ pre = bwd bs k) bs.length w :=
  fun l J Jx W hW n hn' hY h0 => by
    have h := bwdB_stopsK F hF hro _ hn Bs n₀ (Keep n₀ Bs) (Keep.refl _ _) keepK_t (fun h => h.2) A cap bs hreach id (fun j h => ⟨_, rfl⟩) w (fun W hW => ⟨hW.mono hn₀, hW.block Bs hBs⟩) hc (fun _ h => hs.below h.1)
    simpa only [List.map_id] using h l J Jx W hW n hn' hY h0
end Go.Proofs.YtkiigonikeeikaaGreatDoor

/-! Small functions of the references and the laws, walked. -/
namespace Go.Proofs.YtkiigonikeeikaaGreatDoor
open Go.RowKit

def placeZ (l : List UInt8) (c : UInt8) : Int := if c ∈ l then (l.idxOf c : Int) else -1

set_option maxHeartbeats 400000 in
theorem equal_any (A C : Option Addr) (n m : Nat) (a b : List UInt8) (w : World) (ha : Sl w w.heap.size A (B8 a)) (hb : Sl w w.heap.size C (B8 b)) :
    Calls Tryz.prog 35 #[.slice A a.length n, .slice C b.length m] w fun e w' => e = .returned (.bool (a == b)) ∧ w = w' := by
  have e1 := run_str_Sl (P := Tryz.prog) w 23 9 5 Tryz.underlying23 Tryz.underlying5 Tryz.underlying9 _ A n a ha
  have e2 := run_str_Sl (P := Tryz.prog) w 23 9 5 Tryz.underlying23 Tryz.underlying5 Tryz.underlying9 _ C m b hb
  clear ha hb
  go_enter Tryz.func35, Tryz.ntmps35
  go_wp2
  go_ret
  exact ⟨rfl, rfl⟩

theorem placeZ_found (l : List UInt8) (c : UInt8) (k : Nat) (h : k < l.length) (hn : c ∉ l.take k) (he : l[k] = c) : placeZ l c = (k : Int) := by
  have hm : c ∈ l := he ▸ List.getElem_mem h
  unfold placeZ
  rw [if_pos hm]
  have : l = l.take k ++ c :: l.drop (k + 1) := by rw [← he, List.getElem_cons_drop, List.take_append_drop]
  rw [this, List.idxOf_append, if_neg hn]
  simp; omega
theorem placeZ_none (l : List UInt8) (c : UInt8) (hn : c ∉ l) : placeZ l c = -1 := by unfold placeZ; rw [if_neg hn]
theorem not_mem_take_succ (l : List UInt8) (c : UInt8) (k : Nat) (h : k < l.length) (hn : c ∉ l.take k) (he : l[k] ≠ c) : c ∉ l.take (k + 1) := by
  rw [List.take_succ_eq_append_getElem h]; simp only [List.mem_append, List.mem_singleton, not_or]; exact ⟨hn, fun e => he e.symm⟩

def spareB (b : List UInt8) : List UInt8 := b ++ (List.range 9).map fun i => UInt8.ofNat (201 + b.length + i)
theorem spareB_len (b : List UInt8) : (spareB b).length = b.length + 9 := by simp [spareB]
theorem spareB_lo (b : List UInt8) (k : Nat) (h : k < b.length) (h' : k < (spareB b).length) : (spareB b)[k] = b[k] := by simp [spareB, List.getElem_append, h]
theorem spareB_hi (b : List UInt8) (k : Nat) (h : b.length ≤ k) (h' : k < (spareB b).length) : (spareB b)[k] = UInt8.ofNat (201 + k) := by
  have h2 := h'
  rw [spareB_len] at h2
  simp only [spareB, List.getElem_append]
  rw [dif_neg (by omega)]; simp only [List.getElem_map, List.getElem_range]; congr 1; omega

theorem u8_info : (Tryz.prog.info? 5).map (fun i => (i.zero, i.size, i.bytes)) = some (some (.int .u8 0), 1, 1) := by kernel_rfl

theorem elB : El Tryz.prog 23 5 (.int .u8 0) 1 := ⟨Tryz.underlying23, by kernel_rfl, rfl⟩

end Go.Proofs.YtkiigonikeeikaaGreatDoor
