/- The iterator that slices.Backward of a []byte hands back: its contract, for whatever loop body keeps what lay below. | Small functions of the references and the laws, walked. | Small laws of slices that are appended to. | script.code, script.PayMulti. -/
import Derived.RangeFuncBox
import Derived.RangeFuncNested
import Derived.RangeFuncCalls
import Derived.RangeFuncLeaves
import Derived.Shelf.Abstract
import Derived.OwnWalkIn
import Derived.TacticsInMore
import Derived.LoopNIn
import Derived.LoopIn
import Derived.Lib.Hide
import Derived.Test.YtkiigonikeeikaaGreatDoorRows
import Derived.Test.YtkiigonikeeikaaGreatDoorU1
import Derived.WalkKit
import Derived.WalkSpells
import Derived.WalkLawsBesides
import Derived.BigQuiet
import Derived.Deep.QuietTactic
import Derived.Test.YtkiigonikeeikaaGreatDoorU2

/-! The iterator that slices.Backward of a []byte hands back: its contract, for whatever loop body keeps what lay below. -/
namespace Go.Proofs.YtkiigonikeeikaaGreatDoor
open Go.RowKit Go.Shelf
attribute [local go_sem] Oper.semAt_some

/-- What comes of bs in k rounds from the end: places and bytes. -/
def bwd (bs : List UInt8) (k : Nat) : List (Nat × UInt8) := (List.range k).map fun j => (bs.length - 1 - j, bs[bs.length - 1 - j]?.getD 0)
theorem bwd_succ (bs : List UInt8) (k : Nat) : bwd bs (k + 1) = bwd bs k ++ [(bs.length - 1 - k, bs[bs.length - 1 - k]?.getD 0)] := by simp [bwd, List.range_succ]
theorem bwd_length (bs : List UInt8) (k : Nat) : (bwd bs k).length = k := by simp [bwd]
theorem bwd_bytes (bs : List UInt8) : (bwd bs bs.length).map (·.2) = bs.reverse := by
  apply List.ext_getElem
  · simp [bwd]
  · intro i h1 h2
    have : bs.length - 1 - i < bs.length := by simp [bwd] at h1; omega
    simp [bwd, this]

/-- What a loop's body must keep for an iterator that looks into the box Bs and at what lies below n₀. -/
def Keep (n₀ Bs : Nat) (W W' : World) : Prop := Below n₀ W W' ∧ W'.heap[Bs]? = W.heap[Bs]?
theorem keepK_t {n₀ Bs : Nat} {A B C : World} (h : Keep n₀ Bs A B) (k : Keep n₀ Bs B C) : Keep n₀ Bs A C := ⟨h.1.trans k.1, k.2.trans h.2⟩
theorem keepK_b {n₀ Bs : Nat} {w : World} (hn : n₀ ≤ w.heap.size) (hb : Bs < w.heap.size) (W : World) (l : Nat) (o o' : Obj) (hl : w.heap.size ≤ l) (h : W.heap[l]? = some o) (hc : o.isCells = false) (hw : o.isWalk = false) : Keep n₀ Bs W (W.putObj l o') :=
  ⟨belowK_b hn W l o o' hl h hc hw, World.putObj_heap_other (by omega)⟩
theorem Keep.refl (n₀ Bs : Nat) (W : World) : Keep n₀ Bs W W := ⟨Below.refl _ _, rfl⟩
theorem Keep.cell {n₀ Bs : Nat} {W W' : World} (h : Keep n₀ Bs W W') {v : Value} (hc : W.cell? ⟨Bs, 0, none⟩ = some v) : W'.cell? ⟨Bs, 0, none⟩ = some v := (World.cell?_of_block (a := ⟨Bs, 0, none⟩) h.2).trans hc

/-- The same, and the row itself that the iterator reads. -/
def Keep3 (n₀ Bs gA : Nat) (W W' : World) : Prop := Keep n₀ Bs W W' ∧ W'.heap[gA]? = W.heap[gA]?
theorem Keep3.refl (n₀ Bs gA : Nat) (W : World) : Keep3 n₀ Bs gA W W := ⟨Keep.refl _ _ _, rfl⟩
theorem Keep3.trans {n₀ Bs gA : Nat} {a b c : World} (h : Keep3 n₀ Bs gA a b) (k : Keep3 n₀ Bs gA b c) : Keep3 n₀ Bs gA a c := ⟨keepK_t h.1 k.1, k.2.trans h.2⟩
theorem Keep3.b {n₀ Bs gA : Nat} {w : World} (hn : n₀ ≤ w.heap.size) (hb : Bs < w.heap.size) (hA : gA < w.heap.size) (W : World) (l : Nat) (o o' : Obj) (hl : w.heap.size ≤ l) (h : W.heap[l]? = some o) (hc : o.isCells = false) (hw : o.isWalk = false) : Keep3 n₀ Bs gA W (W.putObj l o') :=
  ⟨keepK_b hn hb W l o o' hl h hc hw, World.putObj_heap_other (by omega)⟩
theorem Sl.keep3 {n₀ Bs gA N : Nat} {A : Option Addr} {W W' : World} {xs : List Value} (h : Sl W N A xs) (hA : 0 < xs.length → ∀ a, A = some a → a.block = gA) (k : Keep3 n₀ Bs gA W W') : Sl W' N A xs := fun hn => by
  obtain ⟨b, o, e, hb, hc⟩ := h hn
  have hk := k.2
  rw [← hA hn _ e] at hk
  exact ⟨b, o, e, hb, fun j hj => (World.cell?_of_block (a := ⟨b, o + j, none⟩) hk).trans (hc j hj)⟩
/-- The row of a slice of one's own, for such an iterator. -/
theorem Ow.rowAt {w : World} {base E n c : Nat} {A : Option Addr} {xs : List Value} (h : Ow w base E (.slice A n c) xs) (hlt : base < w.heap.size + 1) : ∃ gA, base ≤ gA ∧ gA ≤ w.heap.size ∧ (0 < xs.length → ∀ a, A = some a → a.block = gA) := by
  obtain ⟨A', c', e, h1, h2, h3⟩ := h
  injection e with e1 e2 e3; subst e1 e2 e3
  by_cases hc : 0 < c
  · obtain ⟨g, cur, rfl, hb, hh, _⟩ := h3 hc
    exact ⟨g, hb, by have := (Array.getElem?_eq_some_iff.1 hh).1; omega, fun _ a ha => by cases ha; rfl⟩
  · exact ⟨w.heap.size, by omega, by omega, fun hn => by omega⟩

set_option maxRecDepth 100000 in
set_option maxHeartbeats 2000000 in
theorem bwdB1_in (F : Fence) (hF : ∀ k, F.fn k) (hro : F.round = none) (n : Nat) (hn : 1 ≤ n) (l Bs N : Nat) (K : World → World → Prop) (hKr : ∀ W, K W W) (hKt : ∀ {A B C : World}, K A B → K B C → K A C) (hKc : ∀ {W W' : World}, K W W' → W'.heap[Bs]? = W.heap[Bs]?) (A : Option Addr) (cap : Nat) (bs : List UInt8) (hreach : bs.length ≤ 140737488351232) {α : Type} (enc : α → Nat × UInt8) (hen : ∀ j (h : j < bs.length), ∃ x, enc x = (j, bs[j])) (J Jx : List α → World → Prop)
    (hY : ∀ pre x W, J pre W → pre.length < bs.length → YieldAt F (n - 1) Tryz.prog l #[Value.int .i64 ((enc x).1 : Int), .int .u8 ((enc x).2.toNat : Int)] W fun e W' =>
      (e = .returned (.bool true) ∧ J (pre ++ [x]) W' ∧ K W W') ∨ (e = .returned (.bool false) ∧ Jx (pre ++ [x]) W'))
    (W : World) (hBs : W.cell? ⟨Bs, 0, none⟩ = some (.slice A bs.length cap)) (hs : ∀ W', K W W' → Sl W' N A (B8 bs)) (h0 : J [] W) :
    CallsIn F n Tryz.prog 89 #[.func (.yield l) #[] #[], .pointer (some ⟨Bs, 0, none⟩)] W fun e W' => (∃ v, e = .returned v) ∧
      ((∃ ys, ys.map enc = bwd bs bs.length ∧ J ys W') ∨ (∃ pre, (∃ k, k ≤ bs.length ∧ pre.map enc = bwd bs k) ∧ Jx pre W')) := by
  refine callsIn_of_wp Tryz.func89 rfl (hF _) ?_ hro
  simp only [Tryz.ntmps89, List.size_toArray, List.length_cons, List.length_nil, Nat.reduceAdd, Nat.reduceSub, Array.replicate_succ, Array.replicate_zero, List.push_toArray, List.append_toArray, List.nil_append, List.cons_append]
  gi_wp2
  gi_loopw [3] (fun i wr => ∃ k : Nat, k ≤ bs.length ∧ i = .int .i64 ((bs.length : Int) - 1 - (k : Int)) ∧ (∃ pre, pre.map enc = bwd bs k ∧ J pre wr) ∧ K W wr)
    (fun i _ => (intOf i + 1).toNat)
  case atStart => exact ⟨0, Nat.zero_le _, by go_num, ⟨[], rfl, h0⟩, hKr _⟩
  case round =>
    obtain ⟨k, hk, rfl, ⟨pre, hpre, hJs⟩, hnx⟩ := hrel
    have Hpre := Lib.hid hpre
    have hpl : pre.length = k := by have := congrArg List.length hpre; simpa [bwd_length] using this
    clear hpre
    by_cases hlt : k < bs.length
    · obtain ⟨m, hm⟩ : ∃ m, m = bs.length - 1 - k := ⟨_, rfl⟩
      have hm1 : m < bs.length := by omega
      have hmI : (bs.length : Int) - 1 - (k : Int) = (m : Int) := by omega
      obtain ⟨b, o, rfl, hb, hc⟩ := (hs wr hnx).at_ (k := m) hm1
      have hcm := hc m hm1
      have hcx := (World.cell?_of_block (a := ⟨Bs, 0, none⟩) (hKc hnx)).trans hBs
      obtain ⟨x, hx⟩ := hen m hm1
      obtain ⟨fn, tmps, assign, body, hy, hR⟩ := hY _ x wr hJs (by rw [hpl]; exact hlt)
      simp only [hx] at hy hR
      have Hx := Lib.hid hx
      clear hx hpl
      rw [hmI]
      have hnx' := hnx
      have Hm := Lib.hid hm
      clear hmI hc hs hBs hnx hm
      gi_wp2
      refine hR.mono ?_
      rintro e W3 (⟨rfl, hJ3, hk3⟩ | ⟨rfl, hJx3⟩)
      · gi_wp2
        go_roundw
        case rel => 
          have hm := Hm.out
          exact ⟨k + 1, by omega, by go_num, ⟨_, by rw [List.map_append, Hpre.out, bwd_succ, ← hm, List.getElem?_eq_getElem hm1, List.map_cons, List.map_nil, Hx.out]; rfl, hJ3⟩, hKt hnx' hk3⟩
        case measure => simp [intOf]
      · gi_wp2
        refine bodyPost_ret (results_none rfl _ _ _) rfl ?_
        have hm := Hm.out
        exact ⟨⟨_, rfl⟩, .inr ⟨_, ⟨k + 1, by omega, by rw [List.map_append, Hpre.out, bwd_succ, ← hm, List.getElem?_eq_getElem hm1, List.map_cons, List.map_nil, Hx.out]; rfl⟩, hJx3⟩⟩
    · obtain rfl : k = bs.length := by omega
      have e1 : (bs.length : Int) - 1 - (bs.length : Int) = -1 := by omega
      rw [e1]
      gi_wp2
      go_end0
      exact ⟨⟨_, rfl⟩, .inl ⟨_, Hpre.out, hJs⟩⟩

set_option maxHeartbeats 1000000 in
theorem bwdB_in (F : Fence) (hF : ∀ k, F.fn k) (hro : F.round = none) (n : Nat) (a : Option Addr) (len cap : Nat) (w : World) :
    CallsIn F n Tryz.prog 69 #[.slice a len cap] w fun e w' => e = .returned (.func (.func 89) #[] #[.pointer (some ⟨w.heap.size, 0, none⟩)]) ∧ w' = w.alloc (.cells #[.slice a len cap] 23) := by
  refine callsIn_of_wp Tryz.func69 rfl (hF _) ?_ hro
  simp only [Tryz.ntmps69, List.size_toArray, List.length_cons, List.length_nil, Nat.reduceAdd, Nat.reduceSub, Array.replicate_succ, Array.replicate_zero, List.push_toArray, List.append_toArray, List.nil_append, List.cons_append]
  gi_wp2
  go_ret
  exact ⟨rfl, rfl⟩

theorem bwdB_stopsK (F : Fence) (hF : ∀ k, F.fn k) (hro : F.round = none) (n : Nat) (hn : 1 ≤ n) (Bs N : Nat) (K : World → World → Prop) (hKr : ∀ W, K W W) (hKt : ∀ {A B C : World}, K A B → K B C → K A C) (hKc : ∀ {W W' : World}, K W W' → W'.heap[Bs]? = W.heap[Bs]?)
    (A : Option Addr) (cap : Nat) (bs : List UInt8) (hreach : bs.length ≤ 140737488351232) {α : Type} (enc : α → Nat × UInt8) (hen : ∀ j (h : j < bs.length), ∃ x, enc x = (j, bs[j])) (w : World)
    (hwK : ∀ W, Below w.heap.size w W → K w W) (hc : w.cell? ⟨Bs, 0, none⟩ = some (.slice A bs.length cap)) (hs : ∀ W', K w W' → Sl W' N A (B8 bs)) :
    SeqStopsK F n Tryz.prog 89 #[.pointer (some ⟨Bs, 0, none⟩)] (fun x : α => #[Value.int .i64 ((enc x).1 : Int), Value.int .u8 ((enc x).2.toNat : Int)]) K (fun ys => ys.map enc = bwd bs bs.length)
      (fun pre => ∃ k, k ≤ bs.length ∧ pre.map enc = bwd bs k) bs.length w := fun l J Jx W hW _ _ hY h0 =>
  bwdB1_in F hF hro n hn l Bs N K hKr hKt hKc A cap bs hreach enc hen J Jx hY W ((World.cell?_of_block (a := ⟨Bs, 0, none⟩) (hKc (hwK W hW))).trans hc) (fun W' h => hs W' (hKt (hwK W hW) h)) h0

theorem bwdB_stops (F : Fence) (hF : ∀ k, F.fn k) (hro : F.round = none) (n : Nat) (hn : 1 ≤ n) (Bs n₀ : Nat) (A : Option Addr) (cap : Nat) (bs : List UInt8) (hreach : bs.length ≤ 140737488351232) (w : World) (hBs : Bs < w.heap.size) (hn₀ : n₀ ≤ w.heap.size)
    (hc : w.cell? ⟨Bs, 0, none⟩ = some (.slice A bs.length cap)) (hs : Sl w n₀ A (B8 bs)) :
    SeqStopsK F n Tryz.prog 89 #[.pointer (some ⟨Bs, 0, none⟩)] (fun x : Nat × UInt8 => #[Value.int .i64 (x.1 : Int), Value.int .u8 (x.2.toNat : Int)]) (Keep n₀ Bs) (fun ys => ys = bwd bs bs.length)
      (fun pre => ∃ k, k ≤ bs.length ∧ pre = bwd bs k) bs.length w :=
  fun l J Jx W hW n hn' hY h0 => by
    have h := bwdB_stopsK F hF hro _ hn Bs n₀ (Keep n₀ Bs) (Keep.refl _ _) keepK_t (fun h => h.2) A cap bs hreach id (fun j h => ⟨_, rfl⟩) w (fun W hW => ⟨hW.mono hn₀, hW.block Bs hBs⟩) hc (fun _ h => hs.below h.1)
    simpa only [List.map_id] using h l J Jx W hW n hn' hY h0
end Go.Proofs.YtkiigonikeeikaaGreatDoor

/-! Small functions of the references and the laws, walked. -/
namespace Go.Proofs.YtkiigonikeeikaaGreatDoor
open Go.RowKit

def placeZ (l : List UInt8) (c : UInt8) : Int := if c ∈ l then (l.idxOf c : Int) else -1

set_option maxHeartbeats 400000 in
theorem equal_any (A C : Option Addr) (n m : Nat) (a b : List UInt8) (w : World) (ha : Sl w w.heap.size A (B8 a)) (hb : Sl w w.heap.size C (B8 b)) :
    Calls Tryz.prog 35 #[.slice A a.length n, .slice C b.length m] w fun e w' => e = .returned (.bool (a == b)) ∧ w = w' := by
  have e1 := run_str_Sl (P := Tryz.prog) w 23 9 5 Tryz.underlying23 Tryz.underlying5 Tryz.underlying9 _ A n a ha
  have e2 := run_str_Sl (P := Tryz.prog) w 23 9 5 Tryz.underlying23 Tryz.underlying5 Tryz.underlying9 _ C m b hb
  clear ha hb
  go_enter Tryz.func35, Tryz.ntmps35
  go_wp2
  go_ret
  exact ⟨rfl, rfl⟩

theorem placeZ_found (l : List UInt8) (c : UInt8) (k : Nat) (h : k < l.length) (hn : c ∉ l.take k) (he : l[k] = c) : placeZ l c = (k : Int) := by
  have hm : c ∈ l := he ▸ List.getElem_mem h
  unfold placeZ
  rw [if_pos hm]
  have : l = l.take k ++ c :: l.drop (k + 1) := by rw [← he, List.getElem_cons_drop, List.take_append_drop]
  rw [this, List.idxOf_append, if_neg hn]
  simp; omega
theorem placeZ_none (l : List UInt8) (c : UInt8) (hn : c ∉ l) : placeZ l c = -1 := by unfold placeZ; rw [if_neg hn]
theorem not_mem_take_succ (l : List UInt8) (c : UInt8) (k : Nat) (h : k < l.length) (hn : c ∉ l.take k) (he : l[k] ≠ c) : c ∉ l.take (k + 1) := by
  rw [List.take_succ_eq_append_getElem h]; simp only [List.mem_append, List.mem_singleton, not_or]; exact ⟨hn, fun e => he e.symm⟩

def spareB (b : List UInt8) : List UInt8 := b ++ (List.range 9).map fun i => UInt8.ofNat (201 + b.length + i)
theorem spareB_len (b : List UInt8) : (spareB b).length = b.length + 9 := by simp [spareB]
theorem spareB_lo (b : List UInt8) (k : Nat) (h : k < b.length) (h' : k < (spareB b).length) : (spareB b)[k] = b[k] := by simp [spareB, List.getElem_append, h]
theorem spareB_hi (b : List UInt8) (k : Nat) (h : b.length ≤ k) (h' : k < (spareB b).length) : (spareB b)[k] = UInt8.ofNat (201 + k) := by
  have h2 := h'
  rw [spareB_len] at h2
  simp only [spareB, List.getElem_append]
  rw [dif_neg (by omega)]; simp only [List.getElem_map, List.getElem_range]; congr 1; omega

theorem u8_info : (Tryz.prog.info? 5).map (fun i => (i.zero, i.size, i.bytes)) = some (some (.int .u8 0), 1, 1) := by kernel_rfl

theorem elB : El Tryz.prog 23 5 (.int .u8 0) 1 := ⟨Tryz.underlying23, by kernel_rfl, rfl⟩

end Go.Proofs.YtkiigonikeeikaaGreatDoor

/-! Small laws of slices that are appended to. -/
namespace Go.Proofs.YtkiigonikeeikaaGreatDoor
open Go.RowKit

theorem own_form {w : World} {base E : Nat} {v : Value} {T : List UInt8} (h : Ow w base E v (B8 T)) : ∃ A1 c1, v = .slice A1 T.length c1 ∧ T.length ≤ c1 ∧ c1 ≤ maxLen := by
  obtain ⟨A1, c1, e, h1, h2, _⟩ := h
  exact ⟨A1, c1, by simpa using e, by simpa using h1, h2⟩
theorem push_below {w wr w3 : World} {B E n c : Nat} {A : Option Addr} {xs : List Value} {o : Obj} (hb : Below B w wr) (hB : B ≤ w.heap.size) (ho : Ow wr B E (.slice A n c) xs) (hg : (wr.alloc o).grownBy w3 (rowOf (.slice A n c))) : Below B w w3 := by
  have h1 : B ≤ wr.heap.size := Nat.le_trans hB hb.size
  exact (hb.alloc h1 o).grown hg (by rw [World.size_alloc]; omega) (fun r hr => (ho.row r hr).1)
theorem b8_snoc (xs : List UInt8) (x : Value) (b : UInt8) (h : x = .int .u8 (b.toNat : Int)) : B8 xs ++ [x] = B8 (xs ++ [b]) := by rw [h, B8_append]; rfl

end Go.Proofs.YtkiigonikeeikaaGreatDoor

/-! script.code, script.PayMulti. -/
namespace Go.Proofs.YtkiigonikeeikaaGreatDoor
open Go.RowKit

/-- A slice of slices of bytes. -/
def Keys (w : World) (B : Nat) (A : Option Addr) (ks : List (List UInt8)) : Prop :=
  0 < ks.length → ∃ b o, A = some ⟨b, o, none⟩ ∧ b < B ∧ ∀ j (h : j < ks.length), ∃ Aj cj, w.cell? ⟨b, o + j, none⟩ = some (.slice Aj ks[j].length cj) ∧ Sl w B Aj (B8 ks[j]) ∧ ks[j].length ≤ cj ∧ cj ≤ maxLen
section
variable {w w' : World} {B B' : Nat} {A : Option Addr} {ks : List (List UInt8)}
theorem Keys.below (h : Keys w B A ks) (hb : Below B w w') : Keys w' B A ks := fun hn => by
  obtain ⟨b, o, e, hbB, hc⟩ := h hn
  refine ⟨b, o, e, hbB, fun j hj => ?_⟩
  obtain ⟨Aj, cj, h1, h2, h3⟩ := hc j hj
  exact ⟨Aj, cj, (hb.cell (p := ⟨b, o + j, none⟩) hbB).trans h1, h2.below hb, h3⟩
theorem Keys.mono (h : Keys w B A ks) (hB : B ≤ B') : Keys w B' A ks := fun hn => by
  obtain ⟨b, o, e, hbB, hc⟩ := h hn
  refine ⟨b, o, e, by omega, fun j hj => ?_⟩
  obtain ⟨Aj, cj, h1, h2, h3⟩ := hc j hj
  exact ⟨Aj, cj, h1, h2.mono hB, h3⟩
theorem Keys.take (h : Keys w B A ks) (n : Nat) : Keys w B A (ks.take n) := fun hn => by
  obtain ⟨b, o, e, hbB, hc⟩ := h (by simp at hn; omega)
  refine ⟨b, o, e, hbB, fun j hj => ?_⟩
  obtain ⟨Aj, cj, h1, h2, h3⟩ := hc j (by simp at hj; omega)
  rw [List.getElem_take]
  exact ⟨Aj, cj, h1, h2, h3⟩
theorem Keys.at_ (h : Keys w B A ks) {k : Nat} (hk : k < ks.length) : ∃ b o, A = some ⟨b, o, none⟩ ∧ b < B ∧ ∃ Aj cj, w.cell? ⟨b, o + k, none⟩ = some (.slice Aj ks[k].length cj) ∧ Sl w B Aj (B8 ks[k]) ∧ ks[k].length ≤ cj ∧ cj ≤ maxLen := by
  obtain ⟨b, o, e, hbB, hc⟩ := h (by omega)
  exact ⟨b, o, e, hbB, hc k hk⟩
end

def keysL (ks : List (List UInt8)) : List UInt8 := ks.flatMap (fun k => 33 :: k)
theorem keysL_snoc (ks : List (List UInt8)) (k : List UInt8) : keysL (ks ++ [k]) = keysL ks ++ [33] ++ k := by simp [keysL]
theorem keysL_length (ks : List (List UInt8)) (h : ∀ k ∈ ks, k.length = 33) : (keysL ks).length = 34 * ks.length := by
  induction ks with
  | nil => rfl
  | cons k ks ih =>
    have h1 := ih (fun x hx => h x (by simp [hx]))
    have h2 := h k (by simp)
    unfold keysL at h1 ⊢
    rw [List.flatMap_cons, List.length_append, h1]
    simp [h2]; omega
/-- The script for m of some keys. -/
def payL (m : Nat) (ks : List (List UInt8)) : List UInt8 := UInt8.ofNat (80 + m) :: keysL ks ++ [UInt8.ofNat (80 + ks.length), 174]
def payR (m : Int) (ks : List (List UInt8)) : Nat × List UInt8 :=
  if ks.length < 1 ∨ 16 < ks.length ∨ m < 1 ∨ (ks.length : Int) < m then (1, [])
  else if ∀ k ∈ ks, k.length = 33 then (0, payL m.toNat ks) else (3, [])

set_option maxHeartbeats 400000 in
theorem code_any (n : Nat) (h0 : 0 < n) (hn : n ≤ 16) (w : World) :
    Calls Tryz.prog 22 #[.int .i64 n] w fun e w' => e = .returned (.int .u8 ((UInt8.ofNat (80 + n)).toNat : Int)) ∧ w' = w := by
  have he : ((UInt8.ofNat (80 + n)).toNat : Int) = 81 + (n : Int) - 1 := by rw [UInt8.toNat_ofNat']; omega
  have He := Lib.hid he
  clear he
  go_enter Tryz.func22, Tryz.ntmps22
  go_wp2
  go_ret
  refine ⟨?_, rfl⟩
  rw [He.out]
  rfl

theorem Ow.new1 (w : World) (u : Value) (E : TypeId) (base : Nat) (hb : base ≤ w.heap.size) : Ow (w.alloc (.cells #[u] E)) base E (.slice (some ⟨w.heap.size, 0, none⟩) 1 1) [u] :=
  Ow.of_row (cap := 1) #[u] E base hb rfl (by simp [maxLen]) 1 (Nat.le_refl _)
theorem Sl.two' (w : World) (u v : Value) (E : TypeId) : Sl (w.alloc (.cells #[u, v] E)) (w.heap.size + 1) (some ⟨w.heap.size, 0, none⟩) [u, v] := fun _ =>
  ⟨_, 0, rfl, by omega, fun j hj => by
    rw [cell_of_row _ _ _ _ _ (0, 0) (heap_alloc_new w _)]
    simp only [List.length_cons, List.length_nil] at hj
    have h2 : j = 0 ∨ j = 1 := by omega
    rcases h2 with rfl | rfl <;> simp⟩

set_option maxRecDepth 100000 in
set_option maxHeartbeats 4000000 in
theorem pay_any (m : Int) (A : Option Addr) (c : Nat) (ks : List (List UInt8)) (w : World) (hK : Keys w w.heap.size A ks) (hl : ks.length ≤ 16) :
    Calls Tryz.prog 5 #[.int .i64 m, .slice A ks.length c] w fun e W' => ∃ v, e = .returned (.tuple #[v, .int .i64 ((payR m ks).1 : Int)]) ∧ Ow W' w.heap.size 5 v (B8 (payR m ks).2) ∧ Below w.heap.size w W' := by
  obtain ⟨n, hn⟩ : ∃ n, n = ks.length := ⟨_, rfl⟩
  obtain ⟨F, hF⟩ : ∃ F, F = payR m ks := ⟨_, rfl⟩
  rw [← hF]
  rw [← hn] at hl ⊢
  have Hn := Lib.hid hn
  have HF := Lib.hid hF
  clear hn hF
  by_cases h1 : n < 1 ∨ m < 1 ∨ (n : Int) < m
  · have hFv : F = (1, []) := by rw [HF.out, payR, ← Hn.out, if_pos (by omega)]
    have HFv := Lib.hid hFv
    clear hFv
    rcases h1 with h1 | h1
    · go_enter Tryz.func5, Tryz.ntmps5
      go_wp2_with fail
      go_ret2
      rw [HFv.out]
      exact ⟨_, rfl, Ow.nil_ _ _ _ _, Below.refl _ _⟩
    by_cases h2 : n < 1
    · go_enter Tryz.func5, Tryz.ntmps5
      go_wp2_with fail
      go_ret2
      rw [HFv.out]
      exact ⟨_, rfl, Ow.nil_ _ _ _ _, Below.refl _ _⟩
    by_cases h3 : m < 1
    · go_enter Tryz.func5, Tryz.ntmps5
      go_wp2_with fail
      go_ret2
      rw [HFv.out]
      exact ⟨_, rfl, Ow.nil_ _ _ _ _, Below.refl _ _⟩
    · have h4 : (n : Int) < m := by omega
      go_enter Tryz.func5, Tryz.ntmps5
      go_wp2_with fail
      go_ret2
      rw [HFv.out]
      exact ⟨_, rfl, Ow.nil_ _ _ _ _, Below.refl _ _⟩
  obtain ⟨q, rfl⟩ : ∃ q : Nat, m = (q : Int) := ⟨m.toNat, by omega⟩
  have hn1 : 1 ≤ n := by omega
  have hq1 : 1 ≤ q := by omega
  have hqn : q ≤ n := by omega
  clear h1
  have hFv : F = if ∀ k ∈ ks, k.length = 33 then (0, payL q ks) else (3, []) := by rw [HF.out, payR, ← Hn.out, if_neg (by omega)]; rfl
  have HFv := Lib.hid hFv
  clear hFv HF
  obtain ⟨c0, hc0⟩ : ∃ c0, c0 = UInt8.ofNat (80 + q) := ⟨_, rfl⟩
  have Hc0 := Lib.hid hc0
  have hcode := code_any q hq1 (by omega)
  rw [← hc0] at hcode
  have Hcode := Lib.hid hcode
  clear hcode hc0
  go_enter Tryz.func5, Tryz.ntmps5
  go_wp2_with (go_at_call 22; refine (Hcode.out _).mono ?_; rintro e w' ⟨rfl, rfl⟩)
  obtain ⟨w, rfl⟩ : ∃ w, w = w' := ⟨_, rfl⟩
  go_loopw [7, 32] (fun v i wr => ∃ k : Nat, k ≤ n ∧ i = .int .i64 k ∧ Ow wr w.heap.size 5 v (B8 (c0 :: keysL (ks.take k))) ∧ Hid (∀ x ∈ ks.take k, x.length = 33) ∧ Below w.heap.size w wr) (fun _ i _ => n - (intOf i).toNat)
  case atStart => exact ⟨0, Nat.zero_le _, rfl, Ow.new1 w _ _ _ (Nat.le_refl _), Lib.hid (by simp), (Below.refl _ _).alloc (Nat.le_refl _) _⟩
  case round =>
    obtain ⟨k, hk, rfl, ho, H33, hb⟩ := hrel
    obtain ⟨L, hL⟩ : ∃ L, L = c0 :: keysL (ks.take k) := ⟨_, rfl⟩
    obtain ⟨l, hl'⟩ : ∃ l, l = L.length := ⟨_, rfl⟩
    have hll : l ≤ 600 := by
      rw [hl', hL, List.length_cons, keysL_length _ H33.out, List.length_take]; omega
    rw [← hL] at ho
    obtain ⟨Al, cl, rfl, hcl, hcl'⟩ := own_form ho
    rw [← hl'] at ho hcl ⊢
    have HL := Lib.hid hL
    have Hl := Lib.hid hl'
    have hz := hb.size
    clear hL hl'
    by_cases hlt : k < n
    · have hkk : k < ks.length := by rw [← Hn.out]; exact hlt
      obtain ⟨b9, o9, rfl, hb9, Aj, cj, hcj, hSj, hlj, hmj⟩ := hK.at_ hkk
      obtain ⟨key, hkey⟩ : ∃ key, key = ks[k] := ⟨_, rfl⟩
      rw [← hkey] at hcj hSj hlj
      have hcell : wr.cell? ⟨b9, o9 + k, none⟩ = some (.slice Aj key.length cj) := by rw [hb.cell (p := ⟨b9, o9 + k, none⟩) hb9, hcj]
      obtain ⟨kl, hkl⟩ : ∃ kl, kl = key.length := ⟨_, rfl⟩
      rw [← hkl] at hcell hlj
      have Hkl := Lib.hid hkl
      have Hkey := Lib.hid hkey
      have hSr := (hSj.below hb).mono hz
      clear hkl hkey hcj
      by_cases h33 : kl = 33
      · subst h33
        go_wp2_with (first | (at_builtin; go_loud (refine wpList_append_Ow (m := 33) (c := cj) (base := w.heap.size) (xs := B8 (L ++ [33])) (v := v3) (A := Aj) (B := w3.heap.size) (news := B8 key) elB rfl (.tmp 41) (.tmp 42) rfl rfl ho3 rfl hS3 (by rw [B8_length]; exact Hkl.out.symm) (B8_oneCell _) (by rw [B8_length, List.length_append, ← Hl.out]; simp [maxLen]; omega) (by rw [B8_length, List.length_append, ← Hl.out, List.length_singleton]; omega) hb3.size ?_); intro v4 w4 ho4 hg4 hr4) | (at_builtin; go_loud (refine wpList_append_Ow (m := 1) (c := 1) (base := w.heap.size) (xs := B8 L) (v := .slice Al l cl) (A := some ⟨wr.heap.size, 0, none⟩) (B := wr.heap.size + 1) (news := [.int .u8 33]) elB rfl (.tmp 39) (.tmp 40) rfl rfl (ho.alloc _) rfl (Sl.one wr _ _) rfl (by simp; rfl) (by rw [B8_length, ← Hl.out]; simp [maxLen]; omega) (by rw [B8_length, ← Hl.out]; omega) (by simp; omega) ?_); intro v3 w3 ho3 hg3 hr3; rw [b8_snoc L (.int .u8 33) 33 rfl] at ho3; have hb3 := push_below hb (Nat.le_refl _) ho hg3; have hS3 := (hSj.below hb3).mono hb3.size; clear hg3 hr3))
        rw [← B8_append] at ho4
        have hnew : L ++ [33] ++ key = c0 :: keysL (ks.take (k + 1)) := by
          rw [HL.out, List.take_succ_eq_append_getElem hkk, keysL_snoc, ← Hkey.out]; simp
        rw [hnew] at ho4
        exact ⟨⟨k + 1, by omega, rfl, ho4, Lib.hid (by
          rw [List.take_succ_eq_append_getElem hkk]
          intro x hx
          rcases List.mem_append.1 hx with hx | hx
          · exact H33.out x hx
          · rw [List.mem_singleton.1 hx, ← Hkey.out]; exact Hkl.out.symm), hb3.grown hg4 hb3.size (fun r hr => (ho3.row r hr).1)⟩, by simp [intOf]; omega⟩
      · have hFe : F = (3, []) := by
          rw [HFv.out, if_neg]
          intro hall
          exact h33 (by rw [Hkl.out]; exact hall key (by rw [Hkey.out]; exact List.getElem_mem _))
        have HFe := Lib.hid hFe
        clear hFe
        have h33' : ¬ ((kl : Int) = 33) := by omega
        go_wp2_with fail
        go_ret2
        rw [HFe.out]
        exact ⟨_, rfl, Ow.nil_ _ _ _ _, hb⟩
    · have hkn : k = n := by omega
      have htk : ks.take k = ks := List.take_of_length_le (by rw [← Hn.out]; omega)
      rw [htk] at H33
      obtain ⟨c1, hc1⟩ : ∃ c1, c1 = UInt8.ofNat (80 + n) := ⟨_, rfl⟩
      have hFe : F = (0, L ++ [c1, 174]) := by
        rw [HFv.out, if_pos H33.out, payL, HL.out, htk, ← Hc0.out, ← Hn.out, ← hc1]
      have HFe := Lib.hid hFe
      have hcode := code_any n (by omega) (by omega)
      rw [← hc1] at hcode
      have Hcode := Lib.hid hcode
      clear hFe hc1 hcode htk hkn
      go_wp2_with (first | (go_at_call 22; refine (Hcode.out _).mono ?_; rintro e w' ⟨rfl, hww⟩; rw [hww]; clear hww) | (at_builtin; go_loud (refine wpList_append_Ow (m := 2) (c := 2) (base := w.heap.size) (xs := B8 L) (v := .slice Al l cl) (A := some ⟨wr.heap.size, 0, none⟩) (B := wr.heap.size + 1) (news := [.int .u8 (c1.toNat : Int), .int .u8 174]) elB rfl (.tmp 45) (.tmp 48) rfl rfl (ho.alloc _) rfl (Sl.two' wr _ _ _) rfl (by simp; exact ⟨rfl, rfl⟩) (by rw [B8_length, ← Hl.out]; simp [maxLen]; omega) (by rw [B8_length, ← Hl.out]; omega) (by simp; omega) ?_); intro v3 w3 ho3 hg3 hr3))
      go_ret2
      rw [HFe.out]
      have e3 : B8 L ++ [.int .u8 (c1.toNat : Int), .int .u8 174] = B8 (L ++ [c1, 174]) := by simp [B8]
      rw [e3] at ho3
      exact ⟨_, rfl, ho3, push_below hb (Nat.le_refl _) ho hg3⟩
end Go.Proofs.YtkiigonikeeikaaGreatDoor
