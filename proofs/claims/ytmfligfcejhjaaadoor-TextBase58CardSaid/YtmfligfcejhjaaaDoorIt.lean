/- The iterator that slices.Backward of a []byte hands back: its contract, for whatever loop body keeps what lay below. -/
import Derived.RangeFuncBox
import Derived.RangeFuncNested
import Derived.RangeFuncCalls
import Derived.RangeFuncLeaves
import Derived.Shelf.Abstract
import Derived.OwnWalkIn
import Derived.TacticsInMore
import Derived.LoopNIn
import Derived.LoopIn
import Derived.Lib.Hide
import Derived.Test.YtmfligfcejhjaaaDoorRows
import Derived.Test.YtmfligfcejhjaaaDoorM
namespace Go.Proofs.YtmfligfcejhjaaaDoor
open Go.RowKit Go.Shelf
attribute [local go_sem] Oper.semAt_some

/-- What comes of bs in k rounds from the end: places and bytes. -/
def bwd (bs : List UInt8) (k : Nat) : List (Nat × UInt8) := (List.range k).map fun j => (bs.length - 1 - j, bs[bs.length - 1 - j]?.getD 0)
theorem bwd_succ (bs : List UInt8) (k : Nat) : bwd bs (k + 1) = bwd bs k ++ [(bs.length - 1 - k, bs[bs.length - 1 - k]?.getD 0)] := by simp [bwd, List.range_succ]
theorem bwd_length (bs : List UInt8) (k : Nat) : (bwd bs k).length = k := by simp [bwd]
theorem bwd_bytes (bs : List UInt8) : (bwd bs bs.length).map (·.2) = bs.reverse := by
  apply List.ext_getElem
  · simp [bwd]
  · intro i h1 h2
    have : bs.length - 1 - i < bs.length := by simp [bwd] at h1; omega
    simp [bwd, this]

/-- What a loop's body must keep for an iterator that looks into the box Bs and at what lies below n₀. -/
def Keep (n₀ Bs : Nat) (W W' : World) : Prop := Below n₀ W W' ∧ W'.heap[Bs]? = W.heap[Bs]?
theorem keepK_t {n₀ Bs : Nat} {A B C : World} (h : Keep n₀ Bs A B) (k : Keep n₀ Bs B C) : Keep n₀ Bs A C := ⟨h.1.trans k.1, k.2.trans h.2⟩
theorem keepK_b {n₀ Bs : Nat} {w : World} (hn : n₀ ≤ w.heap.size) (hb : Bs < w.heap.size) (W : World) (l : Nat) (o o' : Obj) (hl : w.heap.size ≤ l) (h : W.heap[l]? = some o) (hc : o.isCells = false) (hw : o.isWalk = false) : Keep n₀ Bs W (W.putObj l o') :=
  ⟨belowK_b hn W l o o' hl h hc hw, World.putObj_heap_other (by omega)⟩
theorem Keep.refl (n₀ Bs : Nat) (W : World) : Keep n₀ Bs W W := ⟨Below.refl _ _, rfl⟩
theorem Keep.cell {n₀ Bs : Nat} {W W' : World} (h : Keep n₀ Bs W W') {v : Value} (hc : W.cell? ⟨Bs, 0, none⟩ = some v) : W'.cell? ⟨Bs, 0, none⟩ = some v := (World.cell?_of_block (a := ⟨Bs, 0, none⟩) h.2).trans hc

/-- The same, and the row itself that the iterator reads. -/
def Keep3 (n₀ Bs gA : Nat) (W W' : World) : Prop := Keep n₀ Bs W W' ∧ W'.heap[gA]? = W.heap[gA]?
theorem Keep3.refl (n₀ Bs gA : Nat) (W : World) : Keep3 n₀ Bs gA W W := ⟨Keep.refl _ _ _, rfl⟩
theorem Keep3.trans {n₀ Bs gA : Nat} {a b c : World} (h : Keep3 n₀ Bs gA a b) (k : Keep3 n₀ Bs gA b c) : Keep3 n₀ Bs gA a c := ⟨keepK_t h.1 k.1, k.2.trans h.2⟩
theorem Keep3.b {n₀ Bs gA : Nat} {w : World} (hn : n₀ ≤ w.heap.size) (hb : Bs < w.heap.size) (hA : gA < w.heap.size) (W : World) (l : Nat) (o o' : Obj) (hl : w.heap.size ≤ l) (h : W.heap[l]? = some o) (hc : o.isCells = false) (hw : o.isWalk = false) : Keep3 n₀ Bs gA W (W.putObj l o') :=
  ⟨keepK_b hn hb W l o o' hl h hc hw, World.putObj_heap_other (by omega)⟩
theorem Sl.keep3 {n₀ Bs gA N : Nat} {A : Option Addr} {W W' : World} {xs : List Value} (h : Sl W N A xs) (hA : 0 < xs.length → ∀ a, A = some a → a.block = gA) (k : Keep3 n₀ Bs gA W W') : Sl W' N A xs := fun hn => by
  obtain ⟨b, o, e, hb, hc⟩ := h hn
  have hk := k.2
  rw [← hA hn _ e] at hk
  exact ⟨b, o, e, hb, fun j hj => (World.cell?_of_block (a := ⟨b, o + j, none⟩) hk).trans (hc j hj)⟩
/-- The row of a slice of one's own, for such an iterator. -/
theorem Ow.rowAt {w : World} {base E n c : Nat} {A : Option Addr} {xs : List Value} (h : Ow w base E (.slice A n c) xs) (hlt : base < w.heap.size + 1) : ∃ gA, base ≤ gA ∧ gA ≤ w.heap.size ∧ (0 < xs.length → ∀ a, A = some a → a.block = gA) := by
  obtain ⟨A', c', e, h1, h2, h3⟩ := h
  injection e with e1 e2 e3; subst e1 e2 e3
  by_cases hc : 0 < c
  · obtain ⟨g, cur, rfl, hb, hh, _⟩ := h3 hc
    exact ⟨g, hb, by have := (Array.getElem?_eq_some_iff.1 hh).1; omega, fun _ a ha => by cases ha; rfl⟩
  · exact ⟨w.heap.size, by omega, by omega, fun hn => by omega⟩

set_option maxRecDepth 100000 in
set_option maxHeartbeats 2000000 in
theorem bwdB1_in (F : Fence) (hF : ∀ k, F.fn k) (hro : F.round = none) (n : Nat) (hn : 1 ≤ n) (l Bs N : Nat) (K : World → World → Prop) (hKr : ∀ W, K W W) (hKt : ∀ {A B C : World}, K A B → K B C → K A C) (hKc : ∀ {W W' : World}, K W W' → W'.heap[Bs]? = W.heap[Bs]?) (A : Option Addr) (cap : Nat) (bs : List UInt8) (hreach : bs.length ≤ 140737488351232) {α : Type} (enc : α → Nat × UInt8) (hen : ∀ j (h : j < bs.length), ∃ x, enc x = (j, bs[j])) (J Jx : List α → World → Prop)
    (hY : ∀ pre x W, J pre W → pre.length < bs.length → YieldAt F (n - 1) Tryd.prog l #[Value.int .i64 ((enc x).1 : Int), .int .u8 ((enc x).2.toNat : Int)] W fun e W' =>
      (e = .returned (.bool true) ∧ J (pre ++ [x]) W' ∧ K W W') ∨ (e = .returned (.bool false) ∧ Jx (pre ++ [x]) W'))
    (W : World) (hBs : W.cell? ⟨Bs, 0, none⟩ = some (.slice A bs.length cap)) (hs : ∀ W', K W W' → Sl W' N A (B8 bs)) (h0 : J [] W) :
    CallsIn F n Tryd.prog 38 #[.func (.yield l) #[] #[], .pointer (some ⟨Bs, 0, none⟩)] W fun e W' => (∃ v, e = .returned v) ∧
      ((∃ ys, ys.map enc = bwd bs bs.length ∧ J ys W') ∨ (∃ pre, (∃ k, k ≤ bs.length ∧ pre.map enc = bwd bs k) ∧ Jx pre W')) := by
  refine callsIn_of_wp Tryd.func38 rfl (hF _) ?_ hro
  simp only [Tryd.ntmps38, List.size_toArray, List.length_cons, List.length_nil, Nat.reduceAdd, Nat.reduceSub, Array.replicate_succ, Array.replicate_zero, List.push_toArray, List.append_toArray, List.nil_append, List.cons_append]
  gi_wp2
  gi_loopw [3] (fun i wr => ∃ k : Nat, k ≤ bs.length ∧ i = .int .i64 ((bs.length : Int) - 1 - (k : Int)) ∧ (∃ pre, pre.map enc = bwd bs k ∧ J pre wr) ∧ K W wr)
    (fun i _ => (intOf i + 1).toNat)
  case atStart => exact ⟨0, Nat.zero_le _, by go_num, ⟨[], rfl, h0⟩, hKr _⟩
  case round =>
    obtain ⟨k, hk, rfl, ⟨pre, hpre, hJs⟩, hnx⟩ := hrel
    have Hpre := Lib.hid hpre
    have hpl : pre.length = k := by have := congrArg List.length hpre; simpa [bwd_length] using this
    clear hpre
    by_cases hlt : k < bs.length
    · obtain ⟨m, hm⟩ : ∃ m, m = bs.length - 1 - k := ⟨_, rfl⟩
      have hm1 : m < bs.length := by omega
      have hmI : (bs.length : Int) - 1 - (k : Int) = (m : Int) := by omega
      obtain ⟨b, o, rfl, hb, hc⟩ := (hs wr hnx).at_ (k := m) hm1
      have hcm := hc m hm1
      have hcx := (World.cell?_of_block (a := ⟨Bs, 0, none⟩) (hKc hnx)).trans hBs
      obtain ⟨x, hx⟩ := hen m hm1
      obtain ⟨fn, tmps, assign, body, hy, hR⟩ := hY _ x wr hJs (by rw [hpl]; exact hlt)
      simp only [hx] at hy hR
      have Hx := Lib.hid hx
      clear hx hpl
      rw [hmI]
      have hnx' := hnx
      have Hm := Lib.hid hm
      clear hmI hc hs hBs hnx hm
      gi_wp2
      refine hR.mono ?_
      rintro e W3 (⟨rfl, hJ3, hk3⟩ | ⟨rfl, hJx3⟩)
      · gi_wp2
        go_roundw
        case rel => 
          have hm := Hm.out
          exact ⟨k + 1, by omega, by go_num, ⟨_, by rw [List.map_append, Hpre.out, bwd_succ, ← hm, List.getElem?_eq_getElem hm1, List.map_cons, List.map_nil, Hx.out]; rfl, hJ3⟩, hKt hnx' hk3⟩
        case measure => simp [intOf]
      · gi_wp2
        refine bodyPost_ret (results_none rfl _ _ _) rfl ?_
        have hm := Hm.out
        exact ⟨⟨_, rfl⟩, .inr ⟨_, ⟨k + 1, by omega, by rw [List.map_append, Hpre.out, bwd_succ, ← hm, List.getElem?_eq_getElem hm1, List.map_cons, List.map_nil, Hx.out]; rfl⟩, hJx3⟩⟩
    · obtain rfl : k = bs.length := by omega
      have e1 : (bs.length : Int) - 1 - (bs.length : Int) = -1 := by omega
      rw [e1]
      gi_wp2
      go_end0
      exact ⟨⟨_, rfl⟩, .inl ⟨_, Hpre.out, hJs⟩⟩

set_option maxHeartbeats 1000000 in
theorem bwdB_in (F : Fence) (hF : ∀ k, F.fn k) (hro : F.round = none) (n : Nat) (a : Option Addr) (len cap : Nat) (w : World) :
    CallsIn F n Tryd.prog 20 #[.slice a len cap] w fun e w' => e = .returned (.func (.func 38) #[] #[.pointer (some ⟨w.heap.size, 0, none⟩)]) ∧ w' = w.alloc (.cells #[.slice a len cap] 22) := by
  refine callsIn_of_wp Tryd.func20 rfl (hF _) ?_ hro
  simp only [Tryd.ntmps20, List.size_toArray, List.length_cons, List.length_nil, Nat.reduceAdd, Nat.reduceSub, Array.replicate_succ, Array.replicate_zero, List.push_toArray, List.append_toArray, List.nil_append, List.cons_append]
  gi_wp2
  go_ret
  exact ⟨rfl, rfl⟩

theorem bwdB_stopsK (F : Fence) (hF : ∀ k, F.fn k) (hro : F.round = none) (n : Nat) (hn : 1 ≤ n) (Bs N : Nat) (K : World → World → Prop) (hKr : ∀ W, K W W) (hKt : ∀ {A B C : World}, K A B → K B C → K A C) (hKc : ∀ {W W' : World}, K W W' → W'.heap[Bs]? = W.heap[Bs]?)
    (A : Option Addr) (cap : Nat) (bs : List UInt8) (hreach : bs.length ≤ 140737488351232) {α : Type} (enc : α → Nat × UInt8) (hen : ∀ j (h : j < bs.length), ∃ x, enc x = (j, bs[j])) (w : World)
    (hwK : ∀ W, Below w.heap.size w W → K w W) (hc : w.cell? ⟨Bs, 0, none⟩ = some (.slice A bs.length cap)) (hs : ∀ W', K w W' → Sl W' N A (B8 bs)) :
    SeqStopsK F n Tryd.prog 38 #[.pointer (some ⟨Bs, 0, none⟩)] (fun x : α => #[Value.int .i64 ((enc x).1 : Int), Value.int .u8 ((enc x).2.toNat : Int)]) K (fun ys => ys.map enc = bwd bs bs.length)
      (fun pre => ∃ k, k ≤ bs.length ∧ pre.map enc = bwd bs k) bs.length w := fun l J Jx W hW _ _ hY h0 =>
  bwdB1_in F hF hro n hn l Bs N K hKr hKt hKc A cap bs hreach enc hen J Jx hY W ((World.cell?_of_block (a := ⟨Bs, 0, none⟩) (hKc (hwK W hW))).trans hc) (fun W' h => hs W' (hKt (hwK W hW) h)) h0

theorem bwdB_stops (F : Fence) (hF : ∀ k, F.fn k) (hro : F.round = none) (n : Nat) (hn : 1 ≤ n) (Bs n₀ : Nat) (A : Option Addr) (cap : Nat) (bs : List UInt8) (hreach : bs.length ≤ 140737488351232) (w : World) (hBs : Bs < w.heap.size) (hn₀ : n₀ ≤ w.heap.size)
    (hc : w.cell? ⟨Bs, 0, none⟩ = some (.slice A bs.length cap)) (hs : Sl w n₀ A (B8 bs)) :
    SeqStopsK F n Tryd.prog 38 #[.pointer (some ⟨Bs, 0, none⟩)] (fun x : Nat × UInt8 => #[Value.int .i64 (x.1 : Int), Value.int .u8 (x.2.toNat : Int)]) (Keep n₀ Bs) (fun ys => ys = bwd bs bs.length)
      (fun pre => ∃ k, k ≤ bs.length ∧ pre = bwd bs k) bs.length w :=
  fun l J Jx W hW n hn' hY h0 => by
    have h := bwdB_stopsK F hF hro _ hn Bs n₀ (Keep n₀ Bs) (Keep.refl _ _) keepK_t (fun h => h.2) A cap bs hreach id (fun j h => ⟨_, rfl⟩) w (fun W hW => ⟨hW.mono hn₀, hW.block Bs hBs⟩) hc (fun _ h => hs.below h.1)
    simpa only [List.map_id] using h l J Jx W hW n hn' hY h0
end Go.Proofs.YtmfligfcejhjaaaDoor
