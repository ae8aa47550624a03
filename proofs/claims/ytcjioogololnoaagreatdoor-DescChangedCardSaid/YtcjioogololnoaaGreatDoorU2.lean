/- text.noughts: how many of one byte stand at the beginning. | The iterator that slices.Backward of a []byte hands back: its contract, for whatever loop body keeps what lay below. | Base conversion, digit by digit: plain facts. -/
import Derived.Test.YtcjioogololnoaaGreatDoorU1
import Derived.Shelf.RegionOpen
import Derived.RangeFuncBox
import Derived.RangeFuncNested
import Derived.RangeFuncCalls
import Derived.RangeFuncLeaves
import Derived.Shelf.Abstract
import Derived.OwnWalkIn
import Derived.TacticsInMore
import Derived.LoopNIn
import Derived.LoopIn
import Derived.Lib.Hide
import Derived.Test.YtcjioogololnoaaGreatDoorRows

/-! text.noughts: how many of one byte stand at the beginning. -/
namespace Go.Proofs.YtcjioogololnoaaGreatDoor
open Go.RowKit Go.Shelf

theorem Sl.cutf {w : World} {B : Nat} {A : Option Addr} {xs : List Value} (h : Sl w B A xs) {k cap : Nat} (f : Addr → Addr) (hf : ∀ b o, f ⟨b, o, none⟩ = ⟨b, o + k, none⟩) (hc : xs.length ≤ cap) (hk : k ≤ xs.length) :
    Sl w B (if cap = k then A else A.map f) (xs.drop k) := fun hn => by
  have hk' : k < xs.length := by simp at hn; omega
  obtain ⟨b, o, rfl, hb, hcell⟩ := h (by omega)
  rw [if_neg (by omega)]
  refine ⟨b, o + k, by simp [hf], hb, fun j hj => ?_⟩
  have := hcell (k + j) (by simp at hj; omega)
  rw [Nat.add_assoc, this]
  simp
theorem dropWhile_at (bs : List UInt8) (x : UInt8) (k : Nat) (h : k ≤ bs.length) (hall : ∀ j (hj : j < bs.length), j < k → bs[j] = x) (hend : ∀ (hk : k < bs.length), bs[k] ≠ x) : (bs.dropWhile (· == x)).length = bs.length - k := by
  induction bs generalizing k with
  | nil => simp
  | cons b bs ih =>
    cases k with
    | zero =>
      have := hend (by simp)
      rw [List.dropWhile_cons_of_neg (by simpa using this)]; simp
    | succ k =>
      have h0 := hall 0 (by simp) (by omega)
      rw [List.dropWhile_cons_of_pos (by simpa using h0), ih k (by simpa using h) (fun j hj hjk => by
        have := hall (j + 1) (by simpa using hj) (by omega); simpa using this) (fun hk => by have := hend (by simpa using hk); simpa using this)]
      simp

set_option maxRecDepth 100000 in
set_option maxHeartbeats 2000000 in
theorem trimByte_any (A : Option Addr) (c : Nat) (bs : List UInt8) (x : UInt8) (w : World) (hs : Sl w w.heap.size A (B8 bs)) (hbc : bs.length ≤ c) :
    Calls Tryz.prog 211 #[.slice A bs.length c, .int .u8 (x.toNat : Int)] w fun e W' => ∃ A' c', e = .returned (.slice A' (bs.dropWhile (· == x)).length c') ∧ W' = w := by
  have Hbc := Lib.hid hbc
  obtain ⟨N, hN⟩ : ∃ N, N = bs.length := ⟨_, rfl⟩
  rw [← hN]
  have HN := Lib.hid hN
  clear hbc hN
  have hx8 := x.toNat_lt
  go_enter Tryz.func211, Tryz.ntmps211
  go_wp2_with fail
  go_loopw [0] (fun v wr => ∃ k A' c' r, wr = w ∧ Hid (r + k = N) ∧ v = .slice A' r c' ∧ r ≤ c' ∧ (∀ j (hj : j < bs.length), j < k → bs[j] = x) ∧ Sl w w.heap.size A' (B8 (bs.drop k))) (fun v _ => match v with | .slice _ n _ => n | _ => 0)
  case atStart => exact ⟨0, A, c, N, rfl, Lib.hid rfl, rfl, by have := Hbc.out; have := HN.out; omega, fun j _ h => absurd h (by omega), hs⟩
  case round =>
    obtain ⟨k, A', c', r, rfl, Hr, rfl, hrc, hall, hsk⟩ := hrel
    have hlen : (bs.drop k).length = r := by have := Hr.out; have := HN.out; simp; omega
    by_cases hr0 : 0 < r
    · have hkb : k < bs.length := by have := Hr.out; have := HN.out; omega
      obtain ⟨b, o, rfl, hb, hcl⟩ := hsk (by simp; omega)
      have h0 := hcl 0 (by simp; omega)
      rw [B8_get, Nat.add_zero] at h0
      simp only [List.getElem_drop, Nat.add_zero] at h0
      obtain ⟨y, hy⟩ : ∃ y, y = bs[k] := ⟨_, rfl⟩
      rw [← hy] at h0
      have hy8 := y.toNat_lt
      have Hhc := Lib.hid hcl
      have Hy := Lib.hid hy
      have Hlen := Lib.hid hlen
      have Hall := Lib.hid hall
      clear hcl hy hlen hall
      by_cases hxy : y = x
      · have exy : (y.toNat : Int) = (x.toNat : Int) := by rw [hxy]
        go_wp2_with fail
        refine ⟨⟨k + 1, _, c' - 1, r - 1, trivial, Lib.hid (by have := Hr.out; omega), rfl, by omega, fun j hj hjk => ?_, fun hn => ?_⟩, by simp; omega⟩
        · by_cases hjk' : j < k
          · exact Hall.out j hj hjk'
          · obtain rfl : j = k := by omega
            rw [← Hy.out, hxy]
        · have hn' : k + 1 < bs.length := by simp at hn; omega
          have := Hr.out
          have := HN.out
          rw [if_neg (by omega)]
          refine ⟨b, o + 1, rfl, hb, fun j hj => ?_⟩
          have hj' : j < bs.length - (k + 1) := by simpa using hj
          have h1 := Hhc.out (j + 1) (by simp; omega)
          rw [show o + 1 + j = o + (j + 1) by omega, h1]
          simp only [B8_get, List.getElem_drop, show k + (j + 1) = k + 1 + j by omega]
      · have exy : ¬ (y.toNat : Int) = (x.toNat : Int) := fun e => hxy (UInt8.toNat_inj.1 (by omega))
        go_wp2_with fail
        go_ret
        refine ⟨some ⟨b, o, none⟩, c', ?_, rfl⟩
        show Ending.returned (.slice (some ⟨b, o, none⟩) r c') = _
        rw [dropWhile_at bs x k (by omega) Hall.out (fun hk => by rw [← Hy.out]; exact hxy), show bs.length - k = r from by have := Hr.out; have := HN.out; omega]
    · obtain rfl : r = 0 := by omega
      have hkb : k = bs.length := by have := Hr.out; have := HN.out; omega
      have Hkb := Lib.hid hkb
      have Hall := Lib.hid hall
      clear hkb hall
      go_wp2_with fail
      go_ret
      refine ⟨none, 0, ?_, rfl⟩
      show Ending.returned (.slice none 0 0) = _
      rw [dropWhile_at bs x k (by have := Hkb.out; omega) Hall.out (fun hk => absurd hk (by have := Hkb.out; omega)), show bs.length - k = 0 from by have := Hkb.out; omega]

set_option maxRecDepth 100000 in
set_option maxHeartbeats 2000000 in
theorem trimLeft_any (A : Option Addr) (c : Nat) (bs : List UInt8) (w : World) (hs : Sl w w.heap.size A (B8 bs)) (hbc : bs.length ≤ c) :
    Calls Tryz.prog 207 #[.slice A bs.length c, .string ⟨#[49]⟩] w fun e W' => ∃ A' c', e = .returned (.slice A' (bs.dropWhile (· == 49)).length c') ∧ W' = w := by
  by_cases hb : bs = []
  · subst hb
    go_enter Tryz.func207, Tryz.ntmps207
    go_wp2_with fail
    go_ret
    exact ⟨_, _, rfl, rfl⟩
  · have hbl : 0 < bs.length := List.length_pos_iff.2 hb
    go_enter Tryz.func207, Tryz.ntmps207
    go_wp2_with fail
    refine (trimByte_any A c bs 49 w hs hbc).mono ?_
    rintro e w' ⟨A', c', rfl, rfl⟩
    go_wp2_with fail
    go_ret
    exact ⟨_, _, rfl, rfl⟩

set_option maxRecDepth 100000 in
set_option maxHeartbeats 2000000 in
theorem noughts_any (A : Option Addr) (c : Nat) (bs : List UInt8) (w : World) (hs : Sl w w.heap.size A (B8 bs)) (hbc : bs.length ≤ c) (hl : bs.length ≤ 4096) :
    Calls Tryz.prog 180 #[.slice A bs.length c, .int .u8 49] w fun e W' => e = .returned (.int .i64 ((bs.length - (bs.dropWhile (· == 49)).length : Nat) : Int)) ∧ Below w.heap.size w W' := by
  have hdl : (bs.dropWhile (· == 49)).length ≤ bs.length := (List.dropWhile_sublist _).length_le
  have hS1 : Sl (w.alloc (.cells #[.int .u8 49] 5)) (w.heap.size + 1) (some ⟨w.heap.size, 0, none⟩) (B8 [49]) := Sl.one w _ _
  have hstr := run_str_Sl (P := Tryz.prog) (w.alloc (.cells #[.int .u8 49] 5)) 37 9 5 (by kernel_rfl) (by kernel_rfl) (by kernel_rfl) _ _ 1 [49] hS1
  simp only [List.length_cons, List.length_nil, Nat.zero_add] at hstr
  have hB1 : Below w.heap.size w (w.alloc (.cells #[.int .u8 49] 5)) := (Below.refl _ w).alloc (Nat.le_refl _) _
  have hs1 := (hs.below hB1).mono hB1.size
  obtain ⟨D, hD⟩ : ∃ D, D = (bs.dropWhile (· == 49)).length := ⟨_, rfl⟩
  have htrim := trimLeft_any A c bs (w.alloc (.cells #[.int .u8 49] 5)) hs1 hbc
  rw [← hD] at hdl htrim ⊢
  have Htrim := Lib.hid htrim
  have HD := Lib.hid hD
  have Hbc := Lib.hid hbc
  clear hD htrim hs1 hs hS1 hbc
  go_enter Tryz.func180, Tryz.ntmps180
  go_wp2_with fail
  refine Htrim.out.mono ?_
  rintro e w' ⟨A', c', rfl, rfl⟩
  go_wp2_with fail
  go_ret
  refine ⟨?_, hB1⟩
  show Ending.returned (.int .i64 ((bs.length : Int) - (D : Int))) = _
  rw [Int.ofNat_sub hdl]
end Go.Proofs.YtcjioogololnoaaGreatDoor

/-! The iterator that slices.Backward of a []byte hands back: its contract, for whatever loop body keeps what lay below. -/
namespace Go.Proofs.YtcjioogololnoaaGreatDoor
open Go.RowKit Go.Shelf
attribute [local go_sem] Oper.semAt_some

/-- What comes of bs in k rounds from the end: places and bytes. -/
def bwd (bs : List UInt8) (k : Nat) : List (Nat × UInt8) := (List.range k).map fun j => (bs.length - 1 - j, bs[bs.length - 1 - j]?.getD 0)
theorem bwd_succ (bs : List UInt8) (k : Nat) : bwd bs (k + 1) = bwd bs k ++ [(bs.length - 1 - k, bs[bs.length - 1 - k]?.getD 0)] := by simp [bwd, List.range_succ]
theorem bwd_length (bs : List UInt8) (k : Nat) : (bwd bs k).length = k := by simp [bwd]
theorem bwd_bytes (bs : List UInt8) : (bwd bs bs.length).map (·.2) = bs.reverse := by
  apply List.ext_getElem
  · simp [bwd]
  · intro i h1 h2
    have : bs.length - 1 - i < bs.length := by simp [bwd] at h1; omega
    simp [bwd, this]

/-- What a loop's body must keep for an iterator that looks into the box Bs and at what lies below n₀. -/
def Keep (n₀ Bs : Nat) (W W' : World) : Prop := Below n₀ W W' ∧ W'.heap[Bs]? = W.heap[Bs]?
theorem keepK_t {n₀ Bs : Nat} {A B C : World} (h : Keep n₀ Bs A B) (k : Keep n₀ Bs B C) : Keep n₀ Bs A C := ⟨h.1.trans k.1, k.2.trans h.2⟩
theorem keepK_b {n₀ Bs : Nat} {w : World} (hn : n₀ ≤ w.heap.size) (hb : Bs < w.heap.size) (W : World) (l : Nat) (o o' : Obj) (hl : w.heap.size ≤ l) (h : W.heap[l]? = some o) (hc : o.isCells = false) (hw : o.isWalk = false) : Keep n₀ Bs W (W.putObj l o') :=
  ⟨belowK_b hn W l o o' hl h hc hw, World.putObj_heap_other (by omega)⟩
theorem Keep.refl (n₀ Bs : Nat) (W : World) : Keep n₀ Bs W W := ⟨Below.refl _ _, rfl⟩
theorem Keep.cell {n₀ Bs : Nat} {W W' : World} (h : Keep n₀ Bs W W') {v : Value} (hc : W.cell? ⟨Bs, 0, none⟩ = some v) : W'.cell? ⟨Bs, 0, none⟩ = some v := (World.cell?_of_block (a := ⟨Bs, 0, none⟩) h.2).trans hc

/-- The same, and the row itself that the iterator reads. -/
def Keep3 (n₀ Bs gA : Nat) (W W' : World) : Prop := Keep n₀ Bs W W' ∧ W'.heap[gA]? = W.heap[gA]?
theorem Keep3.refl (n₀ Bs gA : Nat) (W : World) : Keep3 n₀ Bs gA W W := ⟨Keep.refl _ _ _, rfl⟩
theorem Keep3.trans {n₀ Bs gA : Nat} {a b c : World} (h : Keep3 n₀ Bs gA a b) (k : Keep3 n₀ Bs gA b c) : Keep3 n₀ Bs gA a c := ⟨keepK_t h.1 k.1, k.2.trans h.2⟩
theorem Keep3.b {n₀ Bs gA : Nat} {w : World} (hn : n₀ ≤ w.heap.size) (hb : Bs < w.heap.size) (hA : gA < w.heap.size) (W : World) (l : Nat) (o o' : Obj) (hl : w.heap.size ≤ l) (h : W.heap[l]? = some o) (hc : o.isCells = false) (hw : o.isWalk = false) : Keep3 n₀ Bs gA W (W.putObj l o') :=
  ⟨keepK_b hn hb W l o o' hl h hc hw, World.putObj_heap_other (by omega)⟩
theorem Sl.keep3 {n₀ Bs gA N : Nat} {A : Option Addr} {W W' : World} {xs : List Value} (h : Sl W N A xs) (hA : 0 < xs.length → ∀ a, A = some a → a.block = gA) (k : Keep3 n₀ Bs gA W W') : Sl W' N A xs := fun hn => by
  obtain ⟨b, o, e, hb, hc⟩ := h hn
  have hk := k.2
  rw [← hA hn _ e] at hk
  exact ⟨b, o, e, hb, fun j hj => (World.cell?_of_block (a := ⟨b, o + j, none⟩) hk).trans (hc j hj)⟩
/-- The row of a slice of one's own, for such an iterator. -/
theorem Ow.rowAt {w : World} {base E n c : Nat} {A : Option Addr} {xs : List Value} (h : Ow w base E (.slice A n c) xs) (hlt : base < w.heap.size + 1) : ∃ gA, base ≤ gA ∧ gA ≤ w.heap.size ∧ (0 < xs.length → ∀ a, A = some a → a.block = gA) := by
  obtain ⟨A', c', e, h1, h2, h3⟩ := h
  injection e with e1 e2 e3; subst e1 e2 e3
  by_cases hc : 0 < c
  · obtain ⟨g, cur, rfl, hb, hh, _⟩ := h3 hc
    exact ⟨g, hb, by have := (Array.getElem?_eq_some_iff.1 hh).1; omega, fun _ a ha => by cases ha; rfl⟩
  · exact ⟨w.heap.size, by omega, by omega, fun hn => by omega⟩

set_option maxRecDepth 100000 in
set_option maxHeartbeats 2000000 in
theorem bwdB1_in (F : Fence) (hF : ∀ k, F.fn k) (hro : F.round = none) (n : Nat) (hn : 1 ≤ n) (l Bs N : Nat) (K : World → World → Prop) (hKr : ∀ W, K W W) (hKt : ∀ {A B C : World}, K A B → K B C → K A C) (hKc : ∀ {W W' : World}, K W W' → W'.heap[Bs]? = W.heap[Bs]?) (A : Option Addr) (cap : Nat) (bs : List UInt8) (hreach : bs.length ≤ 140737488351232) {α : Type} (enc : α → Nat × UInt8) (hen : ∀ j (h : j < bs.length), ∃ x, enc x = (j, bs[j])) (J Jx : List α → World → Prop)
    (hY : ∀ pre x W, J pre W → pre.length < bs.length → YieldAt F (n - 1) Tryz.prog l #[Value.int .i64 ((enc x).1 : Int), .int .u8 ((enc x).2.toNat : Int)] W fun e W' =>
      (e = .returned (.bool true) ∧ J (pre ++ [x]) W' ∧ K W W') ∨ (e = .returned (.bool false) ∧ Jx (pre ++ [x]) W'))
    (W : World) (hBs : W.cell? ⟨Bs, 0, none⟩ = some (.slice A bs.length cap)) (hs : ∀ W', K W W' → Sl W' N A (B8 bs)) (h0 : J [] W) :
    CallsIn F n Tryz.prog 195 #[.func (.yield l) #[] #[], .pointer (some ⟨Bs, 0, none⟩)] W fun e W' => (∃ v, e = .returned v) ∧
      ((∃ ys, ys.map enc = bwd bs bs.length ∧ J ys W') ∨ (∃ pre, (∃ k, k ≤ bs.length ∧ pre.map enc = bwd bs k) ∧ Jx pre W')) := by
  refine callsIn_of_wp Tryz.func195 rfl (hF _) ?_ hro
  simp only [Tryz.ntmps195, List.size_toArray, List.length_cons, List.length_nil, Nat.reduceAdd, Nat.reduceSub, Array.replicate_succ, Array.replicate_zero, List.push_toArray, List.append_toArray, List.nil_append, List.cons_append]
  gi_wp2
  gi_loopw [3] (fun i wr => ∃ k : Nat, k ≤ bs.length ∧ i = .int .i64 ((bs.length : Int) - 1 - (k : Int)) ∧ (∃ pre, pre.map enc = bwd bs k ∧ J pre wr) ∧ K W wr)
    (fun i _ => (intOf i + 1).toNat)
  case atStart => exact ⟨0, Nat.zero_le _, by go_num, ⟨[], rfl, h0⟩, hKr _⟩
  case round =>
    obtain ⟨k, hk, rfl, ⟨pre, hpre, hJs⟩, hnx⟩ := hrel
    have Hpre := Lib.hid hpre
    have hpl : pre.length = k := by have := congrArg List.length hpre; simpa [bwd_length] using this
    clear hpre
    by_cases hlt : k < bs.length
    · obtain ⟨m, hm⟩ : ∃ m, m = bs.length - 1 - k := ⟨_, rfl⟩
      have hm1 : m < bs.length := by omega
      have hmI : (bs.length : Int) - 1 - (k : Int) = (m : Int) := by omega
      obtain ⟨b, o, rfl, hb, hc⟩ := (hs wr hnx).at_ (k := m) hm1
      have hcm := hc m hm1
      have hcx := (World.cell?_of_block (a := ⟨Bs, 0, none⟩) (hKc hnx)).trans hBs
      obtain ⟨x, hx⟩ := hen m hm1
      obtain ⟨fn, tmps, assign, body, hy, hR⟩ := hY _ x wr hJs (by rw [hpl]; exact hlt)
      simp only [hx] at hy hR
      have Hx := Lib.hid hx
      clear hx hpl
      rw [hmI]
      have hnx' := hnx
      have Hm := Lib.hid hm
      clear hmI hc hs hBs hnx hm
      gi_wp2
      refine hR.mono ?_
      rintro e W3 (⟨rfl, hJ3, hk3⟩ | ⟨rfl, hJx3⟩)
      · gi_wp2
        go_roundw
        case rel => 
          have hm := Hm.out
          exact ⟨k + 1, by omega, by go_num, ⟨_, by rw [List.map_append, Hpre.out, bwd_succ, ← hm, List.getElem?_eq_getElem hm1, List.map_cons, List.map_nil, Hx.out]; rfl, hJ3⟩, hKt hnx' hk3⟩
        case measure => simp [intOf]
      · gi_wp2
        refine bodyPost_ret (results_none rfl _ _ _) rfl ?_
        have hm := Hm.out
        exact ⟨⟨_, rfl⟩, .inr ⟨_, ⟨k + 1, by omega, by rw [List.map_append, Hpre.out, bwd_succ, ← hm, List.getElem?_eq_getElem hm1, List.map_cons, List.map_nil, Hx.out]; rfl⟩, hJx3⟩⟩
    · obtain rfl : k = bs.length := by omega
      have e1 : (bs.length : Int) - 1 - (bs.length : Int) = -1 := by omega
      rw [e1]
      gi_wp2
      go_end0
      exact ⟨⟨_, rfl⟩, .inl ⟨_, Hpre.out, hJs⟩⟩

set_option maxHeartbeats 1000000 in
theorem bwdB_in (F : Fence) (hF : ∀ k, F.fn k) (hro : F.round = none) (n : Nat) (a : Option Addr) (len cap : Nat) (w : World) :
    CallsIn F n Tryz.prog 164 #[.slice a len cap] w fun e w' => e = .returned (.func (.func 195) #[] #[.pointer (some ⟨w.heap.size, 0, none⟩)]) ∧ w' = w.alloc (.cells #[.slice a len cap] 37) := by
  refine callsIn_of_wp Tryz.func164 rfl (hF _) ?_ hro
  simp only [Tryz.ntmps164, List.size_toArray, List.length_cons, List.length_nil, Nat.reduceAdd, Nat.reduceSub, Array.replicate_succ, Array.replicate_zero, List.push_toArray, List.append_toArray, List.nil_append, List.cons_append]
  gi_wp2
  go_ret
  exact ⟨rfl, rfl⟩

theorem bwdB_stopsK (F : Fence) (hF : ∀ k, F.fn k) (hro : F.round = none) (n : Nat) (hn : 1 ≤ n) (Bs N : Nat) (K : World → World → Prop) (hKr : ∀ W, K W W) (hKt : ∀ {A B C : World}, K A B → K B C → K A C) (hKc : ∀ {W W' : World}, K W W' → W'.heap[Bs]? = W.heap[Bs]?)
    (A : Option Addr) (cap : Nat) (bs : List UInt8) (hreach : bs.length ≤ 140737488351232) {α : Type} (enc : α → Nat × UInt8) (hen : ∀ j (h : j < bs.length), ∃ x, enc x = (j, bs[j])) (w : World)
    (hwK : ∀ W, Below w.heap.size w W → K w W) (hc : w.cell? ⟨Bs, 0, none⟩ = some (.slice A bs.length cap)) (hs : ∀ W', K w W' → Sl W' N A (B8 bs)) :
    SeqStopsK F n Tryz.prog 195 #[.pointer (some ⟨Bs, 0, none⟩)] (fun x : α => #[Value.int .i64 ((enc x).1 : Int), Value.int .u8 ((enc x).2.toNat : Int)]) K (fun ys => ys.map enc = bwd bs bs.length)
      (fun pre => ∃ k, k ≤ bs.length ∧ pre.map enc = bwd bs k) bs.length w := fun l J Jx W hW _ _ hY h0 =>
  bwdB1_in F hF hro n hn l Bs N K hKr hKt hKc A cap bs hreach enc hen J Jx hY W ((World.cell?_of_block (a := ⟨Bs, 0, none⟩) (hKc (hwK W hW))).trans hc) (fun W' h => hs W' (hKt (hwK W hW) h)) h0

theorem bwdB_stops (F : Fence) (hF : ∀ k, F.fn k) (hro : F.round = none) (n : Nat) (hn : 1 ≤ n) (Bs n₀ : Nat) (A : Option Addr) (cap : Nat) (bs : List UInt8) (hreach : bs.length ≤ 140737488351232) (w : World) (hBs : Bs < w.heap.size) (hn₀ : n₀ ≤ w.heap.size)
    (hc : w.cell? ⟨Bs, 0, none⟩ = some (.slice A bs.length cap)) (hs : Sl w n₀ A (B8 bs)) :
    SeqStopsK F n Tryz.prog 195 #[.pointer (some ⟨Bs, 0, none⟩)] (fun x : Nat × UInt8 => #[Value.int .i64 (x.1 : Int), Value.int .u8 (x.2.toNat : Int)]) (Keep n₀ Bs) (fun ys => ys = bwd bs bs.length)
      (fun pre => ∃ k, k ≤ bs.length ∧ pre = bwd bs k) bs.length w :=
  fun l J Jx W hW n hn' hY h0 => by
    have h := bwdB_stopsK F hF hro _ hn Bs n₀ (Keep n₀ Bs) (Keep.refl _ _) keepK_t (fun h => h.2) A cap bs hreach id (fun j h => ⟨_, rfl⟩) w (fun W hW => ⟨hW.mono hn₀, hW.block Bs hBs⟩) hc (fun _ h => hs.below h.1)
    simpa only [List.map_id] using h l J Jx W hW n hn' hY h0
end Go.Proofs.YtcjioogololnoaaGreatDoor

/-! Base conversion, digit by digit: plain facts. -/
namespace Go.Proofs.YtcjioogololnoaaGreatDoor

/-- What is left of a carry, its digits from the lowest on. -/
def pushes (t : Nat) : Nat → Nat → List UInt8
  | 0, _ => []
  | fuel + 1, c => if c = 0 then [] else UInt8.ofNat (c % t) :: pushes t fuel (c / t)
/-- The digits of xs times f plus a carry, as many as there were; what is left. -/
def mid (f t : Nat) : List UInt8 → Nat → List UInt8 × Nat
  | [], c => ([], c)
  | x :: xs, c => (UInt8.ofNat ((c + x.toNat * f) % t) :: (mid f t xs ((c + x.toNat * f) / t)).1, (mid f t xs ((c + x.toNat * f) / t)).2)
def baseStep (f t : Nat) (xs : List UInt8) (c : Nat) : List UInt8 := (mid f t xs c).1 ++ pushes t (mid f t xs c).2 (mid f t xs c).2
def baseL (f t : Nat) (l : List UInt8) : List UInt8 := l.foldl (fun out d => baseStep f t out d.toNat) []
theorem baseL_snoc (f t : Nat) (l : List UInt8) (d : UInt8) : baseL f t (l ++ [d]) = baseStep f t (baseL f t l) d.toNat := by simp [baseL]

theorem pushes_fuel (t : Nat) (ht : 2 ≤ t) : ∀ (m n c : Nat), c ≤ m → c ≤ n → pushes t m c = pushes t n c := by
  intro m
  induction m with
  | zero => intro n c h1 h2; cases n with
    | zero => rfl
    | succ n => simp [pushes, show c = 0 by omega]
  | succ m ih =>
    intro n c h1 h2
    by_cases hc : c = 0
    · subst hc; cases n <;> simp [pushes]
    · cases n with
      | zero => omega
      | succ n =>
        simp only [pushes, hc, if_false]
        have : c / t < c := Nat.div_lt_self (by omega) (by omega)
        rw [ih n (c / t) (by omega) (by omega)]
theorem pushes_pos (t c : Nat) (ht : 2 ≤ t) (hc : 0 < c) : pushes t c c = UInt8.ofNat (c % t) :: pushes t (c / t) (c / t) := by
  obtain ⟨m, rfl⟩ : ∃ m, c = m + 1 := ⟨c - 1, by omega⟩
  simp only [pushes, Nat.add_eq_zero_iff, Nat.one_ne_zero, and_false, if_false]
  have : (m + 1) / t < m + 1 := Nat.div_lt_self (by omega) (by omega)
  rw [pushes_fuel t ht m ((m + 1) / t) _ (by omega) (Nat.le_refl _)]
theorem pushes_zero (t : Nat) : pushes t 0 0 = [] := rfl
theorem pushes_len (t : Nat) (ht : 2 ≤ t) : ∀ (k c : Nat), c < 2 ^ k → (pushes t c c).length ≤ k := by
  intro k
  induction k with
  | zero => intro c hc; simp at hc; subst hc; simp [pushes]
  | succ k ih =>
    intro c hc
    by_cases h0 : c = 0
    · subst h0; simp [pushes]
    · rw [pushes_pos t c ht (by omega)]
      have h1 : c / t ≤ c / 2 := Nat.div_le_div_left ht (by omega)
      have h2 : c / 2 < 2 ^ k := by rw [Nat.pow_succ] at hc; omega
      have := ih (c / t) (by omega)
      simp; omega
theorem mid_snoc (f t : Nat) : ∀ (xs : List UInt8) (y : UInt8) (c : Nat),
    mid f t (xs ++ [y]) c = ((mid f t xs c).1 ++ [UInt8.ofNat (((mid f t xs c).2 + y.toNat * f) % t)], ((mid f t xs c).2 + y.toNat * f) / t)
  | [], y, c => by simp [mid]
  | x :: xs, y, c => by simp only [List.cons_append, mid, mid_snoc f t xs y]
theorem mid_len (f t : Nat) : ∀ (xs : List UInt8) (c : Nat), (mid f t xs c).1.length = xs.length
  | [], c => rfl
  | x :: xs, c => by simp [mid, mid_len f t xs]
theorem mid_le (f t : Nat) (hf : f ≤ 256) (ht : 2 ≤ t) : ∀ (xs : List UInt8) (c : Nat), c ≤ 65536 → (mid f t xs c).2 ≤ 65536
  | [], c, h => h
  | x :: xs, c, h => by
    simp only [mid]
    refine mid_le f t hf ht xs _ ?_
    have hx := x.toNat_lt
    have h1 : x.toNat * f ≤ 255 * 256 := Nat.mul_le_mul (by omega) hf
    have h2 : (c + x.toNat * f) / t ≤ (c + x.toNat * f) / 2 := Nat.div_le_div_left ht (by omega)
    omega
theorem baseStep_len (f t : Nat) (hf : f ≤ 256) (ht : 2 ≤ t) (xs : List UInt8) (c : Nat) (hc : c ≤ 65536) : (baseStep f t xs c).length ≤ xs.length + 17 := by
  unfold baseStep
  have h1 := mid_le f t hf ht xs c hc
  have h2 := pushes_len t ht 17 (mid f t xs c).2 (by omega)
  rw [List.length_append, mid_len]; omega
theorem baseL_len (f t : Nat) (hf : f ≤ 256) (ht : 2 ≤ t) (l : List UInt8) : (baseL f t l).length ≤ 17 * l.length := by
  have : ∀ (l : List UInt8) (xs : List UInt8), (l.foldl (fun out d => baseStep f t out d.toNat) xs).length ≤ xs.length + 17 * l.length := by
    intro l
    induction l with
    | nil => intro xs; simp
    | cons d l ih =>
      intro xs
      have h1 := ih (baseStep f t xs d.toNat)
      have h2 := baseStep_len f t hf ht xs d.toNat (by have := d.toNat_lt; omega)
      simp only [List.foldl_cons, List.length_cons]; omega
  unfold baseL
  simpa using this l []
end Go.Proofs.YtcjioogololnoaaGreatDoor
