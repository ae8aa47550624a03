/- slices.Chunk of a []byte: its iterator's contract. -/
import Derived.Test.YtkiigonikeeikaaGreatDoorU1
import Derived.Test.YtkiigonikeeikaaGreatDoorU2
namespace Go.Proofs.YtkiigonikeeikaaGreatDoor
open Go.RowKit Go.Shelf
attribute [local go_sem] Oper.semAt_some

/-- The chunks of m bytes: of each its place. -/
def chunks (n m : Nat) : List Nat := (List.range n).map fun j => m * j

set_option maxRecDepth 100000 in
set_option maxHeartbeats 2000000 in
theorem chunk1_in (F : Fence) (hF : ∀ k, F.fn k) (hro : F.round = none) (n : Nat) (hn : 1 ≤ n) (l Bs Bn : Nat) (K : World → World → Prop) (hKr : ∀ W, K W W) (hKt : ∀ {A B C : World}, K A B → K B C → K A C) (hKc : ∀ {W W' : World}, K W W' → W'.heap[Bs]? = W.heap[Bs]? ∧ W'.heap[Bn]? = W.heap[Bn]?)
    (hKd : ∀ W : World, K W W.drew) (b o cap m q : Nat) (hm : 0 < m) (hcap : m * q ≤ cap) (hq : m * q ≤ 4096) {α : Type} (enc : α → Nat) (hen : ∀ j, j < q → ∃ x, enc x = m * j) (J Jx : List α → World → Prop)
    (hY : ∀ pre x W, J pre W → pre.length < q → YieldAt F (n - 1) Tryz.prog l #[Value.slice (some ⟨b, o + enc x, none⟩) m m] W fun e W' =>
      (e = .returned (.bool true) ∧ J (pre ++ [x]) W' ∧ K W W') ∨ (e = .returned (.bool false) ∧ Jx (pre ++ [x]) W'))
    (hJd : ∀ pre W, J pre W → J pre W.drew)
    (W : World) (hBs : W.cell? ⟨Bs, 0, none⟩ = some (.slice (some ⟨b, o, none⟩) (m * q) cap)) (hBn : W.cell? ⟨Bn, 0, none⟩ = some (.int .i64 m)) (h0 : J [] W) :
    CallsIn F n Tryz.prog 79 #[.func (.yield l) #[] #[], .pointer (some ⟨Bs, 0, none⟩), .pointer (some ⟨Bn, 0, none⟩)] W fun e W' => (∃ v, e = .returned v) ∧
      ((∃ ys, ys.map enc = chunks q m ∧ J ys W') ∨ (∃ pre, (∃ k, k ≤ q ∧ pre.map enc = chunks k m) ∧ Jx pre W')) := by
  refine callsIn_of_wp Tryz.func79 rfl (hF _) ?_ hro
  simp only [Tryz.ntmps79, List.size_toArray, List.length_cons, List.length_nil, Nat.reduceAdd, Nat.reduceSub, Array.replicate_succ, Array.replicate_zero, List.push_toArray, List.append_toArray, List.nil_append, List.cons_append]
  gi_wp2
  gi_loopw [4] (fun i wr => ∃ k : Nat, k ≤ q ∧ i = .int .i64 ((m * k : Nat) : Int) ∧ (∃ pre, pre.map enc = chunks k m ∧ J pre wr) ∧ K W wr)
    (fun i _ => (m * q - (intOf i).toNat))
  case atStart => exact ⟨0, Nat.zero_le _, rfl, ⟨[], rfl, h0⟩, hKr _⟩
  case round =>
    obtain ⟨k, hk, rfl, ⟨pre, hpre, hJs⟩, hnx⟩ := hrel
    have Hpre := Lib.hid hpre
    have hpl : pre.length = k := by have := congrArg List.length hpre; simpa [chunks] using this
    have hcx := (World.cell?_of_block (a := ⟨Bs, 0, none⟩) (hKc hnx).1).trans hBs
    have hcn := (World.cell?_of_block (a := ⟨Bn, 0, none⟩) (hKc hnx).2).trans hBn
    obtain ⟨p, hp⟩ : ∃ p, p = m * k := ⟨_, rfl⟩
    obtain ⟨e, he⟩ : ∃ e, e = m * q := ⟨_, rfl⟩
    rw [← he] at hcx hcap hq
    rw [← hp]
    clear hpre
    by_cases hlt : k < q
    · have hpe : p + m ≤ e := by
        rw [hp, he, ← Nat.mul_succ]; exact Nat.mul_le_mul_left m hlt
      have hpe1 : p < e := by omega
      have hp2 : p ≠ cap := by omega
      have hge : ¬ (e - p < m) := by omega
      have hepI : (e : Int) - (p : Int) = ((e - p : Nat) : Int) := by omega
      obtain ⟨x, hx⟩ := hen k hlt
      obtain ⟨fn, tmps, assign, body, hy, hR⟩ := hY _ x wr.drew (hJd _ _ hJs) (by rw [hpl]; exact hlt)
      rw [hx, ← hp] at hy
      have Hx := Lib.hid hx
      have Hp := Lib.hid hp
      have He := Lib.hid he
      have hnx' := hnx
      have hmx : Tryz.prog.follows .mixedOrders = true := by kernel_rfl
      clear hx hpl hp he hBs hBn hnx
      gi_wp2
      refine wpIn_region_plan [(0, 1), (1, 1), (2, 0), (3, 0), (4, 0), (5, 0), (6, 0)] 7 (fun _ => hF _) hmx (by kernel_rfl) (by intro c a d v w h; cases d <;> exact h) ?_
      repeat ((first | (refine wpPlan_pure rfl (fun K hK => ?_)) | (refine wpPlan_quiet rfl (fun K hK => ?_))); go_simp; (first | (refine hK _ ?_) | (simp only [IntWalk.iteOmega]; go_simp; refine hK _ ?_) | (go_bits; go_simp; refine hK _ ?_)); clear hK K; (try go_bits))
      refine wpPlan_nil ?_
      gi_wp2
      refine hR.mono ?_
      rintro e3 W3 (⟨rfl, hJ3, hk3⟩ | ⟨rfl, hJx3⟩)
      · have hcn3 := (World.cell?_of_block (a := ⟨Bn, 0, none⟩) (hKc hk3).2).trans hcn
        gi_wp2
        go_roundw
        case rel =>
          refine ⟨k + 1, by omega, ?_, ⟨_, by rw [List.map_append, Hpre.out]; simp [chunks, List.range_succ, Hx.out, Hp.out], hJ3⟩, hKt (hKt hnx' (hKd _)) hk3⟩
          have := Hp.out
          congr 1
          rw [Nat.mul_succ]
          omega
        case measure => rw [← He.out]; simp [intOf]; omega
      · gi_wp2
        refine bodyPost_ret (results_none rfl _ _ _) rfl ?_
        exact ⟨⟨_, rfl⟩, .inr ⟨_, ⟨k + 1, by omega, by rw [List.map_append, Hpre.out]; simp [chunks, List.range_succ, Hx.out, Hp.out]⟩, hJx3⟩⟩
    · obtain rfl : k = q := by omega
      have hpe : p = e := by omega
      gi_wp2
      go_end0
      exact ⟨⟨_, rfl⟩, .inl ⟨_, Hpre.out, hJs⟩⟩

set_option maxHeartbeats 1000000 in
theorem chunk_in (F : Fence) (hF : ∀ k, F.fn k) (hro : F.round = none) (n : Nat) (a : Option Addr) (len cap m : Nat) (hm : 0 < m) (w : World) :
    CallsIn F n Tryz.prog 58 #[.slice a len cap, .int .i64 m] w fun e w' => e = .returned (.func (.func 79) #[] #[.pointer (some ⟨w.heap.size, 0, none⟩), .pointer (some ⟨w.heap.size + 1, 0, none⟩)]) ∧ w' = (w.alloc (.cells #[.slice a len cap] 23)).alloc (.cells #[.int .i64 m] 3) := by
  refine callsIn_of_wp Tryz.func58 rfl (hF _) ?_ hro
  simp only [Tryz.ntmps58, List.size_toArray, List.length_cons, List.length_nil, Nat.reduceAdd, Nat.reduceSub, Array.replicate_succ, Array.replicate_zero, List.push_toArray, List.append_toArray, List.nil_append, List.cons_append]
  gi_wp2
  go_ret
  exact ⟨by simp, rfl⟩

/-- What the loop's body must keep: what lay below, the two boxes, and the row that is cut. -/
def KeepC (n₀ Bs gA : Nat) (W W' : World) : Prop := Below n₀ W W' ∧ W'.heap[Bs]? = W.heap[Bs]? ∧ W'.heap[Bs + 1]? = W.heap[Bs + 1]? ∧ W'.heap[gA]? = W.heap[gA]?
theorem KeepC.refl (n₀ Bs gA : Nat) (W : World) : KeepC n₀ Bs gA W W := ⟨Below.refl _ _, rfl, rfl, rfl⟩
theorem KeepC.trans {n₀ Bs gA : Nat} {a b c : World} (h : KeepC n₀ Bs gA a b) (k : KeepC n₀ Bs gA b c) : KeepC n₀ Bs gA a c := ⟨h.1.trans k.1, k.2.1.trans h.2.1, k.2.2.1.trans h.2.2.1, k.2.2.2.trans h.2.2.2⟩
theorem KeepC.b {n₀ Bs gA : Nat} {w : World} (hn : n₀ ≤ w.heap.size) (hb : Bs + 1 < w.heap.size) (hA : gA < w.heap.size) (W : World) (l : Nat) (o o' : Obj) (hl : w.heap.size ≤ l) (h : W.heap[l]? = some o) (hc : o.isCells = false) (hw : o.isWalk = false) : KeepC n₀ Bs gA W (W.putObj l o') :=
  ⟨belowK_b hn W l o o' hl h hc hw, World.putObj_heap_other (by omega), World.putObj_heap_other (by omega), World.putObj_heap_other (by omega)⟩
theorem KeepC.cell {n₀ Bs gA : Nat} {W W' : World} (h : KeepC n₀ Bs gA W W') (j : Nat) : W'.cell? ⟨gA, j, none⟩ = W.cell? ⟨gA, j, none⟩ := World.cell?_of_block (a := ⟨gA, j, none⟩) h.2.2.2

theorem chunk_stops (F : Fence) (hF : ∀ k, F.fn k) (hro : F.round = none) (n : Nat) (hn : 1 ≤ n) (Bs n₀ gA : Nat) (b o cap m q : Nat) (hm : 0 < m) (hcap : m * q ≤ cap) (hq : m * q ≤ 4096) {α : Type} (enc : α → Nat) (hen : ∀ j, j < q → ∃ x, enc x = m * j) (w : World)
    (hn0 : n₀ ≤ w.heap.size) (hB : Bs + 1 < w.heap.size) (hA : gA < w.heap.size) (hc : w.cell? ⟨Bs, 0, none⟩ = some (.slice (some ⟨b, o, none⟩) (m * q) cap)) (hc1 : w.cell? ⟨Bs + 1, 0, none⟩ = some (.int .i64 m)) :
    SeqStopsK F n Tryz.prog 79 #[.pointer (some ⟨Bs, 0, none⟩), .pointer (some ⟨Bs + 1, 0, none⟩)] (fun x : α => #[Value.slice (some ⟨b, o + enc x, none⟩) m m]) (KeepC n₀ Bs gA) (fun ys => ys.map enc = chunks q m)
      (fun pre => ∃ k, k ≤ q ∧ pre.map enc = chunks k m) q w := fun l J Jx W hW hAJ _ hY h0 => by
  have hKW : KeepC n₀ Bs gA w W := ⟨hW.mono hn0, hW.block Bs (by omega), hW.block (Bs + 1) hB, hW.block gA hA⟩
  exact chunk1_in F hF hro n hn l Bs (Bs + 1) (KeepC n₀ Bs gA) (KeepC.refl _ _ _) KeepC.trans (fun h => ⟨h.2.1, h.2.2.1⟩) (fun W => ⟨(Below.refl _ _).drew, rfl, rfl, rfl⟩) b o cap m q hm hcap hq enc hen J Jx hY
    (fun pre W h => hAJ pre W W.drew none h ⟨rfl, rfl, rfl, Nat.le_refl _, fun _ _ _ => rfl⟩ (fun _ h => by cases h)) W
    ((World.cell?_of_block (a := ⟨Bs, 0, none⟩) hKW.2.1).trans hc) ((World.cell?_of_block (a := ⟨Bs + 1, 0, none⟩) hKW.2.2.1).trans hc1) h0
end Go.Proofs.YtkiigonikeeikaaGreatDoor
