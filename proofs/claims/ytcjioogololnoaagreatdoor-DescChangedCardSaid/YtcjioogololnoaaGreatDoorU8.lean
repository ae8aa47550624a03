/- SHA-256: the tables. | Small laws of slices that are appended to. | hash.Sum.Add. -/
import Derived.Test.YtcjioogololnoaaGreatDoorU6
import Derived.Lib.Hide
import Derived.Test.YtcjioogololnoaaGreatDoorU1
import Derived.Shelf.RegionOpen
import Derived.Test.YtcjioogololnoaaGreatDoorS2
import Derived.Deep.MidRow

/-! SHA-256: the tables. -/
namespace Go.Proofs.YtcjioogololnoaaGreatDoor
open Go.RowKit Go.Shelf

def K256 : List (BitVec 32) := [0x428a2f98, 0x71374491, 0xb5c0fbcf, 0xe9b5dba5, 0x3956c25b, 0x59f111f1, 0x923f82a4, 0xab1c5ed5, 0xd807aa98, 0x12835b01, 0x243185be, 0x550c7dc3, 0x72be5d74, 0x80deb1fe, 0x9bdc06a7, 0xc19bf174, 0xe49b69c1, 0xefbe4786, 0x0fc19dc6, 0x240ca1cc, 0x2de92c6f, 0x4a7484aa, 0x5cb0a9dc, 0x76f988da, 0x983e5152, 0xa831c66d, 0xb00327c8, 0xbf597fc7, 0xc6e00bf3, 0xd5a79147, 0x06ca6351, 0x14292967, 0x27b70a85, 0x2e1b2138, 0x4d2c6dfc, 0x53380d13, 0x650a7354, 0x766a0abb, 0x81c2c92e, 0x92722c85, 0xa2bfe8a1, 0xa81a664b, 0xc24b8b70, 0xc76c51a3, 0xd192e819, 0xd6990624, 0xf40e3585, 0x106aa070, 0x19a4c116, 0x1e376c08, 0x2748774c, 0x34b0bcb5, 0x391c0cb3, 0x4ed8aa4a, 0x5b9cca4f, 0x682e6ff3, 0x748f82ee, 0x78a5636f, 0x84c87814, 0x8cc70208, 0x90befffa, 0xa4506ceb, 0xbef9a3f7, 0xc67178f2]
def H256 : List (BitVec 32) := [0x6a09e667, 0xbb67ae85, 0x3c6ef372, 0xa54ff53a, 0x510e527f, 0x9b05688c, 0x1f83d9ab, 0x5be0cd19]
theorem K256_length : K256.length = 64 := by decide
theorem H256_length : H256.length = 8 := by decide

set_option maxRecDepth 100000 in
set_option maxHeartbeats 2000000 in
theorem begin_any (w : World) : Calls Tryz.prog 189 #[] w fun e w' => e = .returned (.agg (W32 H256).toArray) ∧ Below w.heap.size w w' := by
  go_enter Tryz.func189, Tryz.ntmps189
  go_wp2_with fail
  refine bodyPost_ret (v := .agg (W32 H256).toArray) ?_ rfl ⟨rfl, (Below.refl _ w).alloc (Nat.le_refl _) _⟩
  exact results_cell_row rfl _ _ w.heap.size 207 (W32 H256).toArray (0, 0) (.array 8 55) rfl (heap_alloc_new w _) (by kernel_rfl) rfl (by kernel_rfl)
set_option maxRecDepth 100000 in
set_option maxHeartbeats 2000000 in
theorem k256_any (w : World) : Calls Tryz.prog 190 #[] w fun e w' => e = .returned (.agg (W32 K256).toArray) ∧ Below w.heap.size w w' := by
  obtain ⟨kc, hkc⟩ : ∃ kc, kc = (W32 K256).toArray := ⟨_, rfl⟩
  have hsz : kc.size = 64 := by rw [hkc]; simp [K256_length]
  have h1 : kc.all (·.oneCell') = true := by rw [hkc]; simp [W32]; intro x _; rfl
  have hinf : (Tryz.prog.info? 242).map (·.size) = some kc.size := by rw [hsz]; kernel_rfl
  have Hkc := Lib.hid hkc
  have Hsz := Lib.hid hsz
  have H1 := Lib.hid h1
  have Hinf := Lib.hid hinf
  clear hkc hsz h1 hinf
  go_enter Tryz.func190, Tryz.ntmps190
  go_wp2_with (first | (refine wpList_build rfl 242 _ rfl (by kernel_rfl) ?_; rw [show (Tryz.prog.built 242 _).getD #[] = kc from by rw [Hkc.out]; kernel_rfl]; refine wpList_store_row rfl 242 (.tmp 0) (.tmp 1) rfl w.heap.size kc rfl rfl 242 _ (heap_alloc_new w _) Hinf.out Hsz.out.symm H1.out ?_) | fail)
  refine bodyPost_ret (v := .agg kc) ?_ rfl ⟨by rw [Hkc.out], below_setRow' ((Below.refl _ w).alloc (Nat.le_refl _) _) (Nat.le_refl _) _⟩
  exact results_cell_row rfl _ _ w.heap.size 242 kc (0, 0) (.array 64 55) rfl (setRow_heap _ _ _ _ _ _ (heap_alloc_new w _)) (by kernel_rfl) rfl Hinf.out
end Go.Proofs.YtcjioogololnoaaGreatDoor

/-! Small laws of slices that are appended to. -/
namespace Go.Proofs.YtcjioogololnoaaGreatDoor
open Go.RowKit

theorem own_form {w : World} {base E : Nat} {v : Value} {T : List UInt8} (h : Ow w base E v (B8 T)) : ∃ A1 c1, v = .slice A1 T.length c1 ∧ T.length ≤ c1 ∧ c1 ≤ maxLen := by
  obtain ⟨A1, c1, e, h1, h2, _⟩ := h
  exact ⟨A1, c1, by simpa using e, by simpa using h1, h2⟩
theorem push_below {w wr w3 : World} {B E n c : Nat} {A : Option Addr} {xs : List Value} {o : Obj} (hb : Below B w wr) (hB : B ≤ w.heap.size) (ho : Ow wr B E (.slice A n c) xs) (hg : (wr.alloc o).grownBy w3 (rowOf (.slice A n c))) : Below B w w3 := by
  have h1 : B ≤ wr.heap.size := Nat.le_trans hB hb.size
  exact (hb.alloc h1 o).grown hg (by rw [World.size_alloc]; omega) (fun r hr => (ho.row r hr).1)
theorem b8_snoc (xs : List UInt8) (x : Value) (b : UInt8) (h : x = .int .u8 (b.toNat : Int)) : B8 xs ++ [x] = B8 (xs ++ [b]) := by rw [h, B8_append]; rfl

end Go.Proofs.YtcjioogololnoaaGreatDoor

/-! hash.Sum.Add. -/
namespace Go.Proofs.YtcjioogololnoaaGreatDoor
open Go.RowKit Go.Shelf

theorem rnd_length (k x : BitVec 32) (l : List (BitVec 32)) : (rnd k x l).length = l.length := by unfold rnd; split <;> simp
theorem rnds_length (ks : List (BitVec 32)) (bs : List UInt8) (st : List (BitVec 32)) (k : Nat) : (rnds ks bs st k).length = st.length := by
  induction k with
  | zero => rfl
  | succ k ih => rw [rnds, rnd_length, ih]
theorem stepW_length (ks : List (BitVec 32)) (bs : List UInt8) (st : List (BitVec 32)) : (stepW ks bs st).length = st.length := by simp [stepW, rnds_length]
/-- What whole blocks of a message come to. -/
def blk (st : List (BitVec 32)) (m : List UInt8) : Nat → List (BitVec 32)
  | 0 => st
  | j + 1 => stepW K256 ((m.drop (64 * j)).take 64) (blk st m j)
theorem blk_length (st : List (BitVec 32)) (m : List UInt8) (j : Nat) : (blk st m j).length = st.length := by
  induction j with
  | zero => rfl
  | succ k ih => rw [blk, stepW_length, ih]

/-- A Sum's cells. -/
def SC (st : List (BitVec 32)) (a b c : Value) : Array Value := (W32 st ++ [a, b, c]).toArray
theorem sc_cell {w : World} {g E : Nat} {st : List (BitVec 32)} {a b c : Value} (hst : st.length = 8) (h : w.heap[g]? = some (.cells (SC st a b c) E (0, 0))) :
    w.cell? ⟨g, 8, none⟩ = some a ∧ w.cell? ⟨g, 9, none⟩ = some b ∧ w.cell? ⟨g, 10, none⟩ = some c ∧ ∀ j, w.frozen? ⟨g, j, none⟩ = false := by
  refine ⟨?_, ?_, ?_, fun j => frozen_of_row w g j _ _ h⟩
  all_goals rw [cell_of_row w g _ _ E (0, 0) h, SC]; simp [hst]
theorem sc_set8 {w : World} {g E : Nat} {st : List (BitVec 32)} {a b c : Value} (hst : st.length = 8) (h : w.heap[g]? = some (.cells (SC st a b c) E (0, 0))) (v : Value) :
    (w.setCell ⟨g, 8, none⟩ v).heap[g]? = some (.cells (SC st v b c) E (0, 0)) := by
  rw [heap_setCell_same w g 8 _ _ v h, SC, SC]; simp [List.setIfInBounds_toArray, List.set_append_right, hst]
theorem sc_set9 {w : World} {g E : Nat} {st : List (BitVec 32)} {a b c : Value} (hst : st.length = 8) (h : w.heap[g]? = some (.cells (SC st a b c) E (0, 0))) (v : Value) :
    (w.setCell ⟨g, 9, none⟩ v).heap[g]? = some (.cells (SC st a v c) E (0, 0)) := by
  rw [heap_setCell_same w g 9 _ _ v h, SC, SC]; simp [List.setIfInBounds_toArray, List.set_append_right, hst]
theorem sc_set10 {w : World} {g E : Nat} {st : List (BitVec 32)} {a b c : Value} (hst : st.length = 8) (h : w.heap[g]? = some (.cells (SC st a b c) E (0, 0))) (v : Value) :
    (w.setCell ⟨g, 10, none⟩ v).heap[g]? = some (.cells (SC st a b v) E (0, 0)) := by
  rw [heap_setCell_same w g 10 _ _ v h, SC, SC]; simp [List.setIfInBounds_toArray, List.set_append_right, hst]
theorem heap_setCells_row (g E : Nat) : ∀ (vs l1 l2 l3 : List Value) (w : World), l2.length = vs.length → w.heap[g]? = some (.cells (l1 ++ l2 ++ l3).toArray E (0, 0)) →
    (w.setCells g l1.length vs).heap[g]? = some (.cells (l1 ++ vs ++ l3).toArray E (0, 0))
  | [], l1, l2, l3, w, hl, h => by
    obtain rfl : l2 = [] := List.length_eq_zero_iff.1 hl
    exact h
  | v :: vs, l1, [], l3, w, hl, h => by simp at hl
  | v :: vs, l1, u :: l2, l3, w, hl, h => by
    have := heap_setCells_row g E vs (l1 ++ [v]) l2 l3 (w.setCell ⟨g, l1.length, none⟩ v) (by simpa using hl) (by
      rw [heap_setCell_same w g l1.length _ _ v h]; simp [List.setIfInBounds_toArray, List.set_append_right])
    rw [World.setCells]
    simpa using this
theorem sc_put {w : World} {g E : Nat} {st st' : List (BitVec 32)} {a b c : Value} (hst : st.length = 8) (hst' : st'.length = 8) (h : w.heap[g]? = some (.cells (SC st a b c) E (0, 0))) :
    (w.setCells g 0 (W32 st')).heap[g]? = some (.cells (SC st' a b c) E (0, 0)) :=
  heap_setCells_row g E (W32 st') [] (W32 st) [a, b, c] w (by simp [hst, hst']) h

theorem size_setCells' (g : Nat) : ∀ (vs : List Value) (o : Nat) (w : World), w.heap.size ≤ (w.setCells g o vs).heap.size
  | [], _, _ => Nat.le_refl _
  | v :: vs, o, w => by
    rw [World.setCells]
    exact Nat.le_trans ((Below.refl 0 w).setCell (p := ⟨g, o, none⟩) (Nat.zero_le _) v).size (size_setCells' g vs (o + 1) _)
/-- A slice that lies in another block than g. -/
def Sx (g : Nat) (w : World) (A : Option Addr) (xs : List Value) : Prop :=
  0 < xs.length → ∃ b o, A = some ⟨b, o, none⟩ ∧ b ≠ g ∧ b < w.heap.size ∧ ∀ j (h : j < xs.length), w.cell? ⟨b, o + j, none⟩ = some xs[j]
section
variable {g g' : Nat} {w w' : World} {A : Option Addr} {xs : List Value}
theorem Sx.sl (h : Sx g w A xs) : Sl w w.heap.size A xs := fun hn => by
  obtain ⟨b, o, e, _, h1, h2⟩ := h hn
  exact ⟨b, o, e, h1, h2⟩
theorem Sx.keep (h : Sx g w A xs) (hz : w.heap.size ≤ w'.heap.size) (hk : ∀ p : Addr, p.block ≠ g → p.block < w.heap.size → w'.cell? p = w.cell? p) : Sx g w' A xs := fun hn => by
  obtain ⟨b, o, e, hg, h1, h2⟩ := h hn
  exact ⟨b, o, e, hg, by omega, fun j hj => (hk ⟨b, o + j, none⟩ hg h1).trans (h2 j hj)⟩
theorem Sx.grown (h : Sx g w A xs) (hg : w.grownBy w' (some g)) : Sx g w' A xs :=
  h.keep hg.size fun p hp hb => World.cell?_of_block (hg.block p.block hb (fun e => hp (by injection e)))
theorem Sx.alloc (h : Sx g w A xs) (o : Obj) : Sx g (w.alloc o) A xs := h.keep (((Below.refl 0 w).alloc (Nat.zero_le _) o).size) fun p _ hb => World.cell?_alloc_lt w o p hb
theorem Sx.below (h : Sx g w A xs) (hb : Below w.heap.size w w') : Sx g w' A xs := h.keep hb.size fun p _ hp => hb.cell hp
theorem Sx.setCell (h : Sx g w A xs) (j : Nat) (v : Value) : Sx g (w.setCell ⟨g, j, none⟩ v) A xs :=
  h.keep (((Below.refl 0 w).setCell (Nat.zero_le _) v).size) fun p hp _ => World.cell?_setCell_other w _ p v (fun e => by subst e; exact hp rfl)
theorem Sx.setCells (h : Sx g w A xs) (j : Nat) (vs : List Value) : Sx g (w.setCells g j vs) A xs :=
  h.keep (size_setCells' g vs j w) fun p hp _ => World.cell?_setCells_out g vs j w p (fun e => absurd e hp)
theorem Sx.cut (h : Sx g w A xs) {k cap : Nat} (hc : xs.length ≤ cap) (hk : k ≤ xs.length) : Sx g w (if cap = k then A else A.map (·.add k)) (xs.drop k) := fun hn => by
  have hk' : k < xs.length := by simp at hn; omega
  obtain ⟨b, o, rfl, hg, hb, hcell⟩ := h (by omega)
  rw [if_neg (by omega)]
  refine ⟨b, o + k, by simp [add_lit'], hg, hb, fun j hj => ?_⟩
  have := hcell (k + j) (by simp at hj; omega)
  rw [Nat.add_assoc, this]
  simp
theorem Sx.cutf (h : Sx g w A xs) {k cap : Nat} (f : Addr → Addr) (hf : ∀ b o, f ⟨b, o, none⟩ = ⟨b, o + k, none⟩) (hc : xs.length ≤ cap) (hk : k ≤ xs.length) : Sx g w (if cap = k then A else A.map f) (xs.drop k) := fun hn => by
  have hk' : k < xs.length := by simp at hn; omega
  obtain ⟨b, o, rfl, hg, hb, hcell⟩ := h (by omega)
  rw [if_neg (by omega)]
  refine ⟨b, o + k, by simp [hf], hg, hb, fun j hj => ?_⟩
  have := hcell (k + j) (by simp at hj; omega)
  rw [Nat.add_assoc, this]
  simp
theorem Sx.take (h : Sx g w A xs) (n : Nat) : Sx g w A (xs.take n) := fun hn => by
  obtain ⟨b, o, rfl, hg, hb, hcell⟩ := h (by simp at hn; omega)
  exact ⟨b, o, rfl, hg, hb, fun j hj => by rw [hcell j (by simp at hj; omega)]; simp⟩
end
theorem grown_setCell (w : World) (g j : Nat) (v : Value) : w.grownBy (w.setCell ⟨g, j, none⟩ v) (some g) :=
  have h := (Below.refl 0 w).setCell (p := ⟨g, j, none⟩) (Nat.zero_le _) v
  ⟨h.os, h.tape, h.output, h.size, fun k _ hne => Below.heap_setCell w _ v k (fun e => hne (by rw [e]))⟩
theorem grown_setCells (g : Nat) : ∀ (vs : List Value) (o : Nat) (w : World), w.grownBy (w.setCells g o vs) (some g)
  | [], _, w => World.grownBy.refl _ _
  | v :: vs, o, w => by
    rw [World.setCells]
    have h1 := grown_setCell w g o v
    have h2 := grown_setCells g vs (o + 1) (w.setCell ⟨g, o, none⟩ v)
    exact ⟨h2.os.trans h1.os, h2.tape.trans h1.tape, h2.output.trans h1.output, Nat.le_trans h1.size h2.size, fun k hk hne => (h2.block k (Nat.lt_of_lt_of_le hk h1.size) hne).trans (h1.block k hk hne)⟩
theorem Ow.row_ne {w : World} {base E t g : Nat} {v : Value} {xs : List Value} {cur : Array Value} (h : Ow w base E v xs) (hg : w.heap[g]? = some (.cells cur t (0, 0))) (hte : t ≠ E) : ∀ r, rowOf v = some r → r ≠ g := by
  obtain ⟨A, c, rfl, h1, h2, h3⟩ := h
  intro r hr e
  subst e
  cases A with
  | none => simp [rowOf] at hr
  | some a =>
    by_cases hc0 : c = 0
    · simp [rowOf, hc0] at hr
    · obtain ⟨g', cur', ea, _, hh, _⟩ := h3 (by omega)
      injection ea with ea; subst ea
      simp [rowOf, hc0] at hr; subst hr
      rw [hg] at hh; injection hh with hh; injection hh with _ ht; exact hte ht
def waitLen (g : Nat) (w : World) : Nat := match w.cell? ⟨g, 8, none⟩ with | some (.slice _ n _) => n | _ => 0

set_option maxRecDepth 100000 in
set_option maxHeartbeats 2000000 in
theorem add_begun (g base : Nat) (st : List (BitVec 32)) (hst : st.length = 8) (wv : Value) (ws bs : List UInt8) (n : Nat) (A : Option Addr) (c : Nat) (w : World)
    (hb : base ≤ g) (hg : w.heap[g]? = some (.cells (SC st wv (.int .u64 n) (.bool true)) 209 (0, 0))) (hbw : base ≤ w.heap.size)
    (how : Ow w base 5 wv (B8 ws)) (hs : Sx g w A (B8 bs)) (hn : n + bs.length ≤ 8192) (hwl : ws.length + bs.length ≤ 8192) (hbc : bs.length ≤ c) (hc : c ≤ maxLen) :
    Calls Tryz.prog 161 #[.pointer (some ⟨g, 0, none⟩), .slice A bs.length c] w fun e W' => e = .returned (.tuple #[]) ∧ Below base w W' ∧
      ∃ A' c', (ws ++ bs).length % 64 ≤ c' ∧ c' ≤ maxLen ∧ Sx g W' A' (B8 ((ws ++ bs).drop (64 * ((ws ++ bs).length / 64)))) ∧
        W'.heap[g]? = some (.cells (SC (blk st (ws ++ bs) ((ws ++ bs).length / 64)) (.slice A' ((ws ++ bs).length % 64) c') (.int .u64 (n + bs.length : Nat)) (.bool true)) 209 (0, 0)) := by
  obtain ⟨c8, c9, c10, hfz⟩ := sc_cell hst hg
  have hgs : g < w.heap.size := (Array.getElem?_eq_some_iff.1 hg).1
  obtain ⟨Aw, cw, rfl⟩ : ∃ Aw cw, wv = .slice Aw ws.length cw := by obtain ⟨Aw, cw, e, _⟩ := how; exact ⟨Aw, cw, by simpa using e⟩
  obtain ⟨n', hn'⟩ : ∃ n' : Nat, n' = n + bs.length := ⟨_, rfl⟩
  have en : (n : Int) + (bs.length : Int) = (n' : Int) := by omega
  have hg1 := sc_set9 hst hg (.int .u64 n')
  have how1 := how.setCell (p := ⟨g, 9, none⟩) (fun r hr e => how.row_ne hg (by decide) r hr e.symm) (.int .u64 n')
  have hs1 := (hs.setCell 9 (.int .u64 n')).sl
  have hb1 := (Below.refl base w).setCell (p := ⟨g, 9, none⟩) hb (.int .u64 n')
  have hsz1 := hb1.size
  have hne1 := how1.row_ne hg1 (by decide)
  obtain ⟨_, c9', c10', hfz1⟩ := sc_cell hst hg1
  have c8' : (w.setCell ⟨g, 9, none⟩ (.int .u64 n')).cell? ⟨g, 8, none⟩ = some (.slice Aw ws.length cw) := (sc_cell hst hg1).1
  have Hg := Lib.hid hg1
  have Hst := Lib.hid hst
  have Hn := Lib.hid hn'
  have Hfz1 := Lib.hid hfz1
  have Hne1 := Lib.hid hne1
  have hf9 := hfz 9
  have hf8 := hfz 8
  clear hg hst hfz hg1 hfz1 how hn' hne1
  have q1 : (B8 ws).length + bs.length ≤ maxLen := by simp [maxLen]; omega
  have q2 : ((B8 ws).length + bs.length) * 1 ≤ 140737488355328 := by simp; omega
  have q3 : base ≤ (w.setCell ⟨g, 9, none⟩ (.int .u64 n')).heap.size := by omega
  obtain ⟨T, hT⟩ : ∃ T, T = ws ++ bs := ⟨_, rfl⟩
  have HT := Lib.hid hT
  clear hT
  have Q1 := Lib.hid q1
  have Q2 := Lib.hid q2
  clear q1 q2
  go_enter Tryz.func161, Tryz.ntmps161
  go_wp2_with (at_builtin; go_loud (refine wpList_append_Ow (m := bs.length) (c := c) (base := base) (xs := B8 ws) (v := .slice Aw ws.length cw) (A := A) (B := (w.setCell ⟨g, 9, none⟩ (.int .u64 n')).heap.size) (news := B8 bs) elB rfl (.tmp 31) (.tmp 32) rfl rfl how1 rfl hs1 (B8_length _) (B8_oneCell _) Q1.out Q2.out q3 ?_); intro v1 w1 ho1 hr1 hv1; have hB1 := hb1.grown hr1 (by omega) (fun r hr => (how1.row r hr).1); have hG1 := (hr1.block g (by omega) (fun e => Hne1.out g e.symm rfl)).trans Hg.out; have hf1 := frozen_of_row w1 g 8 _ _ hG1; have hc1 := (sc_cell Hst.out hG1).1; rw [← B8_append, ← HT.out] at ho1; obtain ⟨A1, c1, rfl, hc1a, hc1b⟩ := own_form ho1)
  have hG2 := sc_set8 Hst.out hG1 (.slice A1 T.length c1)
  have hO2 := ho1.setCell (p := ⟨g, 8, none⟩) (fun r hr e => ho1.row_ne hG1 (by decide) r hr e.symm) (.slice A1 T.length c1)
  have hB2 := hB1.setCell (p := ⟨g, 8, none⟩) hb (.slice A1 T.length c1)
  obtain ⟨w2, hw2⟩ : ∃ w2, w2 = w1.setCell ⟨g, 8, none⟩ (.slice A1 T.length c1) := ⟨_, rfl⟩
  rw [← hw2] at hG2 hO2 hB2
  have hX2 : Sx g w2 A1 (B8 T) := fun hn => by
    have hs := hO2.sl hn
    obtain ⟨b, o, e, hb, hc⟩ := hs
    subst e
    refine ⟨b, o, rfl, ?_, hb, hc⟩
    refine hO2.row_ne hG2 (by decide) b ?_
    simp [rowOf]
    simp at hn
    omega
  have hz2 := hB2.size
  have hg2lt : g < w2.heap.size := (Array.getElem?_eq_some_iff.1 hG2).1
  rw [← hw2]
  have Hw2 := Lib.hid hw2
  clear hw2 hO2 hB1 hb1 hr1 hv1 hs1 how1 c8 c9 hf1 hc1 ho1 q3 Q1 Q2 hG1 c8' c9' c10' hf8 hf9 hsz1 Hfz1 Hne1
  refine (k256_any w2).mono ?_
  rintro e w3 ⟨rfl, hB3⟩
  obtain ⟨kc, hkc⟩ : ∃ kc, kc = (W32 K256).toArray := ⟨_, rfl⟩
  have hG3 := (hB3.block g hg2lt).trans hG2
  have hX3 := hX2.below hB3
  have hB03 := hB2.trans (hB3.mono (by omega))
  have hz3 := hB3.size
  rw [← hkc]
  have hsz : kc.size = 64 := by rw [hkc]; simp [K256_length]
  have h1 : kc.all (·.oneCell') = true := by rw [hkc]; simp [W32]; intro x _; rfl
  have hinf : (Tryz.prog.info? 242).map (·.size) = some kc.size := by rw [hsz]; kernel_rfl
  have Hkc := Lib.hid hkc
  have Hsz := Lib.hid hsz
  have H1 := Lib.hid h1
  have Hinf := Lib.hid hinf
  clear hkc hsz h1 hinf
  go_wp2_with (first | (refine wpList_store_row rfl 242 (.tmp 4) (.tmp 36) rfl w3.heap.size kc rfl rfl 242 _ (heap_alloc_new w3 _) Hinf.out Hsz.out.symm H1.out ?_) | fail)
  rw [World.setRow_alloc_new]
  obtain ⟨w4, hw4⟩ : ∃ w4, w4 = w3.alloc (.cells kc 242) := ⟨_, rfl⟩
  have hk4 : w4.heap[w3.heap.size]? = some (.cells (W32 K256).toArray 242 (0, 0)) := by rw [hw4, ← Hkc.out]; exact heap_alloc_new w3 _
  have hG4 : w4.heap[g]? = some (.cells (SC st (.slice A1 T.length c1) (.int .u64 n') (.bool true)) 209 (0, 0)) := by rw [hw4]; exact (Below.heap_alloc w3 _ g (by omega)).trans hG3
  have hX4 : Sx g w4 A1 (B8 T) := by rw [hw4]; exact hX3.alloc _
  have hB4 : Below base w w4 := by rw [hw4]; exact hB03.alloc (by omega) _
  rw [← hw4]
  have hz4 := hB4.size
  obtain ⟨gk, hgk⟩ : ∃ gk, gk = w3.heap.size := ⟨_, rfl⟩
  rw [← hgk] at hk4 ⊢
  have hne : g ≠ gk := by omega
  have hg4lt : g < w4.heap.size := (Array.getElem?_eq_some_iff.1 hG4).1
  have hk4lt : gk < w4.heap.size := (Array.getElem?_eq_some_iff.1 hk4).1
  have HG4 := Lib.hid hG4
  have Hk4 := Lib.hid hk4
  have Hgk := Lib.hid hgk
  clear hgk hw4 hG4 hk4 hX3 hB03 hG3 hX2 hB2 hG2
  have ht64 : T.length ≤ 8192 := by rw [HT.out, List.length_append]; omega
  simp only [Act.put]
  go_loopw [] (fun wr => ∃ j A' c', 64 * j ≤ T.length ∧ T.length - 64 * j ≤ c' ∧ c' ≤ maxLen ∧ Sx g wr A' (B8 (T.drop (64 * j))) ∧ wr.heap[g]? = some (.cells (SC (blk st T j) (.slice A' (T.length - 64 * j) c') (.int .u64 n') (.bool true)) 209 (0, 0)) ∧
    wr.heap[gk]? = some (.cells (W32 K256).toArray 242 (0, 0)) ∧ Below base w wr) (fun wr => waitLen g wr)
  case atStart => exact ⟨0, A1, c1, by omega, by omega, hc1b, by simpa using hX4, by simpa [blk] using HG4.out, Hk4.out, hB4⟩
  case round =>
    obtain ⟨j, A', c', hj, hc1', hc2', hX, hG, hK, hB⟩ := hrel
    obtain ⟨d8, d9, d10, df⟩ := sc_cell (by rw [blk_length]; exact Hst.out) hG
    have df8 := df 8
    have hgr : g < wr.heap.size := (Array.getElem?_eq_some_iff.1 hG).1
    obtain ⟨r, hr⟩ : ∃ r, r = T.length - 64 * j := ⟨_, rfl⟩
    rw [← hr] at d8 hc1'
    have HG := Lib.hid hG
    have HK := Lib.hid hK
    have Hr := Lib.hid hr
    clear hG hK df hr
    by_cases hlt : 64 ≤ r
    · have hmx : Tryz.prog.follows .mixedOrders = true := by kernel_rfl
      go_wp2_with fail
      refine wp_region_plan [(0, 0), (1, 0), (2, 0), (3, 0), (4, 0), (5, 0), (6, 1), (7, 0), (8, 2)] 8 hmx (by kernel_rfl) (by intro c a d v w h; cases d <;> exact h) ?_
      repeat ((first | (refine wpPlan_pure rfl (fun K hK => ?_)) | (refine wpPlan_quiet rfl (fun K hK => ?_))); go_simp; (first | (refine hK _ ?_) | (simp only [IntWalk.iteOmega]; go_simp; refine hK _ ?_) | (go_bits; go_simp; refine hK _ ?_)); clear hK K; (try go_bits))
      refine wpPlan_loud rfl rfl (fun K hK => ?_)
      go_wp2_with fail
      obtain ⟨bl, hbl⟩ : ∃ bl, bl = (T.drop (64 * j)).take 64 := ⟨_, rfl⟩
      have hbll : bl.length = 64 := by rw [hbl]; have := Hr.out; simp; omega
      have hXb : Sl wr wr.heap.size A' (B8 bl) := by rw [hbl, B8_take]; exact (hX.take 64).sl
      have hGr := HG.out
      rw [← Hr.out] at hGr
      refine (step_any g gk _ _ (blk st T j) (by rw [blk_length]; exact Hst.out) [.slice A' r c', .int .u64 n', .bool true] K256 K256_length A' c' bl hbll wr.drew hGr HK.out hne hXb).mono ?_
      rintro e wS ⟨rfl, hGS, hgrS⟩
      rw [hbl] at hGS
      have hGS' : wS.heap[g]? = some (.cells (SC (blk st T (j + 1)) (.slice A' r c') (.int .u64 n') (.bool true)) 209 (0, 0)) := hGS
      have hXS := (show Sx g wr.drew A' (B8 (T.drop (64 * j))) from hX).grown hgrS
      have hBS := hB.drew.grown hgrS (by have : wr.drew.heap.size = wr.heap.size := rfl; have := hB.size; omega) (fun r hr => by injection hr with hr; omega)
      have hKS : wS.heap[gk]? = _ := (hgrS.block gk (Array.getElem?_eq_some_iff.1 HK.out).1 (fun e => hne (by injection e with e; exact e.symm))).trans HK.out
      obtain ⟨e8, _, _, ef⟩ := sc_cell (by rw [blk_length]; exact Hst.out) hGS'
      have ef8 := ef 8
      have HGS := Lib.hid hGS'
      have HKS := Lib.hid hKS
      have Hbl := Lib.hid hbl
      clear hGS hGS' hKS hgrS ef hbl hbll hXb hGr
      go_wp2_with fail
      refine ⟨.inl (by decide), wpPlan_nil ?_⟩
      go_wp2_with fail
      have hlen : (B8 (T.drop (64 * j))).length = r := by have := Hr.out; simp; omega
      have hXn := hXS.cutf (k := 64) (cap := c') (fun x => ⟨x.block, x.off + 64, none⟩) (fun _ _ => rfl) (by omega) (by omega)
      rw [← B8_drop, List.drop_drop, ← Nat.mul_succ] at hXn
      have e1 : T.length - 64 * (j + 1) = r - 64 := by have := Hr.out; omega
      have hl8 : (blk st T (j + 1)).length = 8 := by rw [blk_length]; exact Hst.out
      have hGn := sc_set8 hl8 HGS.out (.slice (if c' = 64 then A' else A'.map fun x => ⟨x.block, x.off + 64, none⟩) (r - 64) (c' - 64))
      have m1 : waitLen g wr = r := by simp [waitLen, d8]
      have m2 := (sc_cell hl8 hGn).1
      refine ⟨⟨j + 1, _, c' - 64, by have := Hr.out; omega, by omega, by omega, hXn.setCell 8 _, by rw [e1]; exact hGn, (Below.heap_setCell wS _ _ gk (fun e => hne e.symm)).trans HKS.out, hBS.setCell (p := ⟨g, 8, none⟩) hb _⟩, ?_⟩
      rw [m1, waitLen, m2]
      show r - 64 < r
      omega
    · go_wp2_with fail
      have er := Hr.out
      have e1 : T.length / 64 = j := by omega
      have e2 : T.length % 64 = r := by omega
      have hGr := HG.out
      rw [← er] at hGr
      refine bodyPost_end (results_none rfl _ _ _) rfl ?_
      refine ⟨rfl, hB, A', c', ?_, hc2', ?_, ?_⟩
      · rw [← HT.out, e2]; exact hc1'
      · rw [← HT.out, e1]; exact hX
      · rw [← HT.out, e1, e2, ← Hn.out]; exact hGr

set_option maxRecDepth 100000 in
set_option maxHeartbeats 2000000 in
theorem add_new (g base : Nat) (z : List (BitVec 32)) (hz : z.length = 8) (wv : Value) (ws bs : List UInt8) (n : Nat) (A : Option Addr) (c : Nat) (w : World)
    (hb : base ≤ g) (hg : w.heap[g]? = some (.cells (SC z wv (.int .u64 n) (.bool false)) 209 (0, 0))) (hbw : base ≤ w.heap.size)
    (how : Ow w base 5 wv (B8 ws)) (hs : Sx g w A (B8 bs)) (hn : n + bs.length ≤ 8192) (hwl : ws.length + bs.length ≤ 8192) (hbc : bs.length ≤ c) (hc : c ≤ maxLen) :
    Calls Tryz.prog 161 #[.pointer (some ⟨g, 0, none⟩), .slice A bs.length c] w fun e W' => e = .returned (.tuple #[]) ∧ Below base w W' ∧
      ∃ A' c', (ws ++ bs).length % 64 ≤ c' ∧ c' ≤ maxLen ∧ Sx g W' A' (B8 ((ws ++ bs).drop (64 * ((ws ++ bs).length / 64)))) ∧
        W'.heap[g]? = some (.cells (SC (blk H256 (ws ++ bs) ((ws ++ bs).length / 64)) (.slice A' ((ws ++ bs).length % 64) c') (.int .u64 (n + bs.length : Nat)) (.bool true)) 209 (0, 0)) := by
  obtain ⟨c8, c9, c10, hfz⟩ := sc_cell hz hg
  have hgs : g < w.heap.size := (Array.getElem?_eq_some_iff.1 hg).1
  obtain ⟨Aw, cw, rfl⟩ : ∃ Aw cw, wv = .slice Aw ws.length cw := by obtain ⟨Aw, cw, e, _⟩ := how; exact ⟨Aw, cw, by simpa using e⟩
  obtain ⟨n', hn'⟩ : ∃ n' : Nat, n' = n + bs.length := ⟨_, rfl⟩
  have en : (n : Int) + (bs.length : Int) = (n' : Int) := by omega
  have q1 : (B8 ws).length + bs.length ≤ maxLen := by simp [maxLen]; omega
  have q2 : ((B8 ws).length + bs.length) * 1 ≤ 140737488355328 := by simp; omega
  obtain ⟨T, hT⟩ : ∃ T, T = ws ++ bs := ⟨_, rfl⟩
  obtain ⟨st, hst⟩ : ∃ st, st = H256 := ⟨_, rfl⟩
  have hl8 : st.length = 8 := by rw [hst]; rfl
  obtain ⟨sc, hsc⟩ : ∃ sc, sc = (W32 st).toArray := ⟨_, rfl⟩
  have hscz : sc.size = 8 := by rw [hsc]; simp [hl8]
  have h1 : sc.all (·.oneCell') = true := by rw [hsc]; simp [W32]; intro x _; rfl
  have hinf : (Tryz.prog.info? 207).map (·.size) = some sc.size := by rw [hscz]; kernel_rfl
  rw [← hst]
  have HT := Lib.hid hT
  have Hg0 := Lib.hid hg
  have Hz := Lib.hid hz
  have Hn := Lib.hid hn'
  have Q1 := Lib.hid q1
  have Q2 := Lib.hid q2
  have HS := Lib.hid hst
  have Hst := Lib.hid hl8
  have Hsc := Lib.hid hsc
  have Hscz := Lib.hid hscz
  have H1 := Lib.hid h1
  have Hinf := Lib.hid hinf
  clear hg hz hfz hn' q1 q2 hT hst hl8 hsc hscz h1 hinf
  go_enter Tryz.func161, Tryz.ntmps161
  go_wp2_with fail
  refine (begin_any w).mono ?_
  rintro e wb ⟨rfl, hBb⟩
  rw [← HS.out, ← Hsc.out]
  have hgB := (hBb.block g hgs).trans Hg0.out
  have howB := how.below hBb (Nat.le_refl _)
  have hsB := hs.below hBb
  have ht : wb.there g 0 sc.size := fun j hj => ⟨by
    rw [cell_of_row wb g _ _ _ (0, 0) hgB]
    have := Hscz.out
    rw [Array.getElem?_eq_getElem (by simp [SC, Hz.out]; omega)]
    rfl, frozen_of_row wb g _ _ _ hgB⟩
  have Ht := Lib.hid ht
  clear ht
  have hgs2 : wb.heap.size ≥ w.heap.size := hBb.size
  have facts : ∀ wp, wp = wb.setCells g 0 sc.toList → wp.cell? ⟨g, 8, none⟩ = some (.slice Aw ws.length cw) ∧ wp.cell? ⟨g, 9, none⟩ = some (.int .u64 n) ∧ wp.cell? ⟨g, 10, none⟩ = some (.bool false) ∧ wp.frozen? ⟨g, 8, none⟩ = false ∧ wp.frozen? ⟨g, 9, none⟩ = false ∧ wp.frozen? ⟨g, 10, none⟩ = false ∧
      ∃ wq, wq = (wp.setCell ⟨g, 10, none⟩ (.bool true)).setCell ⟨g, 9, none⟩ (.int .u64 n') ∧ wq.heap[g]? = some (.cells (SC st (.slice Aw ws.length cw) (.int .u64 n') (.bool true)) 209 (0, 0)) ∧ Ow wq base 5 (.slice Aw ws.length cw) (B8 ws) ∧ Sl wq wq.heap.size A (B8 bs) ∧ Below base w wq ∧ (∀ r, rowOf (.slice Aw ws.length cw) = some r → r ≠ g) := fun wp hwp => by
    have hGp : wp.heap[g]? = some (.cells (SC st (.slice Aw ws.length cw) (.int .u64 n) (.bool false)) 209 (0, 0)) := by
      rw [hwp, Hsc.out]; exact sc_put Hz.out Hst.out hgB
    have hgr : wb.grownBy wp (some g) := by rw [hwp]; exact grown_setCells g _ _ _
    have hne := howB.row_ne hgB (by decide)
    have hO := howB.kept hgr (fun r hr e => hne r hr (by injection e with e; exact e.symm))
    have hS := hsB.grown hgr
    have hB := (hBb.mono hbw).grown hgr (Nat.le_trans hbw hBb.size) (fun r hr => by injection hr with hr; omega)
    obtain ⟨d8, d9, d10, df⟩ := sc_cell Hst.out hGp
    refine ⟨d8, d9, d10, df 8, df 9, df 10, _, rfl, sc_set9 Hst.out (sc_set10 Hst.out hGp _) _, ?_, ((hS.setCell 10 _).setCell 9 _).sl, (hB.setCell (p := ⟨g, 10, none⟩) hb _).setCell (p := ⟨g, 9, none⟩) hb _, hne⟩
    exact (hO.setCell (p := ⟨g, 10, none⟩) (fun r hr e => hne r hr e.symm) _).setCell (p := ⟨g, 9, none⟩) (fun r hr e => hne r hr e.symm) _
  go_wp2_with (first | (refine wpList_store_mid rfl 207 (.tmp 14) (.tmp 12) rfl g 0 sc rfl rfl Ht.out Hinf.out H1.out ?_; obtain ⟨wp, hwp⟩ : ∃ wp, wp = wb.setCells g 0 sc.toList := ⟨_, rfl⟩; rw [← hwp]; obtain ⟨d8, d9, d10, f8, f9, f10, wq, hwq, Hgq, how1, hs1, hb1, hne1⟩ := facts wp hwp; have HWQ := Lib.hid hwq; have Hg := Lib.hid Hgq; have Hne1 := Lib.hid hne1; clear hwp hwq Hgq hne1 facts hBb hgB howB hsB Ht) | (at_builtin; go_loud (rw [← HWQ.out]; have q3 : base ≤ wq.heap.size := Nat.le_trans hbw hb1.size; refine wpList_append_Ow (m := bs.length) (c := c) (base := base) (xs := B8 ws) (v := .slice Aw ws.length cw) (A := A) (B := wq.heap.size) (news := B8 bs) elB rfl (.tmp 31) (.tmp 32) rfl rfl how1 rfl hs1 (B8_length _) (B8_oneCell _) Q1.out Q2.out q3 ?_); intro v1 w1 ho1 hr1 hv1; have hB1 := hb1.grown hr1 q3 (fun r hr => (how1.row r hr).1); have hG1 := (hr1.block g (Array.getElem?_eq_some_iff.1 Hg.out).1 (fun e => Hne1.out g e.symm rfl)).trans Hg.out; have hf1 := frozen_of_row w1 g 8 _ _ hG1; have hc1 := (sc_cell Hst.out hG1).1; rw [← B8_append, ← HT.out] at ho1; obtain ⟨A1, c1, rfl, hc1a, hc1b⟩ := own_form ho1))
  have hG2 := sc_set8 Hst.out hG1 (.slice A1 T.length c1)
  have hO2 := ho1.setCell (p := ⟨g, 8, none⟩) (fun r hr e => ho1.row_ne hG1 (by decide) r hr e.symm) (.slice A1 T.length c1)
  have hB2 := hB1.setCell (p := ⟨g, 8, none⟩) hb (.slice A1 T.length c1)
  obtain ⟨w2, hw2⟩ : ∃ w2, w2 = w1.setCell ⟨g, 8, none⟩ (.slice A1 T.length c1) := ⟨_, rfl⟩
  rw [← hw2] at hG2 hO2 hB2
  have hX2 : Sx g w2 A1 (B8 T) := fun hn => by
    have hs := hO2.sl hn
    obtain ⟨b, o, e, hb, hc⟩ := hs
    subst e
    refine ⟨b, o, rfl, ?_, hb, hc⟩
    refine hO2.row_ne hG2 (by decide) b ?_
    simp [rowOf]
    simp at hn
    omega
  have hz2 := hB2.size
  have hg2lt : g < w2.heap.size := (Array.getElem?_eq_some_iff.1 hG2).1
  rw [← hw2]
  have Hw2 := Lib.hid hw2
  clear hw2 hO2 hB1 hb1 hr1 hv1 hs1 how1 c8 c9 hf1 hc1 ho1 q3 Q1 Q2 hG1 d8 d9 d10 f8 f9 f10 Hne1 HWQ
  refine (k256_any w2).mono ?_
  rintro e w3 ⟨rfl, hB3⟩
  obtain ⟨kc, hkc⟩ : ∃ kc, kc = (W32 K256).toArray := ⟨_, rfl⟩
  have hG3 := (hB3.block g hg2lt).trans hG2
  have hX3 := hX2.below hB3
  have hB03 := hB2.trans (hB3.mono (by omega))
  have hz3 := hB3.size
  rw [← hkc]
  have hsz : kc.size = 64 := by rw [hkc]; simp [K256_length]
  have h1 : kc.all (·.oneCell') = true := by rw [hkc]; simp [W32]; intro x _; rfl
  have hinf : (Tryz.prog.info? 242).map (·.size) = some kc.size := by rw [hsz]; kernel_rfl
  have Hkc := Lib.hid hkc
  have Hsz := Lib.hid hsz
  have H1 := Lib.hid h1
  have Hinf := Lib.hid hinf
  clear hkc hsz h1 hinf
  go_wp2_with (first | (refine wpList_store_row rfl 242 (.tmp 4) (.tmp 36) rfl w3.heap.size kc rfl rfl 242 _ (heap_alloc_new w3 _) Hinf.out Hsz.out.symm H1.out ?_) | fail)
  rw [World.setRow_alloc_new]
  obtain ⟨w4, hw4⟩ : ∃ w4, w4 = w3.alloc (.cells kc 242) := ⟨_, rfl⟩
  have hk4 : w4.heap[w3.heap.size]? = some (.cells (W32 K256).toArray 242 (0, 0)) := by rw [hw4, ← Hkc.out]; exact heap_alloc_new w3 _
  have hG4 : w4.heap[g]? = some (.cells (SC st (.slice A1 T.length c1) (.int .u64 n') (.bool true)) 209 (0, 0)) := by rw [hw4]; exact (Below.heap_alloc w3 _ g (by omega)).trans hG3
  have hX4 : Sx g w4 A1 (B8 T) := by rw [hw4]; exact hX3.alloc _
  have hB4 : Below base w w4 := by rw [hw4]; exact hB03.alloc (by omega) _
  rw [← hw4]
  have hz4 := hB4.size
  obtain ⟨gk, hgk⟩ : ∃ gk, gk = w3.heap.size := ⟨_, rfl⟩
  rw [← hgk] at hk4 ⊢
  have hne : g ≠ gk := by omega
  have hg4lt : g < w4.heap.size := (Array.getElem?_eq_some_iff.1 hG4).1
  have hk4lt : gk < w4.heap.size := (Array.getElem?_eq_some_iff.1 hk4).1
  have HG4 := Lib.hid hG4
  have Hk4 := Lib.hid hk4
  have Hgk := Lib.hid hgk
  clear hgk hw4 hG4 hk4 hX3 hB03 hG3 hX2 hB2 hG2
  have ht64 : T.length ≤ 8192 := by rw [HT.out, List.length_append]; omega
  simp only [Act.put]
  go_loopw [] (fun wr => ∃ j A' c', 64 * j ≤ T.length ∧ T.length - 64 * j ≤ c' ∧ c' ≤ maxLen ∧ Sx g wr A' (B8 (T.drop (64 * j))) ∧ wr.heap[g]? = some (.cells (SC (blk st T j) (.slice A' (T.length - 64 * j) c') (.int .u64 n') (.bool true)) 209 (0, 0)) ∧
    wr.heap[gk]? = some (.cells (W32 K256).toArray 242 (0, 0)) ∧ Below base w wr) (fun wr => waitLen g wr)
  case atStart => exact ⟨0, A1, c1, by omega, by omega, hc1b, by simpa using hX4, by simpa [blk] using HG4.out, Hk4.out, hB4⟩
  case round =>
    obtain ⟨j, A', c', hj, hc1', hc2', hX, hG, hK, hB⟩ := hrel
    obtain ⟨d8, d9, d10, df⟩ := sc_cell (by rw [blk_length]; exact Hst.out) hG
    have df8 := df 8
    have hgr : g < wr.heap.size := (Array.getElem?_eq_some_iff.1 hG).1
    obtain ⟨r, hr⟩ : ∃ r, r = T.length - 64 * j := ⟨_, rfl⟩
    rw [← hr] at d8 hc1'
    have HG := Lib.hid hG
    have HK := Lib.hid hK
    have Hr := Lib.hid hr
    clear hG hK df hr
    by_cases hlt : 64 ≤ r
    · have hmx : Tryz.prog.follows .mixedOrders = true := by kernel_rfl
      go_wp2_with fail
      refine wp_region_plan [(0, 0), (1, 0), (2, 0), (3, 0), (4, 0), (5, 0), (6, 1), (7, 0), (8, 2)] 8 hmx (by kernel_rfl) (by intro c a d v w h; cases d <;> exact h) ?_
      repeat ((first | (refine wpPlan_pure rfl (fun K hK => ?_)) | (refine wpPlan_quiet rfl (fun K hK => ?_))); go_simp; (first | (refine hK _ ?_) | (simp only [IntWalk.iteOmega]; go_simp; refine hK _ ?_) | (go_bits; go_simp; refine hK _ ?_)); clear hK K; (try go_bits))
      refine wpPlan_loud rfl rfl (fun K hK => ?_)
      go_wp2_with fail
      obtain ⟨bl, hbl⟩ : ∃ bl, bl = (T.drop (64 * j)).take 64 := ⟨_, rfl⟩
      have hbll : bl.length = 64 := by rw [hbl]; have := Hr.out; simp; omega
      have hXb : Sl wr wr.heap.size A' (B8 bl) := by rw [hbl, B8_take]; exact (hX.take 64).sl
      have hGr := HG.out
      rw [← Hr.out] at hGr
      refine (step_any g gk _ _ (blk st T j) (by rw [blk_length]; exact Hst.out) [.slice A' r c', .int .u64 n', .bool true] K256 K256_length A' c' bl hbll wr.drew hGr HK.out hne hXb).mono ?_
      rintro e wS ⟨rfl, hGS, hgrS⟩
      rw [hbl] at hGS
      have hGS' : wS.heap[g]? = some (.cells (SC (blk st T (j + 1)) (.slice A' r c') (.int .u64 n') (.bool true)) 209 (0, 0)) := hGS
      have hXS := (show Sx g wr.drew A' (B8 (T.drop (64 * j))) from hX).grown hgrS
      have hBS := hB.drew.grown hgrS (by have : wr.drew.heap.size = wr.heap.size := rfl; have := hB.size; omega) (fun r hr => by injection hr with hr; omega)
      have hKS : wS.heap[gk]? = _ := (hgrS.block gk (Array.getElem?_eq_some_iff.1 HK.out).1 (fun e => hne (by injection e with e; exact e.symm))).trans HK.out
      obtain ⟨e8, _, _, ef⟩ := sc_cell (by rw [blk_length]; exact Hst.out) hGS'
      have ef8 := ef 8
      have HGS := Lib.hid hGS'
      have HKS := Lib.hid hKS
      have Hbl := Lib.hid hbl
      clear hGS hGS' hKS hgrS ef hbl hbll hXb hGr
      go_wp2_with fail
      refine ⟨.inl (by decide), wpPlan_nil ?_⟩
      go_wp2_with fail
      have hlen : (B8 (T.drop (64 * j))).length = r := by have := Hr.out; simp; omega
      have hXn := hXS.cutf (k := 64) (cap := c') (fun x => ⟨x.block, x.off + 64, none⟩) (fun _ _ => rfl) (by omega) (by omega)
      rw [← B8_drop, List.drop_drop, ← Nat.mul_succ] at hXn
      have e1 : T.length - 64 * (j + 1) = r - 64 := by have := Hr.out; omega
      have hl8 : (blk st T (j + 1)).length = 8 := by rw [blk_length]; exact Hst.out
      have hGn := sc_set8 hl8 HGS.out (.slice (if c' = 64 then A' else A'.map fun x => ⟨x.block, x.off + 64, none⟩) (r - 64) (c' - 64))
      have m1 : waitLen g wr = r := by simp [waitLen, d8]
      have m2 := (sc_cell hl8 hGn).1
      refine ⟨⟨j + 1, _, c' - 64, by have := Hr.out; omega, by omega, by omega, hXn.setCell 8 _, by rw [e1]; exact hGn, (Below.heap_setCell wS _ _ gk (fun e => hne e.symm)).trans HKS.out, hBS.setCell (p := ⟨g, 8, none⟩) hb _⟩, ?_⟩
      rw [m1, waitLen, m2]
      show r - 64 < r
      omega
    · go_wp2_with fail
      have er := Hr.out
      have e1 : T.length / 64 = j := by omega
      have e2 : T.length % 64 = r := by omega
      have hGr := HG.out
      rw [← er] at hGr
      refine bodyPost_end (results_none rfl _ _ _) rfl ?_
      refine ⟨rfl, hB, A', c', ?_, hc2', ?_, ?_⟩
      · rw [← HT.out, e2]; exact hc1'
      · rw [← HT.out, e1]; exact hX
      · rw [← HT.out, e1, e2, ← Hn.out]; exact hGr
end Go.Proofs.YtcjioogololnoaaGreatDoor
