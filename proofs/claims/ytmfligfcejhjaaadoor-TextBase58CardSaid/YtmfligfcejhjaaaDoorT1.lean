/- ref02.fill. -/
import Derived.Test.YtmfligfcejhjaaaDoorS7
namespace Go.Proofs.YtmfligfcejhjaaaDoor
open Go.RowKit Go.Shelf

def slen : Value → Nat
  | .slice _ n _ => n
  | _ => 0
/-- The lowest i bytes of a number, the lowest first. -/
def lows (m i : Nat) : List UInt8 := (List.range i).map fun j => UInt8.ofNat (m / 256 ^ j)
theorem lows_succ (m i : Nat) : lows m (i + 1) = lows m i ++ [UInt8.ofNat (m / 256 ^ i)] := by simp [lows, List.range_succ]
theorem lows_length (m i : Nat) : (lows m i).length = i := by simp [lows]
theorem lows_get (m i j : Nat) (h : j < i) : (B8 (lows m i))[j]? = some (.int .u8 ((m / 256 ^ j % 256 : Nat) : Int)) := by simp [B8, lows, h]
/-- The last k of eight. -/
def tops (m : Nat) : Nat → List UInt8
  | 0 => []
  | k + 1 => tops m k ++ [UInt8.ofNat (m / 256 ^ (8 - 1 - k))]
theorem tops_succ (m k : Nat) : tops m (k + 1) = tops m k ++ [UInt8.ofNat (m / 256 ^ (8 - 1 - k))] := rfl
theorem tops_eight (m : Nat) : tops m 8 = low8 m 8 := by simp [tops, low8, List.range, List.range.loop]
theorem fill_msg (b : List UInt8) (f : Nat) (hf : f = 63 - (b.length % 64 + 8) % 64) : b ++ 128 :: List.replicate f 0 ++ tops (b.length * 8) 8 = msg b := by
  rw [tops_eight, msg, tailL, ← hf]; simp

theorem lows_next (n k q : Nat) (h : q = n * 8 / 256 ^ k) : ((q : Int) / 256) = ((n : Int) * 8 / 256 ^ (k + 1)) := by
  have h2 : q / 256 = n * 8 / 256 ^ (k + 1) := by rw [h, Nat.div_div_eq_div_mul, ← Nat.pow_succ]
  have h3 : ((q / 256 : Nat) : Int) = ((n * 8 / 256 ^ (k + 1) : Nat) : Int) := by rw [h2]
  rw [Int.natCast_ediv, Int.natCast_ediv, Int.natCast_mul, Int.natCast_pow] at h3
  exact h3
theorem tops_length (m k : Nat) : (tops m k).length = k := by
  induction k with
  | zero => rfl
  | succ k ih => simp [tops, ih]
theorem push_below {w wr w3 : World} {B E n c : Nat} {A : Option Addr} {xs : List Value} {o : Obj} (hb : Below B w wr) (hB : B ≤ w.heap.size) (ho : Ow wr B E (.slice A n c) xs) (hg : (wr.alloc o).grownBy w3 (rowOf (.slice A n c))) : Below B w w3 := by
  have h1 : B ≤ wr.heap.size := Nat.le_trans hB hb.size
  exact (hb.alloc h1 o).grown hg (by rw [World.size_alloc]; omega) (fun r hr => (ho.row r hr).1)
theorem b8_snoc (xs : List UInt8) (x : Value) (b : UInt8) (h : x = .int .u8 (b.toNat : Int)) : B8 xs ++ [x] = B8 (xs ++ [b]) := by rw [h, B8_append]; rfl

set_option maxRecDepth 100000 in
set_option maxHeartbeats 2000000 in
theorem fill_any (A : Option Addr) (c : Nat) (b : List UInt8) (w : World) (hs : Sl w w.heap.size A (B8 b)) (hl : b.length ≤ 2048) (hbc : b.length ≤ c) (hc : c ≤ maxLen) :
    Calls Tryd.prog 53 #[.slice A b.length c, .int .i64 64, .int .i64 8, .bool false] w fun e W' => ∃ v, e = .returned v ∧ Ow W' w.heap.size 5 v (B8 (msg b)) ∧ Below w.heap.size w W' := by
  have Hl := Lib.hid hl
  go_enter Tryd.func53, Tryd.ntmps53
  go_wp2_with (first | (at_builtin; refine wpList_append_Ow (m := b.length) (c := c) (base := w.heap.size) (xs := []) (v := .slice (some ⟨w.heap.size, 0, none⟩) 0 0) (A := A) (B := w.heap.size) (news := B8 b) elB rfl (.tmp 14) (.tmp 15) rfl rfl (Ow.nil_ _ _ _ _) rfl (hs.alloc (Nat.le_refl _) _) (B8_length _) (B8_oneCell _) (by have := Hl.out; simp [maxLen]; omega) (by have := Hl.out; simp; omega) (by simp) ?_; intro v1 w1 ho1 hg1 hr1; have hb1 := ((Below.refl _ w).alloc (Nat.le_refl _) (.cells #[] 5)).grown hg1 (by simp) (by simp [rowOf]); rw [List.nil_append] at ho1; obtain ⟨A1, c1, rfl, hc1, hc1'⟩ := own_form ho1; clear hg1 hr1) | (at_builtin; refine wpList_append_Ow (m := 1) (c := 1) (base := w.heap.size) (xs := B8 b) (v := .slice A1 b.length c1) (A := some ⟨w1.heap.size, 0, none⟩) (B := w1.heap.size + 1) (news := [.int .u8 128]) elB rfl (.tmp 17) (.tmp 18) rfl rfl (ho1.alloc _) rfl (Sl.one w1 _ _) rfl (by simp; rfl) (by have := Hl.out; simp [maxLen]; omega) (by have := Hl.out; simp; omega) (by have := hb1.size; simp; omega) ?_; intro v2 w2 ho2 hg2 hr2))
  have hb2 := (hb1.alloc hb1.size (.cells #[.int .u8 128] 5)).grown hg2 (by have := hb1.size; simp; omega) (fun r hr => (ho1.row r hr).1)
  obtain ⟨f, hf⟩ : ∃ f, f = 63 - (b.length % 64 + 8) % 64 := ⟨_, rfl⟩
  have hl2 : b.length ≤ 2048 := Hl.out
  go_loopw [9] (fun v wr => ∃ z : Nat, z ≤ f ∧ Ow wr w.heap.size 5 v (B8 (b ++ 128 :: List.replicate z 0)) ∧ Below w.heap.size w wr) (fun v _ => b.length + 1 + f - slen v)
  case atStart => exact ⟨0, Nat.zero_le _, by simpa [B8] using ho2, hb2⟩
  case round =>
    obtain ⟨z, hz, ho, hb⟩ := hrel
    obtain ⟨X, hX⟩ : ∃ X, X = b ++ 128 :: List.replicate z 0 := ⟨_, rfl⟩
    have hXl : X.length = b.length + 1 + z := by rw [hX]; simp; omega
    rw [← hX] at ho
    obtain ⟨Az, cz, rfl, hcz, hcz'⟩ := own_form ho
    obtain ⟨N, hN⟩ : ∃ N, N = X.length := ⟨_, rfl⟩
    have hXb : (B8 X).length = N := by simp [hN]
    have hNl : N ≤ 4096 := by omega
    rw [← hN] at ho hcz ⊢
    by_cases hlt : z < f
    · have hmod : ¬ ((N : Int) % 64 = 56) := by omega
      have Hf := Lib.hid hf
      have HN := Lib.hid hN
      have HX := Lib.hid hX
      have HXl := Lib.hid hXl
      clear hf hN hX hXl
      go_wp2_with (at_builtin; refine wpList_append_Ow (m := 1) (c := 1) (base := w.heap.size) (xs := B8 X) (v := .slice Az N cz) (A := some ⟨wr.heap.size, 0, none⟩) (B := wr.heap.size + 1) (news := [.int .u8 0]) elB rfl (.tmp 28) (.tmp 29) rfl rfl (ho.alloc _) rfl (Sl.one wr _ _) rfl (by simp; rfl) (by rw [hXb]; simp [maxLen]; omega) (by rw [hXb]; omega) (by have := hb.size; simp; omega) ?_; intro v3 w3 ho3 hg3 hr3)
      rw [b8_snoc X (.int .u8 0) 0 rfl, HX.out, List.append_assoc, List.cons_append, ← List.replicate_succ'] at ho3
      refine ⟨⟨z + 1, hlt, ho3, push_below hb (Nat.le_refl _) ho hg3⟩, ?_⟩
      obtain ⟨A3, c3, rfl, _, _⟩ := own_form ho3
      have := HN.out
      have := HXl.out
      simp only [slen, List.length_append, List.length_cons, List.length_replicate]
      omega
    · have hmod : (N : Int) % 64 = 56 := by omega
      have Hf := Lib.hid hf
      have HN := Lib.hid hN
      have HX := Lib.hid hX
      have HXl := Lib.hid hXl
      clear hf hN hX hXl
      have hzf : z = f := by omega
      go_wp2_with fail
      clear hmod
      obtain ⟨wx, hwx⟩ : ∃ wx, wx = wr := ⟨_, rfl⟩
      subst hwx
      go_loopw [10, 11, 12] (fun m v i wr => ∃ k : Nat, k ≤ 8 ∧ i = .int .i64 k ∧ m = .int .u64 ((b.length * 8 / 256 ^ k : Nat) : Int) ∧ Ow wr wx.heap.size 5 v (B8 (lows (b.length * 8) k)) ∧ Below wx.heap.size wx wr) (fun _ _ i _ => 8 - (intOf i).toNat)
      case atStart => 
        refine ⟨0, Nat.zero_le _, rfl, by simp, Ow.nil_ _ _ _ _, Below.refl _ _⟩
      case round =>
        obtain ⟨k, hk, rfl, rfl, hol, hbl⟩ := hrel
        obtain ⟨Al, cl, rfl, hcl, hcl'⟩ := own_form hol
        rw [lows_length] at hol hcl ⊢
        obtain ⟨q, hq⟩ : ∃ q, q = b.length * 8 / 256 ^ k := ⟨_, rfl⟩
        have hql : q ≤ 16384 := by rw [hq]; exact Nat.le_trans (Nat.div_le_self _ _) (by omega)
        rw [← hq]
        by_cases hlt : k < 8
        · have Hq := Lib.hid hq
          have hll : (B8 (lows (b.length * 8) k)).length = k := by simp [lows_length]
          obtain ⟨L, hL⟩ : ∃ L, L = lows (b.length * 8) k := ⟨_, rfl⟩
          rw [← hL] at hol hll
          have HL := Lib.hid hL
          have Hll := Lib.hid hll
          clear hq hL hll
          go_wp2_with (at_builtin; refine wpList_append_Ow (m := 1) (c := 1) (base := wx.heap.size) (xs := B8 L) (v := .slice Al k cl) (A := some ⟨wr.heap.size, 0, none⟩) (B := wr.heap.size + 1) (news := [.int .u8 ((q : Int) % 256)]) elB rfl (.tmp 40) (.tmp 44) rfl rfl (hol.alloc _) rfl (Sl.one wr _ _) rfl (by simp; rfl) (by rw [Hll.out]; simp [maxLen]; omega) (by rw [Hll.out]; omega) (by have := hbl.size; simp; omega) ?_; intro v3 w3 ho3 hg3 hr3)
          rw [b8_snoc L _ (UInt8.ofNat q) (by simp), HL.out, Hq.out, ← lows_succ] at ho3
          refine ⟨⟨k + 1, hlt, rfl, ?_, ho3, push_below hbl (Nat.le_refl _) hol hg3⟩, by simp [intOf]; omega⟩
          rw [lows_next b.length k q Hq.out, Int.natCast_ediv, Int.natCast_mul, Int.natCast_pow]
          rfl
        · have hk8 : k = 8 := by omega
          have Hk8 := Lib.hid hk8
          have hk8' : 8 ≤ k := by omega
          clear hk8
          go_wp2_with fail
          obtain ⟨k2, hk2⟩ : ∃ k2, k2 = k := ⟨_, rfl⟩
          subst hk2
          obtain ⟨wy, hwy⟩ : ∃ wy, wy = wr := ⟨_, rfl⟩
          subst hwy
          obtain ⟨gl, curl, rfl, hgl, hLl, hcz2, htk⟩ : ∃ gl curl, Al = some ⟨gl, 0, none⟩ ∧ wx.heap.size ≤ gl ∧ wy.heap[gl]? = some (.cells curl 5 (0, 0)) ∧ cl ≤ curl.size ∧ curl.toList.take 8 = B8 (lows (b.length * 8) 8) := by
            rw [Hk8.out] at hol hcl
            obtain ⟨A', c', e, h1, h2, h3⟩ := hol
            injection e with e1 e2 e3
            obtain ⟨g, cur, e4, h4, h5, h6, h7⟩ := h3 (by omega)
            rw [B8_length, lows_length] at h7
            exact ⟨g, cur, by rw [e1, e4], h4, h5, by omega, h7⟩
          have hcell : ∀ j, j < 8 → curl[j]? = some (.int .u8 ((b.length * 8 / 256 ^ j % 256 : Nat) : Int)) := fun j hj => by
            have h1 : (curl.toList.take 8)[j]? = _ := (congrArg (fun l => l[j]?) htk).trans (lows_get (b.length * 8) 8 j hj)
            rw [List.getElem?_take, if_pos hj] at h1
            simpa using h1
          have hoy := ho.below hbl (Nat.le_refl _)
          have hby := hb.trans (hbl.mono hb.size)
          have hny : ∀ r, rowOf (.slice Az N cz) = some r → r ≠ gl := fun r hr => by have := (ho.row r hr).2; omega
          have HLl := Lib.hid hLl
          have Hny := Lib.hid hny
          have Hcell := Lib.hid hcell
          clear hny hLl hcell htk hq
          go_loopw [9, 13] (fun v i wr => ∃ k : Nat, k ≤ 8 ∧ i = .int .i64 k ∧ Ow wr w.heap.size 5 v (B8 (X ++ tops (b.length * 8) k)) ∧ Below w.heap.size w wr ∧ Hid (∀ r, rowOf v = some r → r ≠ gl) ∧ Hid (wr.heap[gl]? = some (.cells curl 5 (0, 0)))) (fun _ i _ => 8 - (intOf i).toNat)
          case atStart => exact ⟨0, Nat.zero_le _, rfl, by simpa [tops] using hoy, hby, Hny, HLl⟩
          case round =>
            obtain ⟨k, hk, rfl, ho3, hb3, Hr3, Hg3⟩ := hrel
            by_cases hlt : k < 8
            · obtain ⟨Y, hY⟩ : ∃ Y, Y = X ++ tops (b.length * 8) k := ⟨_, rfl⟩
              rw [← hY] at ho3
              obtain ⟨Ay, cy, rfl, hcy, hcy'⟩ := own_form ho3
              obtain ⟨M, hM⟩ : ∃ M, M = Y.length := ⟨_, rfl⟩
              rw [← hM] at ho3 hcy Hr3 ⊢
              have hYl : Y.length = N + k := by rw [hY, List.length_append, tops_length, ← HN.out]
              have hMl : M ≤ 4200 := by omega
              have hYb : (B8 Y).length = M := by rw [B8_length, hM]
              obtain ⟨j, hj⟩ : ∃ j, j = 7 - k := ⟨_, rfl⟩
              have ej : (7 : Int) - (k : Int) = (j : Int) := by omega
              have ej2 : (8 : Int) - 1 - (k : Int) = (j : Int) := by omega
              obtain ⟨y, hy⟩ : ∃ y, y = b.length * 8 / 256 ^ j % 256 := ⟨_, rfl⟩
              have cj : wr.cell? ⟨gl, j, none⟩ = some (.int .u8 (y : Int)) := by rw [cell_of_row wr gl j _ _ (0, 0) Hg3.out, Hcell.out j (by omega), hy]
              have hglt : gl < wr.heap.size := (Array.getElem?_eq_some_iff.1 Hg3.out).1
              have hj8 : j < k2 := by omega
              have Hj := Lib.hid hj
              have Hy := Lib.hid hy
              have HY := Lib.hid hY
              have HM := Lib.hid hM
              have HYb := Lib.hid hYb
              clear hj hy hY hM hYb
              go_wp2_with (at_builtin; refine wpList_append_Ow (m := 1) (c := 1) (base := w.heap.size) (xs := B8 Y) (v := .slice Ay M cy) (A := some ⟨wr.heap.size, 0, none⟩) (B := wr.heap.size + 1) (news := [.int .u8 (y : Int)]) elB rfl (.tmp 61) (.tmp 69) rfl rfl (ho3.alloc _) rfl (Sl.one wr _ _) rfl (by simp; rfl) (by rw [HYb.out]; simp [maxLen]; omega) (by rw [HYb.out]; omega) (by have := hb3.size; simp; omega) ?_; intro v4 w4 ho4 hg4 hr4)
              rw [b8_snoc Y _ (UInt8.ofNat (b.length * 8 / 256 ^ (8 - 1 - k))) (by rw [Hy.out, Hj.out]; simp), HY.out, List.append_assoc, ← tops_succ] at ho4
              have hb4 := push_below hb3 (Nat.le_refl _) ho3 hg4
              have hz3 : (wr.alloc (.cells #[.int .u8 (y : Int)] 5)).heap.size = wr.heap.size + 1 := World.size_alloc _ _
              have Hr4 : Hid (∀ r, rowOf v4 = some r → r ≠ gl) := Lib.hid fun r hr => by
                rcases hr4 with h | h
                · exact Hr3.out r (h ▸ hr)
                · rw [h] at hr; injection hr with hr; omega
              have Hg4 : Hid (w4.heap[gl]? = some (.cells curl 5 (0, 0))) := Lib.hid (by
                rw [hg4.block gl (by omega) (fun e => Hr3.out gl e.symm rfl), Below.heap_alloc wr _ gl hglt]; exact Hg3.out)
              refine ⟨⟨k + 1, hlt, rfl, ho4, hb4, Hr4, Hg4⟩, by simp [intOf]; omega⟩
            · obtain rfl : k = 8 := by omega
              go_wp2_with fail
              go_ret
              rw [HX.out, hzf, fill_msg b f Hf.out] at ho3
              exact ⟨_, rfl, ho3, hb3⟩
end Go.Proofs.YtmfligfcejhjaaaDoor
