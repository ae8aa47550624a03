/- curve.num: zero, sub, plus. | curve.field: in, below, add, neg; curve.num: half. | curve.field: add; curve.num: half; curve.number. -/
import Derived.Test.YtcjioogololnoaaGreatDoorU12
import Derived.Test.YtcjioogololnoaaGreatDoorU1
import Derived.Shelf.Spec.BitsCarry
import Derived.Lib.Hide
import Derived.Test.YtcjioogololnoaaGreatDoorRows
import Derived.Test.YtcjioogololnoaaGreatDoorU9
import Derived.Deep.WholeRow

/-! curve.num: zero, sub, plus. -/
namespace Go.Proofs.YtcjioogololnoaaGreatDoor
open Go.RowKit Go.Shelf

def U64 (xs : List Nat) : List Value := xs.map fun x : Nat => .int .u64 (x : Int)
@[simp] theorem U64_length (xs : List Nat) : (U64 xs).length = xs.length := by simp [U64]
/-- A number as four words. -/
def numA (n : Nat) : Array Value := #[.int .u64 (dw n 0 : Nat), .int .u64 (dw n 1 : Nat), .int .u64 (dw n 2 : Nat), .int .u64 (dw n 3 : Nat)]
theorem numA_eq (n : Nat) : numA n = (U64 (num4 n)).toArray := rfl
theorem u64_set (T : List Nat) (k v : Nat) : (U64 T).toArray.setIfInBounds k (.int .u64 (v : Int)) = (U64 (T.set k v)).toArray := by
  apply Array.ext'
  simp [U64, List.map_set]
theorem cellU {w : World} {g t k : Nat} {T : List Nat} (h : w.heap[g]? = some (.cells (U64 T).toArray t (0, 0))) (hk : k < T.length) : w.cell? ⟨g, k, none⟩ = some (.int .u64 (T[k] : Int)) := by
  rw [cell_of_row _ _ _ _ _ (0, 0) h]
  simp [U64, hk]
theorem thawU {w : World} {g t : Nat} {cs : Array Value} (h : w.heap[g]? = some (.cells cs t (0, 0))) (k : Nat) : w.frozen? ⟨g, k, none⟩ = false := by
  unfold World.frozen?
  simp [h]
theorem setU {w : World} {g t k v : Nat} {T : List Nat} (h : w.heap[g]? = some (.cells (U64 T).toArray t (0, 0))) : (w.setCell ⟨g, k, none⟩ (.int .u64 (v : Int))).heap[g]? = some (.cells (U64 (T.set k v)).toArray t (0, 0)) := by
  rw [heap_setCell_same w g k _ _ _ h, u64_set]
theorem otherU {w : World} {g h k : Nat} {o : Obj} {v : Value} (hr : w.heap[h]? = some o) (hne : h ≠ g) : (w.setCell ⟨g, k, none⟩ v).heap[h]? = some o := by
  rw [heap_setCell_other _ _ _ _ (by simpa using hne)]; exact hr
theorem rowOld {w : World} {o o' : Obj} {k : Nat} (h : w.heap[k]? = some o) : (w.alloc o').heap[k]? = some o :=
  (Below.heap_alloc w o' k (Array.getElem?_eq_some_iff.1 h).1).trans h
theorem rowsFour (w : World) (o1 o2 o3 o4 : Obj) : ((((w.alloc o1).alloc o2).alloc o3).alloc o4).heap[w.heap.size]? = some o1 ∧ ((((w.alloc o1).alloc o2).alloc o3).alloc o4).heap[w.heap.size + 1]? = some o2 ∧
    ((((w.alloc o1).alloc o2).alloc o3).alloc o4).heap[w.heap.size + 1 + 1]? = some o3 ∧ ((((w.alloc o1).alloc o2).alloc o3).alloc o4).heap[w.heap.size + 1 + 1 + 1]? = some o4 := by
  have h1 := heap_alloc_new w o1
  have h2 := heap_alloc_new (w.alloc o1) o2
  have h3 := heap_alloc_new ((w.alloc o1).alloc o2) o3
  have h4 := heap_alloc_new (((w.alloc o1).alloc o2).alloc o3) o4
  simp only [World.size_alloc] at h2 h3 h4
  exact ⟨rowOld (rowOld (rowOld h1)), rowOld (rowOld h2), rowOld h3, h4⟩

theorem results_row_tmp {P : Program} {fn : Func} {p q : Tmp} {ty : TypeId} (h : fn.results = #[.cell p ty, .tmp q]) (tmps : Array Value) (w : World) (g : Nat) (t : TypeId) (cs : Array Value) (fr : Nat × Nat) (d : TypeDesc)
    (hp : tmps.getD p undef = .pointer (some ⟨g, 0, none⟩)) (hg : w.heap[g]? = some (.cells cs t fr)) (v : Value) (hq : tmps.getD q undef = v)
    (hu : P.underlying ty = some d) (hd : (match d with | .struct _ | .array _ _ => true | _ => false) = true) (hi : (P.info? ty).map (·.size) = some cs.size) :
    (results fn tmps).run P w = .ok (.tuple #[.agg cs, v]) w := by
  have hp' : tmps[p]?.getD undef = .pointer (some ⟨g, 0, none⟩) := by simpa using hp
  have hq' : tmps[q]?.getD undef = v := by simpa using hq
  simp [results, h, hp', hq', asAddr, run_loadVar_row w g t ty cs fr d hg hu hd hi]
theorem four_words (T : List Nat) (h : T.length = 4) : ∃ a b c d, T = [a, b, c, d] := by
  match T, h with
  | [a, b, c, d], _ => exact ⟨a, b, c, d, rfl⟩
theorem u64_one (T : List Nat) : (U64 T).toArray.all (·.oneCell') = true := by simp [U64]; intro x _; rfl

theorem sub64_run (x y b : Nat) (hb : b ≤ 1) (w : World) : (callFunc 201 #[.int .u64 x, .int .u64 y, .int .u64 b]).run Tryz.prog w =
    .ok (.value (.tuple #[.int .u64 (((x + 18446744073709551616 - y - b) % 18446744073709551616 : Nat) : Int), .int .u64 ((if x < y + b then 1 else 0 : Nat) : Int)])) w := by
  rw [run_callFunc_extern Tryz.func201 (by kernel_rfl) (by kernel_rfl) (by kernel_rfl) (e := sub64Entry) (by kernel_rfl), run_sub64 x y b hb]
  rfl
theorem add64_run (x y c : Nat) (hc : c ≤ 1) (w : World) : (callFunc 204 #[.int .u64 x, .int .u64 y, .int .u64 c]).run Tryz.prog w =
    .ok (.value (.tuple #[.int .u64 (((x + y + c) % 18446744073709551616 : Nat) : Int), .int .u64 (((x + y + c) / 18446744073709551616 : Nat) : Int)])) w := by
  rw [run_callFunc_extern Tryz.func204 (by kernel_rfl) (by kernel_rfl) (by kernel_rfl) (e := add64Entry) (by kernel_rfl), run_add64 x y c (by omega) (by omega) (by omega) (by omega)]
  simp only [Result.andThen]
  congr 5 <;> omega

/-- One word of a difference. -/
theorem sub_word (x y b : Nat) (hx : x < 18446744073709551616) (hy : y < 18446744073709551616) (hb : b ≤ 1) : (x + 18446744073709551616 - y - b) % 18446744073709551616 + y + b = x + (if x < y + b then 1 else 0) * 18446744073709551616 := by
  split <;> omega
theorem sub_row (T X Y : List Nat) (k d b b' : Nat) (hT : k < T.length) (hX : k < X.length) (hY : k < Y.length) (hd : d + Y[k] + b = X[k] + b' * 18446744073709551616)
    (h : wv (T.take k) + wv (Y.take k) = wv (X.take k) + b * 2 ^ (64 * k)) : wv ((T.set k d).take (k + 1)) + wv (Y.take (k + 1)) = wv (X.take (k + 1)) + b' * 2 ^ (64 * (k + 1)) := by
  have h1 : wv ((T.set k d).take (k + 1)) = wv (T.take k) + d * 2 ^ (64 * k) := by
    rw [wv_take _ k (by simpa using hT), List.take_set_of_le (by omega), List.getElem_set_self]
  rw [h1, wv_take Y k hY, wv_take X k hX, p64]
  have h2 : (d + Y[k] + b) * 2 ^ (64 * k) = (X[k] + b' * 18446744073709551616) * 2 ^ (64 * k) := by rw [hd]
  rw [Nat.add_mul, Nat.add_mul, Nat.add_mul] at h2
  rw [← Nat.mul_assoc]
  omega

theorem add_row (T X Y : List Nat) (k d b b' : Nat) (hT : k < T.length) (hX : k < X.length) (hY : k < Y.length) (hd : d + b' * 18446744073709551616 = X[k] + Y[k] + b)
    (h : wv (T.take k) + b * 2 ^ (64 * k) = wv (X.take k) + wv (Y.take k)) : wv ((T.set k d).take (k + 1)) + b' * 2 ^ (64 * (k + 1)) = wv (X.take (k + 1)) + wv (Y.take (k + 1)) := by
  have h1 : wv ((T.set k d).take (k + 1)) = wv (T.take k) + d * 2 ^ (64 * k) := by
    rw [wv_take _ k (by simpa using hT), List.take_set_of_le (by omega), List.getElem_set_self]
  rw [h1, wv_take Y k hY, wv_take X k hX, p64]
  have h2 : (d + b' * 18446744073709551616) * 2 ^ (64 * k) = (X[k] + Y[k] + b) * 2 ^ (64 * k) := by rw [hd]
  rw [Nat.add_mul, Nat.add_mul, Nat.add_mul] at h2
  rw [← Nat.mul_assoc]
  omega

set_option maxRecDepth 100000 in
set_option maxHeartbeats 4000000 in
theorem nsub_any (x y : Nat) (hx : x < 2 ^ 256) (hy : y < 2 ^ 256) (w : World) :
    Calls Tryz.prog 173 #[.agg (numA x), .agg (numA y)] w fun e W' => e = .returned (.tuple #[.agg (numA ((x + 2 ^ 256 - y) % 2 ^ 256)), .bool (decide (x < y))]) ∧ Below w.heap.size w W' := by
  have hmx : Tryz.prog.follows .mixedOrders = true := by kernel_rfl
  simp only [numA]
  go_enter Tryz.func173, Tryz.ntmps173
  go_wp2_with fail
  have h4 := rowsFour w (.cells (U64 (num4 x)).toArray 140) (.cells (U64 (num4 y)).toArray 140) (.cells (U64 [0, 0, 0, 0]).toArray 140) (.cells (U64 [0, 0, 0, 0]).toArray 140)
  obtain ⟨W0, hW0⟩ : ∃ W0, W0 = ((((w.alloc (.cells (U64 (num4 x)).toArray 140)).alloc (.cells (U64 (num4 y)).toArray 140)).alloc (.cells (U64 [0, 0, 0, 0]).toArray 140)).alloc (.cells (U64 [0, 0, 0, 0]).toArray 140)) := ⟨_, rfl⟩
  have hb0 : Below w.heap.size w W0 := by rw [hW0]; exact ((((Below.refl _ w).alloc (Nat.le_refl _) _).alloc (by simp) _).alloc (by simp; omega) _).alloc (by simp; omega) _
  refine (show W0 = _ from hW0) ▸ ?_
  rw [← hW0] at h4
  obtain ⟨gX, gY, gO, gT⟩ := h4
  obtain ⟨B, hB⟩ : ∃ B, B = w.heap.size := ⟨_, rfl⟩
  have hBle : w.heap.size ≤ B := by omega
  rw [← hB] at gX gY gO gT ⊢
  have HB := Lib.hid hB
  clear hW0 hB
  go_loopw [7, 9] (fun b i wr => ∃ (k bo : Nat) (T : List Nat), k ≤ 4 ∧ i = .int .i64 k ∧ b = .int .u64 bo ∧ bo ≤ 1 ∧ Hid (T.length = 4 ∧ (∀ t ∈ T, t < 18446744073709551616) ∧ wv (T.take k) + wv ((num4 y).take k) = wv ((num4 x).take k) + bo * 2 ^ (64 * k)) ∧
    wr.heap[B]? = some (.cells (U64 (num4 x)).toArray 140 (0, 0)) ∧ wr.heap[B + 1]? = some (.cells (U64 (num4 y)).toArray 140 (0, 0)) ∧ wr.heap[B + 1 + 1]? = some (.cells (U64 [0, 0, 0, 0]).toArray 140 (0, 0)) ∧
    wr.heap[B + 1 + 1 + 1]? = some (.cells (U64 T).toArray 140 (0, 0)) ∧ Below w.heap.size w wr) (fun _ i _ => 4 - (intOf i).toNat)
  case atStart => exact ⟨0, 0, [0, 0, 0, 0], by omega, rfl, rfl, by omega, Lib.hid ⟨rfl, by simp, by simp [wv]⟩, gX, gY, gO, gT, hb0⟩
  case round =>
    clear gX gY gO gT hb0
    obtain ⟨k, bo, T, hk, rfl, rfl, hbo, HT, gX, gY, gO, gT, hb⟩ := hrel
    have hTl := HT.out.1
    by_cases hlt : k < 4
    · obtain ⟨xk, hxk⟩ : ∃ xk, xk = (num4 x)[k]'hlt := ⟨_, rfl⟩
      obtain ⟨yk, hyk⟩ : ∃ yk, yk = (num4 y)[k]'hlt := ⟨_, rfl⟩
      have hx64 : xk < 18446744073709551616 := by rw [hxk]; exact num4_lt x _ (List.getElem_mem _)
      have hy64 : yk < 18446744073709551616 := by rw [hyk]; exact num4_lt y _ (List.getElem_mem _)
      have cX := cellU gX (k := k) hlt
      have cY := cellU gY (k := k) hlt
      have cT := cellU gT (k := k) (by omega)
      have zT := thawU gT k
      rw [← hxk] at cX
      rw [← hyk] at cY
      obtain ⟨tk, htk⟩ : ∃ tk : Nat, tk = T[k]'(by omega) := ⟨_, rfl⟩
      rw [← htk] at cT
      have GX := Lib.hid gX
      have GY := Lib.hid gY
      have GO := Lib.hid gO
      have GT := Lib.hid gT
      have Hxk := Lib.hid hxk
      have Hyk := Lib.hid hyk
      have hS := fun ww => sub64_run xk yk bo hbo ww
      obtain ⟨d, hd⟩ : ∃ d, d = (xk + 18446744073709551616 - yk - bo) % 18446744073709551616 := ⟨_, rfl⟩
      obtain ⟨b', hb'⟩ : ∃ b', b' = (if xk < yk + bo then 1 else 0 : Nat) := ⟨_, rfl⟩
      have hw := sub_word xk yk bo hx64 hy64 hbo
      have hb1 : b' ≤ 1 := by rw [hb']; split <;> omega
      have hd64 : d < 18446744073709551616 := by rw [hd]; exact Nat.mod_lt _ (by decide)
      rw [← hd, ← hb'] at hw
      simp only [← hd, ← hb'] at hS
      have Hw := Lib.hid hw
      clear gX gY gO gT hxk hyk hd hb' hw htk hTl
      go_wp2_with fail
      refine wp_region_plan [(0, 0), (1, 0), (2, 0), (3, 1), (4, 0), (5, 0), (6, 1), (7, 0), (8, 2), (9, 0), (10, 0), (11, 0), (12, 0), (13, 2), (14, 2)] 13 hmx (by kernel_rfl) (by intro c a d v w h; cases d <;> exact h) ?_
      repeat ((first | (refine wpPlan_pure rfl (fun K hK => ?_)) | (refine wpPlan_quiet rfl (fun K hK => ?_))); go_simp; (first | (refine hK _ ?_) | (simp only [IntWalk.iteOmega]; go_simp; refine hK _ ?_) | (go_bits; go_simp; refine hK _ ?_)); clear hK K; (try go_bits))
      refine wpPlan_loud rfl rfl (fun K hK => ?_)
      go_wp2_with fail
      refine ⟨.inr (Ext.refl _), ?_⟩
      repeat ((first | (refine wpPlan_pure rfl (fun K hK => ?_)) | (refine wpPlan_quiet rfl (fun K hK => ?_))); go_simp; (first | (refine hK _ ?_) | (simp only [IntWalk.iteOmega]; go_simp; refine hK _ ?_) | (go_bits; go_simp; refine hK _ ?_)); clear hK K; (try go_bits))
      refine wpPlan_loud rfl rfl (fun K hK => ?_)
      go_wp2_with fail
      refine ⟨.inl (by decide), ?_⟩
      refine wpPlan_loud rfl rfl (fun K hK => ?_)
      go_wp2_with fail
      refine ⟨.inl (by decide), ?_⟩
      refine wpPlan_nil ?_
      go_wp2_with fail
      refine ⟨⟨k + 1, b', T.set k d, by omega, by go_num, rfl, hb1, Lib.hid ⟨by simpa using HT.out.1, fun t ht => ?_, ?_⟩, otherU GX.out (by omega), otherU GY.out (by omega), otherU GO.out (by omega), setU GT.out, (hb.setCell (p := ⟨B + 1 + 1 + 1, k, none⟩) (by show w.heap.size ≤ B + 1 + 1 + 1; omega) _).drew⟩, by simp [intOf]; omega⟩
      · rcases List.mem_or_eq_of_mem_set ht with h | h
        · exact HT.out.2.1 t h
        · exact h ▸ hd64
      · refine sub_row T (num4 x) (num4 y) k d bo b' (by rw [HT.out.1]; exact hlt) hlt hlt ?_ HT.out.2.2
        rw [← Hxk.out, ← Hyk.out]; exact Hw.out
    · obtain rfl : k = 4 := by omega
      obtain ⟨t0, t1, t2, t3, rfl⟩ := four_words T hTl
      have hfin : num4 ((x + 2 ^ 256 - y) % 2 ^ 256) = [t0, t1, t2, t3] ∧ bo = (if x < y then 1 else 0) := by
        obtain ⟨_, h2, h3⟩ := HT.out
        have h4 := wv_lt [t0, t1, t2, t3] h2
        have hn := num4_wv [t0, t1, t2, t3] rfl h2
        rw [show [t0, t1, t2, t3].take 4 = [t0, t1, t2, t3] from rfl, show (num4 y).take 4 = num4 y from rfl, show (num4 x).take 4 = num4 x from rfl, wv_num4 x hx, wv_num4 y hy] at h3
        simp only [List.length_cons, List.length_nil] at h4
        rw [← hn]
        generalize wv [t0, t1, t2, t3] = v at h3 h4
        refine ⟨?_, by split <;> omega⟩
        congr 1
        rcases (show bo = 0 ∨ bo = 1 by omega) with rfl | rfl <;> omega
      obtain ⟨cs, hcs⟩ : ∃ cs, cs = (U64 [t0, t1, t2, t3]).toArray := ⟨_, rfl⟩
      have hcz : cs.size = 4 := by rw [hcs]; rfl
      have Hone : Hid (cs.all (·.oneCell') = true) := Lib.hid (by rw [hcs]; exact u64_one _)
      have Hinf : Hid ((Tryz.prog.info? 140).map (·.size) = some cs.size) := Lib.hid (by rw [hcz]; kernel_rfl)
      have Hcz : Hid ((U64 [0, 0, 0, 0]).toArray.size = cs.size) := Lib.hid hcz.symm
      rw [← hcs] at gT
      have Hcs := Lib.hid hcs
      have Hfin := Lib.hid hfin
      have GT := Lib.hid gT
      have GO := Lib.hid gO
      clear hcs hcz gX gY gT gO hTl hfin
      go_wp2_with (first | (refine wpList_load_row rfl 140 (.tmp 6) rfl (B + 1 + 1 + 1) rfl 140 cs (0, 0) _ GT.out Tryz.underlying140 rfl Hinf.out ?_) | (refine wpList_store_row rfl 140 (.tmp 4) (.tmp 26) rfl (B + 1 + 1) cs rfl rfl 140 _ GO.out Hinf.out Hcz.out Hone.out ?_))
      refine bodyPost_ret (v := .tuple #[.agg cs, .bool (decide (x < y))]) ?_ rfl ⟨?_, below_setRow' hb (by omega) _⟩
      · refine results_row_tmp rfl _ _ (B + 1 + 1) 140 cs (0, 0) _ rfl (setRow_heap _ _ _ _ _ _ GO.out) _ ?_ Tryz.underlying140 rfl Hinf.out
        show Value.bool ((bo : Int) == 1) = _
        rw [Hfin.out.2]
        by_cases h : x < y <;> simp [h]
      · rw [Hcs.out, ← Hfin.out.1]; rfl
set_option maxRecDepth 100000 in
set_option maxHeartbeats 4000000 in
theorem nplus_any (x y : Nat) (hx : x < 2 ^ 256) (hy : y < 2 ^ 256) (w : World) :
    Calls Tryz.prog 176 #[.agg (numA x), .agg (numA y)] w fun e W' => e = .returned (.tuple #[.agg (numA ((x + y) % 2 ^ 256)), .int .u64 (((x + y) / 2 ^ 256 : Nat) : Int)]) ∧ Below w.heap.size w W' := by
  have hmx : Tryz.prog.follows .mixedOrders = true := by kernel_rfl
  simp only [numA]
  go_enter Tryz.func176, Tryz.ntmps176
  go_wp2_with fail
  have h4 := rowsFour w (.cells (U64 (num4 x)).toArray 140) (.cells (U64 (num4 y)).toArray 140) (.cells (U64 [0, 0, 0, 0]).toArray 140) (.cells (U64 [0, 0, 0, 0]).toArray 140)
  obtain ⟨W0, hW0⟩ : ∃ W0, W0 = ((((w.alloc (.cells (U64 (num4 x)).toArray 140)).alloc (.cells (U64 (num4 y)).toArray 140)).alloc (.cells (U64 [0, 0, 0, 0]).toArray 140)).alloc (.cells (U64 [0, 0, 0, 0]).toArray 140)) := ⟨_, rfl⟩
  have hb0 : Below w.heap.size w W0 := by rw [hW0]; exact ((((Below.refl _ w).alloc (Nat.le_refl _) _).alloc (by simp) _).alloc (by simp; omega) _).alloc (by simp; omega) _
  refine (show W0 = _ from hW0) ▸ ?_
  rw [← hW0] at h4
  obtain ⟨gX, gY, gO, gT⟩ := h4
  obtain ⟨B, hB⟩ : ∃ B, B = w.heap.size := ⟨_, rfl⟩
  have hBle : w.heap.size ≤ B := by omega
  rw [← hB] at gX gY gO gT ⊢
  have HB := Lib.hid hB
  clear hW0 hB
  go_loopw [7, 9] (fun b i wr => ∃ (k bo : Nat) (T : List Nat), k ≤ 4 ∧ i = .int .i64 k ∧ b = .int .u64 bo ∧ bo ≤ 1 ∧ Hid (T.length = 4 ∧ (∀ t ∈ T, t < 18446744073709551616) ∧ wv (T.take k) + bo * 2 ^ (64 * k) = wv ((num4 x).take k) + wv ((num4 y).take k)) ∧
    wr.heap[B]? = some (.cells (U64 (num4 x)).toArray 140 (0, 0)) ∧ wr.heap[B + 1]? = some (.cells (U64 (num4 y)).toArray 140 (0, 0)) ∧ wr.heap[B + 1 + 1]? = some (.cells (U64 [0, 0, 0, 0]).toArray 140 (0, 0)) ∧
    wr.heap[B + 1 + 1 + 1]? = some (.cells (U64 T).toArray 140 (0, 0)) ∧ Below w.heap.size w wr) (fun _ i _ => 4 - (intOf i).toNat)
  case atStart => exact ⟨0, 0, [0, 0, 0, 0], by omega, rfl, rfl, by omega, Lib.hid ⟨rfl, by simp, by simp [wv]⟩, gX, gY, gO, gT, hb0⟩
  case round =>
    clear gX gY gO gT hb0
    obtain ⟨k, bo, T, hk, rfl, rfl, hbo, HT, gX, gY, gO, gT, hb⟩ := hrel
    have hTl := HT.out.1
    by_cases hlt : k < 4
    · obtain ⟨xk, hxk⟩ : ∃ xk, xk = (num4 x)[k]'hlt := ⟨_, rfl⟩
      obtain ⟨yk, hyk⟩ : ∃ yk, yk = (num4 y)[k]'hlt := ⟨_, rfl⟩
      have hx64 : xk < 18446744073709551616 := by rw [hxk]; exact num4_lt x _ (List.getElem_mem _)
      have hy64 : yk < 18446744073709551616 := by rw [hyk]; exact num4_lt y _ (List.getElem_mem _)
      have cX := cellU gX (k := k) hlt
      have cY := cellU gY (k := k) hlt
      have cT := cellU gT (k := k) (by omega)
      have zT := thawU gT k
      rw [← hxk] at cX
      rw [← hyk] at cY
      obtain ⟨tk, htk⟩ : ∃ tk : Nat, tk = T[k]'(by omega) := ⟨_, rfl⟩
      rw [← htk] at cT
      have GX := Lib.hid gX
      have GY := Lib.hid gY
      have GO := Lib.hid gO
      have GT := Lib.hid gT
      have Hxk := Lib.hid hxk
      have Hyk := Lib.hid hyk
      have hS := fun ww => add64_run xk yk bo hbo ww
      obtain ⟨d, hd⟩ : ∃ d, d = (xk + yk + bo) % 18446744073709551616 := ⟨_, rfl⟩
      obtain ⟨b', hb'⟩ : ∃ b', b' = (xk + yk + bo) / 18446744073709551616 := ⟨_, rfl⟩
      have hw : d + b' * 18446744073709551616 = xk + yk + bo := by omega
      have hb1 : b' ≤ 1 := by omega
      have hd64 : d < 18446744073709551616 := by rw [hd]; exact Nat.mod_lt _ (by decide)
      simp only [← hd, ← hb'] at hS
      have Hw := Lib.hid hw
      clear gX gY gO gT hxk hyk hd hb' hw htk hTl
      go_wp2_with fail
      refine wp_region_plan [(0, 0), (1, 0), (2, 0), (3, 1), (4, 0), (5, 0), (6, 1), (7, 0), (8, 2), (9, 0), (10, 0), (11, 0), (12, 0), (13, 2), (14, 2)] 13 hmx (by kernel_rfl) (by intro c a d v w h; cases d <;> exact h) ?_
      repeat ((first | (refine wpPlan_pure rfl (fun K hK => ?_)) | (refine wpPlan_quiet rfl (fun K hK => ?_))); go_simp; (first | (refine hK _ ?_) | (simp only [IntWalk.iteOmega]; go_simp; refine hK _ ?_) | (go_bits; go_simp; refine hK _ ?_)); clear hK K; (try go_bits))
      refine wpPlan_loud rfl rfl (fun K hK => ?_)
      go_wp2_with fail
      refine ⟨.inr (Ext.refl _), ?_⟩
      repeat ((first | (refine wpPlan_pure rfl (fun K hK => ?_)) | (refine wpPlan_quiet rfl (fun K hK => ?_))); go_simp; (first | (refine hK _ ?_) | (simp only [IntWalk.iteOmega]; go_simp; refine hK _ ?_) | (go_bits; go_simp; refine hK _ ?_)); clear hK K; (try go_bits))
      refine wpPlan_loud rfl rfl (fun K hK => ?_)
      go_wp2_with fail
      refine ⟨.inl (by decide), ?_⟩
      refine wpPlan_loud rfl rfl (fun K hK => ?_)
      go_wp2_with fail
      refine ⟨.inl (by decide), ?_⟩
      refine wpPlan_nil ?_
      go_wp2_with fail
      refine ⟨⟨k + 1, b', T.set k d, by omega, by go_num, rfl, hb1, Lib.hid ⟨by simpa using HT.out.1, fun t ht => ?_, ?_⟩, otherU GX.out (by omega), otherU GY.out (by omega), otherU GO.out (by omega), setU GT.out, (hb.setCell (p := ⟨B + 1 + 1 + 1, k, none⟩) (by show w.heap.size ≤ B + 1 + 1 + 1; omega) _).drew⟩, by simp [intOf]; omega⟩
      · rcases List.mem_or_eq_of_mem_set ht with h | h
        · exact HT.out.2.1 t h
        · exact h ▸ hd64
      · refine add_row T (num4 x) (num4 y) k d bo b' (by rw [HT.out.1]; exact hlt) hlt hlt ?_ HT.out.2.2
        rw [← Hxk.out, ← Hyk.out]; exact Hw.out
    · obtain rfl : k = 4 := by omega
      obtain ⟨t0, t1, t2, t3, rfl⟩ := four_words T hTl
      have hfin : num4 ((x + y) % 2 ^ 256) = [t0, t1, t2, t3] ∧ bo = (x + y) / 2 ^ 256 := by
        obtain ⟨_, h2, h3⟩ := HT.out
        have h4 := wv_lt [t0, t1, t2, t3] h2
        have hn := num4_wv [t0, t1, t2, t3] rfl h2
        rw [show [t0, t1, t2, t3].take 4 = [t0, t1, t2, t3] from rfl, show (num4 y).take 4 = num4 y from rfl, show (num4 x).take 4 = num4 x from rfl, wv_num4 x hx, wv_num4 y hy] at h3
        simp only [List.length_cons, List.length_nil] at h4
        rw [← hn]
        generalize wv [t0, t1, t2, t3] = v at h3 h4
        refine ⟨?_, by omega⟩
        congr 1
        omega
      obtain ⟨cs, hcs⟩ : ∃ cs, cs = (U64 [t0, t1, t2, t3]).toArray := ⟨_, rfl⟩
      have hcz : cs.size = 4 := by rw [hcs]; rfl
      have Hone : Hid (cs.all (·.oneCell') = true) := Lib.hid (by rw [hcs]; exact u64_one _)
      have Hinf : Hid ((Tryz.prog.info? 140).map (·.size) = some cs.size) := Lib.hid (by rw [hcz]; kernel_rfl)
      have Hcz : Hid ((U64 [0, 0, 0, 0]).toArray.size = cs.size) := Lib.hid hcz.symm
      rw [← hcs] at gT
      have Hcs := Lib.hid hcs
      have Hfin := Lib.hid hfin
      have GT := Lib.hid gT
      have GO := Lib.hid gO
      clear hcs hcz gX gY gT gO hTl hfin
      go_wp2_with (first | (refine wpList_load_row rfl 140 (.tmp 6) rfl (B + 1 + 1 + 1) rfl 140 cs (0, 0) _ GT.out Tryz.underlying140 rfl Hinf.out ?_) | (refine wpList_store_row rfl 140 (.tmp 4) (.tmp 26) rfl (B + 1 + 1) cs rfl rfl 140 _ GO.out Hinf.out Hcz.out Hone.out ?_))
      refine bodyPost_ret (v := .tuple #[.agg cs, .int .u64 (bo : Int)]) ?_ rfl ⟨?_, below_setRow' hb (by omega) _⟩
      · exact results_row_tmp rfl _ _ (B + 1 + 1) 140 cs (0, 0) _ rfl (setRow_heap _ _ _ _ _ _ GO.out) _ rfl Tryz.underlying140 rfl Hinf.out
      · rw [Hcs.out, ← Hfin.out.1, Hfin.out.2]; rfl
theorem eq_words (a b c d a' b' c' d' : Int) (w : World) : (Op.equalIn 10000 140 (.agg #[.int .u64 a, .int .u64 b, .int .u64 c, .int .u64 d]) (.agg #[.int .u64 a', .int .u64 b', .int .u64 c', .int .u64 d'])).run Tryz.prog w = .ok (decide (a = a' ∧ b = b' ∧ c = c' ∧ d = d')) w := by
  have u3 := Tryz.underlying78
  have a3 := Tryz.isAgg78
  have z3 := Tryz.sizeOf78
  rw [show (10000 : Nat) = 9999 + 1 from rfl, Op.equalIn]
  simp only [Sem.run_bind, run_underlying Tryz.underlying140, Result.andThen_ok]
  simp only [Std.Legacy.Range.forIn_eq_forIn_range', Std.Legacy.Range.size, Nat.sub_zero, Nat.add_sub_cancel, Nat.div_one, List.range'_succ, List.range'_zero, List.forIn_cons, List.forIn_nil]
  go_simp
  by_cases h1 : a = a' <;> by_cases h2 : b = b' <;> by_cases h3 : c = c' <;> by_cases h4 : d = d' <;> simp [h1, h2, h3, h4]
theorem words_eq (x y : Nat) (hx : x < 2 ^ 256) (hy : y < 2 ^ 256) : (((dw x 0 : Nat) : Int) = (dw y 0 : Nat) ∧ ((dw x 1 : Nat) : Int) = (dw y 1 : Nat) ∧ ((dw x 2 : Nat) : Int) = (dw y 2 : Nat) ∧ ((dw x 3 : Nat) : Int) = (dw y 3 : Nat)) ↔ x = y := by
  constructor
  · rintro ⟨h1, h2, h3, h4⟩
    rw [← wv_num4 x hx, ← wv_num4 y hy]
    simp only [num4]
    rw [show dw x 0 = dw y 0 by omega, show dw x 1 = dw y 1 by omega, show dw x 2 = dw y 2 by omega, show dw x 3 = dw y 3 by omega]
  · rintro rfl; exact ⟨rfl, rfl, rfl, rfl⟩
theorem eq_num (x y : Nat) (hx : x < 2 ^ 256) (hy : y < 2 ^ 256) (w : World) : (Op.equalIn 10000 140 (.agg (numA x)) (.agg (numA y))).run Tryz.prog w = .ok (decide (x = y)) w := by
  have h := words_eq x y hx hy
  unfold numA
  rw [eq_words]
  by_cases hxy : x = y
  · rw [decide_eq_true (h.2 hxy), decide_eq_true hxy]
  · rw [decide_eq_false (fun hh => hxy (h.1 hh)), decide_eq_false hxy]
set_option maxRecDepth 100000 in
set_option maxHeartbeats 400000 in
theorem nzero_any (x : Nat) (hx : x < 2 ^ 256) (w : World) :
    Calls Tryz.prog 206 #[.agg (numA x)] w fun e W' => e = .returned (.bool (decide (x = 0))) ∧ Below w.heap.size w W' := by
  have h0 := eq_num x 0 hx (by decide)
  rw [show numA 0 = #[.int .u64 0, .int .u64 0, .int .u64 0, .int .u64 0] by rfl] at h0
  simp only [numA] at h0 ⊢
  go_enter Tryz.func206, Tryz.ntmps206
  go_wp2_with fail
  go_ret
  exact ⟨rfl, (Below.refl _ _).alloc (Nat.le_refl _) _⟩
end Go.Proofs.YtcjioogololnoaaGreatDoor

/-! curve.field: in, below, add, neg; curve.num: half. -/
namespace Go.Proofs.YtcjioogololnoaaGreatDoor
open Go.RowKit Go.Shelf

/-- A field lies at an offset of a block: its m, and d, which is 2^256 less m. -/
def FieldAt (w : World) (g o m : Nat) (d : List Nat) : Prop :=
  g < w.heap.size ∧ (∀ j, j < 4 → w.cell? ⟨g, o + j, none⟩ = some (.int .u64 (dw m j : Nat))) ∧ ∀ j (h : j < d.length), w.cell? ⟨g, o + 4 + j, none⟩ = some (.int .u64 (d[j] : Nat))
def IsField (m : Nat) (d : List Nat) : Prop := d.length = 3 ∧ (∀ x ∈ d, x < 18446744073709551616) ∧ m + wv d = 2 ^ 256 ∧ wv d < m ∧ wv d < 2 ^ 130
theorem FieldAt.below {w w' : World} {B g o m : Nat} {d : List Nat} (h : FieldAt w g o m d) (hb : Below B w w') (hg : g < B) : FieldAt w' g o m d :=
  ⟨by have := hb.size; have := h.1; omega, fun j hj => (hb.cell (p := ⟨g, o + j, none⟩) hg).trans (h.2.1 j hj), fun j hj => (hb.cell (p := ⟨g, o + 4 + j, none⟩) hg).trans (h.2.2 j hj)⟩
theorem FieldAt.m {w : World} {g o m : Nat} {d : List Nat} (h : FieldAt w g o m d) : w.cell? ⟨g, o, none⟩ = some (.int .u64 (dw m 0 : Nat)) ∧ w.cell? ⟨g, o + 1, none⟩ = some (.int .u64 (dw m 1 : Nat)) ∧ w.cell? ⟨g, o + 2, none⟩ = some (.int .u64 (dw m 2 : Nat)) ∧ w.cell? ⟨g, o + 3, none⟩ = some (.int .u64 (dw m 3 : Nat)) :=
  ⟨h.2.1 0 (by omega), h.2.1 1 (by omega), h.2.1 2 (by omega), h.2.1 3 (by omega)⟩

theorem numA_one (n : Nat) : (numA n).all (·.oneCell') = true := by rw [numA_eq]; exact u64_one _
theorem rowsTwo (w : World) (o1 o2 : Obj) : ((w.alloc o1).alloc o2).heap[w.heap.size]? = some o1 ∧ ((w.alloc o1).alloc o2).heap[w.heap.size + 1]? = some o2 := by
  have h1 := heap_alloc_new w o1
  have h2 := heap_alloc_new (w.alloc o1) o2
  simp only [World.size_alloc] at h2
  exact ⟨rowOld h1, h2⟩
theorem cells4 {w : World} {g t n : Nat} {fr : Nat × Nat} (h : w.heap[g]? = some (.cells (numA n) t fr)) : w.cell? ⟨g, 0, none⟩ = some (.int .u64 (dw n 0 : Nat)) ∧ w.cell? ⟨g, 1, none⟩ = some (.int .u64 (dw n 1 : Nat)) ∧ w.cell? ⟨g, 2, none⟩ = some (.int .u64 (dw n 2 : Nat)) ∧ w.cell? ⟨g, 3, none⟩ = some (.int .u64 (dw n 3 : Nat)) :=
  ⟨cell_of_row _ _ 0 _ _ _ h, cell_of_row _ _ 1 _ _ _ h, cell_of_row _ _ 2 _ _ _ h, cell_of_row _ _ 3 _ _ _ h⟩

set_option maxRecDepth 100000 in
set_option maxHeartbeats 4000000 in
theorem fin_any (g o m : Nat) (d : List Nat) (x : Nat) (hx : x < 2 ^ 256) (hm : m < 2 ^ 256) (w : World) (hF : FieldAt w g o m d) :
    Calls Tryz.prog 202 #[.pointer (some ⟨g, o, none⟩), .agg (numA x)] w fun e W' => e = .returned (.agg (numA (if x < m then x else x - m))) ∧ Below w.heap.size w W' := by
  have hmx : Tryz.prog.follows .mixedOrders = true := by kernel_rfl
  have hgw := hF.1
  simp only [numA]
  go_enter Tryz.func202, Tryz.ntmps202
  go_wp2_with fail
  have h2 := rowsTwo w (.cells (numA x) 140) (.cells (numA 0) 140)
  obtain ⟨W0, hW0⟩ : ∃ W0, W0 = (w.alloc (.cells (numA x) 140)).alloc (.cells (numA 0) 140) := ⟨_, rfl⟩
  have hb0 : Below w.heap.size w W0 := by rw [hW0]; exact ((Below.refl _ w).alloc (Nat.le_refl _) _).alloc (by simp) _
  refine (show W0 = _ from hW0) ▸ ?_
  rw [← hW0] at h2
  obtain ⟨gX, gO⟩ := h2
  have hz0 : W0.heap.size = w.heap.size + 2 := by rw [hW0]; simp
  obtain ⟨f0, f1, f2, f3⟩ := (hF.below hb0 hgw).m
  obtain ⟨B, hB⟩ : ∃ B, B = w.heap.size := ⟨_, rfl⟩
  rw [← hB] at gX gO hz0 ⊢
  obtain ⟨x0, x1, x2, x3⟩ := cells4 gX
  have HB := Lib.hid hB
  have Hz0 := Lib.hid hz0
  have GX := Lib.hid gX
  have GO := Lib.hid gO
  clear hW0 hB gX gO hz0
  have hS := fun ww => nsub_any x m hx hm ww
  obtain ⟨V, hV⟩ : ∃ V, V = (x + 2 ^ 256 - m) % 2 ^ 256 := ⟨_, rfl⟩
  simp only [← hV] at hS
  have HS := Lib.hid hS
  have HV := Lib.hid hV
  clear hS hV
  refine wp_region_fork [(0, 1), (1, 0), (2, 0), (3, 0), (4, 1)] 6 [(5, [(6, 0), (7, 0), (8, 0), (9, 2), (10, 2), (11, 2)]), (9, [(5, 2), (6, 0), (7, 0), (8, 0), (10, 2), (11, 2)])] 10 hmx (by kernel_rfl) (by intro c a d v w h; cases d <;> exact h) ?_
  repeat ((first | (refine wpPlan_pure rfl (fun K hK => ?_)) | (refine wpPlan_quiet rfl (fun K hK => ?_))); go_simp; (first | (refine hK _ ?_) | (simp only [IntWalk.iteOmega]; go_simp; refine hK _ ?_) | (go_bits; go_simp; refine hK _ ?_)); clear hK K; (try go_bits))
  -- in|1: x (at B) less m, in a new row of tmp 5; then INREST
  refine wpPlan_fork rfl rfl rfl rfl (fun K hK => ?_) (fun K hK => ?_)
  · go_wp2_with fail
    refine (HS.out _).mono ?_
    rintro e w2 ⟨rfl, hb⟩
    go_wp2_with fail
    refine ⟨ext_of_below hb, ?_⟩
    repeat ((first | (refine wpPlan_pure rfl (fun K hK => ?_)) | (refine wpPlan_quiet rfl (fun K hK => ?_))); go_simp; (first | (refine hK _ ?_) | (simp only [IntWalk.iteOmega]; go_simp; refine hK _ ?_) | (go_bits; go_simp; refine hK _ ?_)); clear hK K; (try go_bits))
    refine wpPlan_loud rfl rfl (fun K hK => ?_)
    go_wp2_with fail
    refine ⟨.inr (ext_alloc _ _), ?_⟩
    refine wpPlan_loud rfl rfl (fun K hK => ?_)
    refine wp_store_row 140 (.tmp 5) (.tmp 14) rfl w2.heap.size (numA V) rfl rfl 140 _ (heap_alloc_new w2 _) (by kernel_rfl) rfl (numA_one _) ?_
    rw [World.setRow_alloc_new]
    refine hK _ _ ⟨.inl (by decide), ?_⟩
    clear hK K
    refine wpPlan_loud rfl rfl (fun K hK => ?_)
    go_wp2_with fail
    refine ⟨.inl (by decide), ?_⟩
    refine wpPlan_nil ?_
    obtain ⟨wN, hwN⟩ : ∃ wN, wN = w2.alloc (.cells (numA V) 140) := ⟨_, rfl⟩
    obtain ⟨gY, hgY⟩ : ∃ gY, gY = w2.heap.size := ⟨_, rfl⟩
    rw [← hwN, ← hgY]
    have gN : wN.heap[gY]? = some (.cells (numA V) 140 (0, 0)) := by rw [hwN, hgY]; exact heap_alloc_new w2 _
    have hbN : Below W0.heap.size W0 wN := by rw [hwN]; exact (show Below W0.heap.size W0 w2 from ⟨hb.os, hb.tape, hb.output, hb.size, hb.block⟩).alloc hb.size _
    have hgY0 : W0.heap.size ≤ gY := by rw [hgY]; exact hb.size
    clear hwN hgY hb
    have gXN := (hbN.block B (by have := Hz0.out; omega)).trans GX.out
    have gON := (hbN.block (B + 1) (by have := Hz0.out; omega)).trans GO.out
    have hbF := hb0.trans (hbN.mono (by have := HB.out; have := Hz0.out; omega))
    have hiV : (Tryz.prog.info? 140).map (·.size) = some (numA V).size := by kernel_rfl
    have hiX : (Tryz.prog.info? 140).map (·.size) = some (numA x).size := by kernel_rfl
    have GXN := Lib.hid gXN
    have GON := Lib.hid gON
    have GN := Lib.hid gN
    have HiV := Lib.hid hiV
    have HiX := Lib.hid hiX
    clear gXN gON gN hiV hiX x0 x1 x2 x3 f0 f1 f2 f3
    by_cases hlt : x < m
    · go_wp2_with (first | (refine wpList_load_row rfl 140 (.tmp 3) rfl B rfl 140 (numA x) (0, 0) _ GXN.out Tryz.underlying140 rfl HiX.out ?_) | (refine wpList_store_row rfl 140 (.tmp 4) (.tmp 19) rfl (B + 1) (numA x) rfl rfl 140 _ GON.out HiX.out rfl (numA_one _) ?_))
      refine bodyPost_ret (v := .agg (numA x)) ?_ rfl ⟨rfl, below_setRow' hbF (by have := HB.out; omega) _⟩
      exact results_cell_row rfl _ _ (B + 1) 140 (numA x) (0, 0) _ rfl (setRow_heap _ _ _ _ _ _ GON.out) Tryz.underlying140 rfl HiX.out
    · go_wp2_with (first | (refine wpList_load_row rfl 140 (.tmp 5) rfl gY rfl 140 (numA V) (0, 0) _ GN.out Tryz.underlying140 rfl HiV.out ?_) | (refine wpList_store_row rfl 140 (.tmp 4) (.tmp 18) rfl (B + 1) (numA V) rfl rfl 140 _ GON.out HiV.out rfl (numA_one _) ?_))
      refine bodyPost_ret (v := .agg (numA V)) ?_ rfl ⟨by rw [HV.out, show (x + 2 ^ 256 - m) % 2 ^ 256 = x - m by omega]; rfl, below_setRow' hbF (by have := HB.out; omega) _⟩
      exact results_cell_row rfl _ _ (B + 1) 140 (numA V) (0, 0) _ rfl (setRow_heap _ _ _ _ _ _ GON.out) Tryz.underlying140 rfl HiV.out
  · go_wp2_with fail
    refine ⟨ext_alloc _ _, ?_⟩
    obtain ⟨w1, hw1⟩ : ∃ w1, w1 = (W0.alloc (.cells #[.int .u64 0, .int .u64 0, .int .u64 0, .int .u64 0] 140)).drew := ⟨_, rfl⟩
    rw [← hw1]
    have hb1 : Below W0.heap.size W0 w1 := by rw [hw1]; exact ((Below.refl _ W0).alloc (Nat.le_refl _) _).drew
    have g1 : w1.heap[W0.heap.size]? = some (.cells (numA 0) 140 (0, 0)) := by rw [hw1]; exact heap_alloc_new W0 _
    have hz1 : w1.heap.size = W0.heap.size + 1 := by rw [hw1]; exact World.size_alloc _ _
    have Hz1 := Lib.hid hz1
    clear hw1 hz1
    refine wpPlan_loud rfl rfl (fun K hK => ?_)
    go_wp2_with fail
    refine (HS.out _).mono ?_
    rintro e w2 ⟨rfl, hb⟩
    go_wp2_with fail
    refine ⟨.inr (ext_of_below hb), ?_⟩
    repeat ((first | (refine wpPlan_pure rfl (fun K hK => ?_)) | (refine wpPlan_quiet rfl (fun K hK => ?_))); go_simp; (first | (refine hK _ ?_) | (simp only [IntWalk.iteOmega]; go_simp; refine hK _ ?_) | (go_bits; go_simp; refine hK _ ?_)); clear hK K; (try go_bits))
    refine wpPlan_loud rfl rfl (fun K hK => ?_)
    have g2 := (hb.block W0.heap.size (by have := Hz1.out; omega)).trans g1
    refine wp_store_row 140 (.tmp 5) (.tmp 14) rfl W0.heap.size (numA V) rfl rfl 140 _ g2 (by kernel_rfl) rfl (numA_one _) ?_
    refine hK _ _ ⟨.inl (by decide), ?_⟩
    clear hK K
    refine wpPlan_loud rfl rfl (fun K hK => ?_)
    go_wp2_with fail
    refine ⟨.inl (by decide), ?_⟩
    refine wpPlan_nil ?_
    obtain ⟨wN, hwN⟩ : ∃ wN, wN = w2.setRow W0.heap.size (numA V) := ⟨_, rfl⟩
    obtain ⟨gY, hgY⟩ : ∃ gY, gY = W0.heap.size := ⟨_, rfl⟩
    rw [← hwN, ← hgY]
    have gN : wN.heap[gY]? = some (.cells (numA V) 140 (0, 0)) := by rw [hwN, hgY]; exact setRow_heap _ _ _ _ _ _ g2
    have hbN : Below W0.heap.size W0 wN := by rw [hwN]; exact below_setRow' (hb1.trans (hb.mono (by have := Hz1.out; omega))) (Nat.le_refl _) _
    have hgY0 : W0.heap.size ≤ gY := by rw [hgY]; exact Nat.le_refl _
    clear hwN hgY hb hb1 g1 g2
    have gXN := (hbN.block B (by have := Hz0.out; omega)).trans GX.out
    have gON := (hbN.block (B + 1) (by have := Hz0.out; omega)).trans GO.out
    have hbF := hb0.trans (hbN.mono (by have := HB.out; have := Hz0.out; omega))
    have hiV : (Tryz.prog.info? 140).map (·.size) = some (numA V).size := by kernel_rfl
    have hiX : (Tryz.prog.info? 140).map (·.size) = some (numA x).size := by kernel_rfl
    have GXN := Lib.hid gXN
    have GON := Lib.hid gON
    have GN := Lib.hid gN
    have HiV := Lib.hid hiV
    have HiX := Lib.hid hiX
    clear gXN gON gN hiV hiX x0 x1 x2 x3 f0 f1 f2 f3
    by_cases hlt : x < m
    · go_wp2_with (first | (refine wpList_load_row rfl 140 (.tmp 3) rfl B rfl 140 (numA x) (0, 0) _ GXN.out Tryz.underlying140 rfl HiX.out ?_) | (refine wpList_store_row rfl 140 (.tmp 4) (.tmp 19) rfl (B + 1) (numA x) rfl rfl 140 _ GON.out HiX.out rfl (numA_one _) ?_))
      refine bodyPost_ret (v := .agg (numA x)) ?_ rfl ⟨rfl, below_setRow' hbF (by have := HB.out; omega) _⟩
      exact results_cell_row rfl _ _ (B + 1) 140 (numA x) (0, 0) _ rfl (setRow_heap _ _ _ _ _ _ GON.out) Tryz.underlying140 rfl HiX.out
    · go_wp2_with (first | (refine wpList_load_row rfl 140 (.tmp 5) rfl gY rfl 140 (numA V) (0, 0) _ GN.out Tryz.underlying140 rfl HiV.out ?_) | (refine wpList_store_row rfl 140 (.tmp 4) (.tmp 18) rfl (B + 1) (numA V) rfl rfl 140 _ GON.out HiV.out rfl (numA_one _) ?_))
      refine bodyPost_ret (v := .agg (numA V)) ?_ rfl ⟨by rw [HV.out, show (x + 2 ^ 256 - m) % 2 ^ 256 = x - m by omega]; rfl, below_setRow' hbF (by have := HB.out; omega) _⟩
      exact results_cell_row rfl _ _ (B + 1) 140 (numA V) (0, 0) _ rfl (setRow_heap _ _ _ _ _ _ GON.out) Tryz.underlying140 rfl HiV.out
set_option maxRecDepth 100000 in
set_option maxHeartbeats 4000000 in
theorem fbelow_any (g o m : Nat) (d : List Nat) (x : Nat) (hx : x < 2 ^ 256) (hm : m < 2 ^ 256) (w : World) (hF : FieldAt w g o m d) :
    Calls Tryz.prog 139 #[.pointer (some ⟨g, o, none⟩), .agg (numA x)] w fun e W' => e = .returned (.bool (decide (x < m))) ∧ Below w.heap.size w W' := by
  have hmx : Tryz.prog.follows .mixedOrders = true := by kernel_rfl
  have hgw := hF.1
  simp only [numA]
  go_enter Tryz.func139, Tryz.ntmps139
  go_wp2_with fail
  obtain ⟨W0, hW0⟩ : ∃ W0, W0 = w.alloc (.cells (numA x) 140) := ⟨_, rfl⟩
  have hb0 : Below w.heap.size w W0 := by rw [hW0]; exact (Below.refl _ w).alloc (Nat.le_refl _) _
  refine (show W0 = _ from hW0) ▸ ?_
  have gX : W0.heap[w.heap.size]? = some (.cells (numA x) 140 (0, 0)) := by rw [hW0]; exact heap_alloc_new w _
  have hz0 : W0.heap.size = w.heap.size + 1 := by rw [hW0]; simp
  obtain ⟨f0, f1, f2, f3⟩ := (hF.below hb0 hgw).m
  obtain ⟨B, hB⟩ : ∃ B, B = w.heap.size := ⟨_, rfl⟩
  rw [← hB] at gX hz0 ⊢
  obtain ⟨x0, x1, x2, x3⟩ := cells4 gX
  have HB := Lib.hid hB
  have Hz0 := Lib.hid hz0
  clear hW0 hB gX hz0
  have hS := fun ww => nsub_any x m hx hm ww
  obtain ⟨V, hV⟩ : ∃ V, V = (x + 2 ^ 256 - m) % 2 ^ 256 := ⟨_, rfl⟩
  simp only [← hV] at hS
  have HS := Lib.hid hS
  clear hS hV
  refine wp_region_fork [(0, 1), (1, 0), (2, 0), (3, 0), (4, 1)] 6 [(5, [(6, 0), (7, 0), (8, 0), (9, 2), (10, 2), (11, 2)]), (9, [(5, 2), (6, 0), (7, 0), (8, 0), (10, 2), (11, 2)])] 10 hmx (by kernel_rfl) (by intro c a d v w h; cases d <;> exact h) ?_
  repeat ((first | (refine wpPlan_pure rfl (fun K hK => ?_)) | (refine wpPlan_quiet rfl (fun K hK => ?_))); go_simp; (first | (refine hK _ ?_) | (simp only [IntWalk.iteOmega]; go_simp; refine hK _ ?_) | (go_bits; go_simp; refine hK _ ?_)); clear hK K; (try go_bits))
  -- below|1: x (at B) less m, in a new row of tmp 5; then BELOWREST
  refine wpPlan_fork rfl rfl rfl rfl (fun K hK => ?_) (fun K hK => ?_)
  · go_wp2_with fail
    refine (HS.out _).mono ?_
    rintro e w2 ⟨rfl, hb⟩
    go_wp2_with fail
    refine ⟨ext_of_below hb, ?_⟩
    repeat ((first | (refine wpPlan_pure rfl (fun K hK => ?_)) | (refine wpPlan_quiet rfl (fun K hK => ?_))); go_simp; (first | (refine hK _ ?_) | (simp only [IntWalk.iteOmega]; go_simp; refine hK _ ?_) | (go_bits; go_simp; refine hK _ ?_)); clear hK K; (try go_bits))
    refine wpPlan_loud rfl rfl (fun K hK => ?_)
    go_wp2_with fail
    refine ⟨.inr (ext_alloc _ _), ?_⟩
    refine wpPlan_loud rfl rfl (fun K hK => ?_)
    refine wp_store_row 140 (.tmp 5) (.tmp 14) rfl w2.heap.size (numA V) rfl rfl 140 _ (heap_alloc_new w2 _) (by kernel_rfl) rfl (numA_one _) ?_
    rw [World.setRow_alloc_new]
    refine hK _ _ ⟨.inl (by decide), ?_⟩
    clear hK K
    refine wpPlan_loud rfl rfl (fun K hK => ?_)
    go_wp2_with fail
    refine ⟨.inl (by decide), ?_⟩
    refine wpPlan_nil ?_
    obtain ⟨wN, hwN⟩ : ∃ wN, wN = w2.alloc (.cells (numA V) 140) := ⟨_, rfl⟩
    obtain ⟨gY, hgY⟩ : ∃ gY, gY = w2.heap.size := ⟨_, rfl⟩
    rw [← hwN, ← hgY]
    have gN : wN.heap[gY]? = some (.cells (numA V) 140 (0, 0)) := by rw [hwN, hgY]; exact heap_alloc_new w2 _
    have hbN : Below W0.heap.size W0 wN := by rw [hwN]; exact (show Below W0.heap.size W0 w2 from ⟨hb.os, hb.tape, hb.output, hb.size, hb.block⟩).alloc hb.size _
    have hgY0 : W0.heap.size ≤ gY := by rw [hgY]; exact hb.size
    clear hwN hgY hb
    have hbF := hb0.trans (hbN.mono (by have := HB.out; have := Hz0.out; omega))
    clear gN x0 x1 x2 x3 f0 f1 f2 f3
    go_wp2_with fail
    go_ret
    exact ⟨rfl, hbF⟩
  · go_wp2_with fail
    refine ⟨ext_alloc _ _, ?_⟩
    obtain ⟨w1, hw1⟩ : ∃ w1, w1 = (W0.alloc (.cells #[.int .u64 0, .int .u64 0, .int .u64 0, .int .u64 0] 140)).drew := ⟨_, rfl⟩
    rw [← hw1]
    have hb1 : Below W0.heap.size W0 w1 := by rw [hw1]; exact ((Below.refl _ W0).alloc (Nat.le_refl _) _).drew
    have g1 : w1.heap[W0.heap.size]? = some (.cells (numA 0) 140 (0, 0)) := by rw [hw1]; exact heap_alloc_new W0 _
    have hz1 : w1.heap.size = W0.heap.size + 1 := by rw [hw1]; exact World.size_alloc _ _
    have Hz1 := Lib.hid hz1
    clear hw1 hz1
    refine wpPlan_loud rfl rfl (fun K hK => ?_)
    go_wp2_with fail
    refine (HS.out _).mono ?_
    rintro e w2 ⟨rfl, hb⟩
    go_wp2_with fail
    refine ⟨.inr (ext_of_below hb), ?_⟩
    repeat ((first | (refine wpPlan_pure rfl (fun K hK => ?_)) | (refine wpPlan_quiet rfl (fun K hK => ?_))); go_simp; (first | (refine hK _ ?_) | (simp only [IntWalk.iteOmega]; go_simp; refine hK _ ?_) | (go_bits; go_simp; refine hK _ ?_)); clear hK K; (try go_bits))
    refine wpPlan_loud rfl rfl (fun K hK => ?_)
    have g2 := (hb.block W0.heap.size (by have := Hz1.out; omega)).trans g1
    refine wp_store_row 140 (.tmp 5) (.tmp 14) rfl W0.heap.size (numA V) rfl rfl 140 _ g2 (by kernel_rfl) rfl (numA_one _) ?_
    refine hK _ _ ⟨.inl (by decide), ?_⟩
    clear hK K
    refine wpPlan_loud rfl rfl (fun K hK => ?_)
    go_wp2_with fail
    refine ⟨.inl (by decide), ?_⟩
    refine wpPlan_nil ?_
    obtain ⟨wN, hwN⟩ : ∃ wN, wN = w2.setRow W0.heap.size (numA V) := ⟨_, rfl⟩
    obtain ⟨gY, hgY⟩ : ∃ gY, gY = W0.heap.size := ⟨_, rfl⟩
    rw [← hwN, ← hgY]
    have gN : wN.heap[gY]? = some (.cells (numA V) 140 (0, 0)) := by rw [hwN, hgY]; exact setRow_heap _ _ _ _ _ _ g2
    have hbN : Below W0.heap.size W0 wN := by rw [hwN]; exact below_setRow' (hb1.trans (hb.mono (by have := Hz1.out; omega))) (Nat.le_refl _) _
    have hgY0 : W0.heap.size ≤ gY := by rw [hgY]; exact Nat.le_refl _
    clear hwN hgY hb hb1 g1 g2
    have hbF := hb0.trans (hbN.mono (by have := HB.out; have := Hz0.out; omega))
    clear gN x0 x1 x2 x3 f0 f1 f2 f3
    go_wp2_with fail
    go_ret
    exact ⟨rfl, hbF⟩

set_option maxRecDepth 100000 in
set_option maxHeartbeats 4000000 in
theorem fneg_any (g o m : Nat) (d : List Nat) (x : Nat) (hx : x < m) (hm : m < 2 ^ 256) (w : World) (hF : FieldAt w g o m d) :
    Calls Tryz.prog 179 #[.pointer (some ⟨g, o, none⟩), .agg (numA x)] w fun e W' => e = .returned (.agg (numA ((m - x) % m))) ∧ Below w.heap.size w W' := by
  have hmx : Tryz.prog.follows .mixedOrders = true := by kernel_rfl
  have hgw := hF.1
  have hx256 : x < 2 ^ 256 := by omega
  obtain ⟨V, hV⟩ : ∃ V, V = (m - x) % m := ⟨_, rfl⟩
  rw [← hV]
  have HV := Lib.hid hV
  have Hlt := Lib.hid hx
  clear hV hx
  unfold numA
  go_enter Tryz.func179, Tryz.ntmps179
  go_wp2_with fail
  have h2 := rowsTwo w (.cells (numA x) 140) (.cells (numA 0) 140)
  obtain ⟨Wa, hWa⟩ : ∃ Wa, Wa = (w.alloc (.cells (numA x) 140)).alloc (.cells (numA 0) 140) := ⟨_, rfl⟩
  have hba : Below w.heap.size w Wa := by rw [hWa]; exact ((Below.refl _ w).alloc (Nat.le_refl _) _).alloc (by simp) _
  refine (show Wa = _ from hWa) ▸ ?_
  rw [← hWa] at h2
  obtain ⟨gXa, gOa⟩ := h2
  have hza : Wa.heap.size = w.heap.size + 2 := by rw [hWa]; simp
  refine (nzero_any x hx256 _).mono ?_
  rintro e W0 ⟨rfl, hbz⟩
  have hb0 := hba.trans (hbz.mono (by omega))
  have gX := (hbz.block w.heap.size (by omega)).trans gXa
  have gO := (hbz.block (w.heap.size + 1) (by omega)).trans gOa
  have hz0 : w.heap.size + 2 ≤ W0.heap.size := by have := hbz.size; omega
  obtain ⟨f0, f1, f2, f3⟩ := (hF.below hb0 hgw).m
  obtain ⟨B, hB⟩ : ∃ B, B = w.heap.size := ⟨_, rfl⟩
  rw [← hB] at gX gO hz0 ⊢
  obtain ⟨x0, x1, x2, x3⟩ := cells4 gX
  have HB := Lib.hid hB
  have Hz0 := Lib.hid hz0
  have GX := Lib.hid gX
  have GO := Lib.hid gO
  clear hWa hB gX gO hz0 hba gXa gOa hza hbz
  by_cases hx0 : x = 0
  · subst hx0
    clear x0 x1 x2 x3 f0 f1 f2 f3
    have HiX := Lib.hid (show (Tryz.prog.info? 140).map (·.size) = some (numA 0).size by kernel_rfl)
    go_wp2_with (first | (refine wpList_load_row rfl 140 (.tmp 3) rfl B rfl 140 (numA 0) (0, 0) _ GX.out Tryz.underlying140 rfl HiX.out ?_) | (refine wpList_store_row rfl 140 (.tmp 4) (.tmp 9) rfl (B + 1) (numA 0) rfl rfl 140 _ GO.out HiX.out rfl (numA_one _) ?_))
    refine bodyPost_ret (v := .agg (numA 0)) ?_ rfl ⟨by rw [HV.out, Nat.sub_zero, Nat.mod_self]; rfl, below_setRow' hb0 (by have := HB.out; omega) _⟩
    exact results_cell_row rfl _ _ (B + 1) 140 (numA 0) (0, 0) _ rfl (setRow_heap _ _ _ _ _ _ GO.out) Tryz.underlying140 rfl HiX.out
  · go_wp2_with fail
    have hS := fun ww => nsub_any m x hm hx256 ww
    simp only [show (m + 2 ^ 256 - x) % 2 ^ 256 = V by rw [HV.out, Nat.mod_eq_of_lt (show m - x < m by have := Hlt.out; omega)]; have := Hlt.out; omega] at hS
    have HS := Lib.hid hS
    clear hS
    refine wp_region_fork [(0, 0), (1, 0), (2, 0), (3, 1), (4, 1)] 6 [(5, [(6, 0), (7, 0), (8, 0), (9, 2), (10, 2), (11, 2)]), (9, [(5, 2), (6, 0), (7, 0), (8, 0), (10, 2), (11, 2)])] 10 hmx (by kernel_rfl) (by intro c a d v w h; cases d <;> exact h) ?_
    repeat ((first | (refine wpPlan_pure rfl (fun K hK => ?_)) | (refine wpPlan_quiet rfl (fun K hK => ?_))); go_simp; (first | (refine hK _ ?_) | (simp only [IntWalk.iteOmega]; go_simp; refine hK _ ?_) | (go_bits; go_simp; refine hK _ ?_)); clear hK K; (try go_bits))
    -- neg|3: x (at B) less m, in a new row of tmp 5; then NEGREST
    refine wpPlan_fork rfl rfl rfl rfl (fun K hK => ?_) (fun K hK => ?_)
    · go_wp2_with fail
      refine (HS.out _).mono ?_
      rintro e w2 ⟨rfl, hb⟩
      go_wp2_with fail
      refine ⟨ext_of_below hb, ?_⟩
      repeat ((first | (refine wpPlan_pure rfl (fun K hK => ?_)) | (refine wpPlan_quiet rfl (fun K hK => ?_))); go_simp; (first | (refine hK _ ?_) | (simp only [IntWalk.iteOmega]; go_simp; refine hK _ ?_) | (go_bits; go_simp; refine hK _ ?_)); clear hK K; (try go_bits))
      refine wpPlan_loud rfl rfl (fun K hK => ?_)
      go_wp2_with fail
      refine ⟨.inr (ext_alloc _ _), ?_⟩
      refine wpPlan_loud rfl rfl (fun K hK => ?_)
      refine wp_store_row 140 (.tmp 5) (.tmp 17) rfl w2.heap.size (numA V) rfl rfl 140 _ (heap_alloc_new w2 _) (by kernel_rfl) rfl (numA_one _) ?_
      rw [World.setRow_alloc_new]
      refine hK _ _ ⟨.inl (by decide), ?_⟩
      clear hK K
      refine wpPlan_loud rfl rfl (fun K hK => ?_)
      go_wp2_with fail
      refine ⟨.inl (by decide), ?_⟩
      refine wpPlan_nil ?_
      obtain ⟨wN, hwN⟩ : ∃ wN, wN = w2.alloc (.cells (numA V) 140) := ⟨_, rfl⟩
      obtain ⟨gY, hgY⟩ : ∃ gY, gY = w2.heap.size := ⟨_, rfl⟩
      rw [← hwN, ← hgY]
      have gN : wN.heap[gY]? = some (.cells (numA V) 140 (0, 0)) := by rw [hwN, hgY]; exact heap_alloc_new w2 _
      have hbN : Below W0.heap.size W0 wN := by rw [hwN]; exact (show Below W0.heap.size W0 w2 from ⟨hb.os, hb.tape, hb.output, hb.size, hb.block⟩).alloc hb.size _
      have hgY0 : W0.heap.size ≤ gY := by rw [hgY]; exact hb.size
      clear hwN hgY hb
      have gON := (hbN.block (B + 1) (by have := Hz0.out; omega)).trans GO.out
      have hbF := hb0.trans (hbN.mono (by have := HB.out; have := Hz0.out; omega))
      have hiV : (Tryz.prog.info? 140).map (·.size) = some (numA V).size := by kernel_rfl
      have GON := Lib.hid gON
      have GN := Lib.hid gN
      have HiV := Lib.hid hiV
      clear gON gN hiV x0 x1 x2 x3 f0 f1 f2 f3
      go_wp2_with (first | (refine wpList_load_row rfl 140 (.tmp 5) rfl gY rfl 140 (numA V) (0, 0) _ GN.out Tryz.underlying140 rfl HiV.out ?_) | (refine wpList_store_row rfl 140 (.tmp 4) (.tmp 19) rfl (B + 1) (numA V) rfl rfl 140 _ GON.out HiV.out rfl (numA_one _) ?_))
      refine bodyPost_ret (v := .agg (numA V)) ?_ rfl ⟨rfl, below_setRow' hbF (by have := HB.out; omega) _⟩
      exact results_cell_row rfl _ _ (B + 1) 140 (numA V) (0, 0) _ rfl (setRow_heap _ _ _ _ _ _ GON.out) Tryz.underlying140 rfl HiV.out
    · go_wp2_with fail
      refine ⟨ext_alloc _ _, ?_⟩
      obtain ⟨w1, hw1⟩ : ∃ w1, w1 = (W0.alloc (.cells #[.int .u64 0, .int .u64 0, .int .u64 0, .int .u64 0] 140)).drew := ⟨_, rfl⟩
      rw [← hw1]
      have hb1 : Below W0.heap.size W0 w1 := by rw [hw1]; exact ((Below.refl _ W0).alloc (Nat.le_refl _) _).drew
      have g1 : w1.heap[W0.heap.size]? = some (.cells (numA 0) 140 (0, 0)) := by rw [hw1]; exact heap_alloc_new W0 _
      have hz1 : w1.heap.size = W0.heap.size + 1 := by rw [hw1]; exact World.size_alloc _ _
      have Hz1 := Lib.hid hz1
      clear hw1 hz1
      refine wpPlan_loud rfl rfl (fun K hK => ?_)
      go_wp2_with fail
      refine (HS.out _).mono ?_
      rintro e w2 ⟨rfl, hb⟩
      go_wp2_with fail
      refine ⟨.inr (ext_of_below hb), ?_⟩
      repeat ((first | (refine wpPlan_pure rfl (fun K hK => ?_)) | (refine wpPlan_quiet rfl (fun K hK => ?_))); go_simp; (first | (refine hK _ ?_) | (simp only [IntWalk.iteOmega]; go_simp; refine hK _ ?_) | (go_bits; go_simp; refine hK _ ?_)); clear hK K; (try go_bits))
      refine wpPlan_loud rfl rfl (fun K hK => ?_)
      have g2 := (hb.block W0.heap.size (by have := Hz1.out; omega)).trans g1
      refine wp_store_row 140 (.tmp 5) (.tmp 17) rfl W0.heap.size (numA V) rfl rfl 140 _ g2 (by kernel_rfl) rfl (numA_one _) ?_
      refine hK _ _ ⟨.inl (by decide), ?_⟩
      clear hK K
      refine wpPlan_loud rfl rfl (fun K hK => ?_)
      go_wp2_with fail
      refine ⟨.inl (by decide), ?_⟩
      refine wpPlan_nil ?_
      obtain ⟨wN, hwN⟩ : ∃ wN, wN = w2.setRow W0.heap.size (numA V) := ⟨_, rfl⟩
      obtain ⟨gY, hgY⟩ : ∃ gY, gY = W0.heap.size := ⟨_, rfl⟩
      rw [← hwN, ← hgY]
      have gN : wN.heap[gY]? = some (.cells (numA V) 140 (0, 0)) := by rw [hwN, hgY]; exact setRow_heap _ _ _ _ _ _ g2
      have hbN : Below W0.heap.size W0 wN := by rw [hwN]; exact below_setRow' (hb1.trans (hb.mono (by have := Hz1.out; omega))) (Nat.le_refl _) _
      have hgY0 : W0.heap.size ≤ gY := by rw [hgY]; exact Nat.le_refl _
      clear hwN hgY hb hb1 g1 g2
      have gON := (hbN.block (B + 1) (by have := Hz0.out; omega)).trans GO.out
      have hbF := hb0.trans (hbN.mono (by have := HB.out; have := Hz0.out; omega))
      have hiV : (Tryz.prog.info? 140).map (·.size) = some (numA V).size := by kernel_rfl
      have GON := Lib.hid gON
      have GN := Lib.hid gN
      have HiV := Lib.hid hiV
      clear gON gN hiV x0 x1 x2 x3 f0 f1 f2 f3
      go_wp2_with (first | (refine wpList_load_row rfl 140 (.tmp 5) rfl gY rfl 140 (numA V) (0, 0) _ GN.out Tryz.underlying140 rfl HiV.out ?_) | (refine wpList_store_row rfl 140 (.tmp 4) (.tmp 19) rfl (B + 1) (numA V) rfl rfl 140 _ GON.out HiV.out rfl (numA_one _) ?_))
      refine bodyPost_ret (v := .agg (numA V)) ?_ rfl ⟨rfl, below_setRow' hbF (by have := HB.out; omega) _⟩
      exact results_cell_row rfl _ _ (B + 1) 140 (numA V) (0, 0) _ rfl (setRow_heap _ _ _ _ _ _ GON.out) Tryz.underlying140 rfl HiV.out
end Go.Proofs.YtcjioogololnoaaGreatDoor

/-! curve.field: add; curve.num: half; curve.number. -/
namespace Go.Proofs.YtcjioogololnoaaGreatDoor
open Go.RowKit Go.Shelf

theorem rowsThree (w : World) (o1 o2 o3 : Obj) : (((w.alloc o1).alloc o2).alloc o3).heap[w.heap.size]? = some o1 ∧ (((w.alloc o1).alloc o2).alloc o3).heap[w.heap.size + 1]? = some o2 ∧ (((w.alloc o1).alloc o2).alloc o3).heap[w.heap.size + 2]? = some o3 := by
  have h1 := heap_alloc_new w o1
  have h2 := heap_alloc_new (w.alloc o1) o2
  have h3 := heap_alloc_new ((w.alloc o1).alloc o2) o3
  simp only [World.size_alloc] at h2 h3
  exact ⟨rowOld (rowOld h1), rowOld h2, h3⟩

set_option maxRecDepth 100000 in
set_option maxHeartbeats 4000000 in
theorem fadd_any (g o m : Nat) (d : List Nat) (x y : Nat) (hx : x < m) (hy : y < m) (hm : m < 2 ^ 256) (hm2 : 2 ^ 255 < m) (w : World) (hF : FieldAt w g o m d) :
    Calls Tryz.prog 174 #[.pointer (some ⟨g, o, none⟩), .agg (numA x), .agg (numA y)] w fun e W' => e = .returned (.agg (numA ((x + y) % m))) ∧ Below w.heap.size w W' := by
  have hmx : Tryz.prog.follows .mixedOrders = true := by kernel_rfl
  have hgw := hF.1
  have hx256 : x < 2 ^ 256 := by omega
  have hy256 : y < 2 ^ 256 := by omega
  obtain ⟨R, hR⟩ : ∃ R, R = (x + y) % m := ⟨_, rfl⟩
  rw [← hR]
  have HR := Lib.hid hR
  clear hR
  unfold numA
  go_enter Tryz.func174, Tryz.ntmps174
  go_wp2_with fail
  have h2 := rowsThree w (.cells (numA x) 140) (.cells (numA y) 140) (.cells (numA 0) 140)
  obtain ⟨Wa, hWa⟩ : ∃ Wa, Wa = ((w.alloc (.cells (numA x) 140)).alloc (.cells (numA y) 140)).alloc (.cells (numA 0) 140) := ⟨_, rfl⟩
  have hba : Below w.heap.size w Wa := by rw [hWa]; exact (((Below.refl _ w).alloc (Nat.le_refl _) _).alloc (by simp) _).alloc (by simp; omega) _
  refine (show Wa = _ from hWa) ▸ ?_
  rw [← hWa] at h2
  obtain ⟨_, _, gOa⟩ := h2
  have hza : Wa.heap.size = w.heap.size + 3 := by rw [hWa]; simp
  have hpl := nplus_any x y hx256 hy256 Wa
  obtain ⟨Z, hZ⟩ : ∃ Z, Z = (x + y) % 2 ^ 256 := ⟨_, rfl⟩
  obtain ⟨C, hC⟩ : ∃ C, C = (x + y) / 2 ^ 256 := ⟨_, rfl⟩
  rw [← hZ, ← hC] at hpl
  have HZ := Lib.hid hZ
  have HC := Lib.hid hC
  clear hZ hC
  refine hpl.mono ?_
  clear hpl
  rintro e W1 ⟨rfl, hb1⟩
  have hb0 := hba.trans (hb1.mono (by omega))
  have gO := (hb1.block (w.heap.size + 2) (by omega)).trans gOa
  have hz1 : w.heap.size + 3 ≤ W1.heap.size := by have := hb1.size; omega
  obtain ⟨B, hB⟩ : ∃ B, B = w.heap.size := ⟨_, rfl⟩
  rw [← hB] at gO hz1 ⊢
  have HB := Lib.hid hB
  have Hz1 := Lib.hid hz1
  have GO := Lib.hid gO
  clear hWa hB gO hz1 hba gOa hza hb1
  have hZ256 : Z < 2 ^ 256 := by rw [HZ.out]; omega
  have hC2 : C = 0 ∨ C = 1 := by have := HC.out; omega
  have hiN : ∀ n, (Tryz.prog.info? 140).map (·.size) = some (numA n).size := fun n => by kernel_rfl
  have HiN := Lib.hid hiN
  clear hiN
  rcases hC2 with rfl | rfl
  · go_wp2_with (first | (refine wpList_store_row rfl 140 (.tmp 7) (.tmp 13) rfl W1.heap.size (numA Z) rfl rfl 140 _ (heap_alloc_new W1 _) (by kernel_rfl) rfl (numA_one _) ?_; rw [World.setRow_alloc_new]; obtain ⟨W2, hW2⟩ : ∃ W2, W2 = W1.alloc (.cells (numA Z) 140) := ⟨_, rfl⟩; obtain ⟨gz, hgz⟩ : ∃ gz, gz = W1.heap.size := ⟨_, rfl⟩; rw [← hW2, ← hgz]; have gZ : W2.heap[gz]? = some (.cells (numA Z) 140 (0, 0)) := (by rw [hW2, hgz]; exact heap_alloc_new W1 _); have hb2 : Below w.heap.size w W2 := (by rw [hW2]; exact hb0.alloc hb0.size _); have hb12 : Below W1.heap.size W1 W2 := (by rw [hW2]; exact (Below.refl _ _).alloc (Nat.le_refl _) _); have GO2 := Lib.hid ((hb12.block (B + 2) (by have := Hz1.out; omega)).trans GO.out); have Hgz : Hid (B + 3 ≤ gz ∧ gz < W2.heap.size) := Lib.hid ⟨(by rw [hgz]; exact Hz1.out), (Array.getElem?_eq_some_iff.1 gZ).1⟩; obtain ⟨z0, z1, z2, z3⟩ := cells4 gZ; obtain ⟨f0, f1, f2, f3⟩ := (hF.below hb2 hgw).m; have HF2 := Lib.hid (hF.below hb2 hgw); have GZ := Lib.hid gZ; clear hW2 hgz gZ hb12 GO hb0))
    have hin := fin_any g o m d Z hZ256 hm W2 HF2.out
    have hVR : (if Z < m then Z else Z - m) = R := by
      have h1 := HZ.out
      have h2 := HC.out
      rw [HR.out]
      by_cases h : Z < m
      · rw [if_pos h, Nat.mod_eq_of_lt (by omega)]; omega
      · rw [if_neg h, Nat.mod_eq_sub_mod (by omega), Nat.mod_eq_of_lt (by omega)]; omega
    rw [hVR] at hin
    have Hin := Lib.hid hin
    clear hin hVR f0 f1 f2 f3
    go_wp2_with fail
    refine Hin.out.mono ?_
    rintro e W3 ⟨rfl, hb3⟩
    have gO3 := (hb3.block (B + 2) (by have := Hgz.out; omega)).trans GO2.out
    have hbN := hb2.trans (hb3.mono hb2.size)
    have GO3 := Lib.hid gO3
    clear gO3 hb3 z0 z1 z2 z3
    go_wp2_with (first | (refine wpList_store_row rfl 140 (.tmp 6) (.tmp 29) rfl (B + 2) (numA R) rfl rfl 140 _ GO3.out (HiN.out _) rfl (numA_one _) ?_))
    refine bodyPost_ret (v := .agg (numA R)) ?_ rfl ⟨rfl, below_setRow' hbN (by have := HB.out; omega) _⟩
    exact results_cell_row rfl _ _ (B + 2) 140 (numA R) (0, 0) _ rfl (setRow_heap _ _ _ _ _ _ GO3.out) Tryz.underlying140 rfl (HiN.out _)
  · go_wp2_with (first | (refine wpList_store_row rfl 140 (.tmp 7) (.tmp 13) rfl W1.heap.size (numA Z) rfl rfl 140 _ (heap_alloc_new W1 _) (by kernel_rfl) rfl (numA_one _) ?_; rw [World.setRow_alloc_new]; obtain ⟨W2, hW2⟩ : ∃ W2, W2 = W1.alloc (.cells (numA Z) 140) := ⟨_, rfl⟩; obtain ⟨gz, hgz⟩ : ∃ gz, gz = W1.heap.size := ⟨_, rfl⟩; rw [← hW2, ← hgz]; have gZ : W2.heap[gz]? = some (.cells (numA Z) 140 (0, 0)) := (by rw [hW2, hgz]; exact heap_alloc_new W1 _); have hb2 : Below w.heap.size w W2 := (by rw [hW2]; exact hb0.alloc hb0.size _); have hb12 : Below W1.heap.size W1 W2 := (by rw [hW2]; exact (Below.refl _ _).alloc (Nat.le_refl _) _); have GO2 := Lib.hid ((hb12.block (B + 2) (by have := Hz1.out; omega)).trans GO.out); have Hgz : Hid (B + 3 ≤ gz ∧ gz < W2.heap.size) := Lib.hid ⟨(by rw [hgz]; exact Hz1.out), (Array.getElem?_eq_some_iff.1 gZ).1⟩; obtain ⟨z0, z1, z2, z3⟩ := cells4 gZ; obtain ⟨f0, f1, f2, f3⟩ := (hF.below hb2 hgw).m; have HF2 := Lib.hid (hF.below hb2 hgw); have GZ := Lib.hid gZ; clear hW2 hgz gZ hb12 GO hb0))
    have hS := fun ww => nsub_any Z m hZ256 hm ww
    have hVR : (Z + 2 ^ 256 - m) % 2 ^ 256 = R := by
      have h1 := HZ.out
      have h2 := HC.out
      have h3 : (x + y) % m = x + y - m := by rw [Nat.mod_eq_sub_mod (by omega), Nat.mod_eq_of_lt (by omega)]
      rw [HR.out, h3]; omega
    simp only [hVR] at hS
    clear hVR
    have HS := Lib.hid hS
    clear hS
    refine wp_region_plan [(0, 1), (1, 0), (2, 0), (3, 0), (4, 1), (5, 2), (6, 0), (7, 0), (8, 0), (9, 2)] 9 hmx (by kernel_rfl) (by intro c a d v w h; cases d <;> exact h) ?_
    repeat ((first | (refine wpPlan_pure rfl (fun K hK => ?_)) | (refine wpPlan_quiet rfl (fun K hK => ?_))); go_simp; (first | (refine hK _ ?_) | (simp only [IntWalk.iteOmega]; go_simp; refine hK _ ?_) | (go_bits; go_simp; refine hK _ ?_)); clear hK K; (try go_bits))
    refine wpPlan_loud rfl rfl (fun K hK => ?_)
    go_wp2_with fail
    refine (HS.out _).mono ?_
    rintro e W3 ⟨rfl, hb3⟩
    go_wp2_with fail
    refine ⟨.inr (ext_of_below hb3), ?_⟩
    repeat ((first | (refine wpPlan_pure rfl (fun K hK => ?_)) | (refine wpPlan_quiet rfl (fun K hK => ?_))); go_simp; (first | (refine hK _ ?_) | (simp only [IntWalk.iteOmega]; go_simp; refine hK _ ?_) | (go_bits; go_simp; refine hK _ ?_)); clear hK K; (try go_bits))
    refine wpPlan_loud rfl rfl (fun K hK => ?_)
    have hb23 : Below W2.heap.size W2 W3 := ⟨hb3.os, hb3.tape, hb3.output, hb3.size, hb3.block⟩
    have gZ3 := (hb23.block gz Hgz.out.2).trans GZ.out
    refine wp_store_row 140 (.tmp 7) (.tmp 24) rfl gz (numA R) rfl rfl 140 _ gZ3 (by kernel_rfl) rfl (numA_one _) ?_
    refine hK _ _ ⟨.inl (by decide), ?_⟩
    clear hK K
    refine wpPlan_nil ?_
    have gR := setRow_heap W3 gz _ (numA R) _ _ gZ3
    have gO3 := (setRow_other W3 gz (B + 2) (numA R) (by have := Hgz.out; omega)).trans ((hb23.block (B + 2) (by have := Hgz.out; omega)).trans GO2.out)
    have hbN := below_setRow' (hb2.trans (hb23.mono hb2.size)) (show w.heap.size ≤ gz by have := Hgz.out; have := HB.out; omega) (numA R)
    have GR := Lib.hid gR
    have GO3 := Lib.hid gO3
    clear gR gO3 gZ3 hb23 hb3 z0 z1 z2 z3 f0 f1 f2 f3
    obtain ⟨W4, hW4⟩ : ∃ W4, W4 = W3.setRow gz (numA R) := ⟨_, rfl⟩
    rw [← hW4] at GR GO3 hbN ⊢
    clear hW4
    go_wp2_with (first | (refine wpList_load_row rfl 140 (.tmp 7) rfl gz rfl 140 (numA R) (0, 0) _ GR.out Tryz.underlying140 rfl (HiN.out _) ?_) | (refine wpList_store_row rfl 140 (.tmp 6) (.tmp 26) rfl (B + 2) (numA R) rfl rfl 140 _ GO3.out (HiN.out _) rfl (numA_one _) ?_))
    refine bodyPost_ret (v := .agg (numA R)) ?_ rfl ⟨rfl, below_setRow' hbN (by have := HB.out; omega) _⟩
    exact results_cell_row rfl _ _ (B + 2) 140 (numA R) (0, 0) _ rfl (setRow_heap _ _ _ _ _ _ GO3.out) Tryz.underlying140 rfl (HiN.out _)
end Go.Proofs.YtcjioogololnoaaGreatDoor
