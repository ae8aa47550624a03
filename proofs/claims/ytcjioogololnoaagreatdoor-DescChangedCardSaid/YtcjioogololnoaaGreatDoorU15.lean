/- curve.field: fold. | curve.field: mul, pow. | curve: coords, orders, curve. -/
import Derived.Test.YtcjioogololnoaaGreatDoorU14
import Derived.Laws.IdiomCopy
import Derived.Laws.Bits64b

/-! curve.field: fold. -/
namespace Go.Proofs.YtcjioogololnoaaGreatDoor
open Go.RowKit Go.Shelf

/-- What a row of words in memory comes to. -/
def rowV (w : World) (g : Nat) : Nat := match w.heap[g]? with
  | some (.cells cs _ _) => wv (cs.toList.map fun v => (intOf v).toNat)
  | _ => 0
theorem rowV_eq {w : World} {g t : Nat} {T : List Nat} {fr : Nat × Nat} (h : w.heap[g]? = some (.cells (U64 T).toArray t fr)) : rowV w g = wv T := by
  unfold rowV
  rw [h]
  simp only [U64, List.map_map]
  congr 1
  refine (List.map_congr_left (fun x _ => ?_)).trans (List.map_id T)
  simp [Function.comp, intOf]
theorem run_index_d (d0 d1 d2 : Nat) (k : Nat) (hk : k < 3) (w : World) : (Instr.index 181 (.agg #[.int .u64 (d0 : Int), .int .u64 (d1 : Int), .int .u64 (d2 : Int)]) (.int .i64 (k : Int))).run Tryz.prog w = .ok (.int .u64 (([d0, d1, d2].getD k 0 : Nat) : Int)) w := by
  have hsz : (sizeOf 78).run Tryz.prog w = .ok 1 w := by
    have hi : (Tryz.prog.info? 78).map (·.size) = some 1 := by kernel_rfl
    cases hq : Tryz.prog.info? 78 with
    | none => simp [hq] at hi
    | some i => simp [hq] at hi; simp [sizeOf, typeInfo, hq, hi]
  have hag : (isAgg 78).run Tryz.prog w = .ok false w := by
    unfold isAgg
    rw [Sem.run_bind, run_underlying Tryz.underlying78 w]
    rfl
  have hn := Tryz.underlying181
  rcases (show k = 0 ∨ k = 1 ∨ k = 2 by omega) with rfl | rfl | rfl <;> simp [Instr.index, asIntOf, run_underlying hn, hsz, part, hag, go_sem]
theorem wv_eight (T : List Nat) (hl : T.length = 8) (h : ∀ t ∈ T, t < 18446744073709551616) : ∃ L H, L < 2 ^ 256 ∧ H < 2 ^ 256 ∧ T = num4 L ++ num4 H ∧ wv T = L + 2 ^ 256 * H := by
  have e := (List.take_append_drop 4 T).symm
  have l1 : (T.take 4).length = 4 := by rw [List.length_take]; omega
  have l2 : (T.drop 4).length = 4 := by rw [List.length_drop]; omega
  have h1 := num4_wv _ l1 (fun x hx => h x (List.mem_of_mem_take hx))
  have h2 := num4_wv _ l2 (fun x hx => h x (List.mem_of_mem_drop hx))
  have b1 := wv_lt (T.take 4) (fun x hx => h x (List.mem_of_mem_take hx))
  have b2 := wv_lt (T.drop 4) (fun x hx => h x (List.mem_of_mem_drop hx))
  rw [l1] at b1
  rw [l2] at b2
  refine ⟨wv (T.take 4), wv (T.drop 4), b1, b2, by rw [h1, h2]; exact e, ?_⟩
  conv => lhs; rw [e]
  rw [wv_append, l1]
theorem or_zero4 (a b c d : Nat) : a ||| b ||| c ||| d = 0 ↔ a = 0 ∧ b = 0 ∧ c = 0 ∧ d = 0 := by
  rw [Nat.or_eq_zero_iff, Nat.or_eq_zero_iff, Nat.or_eq_zero_iff]
  omega
theorem num4_zero (H : Nat) (h : H < 2 ^ 256) : (dw H 0 = 0 ∧ dw H 1 = 0 ∧ dw H 2 = 0 ∧ dw H 3 = 0) ↔ H = 0 := by
  constructor
  · rintro ⟨h0, h1, h2, h3⟩
    have := wv_num4 H h
    simp only [num4, h0, h1, h2, h3, wv] at this
    omega
  · rintro rfl; exact ⟨rfl, rfl, rfl, rfl⟩

theorem three_words (T : List Nat) (h : T.length = 3) : ∃ a b c, T = [a, b, c] := by
  match T, h with
  | [a, b, c], _ => exact ⟨a, b, c, rfl⟩
set_option exponentiation.threshold 1000 in
/-- A sum that holds a word times 2^(64 q) and is below 2^448 has no word from the seventh on. -/
theorem carry_place (S c q V : Nat) (h : S + c * 2 ^ (64 * q) = V) (hV : V < 2 ^ 448) (hc : c ≠ 0) : q < 7 := by
  refine Nat.lt_of_not_le (fun hq => ?_)
  have h1 : 2 ^ 448 ≤ 2 ^ (64 * q) := Nat.pow_le_pow_right (by omega) (by omega)
  have h2 : 2 ^ (64 * q) ≤ c * 2 ^ (64 * q) := Nat.le_mul_of_pos_left _ (by omega)
  omega
set_option exponentiation.threshold 1000 in
theorem fold_bound (L D : Nat) (Hs : List Nat) (hL : L < 2 ^ 256) (hD : D < 2 ^ 130) (hl : Hs.length ≤ 4) (hw : ∀ x ∈ Hs, x < 18446744073709551616) : L + wv Hs * D < 2 ^ 448 := by
  have h1 := wv_lt Hs hw
  have h2 : 2 ^ (64 * Hs.length) ≤ 2 ^ 256 := Nat.pow_le_pow_right (by omega) (by omega)
  have h3 : wv Hs * D ≤ 2 ^ 256 * 2 ^ 130 := Nat.mul_le_mul (by omega) (by omega)
  have h4 : (2 : Nat) ^ 256 * 2 ^ 130 + 2 ^ 256 < 2 ^ 448 := by decide
  omega
theorem wv_take_num4 (H i a : Nat) (hi : i < 4) (ha : a = dw H i) : wv ((num4 H).take (i + 1)) = wv ((num4 H).take i) + a * 2 ^ (64 * i) := by
  rw [wv_take (num4 H) i hi]
  congr 2
  rw [ha]
  rcases (show i = 0 ∨ i = 1 ∨ i = 2 ∨ i = 3 by omega) with rfl | rfl | rfl | rfl <;> rfl

theorem run_storeVar_cell {P : Program} (w : World) (b o : Nat) (ty : TypeId) (v c : Value) (hc : w.cell? ⟨b, o, none⟩ = some c) (hz : w.frozen? ⟨b, o, none⟩ = false) (hi : (P.info? ty).map (·.size) = some 1) (h1 : v.oneCell' = true) :
    (storeVar ty ⟨b, o, none⟩ v).run P w = .ok () (w.setCell ⟨b, o, none⟩ v) := by
  have := run_storeCells_cells (P := P) b o [v] 0 w (fun j hj => by (have h0 : j = 0 := by simpa using hj); subst h0; simp [hc]) (fun j hj => by (have h0 : j = 0 := by simpa using hj); subst h0; simpa using hz) (fun x hx => by simp at hx; subst hx; exact h1)
  have hcs : v.cells = #[v] := by cases v <;> first | rfl | cases h1
  cases hq : P.info? ty with
  | none => simp [hq] at hi
  | some i =>
    have hs : i.size = 1 := by simpa [hq] using hi
    simp [storeVar, sizeOf, typeInfo, hq, hcs, hs, this, World.setCells]
/-- A word is stored in a row of words; the world behind it by what it holds. -/
theorem wpList_store_U64 {P : Program} {ops : Array Oper} {rest : List Oper} {o : Oper} {a : Act} {w : World} {Q : Exit → Act → World → Prop} (hgd : o.guard = none) (ty : TypeId) (x y : Operand) (ho : o.op = .store ty x y) (hd : o.dst = none)
    (g k t v : Nat) (T : List Nat) (hx : a.eval x = .pointer (some ⟨g, k, none⟩)) (hy : a.eval y = .int .u64 (v : Int)) (hg : w.heap[g]? = some (.cells (U64 T).toArray t (0, 0))) (hk : k < T.length) (hi : (P.info? ty).map (·.size) = some 1)
    (h : ∀ w', w'.heap[g]? = some (.cells (U64 (T.set k v)).toArray t (0, 0)) → (∀ q ob, q ≠ g → w.heap[q]? = some ob → w'.heap[q]? = some ob) → (∀ n w0, n ≤ g → Below n w0 w → Below n w0 w') → wpList P ops Q rest a w') : wpList P ops Q (o :: rest) a w :=
  wpList_plain hgd fun _ hK => by
    unfold Oper.wp execOp
    simp only [ho, hx, hy, Instr.storeAt, Instr.sureAddr, Sem.run_bind, Sem.run_pure, Result.andThen_ok, run_storeVar_cell w g k ty (.int .u64 (v : Int)) _ (cellU hg hk) (thawU hg k) hi rfl]
    refine hK _ _ ?_
    rw [hd]
    exact h _ (setU hg) (fun q ob hq hob => otherU hob hq) (fun n w0 hn hb => hb.setCell (p := ⟨g, k, none⟩) hn _)

set_option maxRecDepth 100000 in
set_option exponentiation.threshold 1000 in
set_option maxHeartbeats 16000000 in
theorem ffold_any (g o m : Nat) (d : List Nat) (hd : IsField m d) (hm : m < 2 ^ 256) (V : List Nat) (hV : V.length = 8) (hV64 : ∀ t ∈ V, t < 18446744073709551616) (w : World) (hF : FieldAt w g o m d) :
    Calls Tryz.prog 205 #[.pointer (some ⟨g, o, none⟩), .agg (U64 V).toArray] w fun e W' => e = .returned (.agg (numA (wv V % m))) ∧ Below w.heap.size w W' := by
  have hgw := hF.1
  obtain ⟨d0, d1, d2, rfl⟩ := three_words d hd.1
  obtain ⟨R, hR⟩ : ∃ R, R = wv V % m := ⟨_, rfl⟩
  rw [← hR]
  have HR := Lib.hid hR
  obtain ⟨cs, hcs⟩ : ∃ cs, cs = (U64 V).toArray := ⟨_, rfl⟩
  rw [← hcs]
  have hcz : cs.size = 8 := by rw [hcs, List.size_toArray, U64_length, hV]
  have Hcs := Lib.hid hcs
  have HVl := Lib.hid hV
  have HV64 := Lib.hid hV64
  have Hd := Lib.hid hd
  have Hm := Lib.hid hm
  clear hm
  clear hR hcs hV hV64 hd
  go_enter Tryz.func205, Tryz.ntmps205
  go_wp2_with (refine wpList_boxTo rfl 255 (.tmp 1) rfl _ rfl w.heap.size rfl cs rfl ?_)
  have h2 := rowsTwo w (.cells cs 255) (.cells (numA 0) 140)
  obtain ⟨W0, hW0⟩ : ∃ W0, W0 = (w.alloc (.cells cs 255)).alloc (.cells (numA 0) 140) := ⟨_, rfl⟩
  have hb0 : Below w.heap.size w W0 := by rw [hW0]; exact ((Below.refl _ w).alloc (Nat.le_refl _) _).alloc (by simp) _
  refine (show W0 = _ from hW0) ▸ ?_
  rw [← hW0] at h2
  obtain ⟨gT, gO⟩ := h2
  rw [Hcs.out] at gT
  obtain ⟨B, hB⟩ : ∃ B, B = w.heap.size := ⟨_, rfl⟩
  rw [← hB] at gT gO ⊢
  have HB := Lib.hid hB
  clear hW0 hB hcz
  go_loopw [26] (fun _ wr => ∃ T : List Nat, Hid (T.length = 8 ∧ (∀ t ∈ T, t < 18446744073709551616) ∧ wv T % m = R) ∧ wr.heap[B]? = some (.cells (U64 T).toArray 255 (0, 0)) ∧ wr.heap[B + 1]? = some (.cells (numA 0) 140 (0, 0)) ∧ Below w.heap.size w wr) (fun _ wr => rowV wr B)
  case atStart => exact ⟨V, Lib.hid ⟨HVl.out, HV64.out, HR.out.symm⟩, gT, gO, hb0⟩
  case round =>
    clear gT gO hb0
    obtain ⟨T, HT, gT, gO, hb⟩ := hrel
    obtain ⟨L, H, hL, hH, hTe, hTv⟩ := wv_eight T HT.out.1 HT.out.2.1
    have hrow := rowV_eq gT
    rw [hTe] at gT
    have e4 := cellU gT (k := 4) (by simp [num4])
    have e5 := cellU gT (k := 5) (by simp [num4])
    have e6 := cellU gT (k := 6) (by simp [num4])
    have e7 := cellU gT (k := 7) (by simp [num4])
    have c4 : wr.cell? ⟨B, 4, none⟩ = some (.int .u64 (dw H 0 : Nat)) := e4
    have c5 : wr.cell? ⟨B, 5, none⟩ = some (.int .u64 (dw H 1 : Nat)) := e5
    have c6 : wr.cell? ⟨B, 6, none⟩ = some (.int .u64 (dw H 2 : Nat)) := e6
    have c7 : wr.cell? ⟨B, 7, none⟩ = some (.int .u64 (dw H 3 : Nat)) := e7
    have z4 := thawU gT 4
    have z5 := thawU gT 5
    have z6 := thawU gT 6
    have z7 := thawU gT 7
    have ho1 := u64_or_nat (dw H 0) (dw H 1) (dw_lt _ _) (dw_lt _ _)
    have n1 : dw H 0 ||| dw H 1 < 18446744073709551616 := Nat.or_lt_two_pow (n := 64) (dw_lt _ _) (dw_lt _ _)
    have ho2 := u64_or_nat (dw H 0 ||| dw H 1) (dw H 2) n1 (dw_lt _ _)
    have n2 : dw H 0 ||| dw H 1 ||| dw H 2 < 18446744073709551616 := Nat.or_lt_two_pow (n := 64) n1 (dw_lt _ _)
    have ho3 := u64_or_nat (dw H 0 ||| dw H 1 ||| dw H 2) (dw H 3) n2 (dw_lt _ _)
    obtain ⟨N, hN⟩ : ∃ N, N = dw H 0 ||| dw H 1 ||| dw H 2 ||| dw H 3 := ⟨_, rfl⟩
    rw [← hN] at ho3
    have hN0 : N = 0 ↔ H = 0 := by rw [hN, or_zero4, num4_zero H hH]
    have HTv := Lib.hid hTv
    have HTe := Lib.hid hTe
    have Hrow := Lib.hid hrow
    have GT := Lib.hid gT
    have GO := Lib.hid gO
    clear e4 e5 e6 e7 n1 n2 hN hTv hTe hrow gT gO
    by_cases h0 : H = 0
    · have hNz := hN0.2 h0
      subst hNz
      clear hN0
      have hFw := hF.below hb hgw
      have c0 : wr.cell? ⟨B, 0, none⟩ = some (.int .u64 (dw L 0 : Nat)) := cellU GT.out (k := 0) (by simp [num4])
      have c1 : wr.cell? ⟨B, 1, none⟩ = some (.int .u64 (dw L 1 : Nat)) := cellU GT.out (k := 1) (by simp [num4])
      have c2 : wr.cell? ⟨B, 2, none⟩ = some (.int .u64 (dw L 2 : Nat)) := cellU GT.out (k := 2) (by simp [num4])
      have c3 : wr.cell? ⟨B, 3, none⟩ = some (.int .u64 (dw L 3 : Nat)) := cellU GT.out (k := 3) (by simp [num4])
      have HiN := Lib.hid (show (Tryz.prog.info? 140).map (·.size) = some (numA R).size by kernel_rfl)
      have HlO := Lib.hid (Array.getElem?_eq_some_iff.1 GO.out).1
      have HLR : Hid ((if L < m then L else L - m) = R) := Lib.hid (by
        rw [once_mod m _ L Hd.out.2.2.1 Hd.out.2.2.2.1 hL, ← HT.out.2.2, HTv.out, h0, Nat.mul_zero, Nat.add_zero])
      have Hfin := Lib.hid (fin_any g o m [d0, d1, d2] L hL Hm.out wr hFw)
      rw [HLR.out] at Hfin
      clear hFw
      go_wp2_with fail
      refine Hfin.out.mono ?_
      rintro e w2 ⟨rfl, hb2⟩
      have GO2 := Lib.hid ((hb2.block (B + 1) HlO.out).trans GO.out)
      have hbN := hb.trans (hb2.mono hb.size)
      clear hb2 Hfin
      go_wp2_with (refine wpList_store_row rfl 140 (.tmp 4) (.tmp 113) rfl (B + 1) (numA R) rfl rfl 140 _ GO2.out HiN.out rfl (numA_one _) ?_)
      refine bodyPost_ret (v := .agg (numA R)) ?_ rfl ⟨rfl, below_setRow' hbN (by have := HB.out; omega) _⟩
      exact results_cell_row rfl _ _ (B + 1) 140 (numA R) (0, 0) _ rfl (setRow_heap _ _ _ _ _ _ GO2.out) Tryz.underlying140 rfl HiN.out
    · have hNz : ¬ ((N : Int) = 0) := by have := fun h => h0 (hN0.1 h); omega
      have Hh0 := Lib.hid (Nat.pos_of_ne_zero h0)
      clear hN0 h0
      have hBw : w.heap.size ≤ B := by have := HB.out; omega
      have hOB : B + 1 ≠ B := by omega
      go_wp2_with (first | (refine wpList_store_row rfl 140 (.tmp 5) (.tmp 35) rfl wr.heap.size (numA H) rfl rfl 140 _ (heap_alloc_new wr _) (by kernel_rfl) rfl (numA_one _) ?_; rw [World.setRow_alloc_new]; obtain ⟨W1, hW1⟩ : ∃ W1, W1 = wr.alloc (.cells (numA H) 140) := ⟨_, rfl⟩; rw [← hW1]; obtain ⟨gh, hgh⟩ : ∃ gh, gh = wr.heap.size := ⟨_, rfl⟩; rw [← hgh]; have gT1 : W1.heap[B]? = some (.cells (U64 (num4 L ++ num4 H)).toArray 255 (0, 0)) := (by rw [hW1]; exact rowOld GT.out); have gO1 : W1.heap[B + 1]? = some (.cells (numA 0) 140 (0, 0)) := (by rw [hW1]; exact rowOld GO.out); have gH1 : W1.heap[gh]? = some (.cells #[.int .u64 (dw H 0 : Nat), .int .u64 (dw H 1 : Nat), .int .u64 (dw H 2 : Nat), .int .u64 (dw H 3 : Nat)] 140 (0, 0)) := (by rw [hW1, hgh]; exact heap_alloc_new wr _); have hgN : gh ≠ B := (by have := (Array.getElem?_eq_some_iff.1 GO.out).1; rw [hgh]; omega); have hb1 : Below w.heap.size w W1 := (by rw [hW1]; exact hb.alloc hb.size _); clear hW1 hgh c4 c5 c6 c7 z4 z5 z6 z7 hb) | (refine wpList_store_U64 rfl 78 (.tmp 36) (.const (.int .u64 0)) rfl rfl B 4 255 0 (num4 L ++ num4 H) rfl rfl gT1 (by simp [num4]) (by kernel_rfl) ?_; intro W2 gT2 ho2 hbb2; have gO2 := ho2 _ _ hOB gO1; have gH2 := ho2 _ _ hgN gH1; have hb2 := hbb2 _ _ hBw hb1; clear ho2 hbb2) | (refine wpList_store_U64 rfl 78 (.tmp 37) (.const (.int .u64 0)) rfl rfl B 5 255 0 _ rfl rfl gT2 (by simp [num4]) (by kernel_rfl) ?_; intro W3 gT3 ho3 hbb3; have gO3 := ho3 _ _ hOB gO2; have gH3 := ho3 _ _ hgN gH2; have hb3 := hbb3 _ _ hBw hb2; clear ho3 hbb3) | (refine wpList_store_U64 rfl 78 (.tmp 38) (.const (.int .u64 0)) rfl rfl B 6 255 0 _ rfl rfl gT3 (by simp [num4]) (by kernel_rfl) ?_; intro W4 gT4 ho4 hbb4; have gO4 := ho4 _ _ hOB gO3; have gH4 := ho4 _ _ hgN gH3; have hb4 := hbb4 _ _ hBw hb3; clear ho4 hbb4) | (refine wpList_store_U64 rfl 78 (.tmp 39) (.const (.int .u64 0)) rfl rfl B 7 255 0 _ rfl rfl gT4 (by simp [num4]) (by kernel_rfl) ?_; intro W5 gT5 ho5 hbb5; have gO5 := ho5 _ _ hOB gO4; have gH5 := ho5 _ _ hgN gH4; have hb5 := hbb5 _ _ hBw hb4; clear ho5 hbb5) | (refine wpList_load_row rfl 140 (.tmp 5) rfl gh rfl 140 #[.int .u64 (dw H 0 : Nat), .int .u64 (dw H 1 : Nat), .int .u64 (dw H 2 : Nat), .int .u64 (dw H 3 : Nat)] (0, 0) _ gH5 Tryz.underlying140 rfl (by kernel_rfl) ?_; clear gH5))
      have hDm := Hd.out
      obtain ⟨D, hD⟩ : ∃ D, D = wv [d0, d1, d2] := ⟨_, rfl⟩
      have hd0 : d0 < 18446744073709551616 := hDm.2.1 d0 (by simp)
      have hd1 : d1 < 18446744073709551616 := hDm.2.1 d1 (by simp)
      have hd2 : d2 < 18446744073709551616 := hDm.2.1 d2 (by simp)
      have HD := Lib.hid hD
      have hD130 : Hid (D < 2 ^ 130) := Lib.hid (by rw [hD]; exact hDm.2.2.2.2)
      clear hDm hD
      go_loopw [41] (fun iv wi => ∃ (i : Nat) (U : List Nat), i ≤ 4 ∧ iv = .int .i64 i ∧ Hid (U.length = 8 ∧ (∀ t ∈ U, t < 18446744073709551616) ∧ wv U = L + wv ((num4 H).take i) * D) ∧
        wi.heap[B]? = some (.cells (U64 U).toArray 255 (0, 0)) ∧ wi.heap[B + 1]? = some (.cells (numA 0) 140 (0, 0)) ∧ Below w.heap.size w wi) (fun iv _ => 4 - (intOf iv).toNat)
      case atStart => exact ⟨0, num4 L ++ [0, 0, 0, 0], by omega, rfl, Lib.hid ⟨rfl, fun t ht => by rcases List.mem_append.1 ht with h | h; exact num4_lt L _ h; (have : t = 0 := by simpa using h); omega, by rw [wv_append, wv_num4 L hL]; simp [wv]⟩, gT5, gO5, hb5⟩
      case round =>
        clear gT5 gO5 hb5 gT1 gT2 gT3 gT4 gO1 gO2 gO3 gO4 hb1 hb2 hb3 hb4 gH1 gH2 gH3 gH4 GT GO
        obtain ⟨i, T1, hi, rfl, HT1, gT, gO, hb⟩ := hrel
        by_cases hlt : i < 4
        · obtain ⟨a, ha⟩ : ∃ a, a = dw H i := ⟨_, rfl⟩
          have ha64 : a < 18446744073709551616 := by rw [ha]; exact dw_lt _ _
          have hix := fun ww => run_index_num H i hlt ww
          simp only [← ha] at hix
          have hFw := hF.below hb hgw
          have q0 : World.cell? _ ⟨g, o + 4, none⟩ = some (.int .u64 (d0 : Nat)) := hFw.2.2 0 (by simp)
          have q1 : World.cell? _ ⟨g, o + 5, none⟩ = some (.int .u64 (d1 : Nat)) := hFw.2.2 1 (by simp)
          have q2 : World.cell? _ ⟨g, o + 6, none⟩ = some (.int .u64 (d2 : Nat)) := hFw.2.2 2 (by simp)
          have Ha := Lib.hid ha
          obtain ⟨S, hS⟩ : ∃ S, S = wv T1 := ⟨_, rfl⟩
          have HS := Lib.hid hS
          have GT := Lib.hid gT
          have GO := Lib.hid gO
          clear ha hS hFw gT gO
          go_wp2_with fail
          clear q0 q1 q2 hix
          rw [show decide ((i : Int) < 4) = true from decide_eq_true (by omega)]
          go_loopw [8, 49] (fun cv kv wk => ∃ (k c : Nat) (U : List Nat), k ≤ 3 ∧ kv = .int .i64 k ∧ cv = .int .u64 c ∧ c < 18446744073709551616 ∧ Hid (U.length = 8 ∧ (∀ t ∈ U, t < 18446744073709551616) ∧ wv U + c * 2 ^ (64 * (i + k)) = S + a * wv ([d0, d1, d2].take k) * 2 ^ (64 * i)) ∧
            wk.heap[B]? = some (.cells (U64 U).toArray 255 (0, 0)) ∧ wk.heap[B + 1]? = some (.cells (numA 0) 140 (0, 0)) ∧ Below w.heap.size w wk) (fun _ kv _ => 3 - (intOf kv).toNat)
          case atStart => exact ⟨0, 0, T1, by omega, rfl, rfl, by omega, Lib.hid ⟨HT1.out.1, HT1.out.2.1, by rw [HS.out]; simp [wv]⟩, GT.out, GO.out, hb⟩
          case round =>
            clear GT GO hb
            obtain ⟨k, c, U, hk, rfl, rfl, hc, HU, gT, gO, hb⟩ := hrel
            by_cases hlk : k < 3
            · obtain ⟨b, hbb⟩ : ∃ b, b = [d0, d1, d2].getD k 0 := ⟨_, rfl⟩
              have hb64 : b < 18446744073709551616 := by
                rw [hbb]
                rcases (show k = 0 ∨ k = 1 ∨ k = 2 by omega) with rfl | rfl | rfl
                · exact hd0
                · exact hd1
                · exact hd2
              have hix := fun ww => run_index_d d0 d1 d2 k hlk ww
              simp only [← hbb] at hix
              have Hbb := Lib.hid hbb
              obtain ⟨j, hj⟩ : ∃ j, j = i + k := ⟨_, rfl⟩
              have hj8 : j < 8 := by omega
              have hjI : (i : Int) + (k : Int) = (j : Int) := by omega
              have hjU : j < U.length := by rw [HU.out.1]; exact hj8
              have cT := cellU gT (k := j) hjU
              have zT := thawU gT j
              have hUj : U[j] = U.getD j 0 := by simp [hjU]
              obtain ⟨t, ht⟩ : ∃ t : Nat, t = U.getD j 0 := ⟨_, rfl⟩
              have ht64 : t < 18446744073709551616 := by rw [ht, ← hUj]; exact HU.out.2.1 _ (List.getElem_mem _)
              rw [hUj, ← ht] at cT
              obtain ⟨m1, m2, m3⟩ := mac a b c t ha64 hb64 hc ht64
              have hm64 := fun ww => Tryz.bits_Mul64 a b ha64 hb64 ww
              obtain ⟨hi, hhi⟩ : ∃ hi, hi = a * b / 18446744073709551616 := ⟨_, rfl⟩
              obtain ⟨lo, hlo⟩ : ∃ lo, lo = a * b % 18446744073709551616 := ⟨_, rfl⟩
              rw [← hhi, ← hlo] at m1 m2 m3
              simp only [← hhi, ← hlo] at hm64
              have hA1 := fun ww => add64_run0 lo c ww
              obtain ⟨l1, hl1⟩ : ∃ l1, l1 = (lo + c) % 18446744073709551616 := ⟨_, rfl⟩
              obtain ⟨c1, hc1⟩ : ∃ c1, c1 = (lo + c) / 18446744073709551616 := ⟨_, rfl⟩
              rw [← hl1, ← hc1] at m2 m3
              rw [← hc1] at m1
              simp only [← hl1, ← hc1] at hA1
              have hA2 := fun ww => add64_run0 t l1 ww
              obtain ⟨t1, ht1⟩ : ∃ t1, t1 = (t + l1) % 18446744073709551616 := ⟨_, rfl⟩
              obtain ⟨c2, hc2⟩ : ∃ c2, c2 = (t + l1) / 18446744073709551616 := ⟨_, rfl⟩
              rw [← hc2] at m2
              rw [← ht1, ← hc2] at m3
              simp only [← ht1, ← hc2] at hA2
              have ht164 : t1 < 18446744073709551616 := by rw [ht1]; exact Nat.mod_lt _ (by decide)
              have Hm64 := Lib.hid hm64
              have M3 := Lib.hid m3
              have Hj := Lib.hid hj
              have Ht := Lib.hid ht
              have GO := Lib.hid gO
              have GT := Lib.hid gT
              clear hbb hj ht hhi hlo hl1 hc1 ht1 hc2 m3 hm64 gO gT hjU hUj
              go_wp2_with (go_at_call 203; refine (Hm64.out _).mono ?_; rintro e w' ⟨rfl, hww⟩; rw [hww]; clear hww)
              refine ⟨⟨k + 1, hi + c1 + c2, U.set j t1, by omega, by go_num, by go_num, m2, Lib.hid ⟨by simpa using HU.out.1, fun q hq => ?_, ?_⟩, setU GT.out, otherU GO.out (by omega), hb.setCell (p := ⟨B, j, none⟩) hBw _⟩, by simp [intOf]; omega⟩
              · rcases List.mem_or_eq_of_mem_set hq with h | h
                · exact HU.out.2.1 q h
                · exact h ▸ ht164
              · have hjj := Hj.out
                have htt := Ht.out
                have hUl := HU.out.1
                subst hjj
                refine inner_step U [d0, d1, d2] i k a c _ t1 S (by omega) hlk ?_ HU.out.2.2
                have e1 : U[i + k]'(by omega) = t := by rw [htt]; simp [show i + k < U.length by omega]
                have e2 : [d0, d1, d2][k]'hlk = b := by
                  rw [Hbb.out]
                  rcases (show k = 0 ∨ k = 1 ∨ k = 2 by omega) with rfl | rfl | rfl <;> rfl
                rw [e1, e2]
                exact M3.out
            · obtain rfl : k = 3 := by omega
              obtain ⟨q0, hq0⟩ : ∃ q, q = i + 3 := ⟨_, rfl⟩
              have hq0I : (i : Int) + 3 = (q0 : Int) := by omega
              obtain ⟨V2, hV2⟩ : ∃ V2, V2 = L + wv ((num4 H).take (i + 1)) * D := ⟨_, rfl⟩
              have hst : wv U + c * 2 ^ (64 * q0) = V2 := by
                have h1 := HU.out.2.2
                rw [show [d0, d1, d2].take 3 = [d0, d1, d2] from rfl, ← HD.out, HS.out, HT1.out.2.2, ← hq0] at h1
                rw [h1, hV2, wv_take_num4 H i a hlt Ha.out, Nat.add_mul, Nat.mul_right_comm]
                omega
              have hV448 : V2 < 2 ^ 448 := by
                rw [hV2]
                exact fold_bound L D _ hL hD130.out (by rw [List.length_take]; omega) (fun x hx => num4_lt H x (List.mem_of_mem_take hx))
              have HV448 := Lib.hid hV448
              have HV2 := Lib.hid hV2
              have Hst := Lib.hid hst
              have Hq0 := Lib.hid hq0
              have hq07 : q0 ≤ 7 := by omega
              have GO := Lib.hid gO
              have GT := Lib.hid gT
              clear hq0 hV2 hst hV448 gO gT
              go_wp2_with fail
              go_loopw [8, 14] (fun cv qv wk => ∃ (q c : Nat) (U : List Nat), q ≤ 7 ∧ qv = .int .i64 q ∧ cv = .int .u64 c ∧ c < 18446744073709551616 ∧ Hid (U.length = 8 ∧ (∀ t ∈ U, t < 18446744073709551616) ∧ wv U + c * 2 ^ (64 * q) = V2) ∧
                wk.heap[B]? = some (.cells (U64 U).toArray 255 (0, 0)) ∧ wk.heap[B + 1]? = some (.cells (numA 0) 140 (0, 0)) ∧ Below w.heap.size w wk) (fun _ qv _ => 8 - (intOf qv).toNat)
              case atStart => exact ⟨q0, c, U, hq07, rfl, rfl, hc, Lib.hid ⟨HU.out.1, HU.out.2.1, Hst.out⟩, GT.out, GO.out, hb⟩
              case round =>
                clear hc HU GT GO hb Hst hq07
                obtain ⟨q, c, U, hq7, rfl, rfl, hc, HU, gT, gO, hb⟩ := hrel
                by_cases hc0 : c = 0
                · subst hc0
                  have GO := Lib.hid gO
                  have GT := Lib.hid gT
                  clear gO gT
                  go_wp2_with fail
                  exact ⟨⟨i + 1, U, by omega, by go_num, Lib.hid ⟨HU.out.1, HU.out.2.1, by have h1 := HU.out.2.2; have h2 := HV2.out; rw [← h2, ← h1]; omega⟩, GT.out, GO.out, hb⟩, by simp [intOf]; omega⟩
                · have hcI : ¬ ((c : Int) = 0) := by omega
                  have hq : q < 7 := carry_place _ c q V2 HU.out.2.2 HV448.out hc0
                  have hqU : q < U.length := by rw [HU.out.1]; omega
                  have cT := cellU gT (k := q) hqU
                  have zT := thawU gT q
                  have hUq : U[q] = U.getD q 0 := by simp [hqU]
                  obtain ⟨t, ht⟩ : ∃ t : Nat, t = U.getD q 0 := ⟨_, rfl⟩
                  have ht64 : t < 18446744073709551616 := by rw [ht, ← hUq]; exact HU.out.2.1 _ (List.getElem_mem _)
                  rw [hUq, ← ht] at cT
                  have hA2 := fun ww => add64_run0 t c ww
                  have m3 : (t + c) % 18446744073709551616 + 18446744073709551616 * ((t + c) / 18446744073709551616) = t + 0 + c := by omega
                  have m2 : (t + c) / 18446744073709551616 < 18446744073709551616 := by omega
                  obtain ⟨t1, ht1⟩ : ∃ t1, t1 = (t + c) % 18446744073709551616 := ⟨_, rfl⟩
                  obtain ⟨c2, hc2⟩ : ∃ c2, c2 = (t + c) / 18446744073709551616 := ⟨_, rfl⟩
                  rw [← hc2] at m2
                  rw [← ht1, ← hc2] at m3
                  simp only [← ht1, ← hc2] at hA2
                  have ht164 : t1 < 18446744073709551616 := by rw [ht1]; exact Nat.mod_lt _ (by decide)
                  have M3 := Lib.hid m3
                  have Ht := Lib.hid ht
                  have GO := Lib.hid gO
                  have GT := Lib.hid gT
                  clear ht ht1 hc2 m3 gO gT hqU hUq
                  go_wp2_with fail
                  refine ⟨⟨q + 1, c2, U.set q t1, by omega, by go_num, rfl, m2, Lib.hid ⟨by simpa using HU.out.1, fun r hr => ?_, ?_⟩, setU GT.out, otherU GO.out (by omega), hb.setCell (p := ⟨B, q, none⟩) hBw _⟩, by simp [intOf]; omega⟩
                  · rcases List.mem_or_eq_of_mem_set hr with h | h
                    · exact HU.out.2.1 r h
                    · exact h ▸ ht164
                  · have hqU : q < U.length := by rw [HU.out.1]; omega
                    have h1 := mac_row U q hqU 0 c c2 t1 (by rw [show U[q] = t by rw [Ht.out]; simp [hqU]]; exact M3.out)
                    have h2 := HU.out.2.2
                    omega
        · obtain rfl : i = 4 := by omega
          have hTv : wv T1 = L + H * D := by rw [HT1.out.2.2, show (num4 H).take 4 = num4 H from rfl, wv_num4 H hH]
          have hrw := rowV_eq gT
          have HTv1 := Lib.hid hTv
          have Hrw := Lib.hid hrw
          have GO := Lib.hid gO
          have GT := Lib.hid gT
          clear hTv hrw gO gT
          go_wp2_with fail
          refine ⟨⟨T1, Lib.hid ⟨HT1.out.1, HT1.out.2.1, ?_⟩, GT.out, GO.out, hb⟩, ?_⟩
          · have h1 := fold_mod m D L H (by rw [HD.out]; exact Hd.out.2.2.1)
            rw [HTv1.out, h1, ← HTv.out]
            exact HT.out.2.2
          · rw [Hrw.out, Hrow.out, HTv1.out, HTv.out]
            exact fold_less D L H (Nat.lt_trans hD130.out (by decide)) Hh0.out
end Go.Proofs.YtcjioogololnoaaGreatDoor

/-! curve.field: mul, pow. -/
namespace Go.Proofs.YtcjioogololnoaaGreatDoor
open Go.RowKit Go.Shelf

/-- A row is stored whole; the world behind it by what it holds. -/
theorem wpList_store_rowW {P : Program} {ops : Array Oper} {rest : List Oper} {o : Oper} {a : Act} {w : World} {Q : Exit → Act → World → Prop} (hgd : o.guard = none) (ty : TypeId) (x y : Operand) (ho : o.op = .store ty x y) (hd : o.dst = none)
    (g : Nat) (cells : Array Value) (hx : a.eval x = .pointer (some ⟨g, 0, none⟩)) (hy : a.eval y = .agg cells)
    (t : TypeId) (old : Array Value) (hg : w.heap[g]? = some (.cells old t (0, 0))) (hi : (P.info? ty).map (·.size) = some cells.size)
    (hold : old.size = cells.size) (h1 : cells.all (·.oneCell') = true)
    (h : ∀ w', w'.heap[g]? = some (.cells cells t (0, 0)) → (∀ q ob, q ≠ g → w.heap[q]? = some ob → w'.heap[q]? = some ob) → (∀ n w0, n ≤ g → Below n w0 w → Below n w0 w') → wpList P ops Q rest a w') : wpList P ops Q (o :: rest) a w := by
  refine wpList_store_row hgd ty x y ho g cells hx hy t old hg hi hold h1 ?_
  rw [hd]
  exact h _ (setRow_heap _ _ _ _ _ _ hg) (fun q ob hq hob => (setRow_other w g q _ hq).trans hob) (fun n w0 hn hb => below_setRow' hb hn _)

theorem fmul_full (g o m : Nat) (d : List Nat) (hd : IsField m d) (hm : m < 2 ^ 256) (x y : Nat) (hx : x < 2 ^ 256) (hy : y < 2 ^ 256) (w : World) (hF : FieldAt w g o m d) :
    Calls Tryz.prog 175 #[.pointer (some ⟨g, o, none⟩), .agg (numA x), .agg (numA y)] w fun e W' => e = .returned (.agg (numA (x * y % m))) ∧ Below w.heap.size w W' :=
  fmul_any g o m d x y hx hy w hF (fun T W hl h64 hFW => ffold_any g o m d hd hm T hl h64 W hFW)

theorem num4_at (e q : Nat) (h : q < (num4 e).length) : (num4 e)[q] = dw e q := by
  have h4 : q < 4 := h
  rcases (show q = 0 ∨ q = 1 ∨ q = 2 ∨ q = 3 by omega) with rfl | rfl | rfl | rfl <;> rfl
theorem bit_int (e i : Nat) (h : i < 256) : bits .and .u64 ((dw e (i / 64) : Nat) / 2 ^ (i % 64) : Int) 1 = ((e / 2 ^ i % 2 : Nat) : Int) := by
  have h1 : ((dw e (i / 64) : Nat) / 2 ^ (i % 64) : Int) = ((dw e (i / 64) / 2 ^ (i % 64) : Nat) : Int) := by push_cast; rfl
  have h2 : dw e (i / 64) / 2 ^ (i % 64) < 18446744073709551616 := Nat.lt_of_le_of_lt (Nat.div_le_self _ _) (dw_lt _ _)
  rw [h1]
  have h3 := bits_and_u64_nat (dw e (i / 64) / 2 ^ (i % 64)) 1 h2 (by decide)
  rw [Nat.and_one_is_mod, bit_word e i h] at h3
  exact h3

theorem pwB_lt (m x e : Nat) (hm : 1 < m) : ∀ j, pwB m x e j < m
  | 0 => hm
  | j + 1 => by unfold pwB; split <;> exact Nat.mod_lt _ (by omega)

set_option maxRecDepth 100000 in
set_option exponentiation.threshold 1000 in
set_option maxHeartbeats 16000000 in
theorem fpow_any (g o m : Nat) (d : List Nat) (hd : IsField m d) (hm : m < 2 ^ 256) (hm1 : 1 < m) (x e : Nat) (hx : x < 2 ^ 256) (w : World) (hF : FieldAt w g o m d) :
    Calls Tryz.prog 177 #[.pointer (some ⟨g, o, none⟩), .agg (numA x), .agg (numA e)] w fun r W' => r = .returned (.agg (numA (pw m x e))) ∧ Below w.heap.size w W' := by
  have hgw := hF.1
  obtain ⟨R, hR⟩ : ∃ R, R = pw m x e := ⟨_, rfl⟩
  rw [← hR]
  have HR := Lib.hid hR
  clear hR
  have Hd := Lib.hid hd
  have Hm := Lib.hid hm
  have Hm1 := Lib.hid hm1
  clear hd hm hm1
  unfold numA
  go_enter Tryz.func177, Tryz.ntmps177
  go_wp2_with fail
  have h4 := rowsFour w (.cells (numA x) 140) (.cells (numA e) 140) (.cells (numA 0) 140) (.cells (numA 1) 140)
  obtain ⟨W0, hW0⟩ : ∃ W0, W0 = ((((w.alloc (.cells (numA x) 140)).alloc (.cells (numA e) 140)).alloc (.cells (numA 0) 140)).alloc (.cells (numA 1) 140)) := ⟨_, rfl⟩
  have hb0 : Below w.heap.size w W0 := by rw [hW0]; exact ((((Below.refl _ w).alloc (Nat.le_refl _) _).alloc (by simp) _).alloc (by simp; omega) _).alloc (by simp; omega) _
  refine (show W0 = _ from hW0) ▸ ?_
  rw [← hW0] at h4
  obtain ⟨gX, gE, gR, gO⟩ := h4
  obtain ⟨B, hB⟩ : ∃ B, B = w.heap.size := ⟨_, rfl⟩
  rw [← hB] at gX gE gR gO ⊢
  have HB := Lib.hid hB
  have hBw : w.heap.size ≤ B + 1 + 1 + 1 := by omega
  clear hW0 hB
  go_loopw [8] (fun iv wr => ∃ (j : Nat) (z : Int), j ≤ 256 ∧ iv = .int .i64 z ∧ Hid (z = 255 - (j : Int)) ∧
    wr.heap[B]? = some (.cells (numA x) 140 (0, 0)) ∧ wr.heap[B + 1]? = some (.cells (U64 (num4 e)).toArray 140 (0, 0)) ∧ wr.heap[B + 1 + 1]? = some (.cells (numA 0) 140 (0, 0)) ∧ wr.heap[B + 1 + 1 + 1]? = some (.cells (numA (pwB m x e j)) 140 (0, 0)) ∧ Below w.heap.size w wr) (fun iv _ => (intOf iv + 1).toNat)
  case atStart => exact ⟨0, 255, by omega, rfl, Lib.hid (by omega), gX, gE, gR, gO, hb0⟩
  case round =>
    clear gX gE gR gO hb0
    obtain ⟨j, z, hj, rfl, Hz, gX, gE, gR, gO, hb⟩ := hrel
    have HiN := Lib.hid (show (Tryz.prog.info? 140).map (·.size) = some 4 by kernel_rfl)
    by_cases hlt : j < 256
    · obtain ⟨i, hi⟩ : ∃ i : Nat, i = 255 - j := ⟨_, rfl⟩
      obtain rfl : z = (i : Int) := by have := Hz.out; omega
      have hi256 : i < 256 := by omega
      have Hi := Lib.hid hi
      obtain ⟨V, hV⟩ : ∃ V, V = pwB m x e j := ⟨_, rfl⟩
      have hVm : V < 2 ^ 256 := by rw [hV]; exact Nat.lt_trans (pwB_lt m x e Hm1.out j) Hm.out
      rw [← hV] at gO
      have HV := Lib.hid hV
      have hFw := hF.below hb hgw
      have Hsq := Lib.hid (fmul_full g o m d Hd.out Hm.out V V hVm hVm _ hFw)
      have GX := Lib.hid gX
      have GE := Lib.hid gE
      have GR := Lib.hid gR
      have GO := Lib.hid gO
      have HlX := Lib.hid (Array.getElem?_eq_some_iff.1 gX).1
      have HlE := Lib.hid (Array.getElem?_eq_some_iff.1 gE).1
      have HlR := Lib.hid (Array.getElem?_eq_some_iff.1 gR).1
      have HlO := Lib.hid (Array.getElem?_eq_some_iff.1 gO).1
      clear hi hV hFw gX gE gR gO Hz
      go_wp2_with (refine wpList_load_row rfl 140 (.tmp 7) rfl (B + 1 + 1 + 1) rfl 140 (numA V) (0, 0) _ GO.out Tryz.underlying140 rfl HiN.out ?_)
      refine Hsq.out.mono ?_
      rintro r w2 ⟨rfl, hb2⟩
      have gX2 := (hb2.block B HlX.out).trans GX.out
      have gE2 := (hb2.block (B + 1) HlE.out).trans GE.out
      have gR2 := (hb2.block (B + 1 + 1) HlR.out).trans GR.out
      have gO2 := (hb2.block (B + 1 + 1 + 1) HlO.out).trans GO.out
      have hbN := hb.trans (hb2.mono hb.size)
      clear hb2 Hsq GX GE GR GO HlX HlE HlR HlO hb
      obtain ⟨V2, hV2⟩ : ∃ V2, V2 = V * V % m := ⟨_, rfl⟩
      rw [← hV2]
      have hV2m : V2 < m := by rw [hV2]; exact Nat.mod_lt _ (by have := Hm1.out; omega)
      have HV2 := Lib.hid hV2
      have HV2m := Lib.hid hV2m
      clear hV2 hV2m
      obtain ⟨en, hen⟩ : ∃ en, en = dw e (i / 64) := ⟨_, rfl⟩
      have hbit := bit_int e i hi256
      rw [← hen] at hbit
      obtain ⟨b, hbb⟩ : ∃ b, b = e / 2 ^ i % 2 := ⟨_, rfl⟩
      rw [← hbb] at hbit
      have hen64 : en < 18446744073709551616 := by rw [hen]; exact dw_lt _ _
      have hnx : pwB m x e (j + 1) = if b = 1 then V2 * x % m else V2 := by
        rw [hbb, HV2.out, HV.out, Hi.out]; rfl
      have Hen := Lib.hid hen
      have Hbb := Lib.hid hbb
      have Hnx := Lib.hid hnx
      clear hen hbb hnx
      by_cases hb1 : b = 1
      · subst hb1
        rw [if_pos rfl] at Hnx
        go_wp2_with (first | (refine wpList_load_row rfl 140 (.tmp 7) rfl (B + 1 + 1 + 1) rfl 140 (numA V2) (0, 0) _ GO.out Tryz.underlying140 rfl HiN.out ?_) | (refine wpList_load_row rfl 140 (.tmp 4) rfl B rfl 140 (numA x) (0, 0) _ GX.out Tryz.underlying140 rfl HiN.out ?_) | (refine wpList_store_rowW rfl 140 (.tmp 7) (.tmp 17) rfl rfl (B + 1 + 1 + 1) (numA V2) rfl rfl 140 _ gO2 HiN.out rfl (numA_one _) ?_; intro w3 gO3 ho hbb; have gX3 := ho _ _ (by omega) gX2; have gE3 := ho _ _ (by omega) gE2; have gR3 := ho _ _ (by omega) gR2; have hb3 := hbb _ _ hBw hbN; have cE := cellU gE3 (k := i / 64) (by rw [num4_length]; omega); rw [num4_at, ← Hen.out] at cE; have HlX := Lib.hid (Array.getElem?_eq_some_iff.1 gX3).1; have HlE := Lib.hid (Array.getElem?_eq_some_iff.1 gE3).1; have HlR := Lib.hid (Array.getElem?_eq_some_iff.1 gR3).1; have HlO := Lib.hid (Array.getElem?_eq_some_iff.1 gO3).1; have GX := Lib.hid gX3; have GE := Lib.hid gE3; have GR := Lib.hid gR3; have GO := Lib.hid gO3; clear ho hbb gX2 gE2 gR2 gO2 gX3 gE3 gR3 gO3 hbN))
        refine (fmul_full g o m d Hd.out Hm.out V2 x (Nat.lt_trans HV2m.out Hm.out) hx _ (hF.below hb3 hgw)).mono ?_
        rintro r w4 ⟨rfl, hb4⟩
        have gX4 := (hb4.block B HlX.out).trans GX.out
        have gE4 := (hb4.block (B + 1) HlE.out).trans GE.out
        have gR4 := (hb4.block (B + 1 + 1) HlR.out).trans GR.out
        have gO4 := (hb4.block (B + 1 + 1 + 1) HlO.out).trans GO.out
        have hbN := hb3.trans (hb4.mono hb3.size)
        clear hb4 GX GE GR GO HlX HlE HlR HlO hb3 cE
        obtain ⟨V3, hV3⟩ : ∃ V3, V3 = V2 * x % m := ⟨_, rfl⟩
        rw [← hV3] at Hnx ⊢
        clear hV3
        go_wp2_with (refine wpList_store_rowW rfl 140 (.tmp 7) (.tmp 30) rfl rfl (B + 1 + 1 + 1) (numA V3) rfl rfl 140 _ gO4 HiN.out rfl (numA_one _) ?_; intro w5 gO5 ho hbb; have gX5 := ho _ _ (by omega) gX4; have gE5 := ho _ _ (by omega) gE4; have gR5 := ho _ _ (by omega) gR4; have hb5 := hbb _ _ hBw hbN; have GX := Lib.hid gX5; have GE := Lib.hid gE5; have GR := Lib.hid gR5; have GO := Lib.hid gO5; clear ho hbb gX4 gE4 gR4 gO4 gX5 gE5 gR5 gO5 hbN)
        exact ⟨⟨j + 1, (i : Int) - 1, by omega, rfl, Lib.hid (by have := Hi.out; omega), GX.out, GE.out, GR.out, by rw [Hnx.out]; exact GO.out, hb5⟩, by simp [intOf]; try omega⟩
      · have hb1I : ¬ ((b : Int) = 1) := by omega
        rw [if_neg hb1] at Hnx
        go_wp2_with (refine wpList_store_rowW rfl 140 (.tmp 7) (.tmp 17) rfl rfl (B + 1 + 1 + 1) (numA V2) rfl rfl 140 _ gO2 HiN.out rfl (numA_one _) ?_; intro w3 gO3 ho hbb; have gX3 := ho _ _ (by omega) gX2; have gE3 := ho _ _ (by omega) gE2; have gR3 := ho _ _ (by omega) gR2; have hb3 := hbb _ _ hBw hbN; have cE := cellU gE3 (k := i / 64) (by rw [num4_length]; omega); rw [num4_at, ← Hen.out] at cE; have HlX := Lib.hid (Array.getElem?_eq_some_iff.1 gX3).1; have HlE := Lib.hid (Array.getElem?_eq_some_iff.1 gE3).1; have HlR := Lib.hid (Array.getElem?_eq_some_iff.1 gR3).1; have HlO := Lib.hid (Array.getElem?_eq_some_iff.1 gO3).1; have GX := Lib.hid gX3; have GE := Lib.hid gE3; have GR := Lib.hid gR3; have GO := Lib.hid gO3; clear ho hbb gX2 gE2 gR2 gO2 gX3 gE3 gR3 gO3 hbN)
        exact ⟨⟨j + 1, (i : Int) - 1, by omega, rfl, Lib.hid (by have := Hi.out; omega), GX.out, GE.out, GR.out, by rw [Hnx.out]; exact GO.out, hb3⟩, by simp [intOf]; try omega⟩
    · obtain rfl : j = 256 := by omega
      obtain rfl : z = -1 := by have := Hz.out; omega
      rw [show pwB m x e 256 = R from HR.out.symm] at gO
      have GR := Lib.hid gR
      have GO := Lib.hid gO
      clear gX gE gR gO Hz
      go_wp2_with (first | (refine wpList_load_row rfl 140 (.tmp 7) rfl (B + 1 + 1 + 1) rfl 140 (numA R) (0, 0) _ GO.out Tryz.underlying140 rfl HiN.out ?_) | (refine wpList_store_row rfl 140 (.tmp 6) (.tmp 31) rfl (B + 1 + 1) (numA R) rfl rfl 140 _ GR.out HiN.out rfl (numA_one _) ?_))
      refine bodyPost_ret (v := .agg (numA R)) ?_ rfl ⟨rfl, below_setRow' hb (by have := HB.out; omega) _⟩
      exact results_cell_row rfl _ _ (B + 1 + 1) 140 (numA R) (0, 0) _ rfl (setRow_heap _ _ _ _ _ _ GR.out) Tryz.underlying140 rfl HiN.out
end Go.Proofs.YtcjioogololnoaaGreatDoor

/-! curve: coords, orders, curve. -/
namespace Go.Proofs.YtcjioogololnoaaGreatDoor
open Go.RowKit Go.Shelf

def dP : List Nat := [4294968273, 0, 0]
def dN : List Nat := [4624529908474429119, 4994812053365940164, 1]
set_option exponentiation.threshold 1000 in
theorem isFieldP : IsField fieldP dP := ⟨rfl, by simp [dP], by decide +kernel, by decide +kernel, by decide +kernel⟩
set_option exponentiation.threshold 1000 in
theorem isFieldN : IsField fieldN dN := ⟨rfl, by simp [dN], by decide +kernel, by decide +kernel, by decide +kernel⟩
set_option exponentiation.threshold 1000 in
theorem fieldP_lt : fieldP < 2 ^ 256 := by decide +kernel
set_option exponentiation.threshold 1000 in
theorem fieldN_lt : fieldN < 2 ^ 256 := by decide +kernel
def cellsP : Array Value := #[.int .u64 18446744069414583343, .int .u64 18446744073709551615, .int .u64 18446744073709551615, .int .u64 18446744073709551615, .int .u64 4294968273, .int .u64 0, .int .u64 0]
def cellsN : Array Value := #[.int .u64 13822214165235122497, .int .u64 13451932020343611451, .int .u64 18446744073709551614, .int .u64 18446744073709551615, .int .u64 4624529908474429119, .int .u64 4994812053365940164, .int .u64 1]
def cellsG : Array Value := #[.int .u64 18446744069414583343, .int .u64 18446744073709551615, .int .u64 18446744073709551615, .int .u64 18446744073709551615, .int .u64 4294968273, .int .u64 0, .int .u64 0,
  .int .u64 13822214165235122497, .int .u64 13451932020343611451, .int .u64 18446744073709551614, .int .u64 18446744073709551615, .int .u64 4624529908474429119, .int .u64 4994812053365940164, .int .u64 1]

set_option maxRecDepth 100000 in
set_option maxHeartbeats 4000000 in
theorem coords_any (w : World) : Calls Tryz.prog 136 #[] w fun e W' => e = .returned (.agg cellsP) ∧ Below w.heap.size w W' := by
  go_enter Tryz.func136, Tryz.ntmps136
  go_wp2_with fail
  refine bodyPost_ret (v := .agg cellsP) ?_ rfl ⟨rfl, (Below.refl _ w).alloc (Nat.le_refl _) _⟩
  exact results_cell_row rfl _ _ w.heap.size 183 cellsP (0, 0) _ rfl (heap_alloc_new w _) Tryz.underlying183 rfl (by kernel_rfl)
set_option maxRecDepth 100000 in
set_option maxHeartbeats 4000000 in
theorem orders_any (w : World) : Calls Tryz.prog 137 #[] w fun e W' => e = .returned (.agg cellsN) ∧ Below w.heap.size w W' := by
  go_enter Tryz.func137, Tryz.ntmps137
  go_wp2_with fail
  refine bodyPost_ret (v := .agg cellsN) ?_ rfl ⟨rfl, (Below.refl _ w).alloc (Nat.le_refl _) _⟩
  exact results_cell_row rfl _ _ w.heap.size 183 cellsN (0, 0) _ rfl (heap_alloc_new w _) Tryz.underlying183 rfl (by kernel_rfl)

theorem fieldG {w : World} {g t : Nat} {fr : Nat × Nat} (h : w.heap[g]? = some (.cells cellsG t fr)) : FieldAt w g 0 fieldP dP ∧ FieldAt w g 7 fieldN dN := by
  have hl := (Array.getElem?_eq_some_iff.1 h).1
  refine ⟨⟨hl, fun j hj => ?_, fun j hj => ?_⟩, ⟨hl, fun j hj => ?_, fun j hj => ?_⟩⟩
  · rw [cell_of_row _ _ _ _ _ _ h]
    rcases (show j = 0 ∨ j = 1 ∨ j = 2 ∨ j = 3 by omega) with rfl | rfl | rfl | rfl <;> kernel_rfl
  · rw [cell_of_row _ _ _ _ _ _ h]
    have hj : j < 3 := hj
    rcases (show j = 0 ∨ j = 1 ∨ j = 2 by omega) with rfl | rfl | rfl <;> rfl
  · rw [cell_of_row _ _ _ _ _ _ h]
    rcases (show j = 0 ∨ j = 1 ∨ j = 2 ∨ j = 3 by omega) with rfl | rfl | rfl | rfl <;> kernel_rfl
  · rw [cell_of_row _ _ _ _ _ _ h]
    have hj : j < 3 := hj
    rcases (show j = 0 ∨ j = 1 ∨ j = 2 by omega) with rfl | rfl | rfl <;> rfl

set_option maxRecDepth 100000 in
set_option maxHeartbeats 4000000 in
theorem curve_any (w : World) : Calls Tryz.prog 97 #[] w fun e W' => ∃ g, e = .returned (.pointer (some ⟨g, 0, none⟩)) ∧ w.heap.size ≤ g ∧ FieldAt W' g 0 fieldP dP ∧ FieldAt W' g 7 fieldN dN ∧ Below w.heap.size w W' := by
  go_enter Tryz.func97, Tryz.ntmps97
  go_wp2_with fail
  refine (coords_any _).mono ?_
  rintro e w1 ⟨rfl, hb1⟩
  go_wp2_with fail
  refine (orders_any _).mono ?_
  rintro e w2 ⟨rfl, hb2⟩
  have hb := hb1.trans (hb2.mono hb1.size)
  clear hb1 hb2
  unfold cellsP cellsN
  go_wp2_with (refine wpList_boxTo rfl 186 (.tmp 3) rfl _ rfl w2.heap.size rfl cellsG rfl ?_)
  have hF := fieldG (heap_alloc_new w2 (.cells cellsG 186))
  obtain ⟨W, hW⟩ : ∃ W, W = w2.alloc (.cells cellsG 186) := ⟨_, rfl⟩
  have hbW : Below w.heap.size w W := by rw [hW]; exact hb.alloc hb.size _
  refine (show W = _ from hW) ▸ ?_
  rw [← hW] at hF
  go_ret
  exact ⟨_, rfl, hb.size, hF.1, hF.2, hbW⟩
end Go.Proofs.YtcjioogololnoaaGreatDoor
