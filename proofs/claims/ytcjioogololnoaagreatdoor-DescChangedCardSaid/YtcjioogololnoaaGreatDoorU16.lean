/- curve.group: lift. | curve: unpack, key, Valid, IsPublic. | A region that draws its order, along a plan whose steps may turn the world and keep S, and whose quiet reads lean on S alone. -/
import Derived.Test.YtcjioogololnoaaGreatDoorU15
import Derived.Test.YtcjioogololnoaaGreatDoorU10

/-! curve.group: lift. -/
namespace Go.Proofs.YtcjioogololnoaaGreatDoor
open Go.RowKit Go.Shelf

/-- Several ways that end alike: what comes behind is shown once. T is found where the first way ends. -/
theorem share (F : Nat → World → Prop) {G : Prop} {T : Nat → World → Prop} (h2 : (∀ g w, F g w → T g w) → G) (h1 : ∀ g w, F g w → T g w) : G := h2 h1
theorem isFieldP1 : 1 < fieldP := by decide +kernel
set_option exponentiation.threshold 1000 in
theorem fieldP_gt : 2 ^ 255 < fieldP := by decide +kernel

def pt12 (x v : Nat) : Array Value := #[.int .u64 (dw x 0 : Nat), .int .u64 (dw x 1 : Nat), .int .u64 (dw x 2 : Nat), .int .u64 (dw x 3 : Nat), .int .u64 (dw v 0 : Nat), .int .u64 (dw v 1 : Nat), .int .u64 (dw v 2 : Nat), .int .u64 (dw v 3 : Nat), .int .u64 1, .int .u64 0, .int .u64 0, .int .u64 0]
def pt0 : Array Value := #[.int .u64 0, .int .u64 0, .int .u64 0, .int .u64 0, .int .u64 0, .int .u64 0, .int .u64 0, .int .u64 0, .int .u64 0, .int .u64 0, .int .u64 0, .int .u64 0]
theorem pt12_one (x v : Nat) : (pt12 x v).all (·.oneCell') = true := u64_one [dw x 0, dw x 1, dw x 2, dw x 3, dw v 0, dw v 1, dw v 2, dw v 3, 1, 0, 0, 0]
theorem pt0_one : pt0.all (·.oneCell') = true := u64_one [0, 0, 0, 0, 0, 0, 0, 0, 0, 0, 0, 0]

set_option maxRecDepth 100000 in
set_option exponentiation.threshold 1000 in
set_option maxHeartbeats 16000000 in
theorem lift_any (g : Nat) (x odd : Nat) (hx : x < fieldP) (w : World) (hF : FieldAt w g 0 fieldP dP) :
    Calls Tryz.prog 140 #[.pointer (some ⟨g, 0, none⟩), .agg (numA x), .int .u64 odd] w fun e W' => ∃ pt : Array Value, e = .returned (.tuple #[.agg pt, .bool (onCurve x)]) ∧ pt.size = 12 ∧ pt.all (·.oneCell') = true ∧ Below w.heap.size w W' := by
  have hmx : Tryz.prog.follows .mixedOrders = true := by kernel_rfl
  have hgw := hF.1
  have hx256 : x < 2 ^ 256 := Nat.lt_trans hx fieldP_lt
  unfold numA
  go_enter Tryz.func140, Tryz.ntmps140
  go_wp2_with fail
  have h2 := rowsTwo w (.cells (numA x) 140) (.cells #[.int .u64 0, .int .u64 0, .int .u64 0, .int .u64 0, .int .u64 0, .int .u64 0, .int .u64 0, .int .u64 0, .int .u64 0, .int .u64 0, .int .u64 0, .int .u64 0] 142)
  obtain ⟨W0, hW0⟩ : ∃ W0, W0 = (w.alloc (.cells (numA x) 140)).alloc (.cells #[.int .u64 0, .int .u64 0, .int .u64 0, .int .u64 0, .int .u64 0, .int .u64 0, .int .u64 0, .int .u64 0, .int .u64 0, .int .u64 0, .int .u64 0, .int .u64 0] 142) := ⟨_, rfl⟩
  have hb0 : Below w.heap.size w W0 := by rw [hW0]; exact ((Below.refl _ w).alloc (Nat.le_refl _) _).alloc (by simp) _
  have hz0 : W0.heap.size = w.heap.size + 2 := by rw [hW0]; simp
  refine (show W0 = _ from hW0) ▸ ?_
  rw [← hW0] at h2
  obtain ⟨gX, gR⟩ := h2
  obtain ⟨B, hB⟩ : ∃ B, B = w.heap.size := ⟨_, rfl⟩
  rw [← hB] at gX gR hz0 ⊢
  have HB := Lib.hid hB
  have Hz0 := Lib.hid hz0
  have hF0 := hF.below hb0 hgw
  have HF0 := Lib.hid hF0
  clear hW0 hB hz0 hF0 hF
  obtain ⟨x0, x1, x2, x3⟩ := cells4 gX
  have GX := Lib.hid gX
  have GR := Lib.hid gR
  clear gX gR
  have hgW : g < W0.heap.size := by have := Hz0.out; have := HB.out; omega
  obtain ⟨a1, ha1⟩ : ∃ a, a = x * x % fieldP := ⟨_, rfl⟩
  obtain ⟨a2, ha2⟩ : ∃ a, a = a1 * x % fieldP := ⟨_, rfl⟩
  obtain ⟨s7, hs7⟩ : ∃ a, a = (a2 + 7) % fieldP := ⟨_, rfl⟩
  have hp0 : 0 < fieldP := Nat.lt_trans Nat.one_pos isFieldP1
  have la1 : a1 < fieldP := by rw [ha1]; exact Nat.mod_lt _ hp0
  have la2 : a2 < fieldP := by rw [ha2]; exact Nat.mod_lt _ hp0
  have ls7 : s7 < fieldP := by rw [hs7]; exact Nat.mod_lt _ hp0
  have HM1 : Hid (∀ X, Below W0.heap.size W0 X → Calls Tryz.prog 175 #[.pointer (some ⟨g, 0, none⟩), .agg (numA x), .agg (numA x)] X fun e W' => e = .returned (.agg (numA a1)) ∧ Below X.heap.size X W') :=
    Lib.hid fun X hX => by rw [ha1]; exact fmul_full g 0 fieldP dP isFieldP fieldP_lt x x hx256 hx256 X (HF0.out.below hX hgW)
  have HM2 : Hid (∀ X, Below W0.heap.size W0 X → Calls Tryz.prog 175 #[.pointer (some ⟨g, 0, none⟩), .agg (numA a1), .agg (numA x)] X fun e W' => e = .returned (.agg (numA a2)) ∧ Below X.heap.size X W') :=
    Lib.hid fun X hX => by rw [ha2]; exact fmul_full g 0 fieldP dP isFieldP fieldP_lt a1 x (Nat.lt_trans la1 fieldP_lt) hx256 X (HF0.out.below hX hgW)
  have HM3 : Hid (∀ X, Below W0.heap.size W0 X → Calls Tryz.prog 174 #[.pointer (some ⟨g, 0, none⟩), .agg (numA a2), .agg #[.int .u64 7, .int .u64 0, .int .u64 0, .int .u64 0]] X fun e W' => e = .returned (.agg (numA s7)) ∧ Below X.heap.size X W') :=
    Lib.hid fun X hX => by rw [hs7]; exact fadd_any g 0 fieldP dP a2 7 la2 (by decide +kernel) fieldP_lt fieldP_gt X (HF0.out.below hX hgW)
  have Hs7 : Hid (s7 = square7 x) := Lib.hid (by rw [hs7, ha2, ha1]; rfl)
  have Ls7 := Lib.hid ls7
  clear ha1 ha2 hs7 la1 la2 ls7 hp0
  have hbD : Below W0.heap.size W0 W0.drew := (Below.refl _ _).drew
  have hbW0 : Below W0.heap.size W0 W0 := Below.refl _ _
  apply share (fun gN wE => W0.heap.size ≤ gN ∧ wE.heap[gN]? = some (.cells (numA s7) 140 (0, 0)) ∧ Below W0.heap.size W0 wE)
  · intro hT
    refine wp_region_tree _ 11 _ hmx (by kernel_rfl) (by intro c a d v w h; cases d <;> exact h) (snd_pre' (plainLaws _ (by intro c a d v w h; cases d <;> exact h)) (by kernel_rfl) 5 [(0, 0), (1, 0), (2, 0), (3, 1), (4, 1), (6, 1), (8, 0)] _ (by kernel_rfl) (snd_fork (plainLaws _ (by intro c a d v w h; cases d <;> exact h)) 5 10 4 _ (by kernel_rfl) (snd_pre' (plainLaws _ (by intro c a d v w h; cases d <;> exact h)) (by kernel_rfl) 4 [] _ (by kernel_rfl) (snd_fork (plainLaws _ (by intro c a d v w h; cases d <;> exact h)) 7 10 3 _ (by kernel_rfl) (snd_pre' (plainLaws _ (by intro c a d v w h; cases d <;> exact h)) (by kernel_rfl) 3 [] _ (by kernel_rfl) (snd_fork (plainLaws _ (by intro c a d v w h; cases d <;> exact h)) 9 10 2 _ (by kernel_rfl) (snd_plan (plainLaws _ (by intro c a d v w h; cases d <;> exact h)) (by kernel_rfl) [(10, 2), (11, 2)] _ (by kernel_rfl)) (snd_plan (plainLaws _ (by intro c a d v w h; cases d <;> exact h)) (by kernel_rfl) [(9, 2), (11, 2)] _ (by kernel_rfl)))) (snd_plan (plainLaws _ (by intro c a d v w h; cases d <;> exact h)) (by kernel_rfl) [(7, 2), (9, 2), (11, 2)] _ (by kernel_rfl)))) (snd_plan (plainLaws _ (by intro c a d v w h; cases d <;> exact h)) (by kernel_rfl) [(5, 2), (7, 2), (9, 2), (11, 2)] _ (by kernel_rfl)))) ?_
    repeat ((first | (refine wpPlan_pure rfl (fun K hK => ?_)) | (refine wpPlan_quiet rfl (fun K hK => ?_))); go_simp; (first | (refine hK _ ?_) | (simp only [IntWalk.iteOmega]; go_simp; refine hK _ ?_) | (go_bits; go_simp; refine hK _ ?_)); clear hK K; (try go_bits))
    refine forkC_mk rfl rfl rfl rfl (fun K hK => ?_) (fun K hK => ?_)
    · go_wp2_with fail
      refine (HM1.out _ hbD).mono ?_
      rintro e w1 ⟨rfl, hcw1⟩
      have hbw1 : Below W0.heap.size W0 w1 := hbD.trans (hcw1.mono hbD.size)
      go_wp2_with fail
      refine ⟨(ext_of_below hcw1), ?_⟩
      refine forkC_mk rfl rfl rfl rfl (fun K hK => ?_) (fun K hK => ?_)
      · go_wp2_with fail
        refine (HM2.out _ hbw1).mono ?_
        rintro e w2 ⟨rfl, hcw2⟩
        have hbw2 : Below W0.heap.size W0 w2 := hbw1.trans (hcw2.mono hbw1.size)
        go_wp2_with fail
        refine ⟨(ext_of_below hcw2), ?_⟩
        refine forkC_mk rfl rfl rfl rfl (fun K hK => ?_) (fun K hK => ?_)
        · go_wp2_with fail
          refine (HM3.out _ hbw2).mono ?_
          rintro e w3 ⟨rfl, hcw3⟩
          have hbw3 : Below W0.heap.size W0 w3 := hbw2.trans (hcw3.mono hbw2.size)
          go_wp2_with fail
          refine ⟨(ext_of_below hcw3), ?_⟩
          refine wpPlan_loud rfl rfl (fun K hK => ?_)
          go_wp2_with fail
          refine ⟨.inr (ext_alloc _ _), ?_⟩
          obtain ⟨wN, hwN⟩ : ∃ Y, Y = w3.alloc (.cells #[.int .u64 0, .int .u64 0, .int .u64 0, .int .u64 0] 140) := ⟨_, rfl⟩
          rw [← hwN]
          have hbwN : Below W0.heap.size W0 wN := by rw [hwN]; exact hbw3.alloc hbw3.size _
          have gNwN : wN.heap[w3.heap.size]? = some (.cells (numA 0) 140 (0, 0)) := by rw [hwN]; exact heap_alloc_new w3 _
          have hzN : W0.heap.size ≤ w3.heap.size := hbw3.size
          clear hwN
          refine wpPlan_loud rfl rfl (fun K hK => ?_)
          refine wp_store_row 140 (.tmp 9) (.tmp 25) rfl w3.heap.size (numA s7) rfl rfl 140 _ gNwN (by kernel_rfl) rfl (numA_one _) ?_
          refine hK _ _ ⟨.inl (by decide), ?_⟩
          clear hK K
          refine wpPlan_nil ?_
          obtain ⟨wE, hwE⟩ : ∃ wE, wE = wN.setRow w3.heap.size (numA s7) := ⟨_, rfl⟩
          obtain ⟨gE, hgE⟩ : ∃ gE, gE = w3.heap.size := ⟨_, rfl⟩
          rw [← hwE, ← hgE]
          have hf : W0.heap.size ≤ gE ∧ wE.heap[gE]? = some (.cells (numA s7) 140 (0, 0)) ∧ Below W0.heap.size W0 wE := ⟨by rw [hgE]; exact hzN, by rw [hwE, hgE]; exact setRow_heap _ _ _ _ _ _ gNwN, by rw [hwE]; exact below_setRow' hbwN hzN _⟩
          clear hwE hgE
          exact hT gE wE hf
        · go_wp2_with fail
          refine ⟨(ext_alloc _ _), ?_⟩
          obtain ⟨wN0, hwN0⟩ : ∃ Y, Y = w2.alloc (.cells #[.int .u64 0, .int .u64 0, .int .u64 0, .int .u64 0] 140) := ⟨_, rfl⟩
          rw [← hwN0]
          have hbwN0 : Below W0.heap.size W0 wN0 := by rw [hwN0]; exact hbw2.alloc hbw2.size _
          have gNwN0 : wN0.heap[w2.heap.size]? = some (.cells (numA 0) 140 (0, 0)) := by rw [hwN0]; exact heap_alloc_new w2 _
          have hzN : W0.heap.size ≤ w2.heap.size := hbw2.size
          clear hwN0
          refine wpPlan_loud rfl rfl (fun K hK => ?_)
          go_wp2_with fail
          refine (HM3.out _ hbwN0).mono ?_
          rintro e wN3 ⟨rfl, hcwN3⟩
          have hbwN3 : Below W0.heap.size W0 wN3 := hbwN0.trans (hcwN3.mono hbwN0.size)
          have gNwN3 := (hcwN3.block _ (Array.getElem?_eq_some_iff.1 gNwN0).1).trans gNwN0
          go_wp2_with fail
          refine ⟨.inr (ext_of_below hcwN3), ?_⟩
          refine wpPlan_loud rfl rfl (fun K hK => ?_)
          refine wp_store_row 140 (.tmp 9) (.tmp 25) rfl w2.heap.size (numA s7) rfl rfl 140 _ gNwN3 (by kernel_rfl) rfl (numA_one _) ?_
          refine hK _ _ ⟨.inl (by decide), ?_⟩
          clear hK K
          refine wpPlan_nil ?_
          obtain ⟨wE, hwE⟩ : ∃ wE, wE = wN3.setRow w2.heap.size (numA s7) := ⟨_, rfl⟩
          obtain ⟨gE, hgE⟩ : ∃ gE, gE = w2.heap.size := ⟨_, rfl⟩
          rw [← hwE, ← hgE]
          have hf : W0.heap.size ≤ gE ∧ wE.heap[gE]? = some (.cells (numA s7) 140 (0, 0)) ∧ Below W0.heap.size W0 wE := ⟨by rw [hgE]; exact hzN, by rw [hwE, hgE]; exact setRow_heap _ _ _ _ _ _ gNwN3, by rw [hwE]; exact below_setRow' hbwN3 hzN _⟩
          clear hwE hgE
          exact hT gE wE hf
      · go_wp2_with fail
        refine ⟨(ext_alloc _ _), ?_⟩
        obtain ⟨wN0, hwN0⟩ : ∃ Y, Y = w1.alloc (.cells #[.int .u64 0, .int .u64 0, .int .u64 0, .int .u64 0] 140) := ⟨_, rfl⟩
        rw [← hwN0]
        have hbwN0 : Below W0.heap.size W0 wN0 := by rw [hwN0]; exact hbw1.alloc hbw1.size _
        have gNwN0 : wN0.heap[w1.heap.size]? = some (.cells (numA 0) 140 (0, 0)) := by rw [hwN0]; exact heap_alloc_new w1 _
        have hzN : W0.heap.size ≤ w1.heap.size := hbw1.size
        clear hwN0
        refine wpPlan_loud rfl rfl (fun K hK => ?_)
        go_wp2_with fail
        refine (HM2.out _ hbwN0).mono ?_
        rintro e wN2 ⟨rfl, hcwN2⟩
        have hbwN2 : Below W0.heap.size W0 wN2 := hbwN0.trans (hcwN2.mono hbwN0.size)
        have gNwN2 := (hcwN2.block _ (Array.getElem?_eq_some_iff.1 gNwN0).1).trans gNwN0
        go_wp2_with fail
        refine ⟨.inr (ext_of_below hcwN2), ?_⟩
        refine wpPlan_loud rfl rfl (fun K hK => ?_)
        go_wp2_with fail
        refine (HM3.out _ hbwN2).mono ?_
        rintro e wN3 ⟨rfl, hcwN3⟩
        have hbwN3 : Below W0.heap.size W0 wN3 := hbwN2.trans (hcwN3.mono hbwN2.size)
        have gNwN3 := (hcwN3.block _ (Array.getElem?_eq_some_iff.1 gNwN2).1).trans gNwN2
        go_wp2_with fail
        refine ⟨.inr (ext_of_below hcwN3), ?_⟩
        refine wpPlan_loud rfl rfl (fun K hK => ?_)
        refine wp_store_row 140 (.tmp 9) (.tmp 25) rfl w1.heap.size (numA s7) rfl rfl 140 _ gNwN3 (by kernel_rfl) rfl (numA_one _) ?_
        refine hK _ _ ⟨.inl (by decide), ?_⟩
        clear hK K
        refine wpPlan_nil ?_
        obtain ⟨wE, hwE⟩ : ∃ wE, wE = wN3.setRow w1.heap.size (numA s7) := ⟨_, rfl⟩
        obtain ⟨gE, hgE⟩ : ∃ gE, gE = w1.heap.size := ⟨_, rfl⟩
        rw [← hwE, ← hgE]
        have hf : W0.heap.size ≤ gE ∧ wE.heap[gE]? = some (.cells (numA s7) 140 (0, 0)) ∧ Below W0.heap.size W0 wE := ⟨by rw [hgE]; exact hzN, by rw [hwE, hgE]; exact setRow_heap _ _ _ _ _ _ gNwN3, by rw [hwE]; exact below_setRow' hbwN3 hzN _⟩
        clear hwE hgE
        exact hT gE wE hf
    · go_wp2_with fail
      refine ⟨(ext_alloc _ _), ?_⟩
      obtain ⟨wN0, hwN0⟩ : ∃ Y, Y = (W0.alloc (.cells #[.int .u64 0, .int .u64 0, .int .u64 0, .int .u64 0] 140)).drew := ⟨_, rfl⟩
      rw [← hwN0]
      have hbwN0 : Below W0.heap.size W0 wN0 := by rw [hwN0]; exact ((Below.refl _ W0).alloc (Nat.le_refl _) _).drew
      have gNwN0 : wN0.heap[W0.heap.size]? = some (.cells (numA 0) 140 (0, 0)) := by rw [hwN0]; exact heap_alloc_new W0 _
      have hzN : W0.heap.size ≤ W0.heap.size := Nat.le_refl _
      clear hwN0
      refine wpPlan_loud rfl rfl (fun K hK => ?_)
      go_wp2_with fail
      refine (HM1.out _ hbwN0).mono ?_
      rintro e wN1 ⟨rfl, hcwN1⟩
      have hbwN1 : Below W0.heap.size W0 wN1 := hbwN0.trans (hcwN1.mono hbwN0.size)
      have gNwN1 := (hcwN1.block _ (Array.getElem?_eq_some_iff.1 gNwN0).1).trans gNwN0
      go_wp2_with fail
      refine ⟨.inr (ext_of_below hcwN1), ?_⟩
      refine wpPlan_loud rfl rfl (fun K hK => ?_)
      go_wp2_with fail
      refine (HM2.out _ hbwN1).mono ?_
      rintro e wN2 ⟨rfl, hcwN2⟩
      have hbwN2 : Below W0.heap.size W0 wN2 := hbwN1.trans (hcwN2.mono hbwN1.size)
      have gNwN2 := (hcwN2.block _ (Array.getElem?_eq_some_iff.1 gNwN1).1).trans gNwN1
      go_wp2_with fail
      refine ⟨.inr (ext_of_below hcwN2), ?_⟩
      refine wpPlan_loud rfl rfl (fun K hK => ?_)
      go_wp2_with fail
      refine (HM3.out _ hbwN2).mono ?_
      rintro e wN3 ⟨rfl, hcwN3⟩
      have hbwN3 : Below W0.heap.size W0 wN3 := hbwN2.trans (hcwN3.mono hbwN2.size)
      have gNwN3 := (hcwN3.block _ (Array.getElem?_eq_some_iff.1 gNwN2).1).trans gNwN2
      go_wp2_with fail
      refine ⟨.inr (ext_of_below hcwN3), ?_⟩
      refine wpPlan_loud rfl rfl (fun K hK => ?_)
      refine wp_store_row 140 (.tmp 9) (.tmp 25) rfl W0.heap.size (numA s7) rfl rfl 140 _ gNwN3 (by kernel_rfl) rfl (numA_one _) ?_
      refine hK _ _ ⟨.inl (by decide), ?_⟩
      clear hK K
      refine wpPlan_nil ?_
      obtain ⟨wE, hwE⟩ : ∃ wE, wE = wN3.setRow W0.heap.size (numA s7) := ⟨_, rfl⟩
      obtain ⟨gE, hgE⟩ : ∃ gE, gE = W0.heap.size := ⟨_, rfl⟩
      rw [← hwE, ← hgE]
      have hf : W0.heap.size ≤ gE ∧ wE.heap[gE]? = some (.cells (numA s7) 140 (0, 0)) ∧ Below W0.heap.size W0 wE := ⟨by rw [hgE]; exact hzN, by rw [hwE, hgE]; exact setRow_heap _ _ _ _ _ _ gNwN3, by rw [hwE]; exact below_setRow' hbwN3 hzN _⟩
      clear hwE hgE
      exact hT gE wE hf
  rintro gS W1 ⟨hgS, gS1, hb1⟩
  clear x0 x1 x2 x3 HM1 HM2 HM3
  obtain ⟨f0, f1, f2, f3⟩ := (HF0.out.below hb1 hgW).m
  obtain ⟨r1, hr1⟩ : ∃ r, r = (fieldP + 1) % 2 ^ 256 := ⟨_, rfl⟩
  have HP1 : Hid (Calls Tryz.prog 176 #[.agg (numA fieldP), .agg #[.int .u64 1, .int .u64 0, .int .u64 0, .int .u64 0]] W1 fun e W' => e = .returned (.tuple #[.agg (numA r1), .int .u64 (((fieldP + 1) / 2 ^ 256 : Nat) : Int)]) ∧ Below W1.heap.size W1 W') :=
    Lib.hid (by rw [hr1]; exact nplus_any fieldP 1 fieldP_lt (by decide) W1)
  have Hr1 := Lib.hid hr1
  clear hr1
  have GS := Lib.hid gS1
  have HlS := Lib.hid (Array.getElem?_eq_some_iff.1 gS1).1
  have HgS := Lib.hid hgS
  clear gS1 hgS
  go_wp2_with fail
  refine HP1.out.mono ?_
  rintro e w2 ⟨rfl, hb2⟩
  have hbW2 := hb1.trans (hb2.mono hb1.size)
  have gS2 := (hb2.block gS HlS.out).trans GS.out
  have hlt2 : gS < w2.heap.size := Nat.lt_of_lt_of_le HlS.out hb2.size
  clear hb2 GS HlS HP1 f0 f1 f2 f3
  go_wp2_with (refine wpList_store_row rfl 140 (.tmp 10) (.tmp 33) rfl w2.heap.size (numA r1) rfl rfl 140 _ (heap_alloc_new w2 _) (by kernel_rfl) rfl (numA_one _) ?_; rw [World.setRow_alloc_new]; obtain ⟨W3, hW3⟩ : ∃ W3, W3 = w2.alloc (.cells (numA r1) 140) := ⟨_, rfl⟩; rw [← hW3]; obtain ⟨gT, hgT⟩ : ∃ gT, gT = w2.heap.size := ⟨_, rfl⟩; rw [← hgT]; have gS3 : W3.heap[gS]? = some (.cells (numA s7) 140 (0, 0)) := (by rw [hW3]; exact rowOld gS2); have gT3 : W3.heap[gT]? = some (.cells (numA r1) 140 (0, 0)) := (by rw [hW3, hgT]; exact heap_alloc_new w2 _); have hb3 : Below W0.heap.size W0 W3 := (by rw [hW3]; exact hbW2.alloc hbW2.size _); clear hW3 hgT hbW2 gS2 hlt2)
  obtain ⟨h1, hh1⟩ : ∃ h, h = r1 / 2 := ⟨_, rfl⟩
  obtain ⟨h2, hh2⟩ : ∃ h, h = h1 / 2 := ⟨_, rfl⟩
  obtain ⟨y, hy⟩ : ∃ y, y = pw fieldP s7 h2 := ⟨_, rfl⟩
  have hr256 : r1 < 2 ^ 256 := by rw [Hr1.out]; exact Nat.mod_lt _ (by decide)
  have hg3 : g < W3.heap.size := Nat.lt_of_lt_of_le hgW hb3.size
  have HF3 := Lib.hid (HF0.out.below hb3 hgW)
  have HN1 : Hid (∀ X, Below W3.heap.size W3 X → Calls Tryz.prog 178 #[.agg (numA r1), .int .u64 0] X fun e W' => e = .returned (.agg (numA h1)) ∧ Below X.heap.size X W') :=
    Lib.hid fun X hX => by rw [hh1]; exact nhalf_any r1 hr256 X
  have HN2 : Hid (∀ X, Below W3.heap.size W3 X → Calls Tryz.prog 178 #[.agg (numA h1), .int .u64 0] X fun e W' => e = .returned (.agg (numA h2)) ∧ Below X.heap.size X W') :=
    Lib.hid fun X hX => by rw [hh2]; exact nhalf_any h1 (by omega) X
  have HN3 : Hid (∀ X, Below W3.heap.size W3 X → Calls Tryz.prog 177 #[.pointer (some ⟨g, 0, none⟩), .agg (numA s7), .agg (numA h2)] X fun e W' => e = .returned (.agg (numA y)) ∧ Below X.heap.size X W') :=
    Lib.hid fun X hX => by rw [hy]; exact fpow_any g 0 fieldP dP isFieldP fieldP_lt isFieldP1 s7 h2 (Nat.lt_trans Ls7.out fieldP_lt) X (HF3.out.below hX hg3)
  have Hy : Hid (y = rootP x) := Lib.hid (by rw [hy, hh2, hh1, Hr1.out, Hs7.out]; exact congrArg _ (by decide +kernel))
  have Ly : Hid (y < fieldP) := Lib.hid (by rw [hy]; exact pwB_lt fieldP s7 h2 isFieldP1 256)
  clear hh1 hh2 hy hr256
  obtain ⟨s0, s1, s2, s3⟩ := cells4 gS3
  obtain ⟨t0, t1, t2, t3⟩ := cells4 gT3
  have HlS := Lib.hid (Array.getElem?_eq_some_iff.1 gS3).1
  have GS := Lib.hid gS3
  clear gS3 gT3
  have hbD : Below W3.heap.size W3 W3.drew := (Below.refl _ _).drew
  have hbW3 : Below W3.heap.size W3 W3 := Below.refl _ _
  apply share (fun gN wE => W3.heap.size ≤ gN ∧ wE.heap[gN]? = some (.cells (numA y) 140 (0, 0)) ∧ Below W3.heap.size W3 wE)
  · intro hT
    refine wp_region_tree _ 7 _ hmx (by kernel_rfl) (by intro c a d v w h; cases d <;> exact h) (snd_pre' (plainLaws _ (by intro c a d v w h; cases d <;> exact h)) (by kernel_rfl) 5 [(0, 0), (1, 1), (2, 1)] _ (by kernel_rfl) (snd_fork (plainLaws _ (by intro c a d v w h; cases d <;> exact h)) 3 6 4 _ (by kernel_rfl) (snd_pre' (plainLaws _ (by intro c a d v w h; cases d <;> exact h)) (by kernel_rfl) 4 [] _ (by kernel_rfl) (snd_fork (plainLaws _ (by intro c a d v w h; cases d <;> exact h)) 4 6 3 _ (by kernel_rfl) (snd_pre' (plainLaws _ (by intro c a d v w h; cases d <;> exact h)) (by kernel_rfl) 3 [] _ (by kernel_rfl) (snd_fork (plainLaws _ (by intro c a d v w h; cases d <;> exact h)) 5 6 2 _ (by kernel_rfl) (snd_plan (plainLaws _ (by intro c a d v w h; cases d <;> exact h)) (by kernel_rfl) [(6, 2), (7, 2)] _ (by kernel_rfl)) (snd_plan (plainLaws _ (by intro c a d v w h; cases d <;> exact h)) (by kernel_rfl) [(5, 2), (7, 2)] _ (by kernel_rfl)))) (snd_plan (plainLaws _ (by intro c a d v w h; cases d <;> exact h)) (by kernel_rfl) [(4, 2), (5, 2), (7, 2)] _ (by kernel_rfl)))) (snd_plan (plainLaws _ (by intro c a d v w h; cases d <;> exact h)) (by kernel_rfl) [(3, 2), (4, 2), (5, 2), (7, 2)] _ (by kernel_rfl)))) ?_
    repeat ((first | (refine wpPlan_pure rfl (fun K hK => ?_)) | (refine wpPlan_quiet rfl (fun K hK => ?_))); go_simp; (first | (refine hK _ ?_) | (simp only [IntWalk.iteOmega]; go_simp; refine hK _ ?_) | (go_bits; go_simp; refine hK _ ?_)); clear hK K; (try go_bits))
    refine forkC_mk rfl rfl rfl rfl (fun K hK => ?_) (fun K hK => ?_)
    · go_wp2_with fail
      refine (HN1.out _ hbD).mono ?_
      rintro e w1 ⟨rfl, hcw1⟩
      have hbw1 : Below W3.heap.size W3 w1 := hbD.trans (hcw1.mono hbD.size)
      go_wp2_with fail
      refine ⟨(ext_of_below hcw1), ?_⟩
      refine forkC_mk rfl rfl rfl rfl (fun K hK => ?_) (fun K hK => ?_)
      · go_wp2_with fail
        refine (HN2.out _ hbw1).mono ?_
        rintro e w2 ⟨rfl, hcw2⟩
        have hbw2 : Below W3.heap.size W3 w2 := hbw1.trans (hcw2.mono hbw1.size)
        go_wp2_with fail
        refine ⟨(ext_of_below hcw2), ?_⟩
        refine forkC_mk rfl rfl rfl rfl (fun K hK => ?_) (fun K hK => ?_)
        · go_wp2_with fail
          refine (HN3.out _ hbw2).mono ?_
          rintro e w3 ⟨rfl, hcw3⟩
          have hbw3 : Below W3.heap.size W3 w3 := hbw2.trans (hcw3.mono hbw2.size)
          go_wp2_with fail
          refine ⟨(ext_of_below hcw3), ?_⟩
          refine wpPlan_loud rfl rfl (fun K hK => ?_)
          go_wp2_with fail
          refine ⟨.inr (ext_alloc _ _), ?_⟩
          obtain ⟨wN, hwN⟩ : ∃ Y, Y = w3.alloc (.cells #[.int .u64 0, .int .u64 0, .int .u64 0, .int .u64 0] 140) := ⟨_, rfl⟩
          rw [← hwN]
          have hbwN : Below W3.heap.size W3 wN := by rw [hwN]; exact hbw3.alloc hbw3.size _
          have gNwN : wN.heap[w3.heap.size]? = some (.cells (numA 0) 140 (0, 0)) := by rw [hwN]; exact heap_alloc_new w3 _
          have hzN : W3.heap.size ≤ w3.heap.size := hbw3.size
          clear hwN
          refine wpPlan_loud rfl rfl (fun K hK => ?_)
          refine wp_store_row 140 (.tmp 12) (.tmp 40) rfl w3.heap.size (numA y) rfl rfl 140 _ gNwN (by kernel_rfl) rfl (numA_one _) ?_
          refine hK _ _ ⟨.inl (by decide), ?_⟩
          clear hK K
          refine wpPlan_nil ?_
          obtain ⟨wE, hwE⟩ : ∃ wE, wE = wN.setRow w3.heap.size (numA y) := ⟨_, rfl⟩
          obtain ⟨gE, hgE⟩ : ∃ gE, gE = w3.heap.size := ⟨_, rfl⟩
          rw [← hwE, ← hgE]
          have hf : W3.heap.size ≤ gE ∧ wE.heap[gE]? = some (.cells (numA y) 140 (0, 0)) ∧ Below W3.heap.size W3 wE := ⟨by rw [hgE]; exact hzN, by rw [hwE, hgE]; exact setRow_heap _ _ _ _ _ _ gNwN, by rw [hwE]; exact below_setRow' hbwN hzN _⟩
          clear hwE hgE
          exact hT gE wE hf
        · go_wp2_with fail
          refine ⟨(ext_alloc _ _), ?_⟩
          obtain ⟨wN0, hwN0⟩ : ∃ Y, Y = w2.alloc (.cells #[.int .u64 0, .int .u64 0, .int .u64 0, .int .u64 0] 140) := ⟨_, rfl⟩
          rw [← hwN0]
          have hbwN0 : Below W3.heap.size W3 wN0 := by rw [hwN0]; exact hbw2.alloc hbw2.size _
          have gNwN0 : wN0.heap[w2.heap.size]? = some (.cells (numA 0) 140 (0, 0)) := by rw [hwN0]; exact heap_alloc_new w2 _
          have hzN : W3.heap.size ≤ w2.heap.size := hbw2.size
          clear hwN0
          refine wpPlan_loud rfl rfl (fun K hK => ?_)
          go_wp2_with fail
          refine (HN3.out _ hbwN0).mono ?_
          rintro e wN3 ⟨rfl, hcwN3⟩
          have hbwN3 : Below W3.heap.size W3 wN3 := hbwN0.trans (hcwN3.mono hbwN0.size)
          have gNwN3 := (hcwN3.block _ (Array.getElem?_eq_some_iff.1 gNwN0).1).trans gNwN0
          go_wp2_with fail
          refine ⟨.inr (ext_of_below hcwN3), ?_⟩
          refine wpPlan_loud rfl rfl (fun K hK => ?_)
          refine wp_store_row 140 (.tmp 12) (.tmp 40) rfl w2.heap.size (numA y) rfl rfl 140 _ gNwN3 (by kernel_rfl) rfl (numA_one _) ?_
          refine hK _ _ ⟨.inl (by decide), ?_⟩
          clear hK K
          refine wpPlan_nil ?_
          obtain ⟨wE, hwE⟩ : ∃ wE, wE = wN3.setRow w2.heap.size (numA y) := ⟨_, rfl⟩
          obtain ⟨gE, hgE⟩ : ∃ gE, gE = w2.heap.size := ⟨_, rfl⟩
          rw [← hwE, ← hgE]
          have hf : W3.heap.size ≤ gE ∧ wE.heap[gE]? = some (.cells (numA y) 140 (0, 0)) ∧ Below W3.heap.size W3 wE := ⟨by rw [hgE]; exact hzN, by rw [hwE, hgE]; exact setRow_heap _ _ _ _ _ _ gNwN3, by rw [hwE]; exact below_setRow' hbwN3 hzN _⟩
          clear hwE hgE
          exact hT gE wE hf
      · go_wp2_with fail
        refine ⟨(ext_alloc _ _), ?_⟩
        obtain ⟨wN0, hwN0⟩ : ∃ Y, Y = w1.alloc (.cells #[.int .u64 0, .int .u64 0, .int .u64 0, .int .u64 0] 140) := ⟨_, rfl⟩
        rw [← hwN0]
        have hbwN0 : Below W3.heap.size W3 wN0 := by rw [hwN0]; exact hbw1.alloc hbw1.size _
        have gNwN0 : wN0.heap[w1.heap.size]? = some (.cells (numA 0) 140 (0, 0)) := by rw [hwN0]; exact heap_alloc_new w1 _
        have hzN : W3.heap.size ≤ w1.heap.size := hbw1.size
        clear hwN0
        refine wpPlan_loud rfl rfl (fun K hK => ?_)
        go_wp2_with fail
        refine (HN2.out _ hbwN0).mono ?_
        rintro e wN2 ⟨rfl, hcwN2⟩
        have hbwN2 : Below W3.heap.size W3 wN2 := hbwN0.trans (hcwN2.mono hbwN0.size)
        have gNwN2 := (hcwN2.block _ (Array.getElem?_eq_some_iff.1 gNwN0).1).trans gNwN0
        go_wp2_with fail
        refine ⟨.inr (ext_of_below hcwN2), ?_⟩
        refine wpPlan_loud rfl rfl (fun K hK => ?_)
        go_wp2_with fail
        refine (HN3.out _ hbwN2).mono ?_
        rintro e wN3 ⟨rfl, hcwN3⟩
        have hbwN3 : Below W3.heap.size W3 wN3 := hbwN2.trans (hcwN3.mono hbwN2.size)
        have gNwN3 := (hcwN3.block _ (Array.getElem?_eq_some_iff.1 gNwN2).1).trans gNwN2
        go_wp2_with fail
        refine ⟨.inr (ext_of_below hcwN3), ?_⟩
        refine wpPlan_loud rfl rfl (fun K hK => ?_)
        refine wp_store_row 140 (.tmp 12) (.tmp 40) rfl w1.heap.size (numA y) rfl rfl 140 _ gNwN3 (by kernel_rfl) rfl (numA_one _) ?_
        refine hK _ _ ⟨.inl (by decide), ?_⟩
        clear hK K
        refine wpPlan_nil ?_
        obtain ⟨wE, hwE⟩ : ∃ wE, wE = wN3.setRow w1.heap.size (numA y) := ⟨_, rfl⟩
        obtain ⟨gE, hgE⟩ : ∃ gE, gE = w1.heap.size := ⟨_, rfl⟩
        rw [← hwE, ← hgE]
        have hf : W3.heap.size ≤ gE ∧ wE.heap[gE]? = some (.cells (numA y) 140 (0, 0)) ∧ Below W3.heap.size W3 wE := ⟨by rw [hgE]; exact hzN, by rw [hwE, hgE]; exact setRow_heap _ _ _ _ _ _ gNwN3, by rw [hwE]; exact below_setRow' hbwN3 hzN _⟩
        clear hwE hgE
        exact hT gE wE hf
    · go_wp2_with fail
      refine ⟨(ext_alloc _ _), ?_⟩
      obtain ⟨wN0, hwN0⟩ : ∃ Y, Y = (W3.alloc (.cells #[.int .u64 0, .int .u64 0, .int .u64 0, .int .u64 0] 140)).drew := ⟨_, rfl⟩
      rw [← hwN0]
      have hbwN0 : Below W3.heap.size W3 wN0 := by rw [hwN0]; exact ((Below.refl _ W3).alloc (Nat.le_refl _) _).drew
      have gNwN0 : wN0.heap[W3.heap.size]? = some (.cells (numA 0) 140 (0, 0)) := by rw [hwN0]; exact heap_alloc_new W3 _
      have hzN : W3.heap.size ≤ W3.heap.size := Nat.le_refl _
      clear hwN0
      refine wpPlan_loud rfl rfl (fun K hK => ?_)
      go_wp2_with fail
      refine (HN1.out _ hbwN0).mono ?_
      rintro e wN1 ⟨rfl, hcwN1⟩
      have hbwN1 : Below W3.heap.size W3 wN1 := hbwN0.trans (hcwN1.mono hbwN0.size)
      have gNwN1 := (hcwN1.block _ (Array.getElem?_eq_some_iff.1 gNwN0).1).trans gNwN0
      go_wp2_with fail
      refine ⟨.inr (ext_of_below hcwN1), ?_⟩
      refine wpPlan_loud rfl rfl (fun K hK => ?_)
      go_wp2_with fail
      refine (HN2.out _ hbwN1).mono ?_
      rintro e wN2 ⟨rfl, hcwN2⟩
      have hbwN2 : Below W3.heap.size W3 wN2 := hbwN1.trans (hcwN2.mono hbwN1.size)
      have gNwN2 := (hcwN2.block _ (Array.getElem?_eq_some_iff.1 gNwN1).1).trans gNwN1
      go_wp2_with fail
      refine ⟨.inr (ext_of_below hcwN2), ?_⟩
      refine wpPlan_loud rfl rfl (fun K hK => ?_)
      go_wp2_with fail
      refine (HN3.out _ hbwN2).mono ?_
      rintro e wN3 ⟨rfl, hcwN3⟩
      have hbwN3 : Below W3.heap.size W3 wN3 := hbwN2.trans (hcwN3.mono hbwN2.size)
      have gNwN3 := (hcwN3.block _ (Array.getElem?_eq_some_iff.1 gNwN2).1).trans gNwN2
      go_wp2_with fail
      refine ⟨.inr (ext_of_below hcwN3), ?_⟩
      refine wpPlan_loud rfl rfl (fun K hK => ?_)
      refine wp_store_row 140 (.tmp 12) (.tmp 40) rfl W3.heap.size (numA y) rfl rfl 140 _ gNwN3 (by kernel_rfl) rfl (numA_one _) ?_
      refine hK _ _ ⟨.inl (by decide), ?_⟩
      clear hK K
      refine wpPlan_nil ?_
      obtain ⟨wE, hwE⟩ : ∃ wE, wE = wN3.setRow W3.heap.size (numA y) := ⟨_, rfl⟩
      obtain ⟨gE, hgE⟩ : ∃ gE, gE = W3.heap.size := ⟨_, rfl⟩
      rw [← hwE, ← hgE]
      have hf : W3.heap.size ≤ gE ∧ wE.heap[gE]? = some (.cells (numA y) 140 (0, 0)) ∧ Below W3.heap.size W3 wE := ⟨by rw [hgE]; exact hzN, by rw [hwE, hgE]; exact setRow_heap _ _ _ _ _ _ gNwN3, by rw [hwE]; exact below_setRow' hbwN3 hzN _⟩
      clear hwE hgE
      exact hT gE wE hf
  rintro gY W4 ⟨hgY, gY4, hb34⟩
  clear HN1 HN2 HN3 s0 s1 s2 s3 t0 t1 t2 t3
  have hb4 := hb3.trans (hb34.mono hb3.size)
  have gS4 := (hb34.block gS HlS.out).trans GS.out
  have hg4 : g < W4.heap.size := Nat.lt_of_lt_of_le hg3 hb34.size
  have HF4 := Lib.hid (HF3.out.below hb34 hg3)
  have hb3z : Hid (B + 2 ≤ gY) := Lib.hid (by have := Hz0.out; have := hb3.size; omega)
  clear HF3 hb34 GS HlS hg3 hb3
  obtain ⟨yy, hyy⟩ : ∃ yy, yy = y * y % fieldP := ⟨_, rfl⟩
  have hy256 : y < 2 ^ 256 := Nat.lt_trans Ly.out fieldP_lt
  have HMy : Hid (∀ X, Below W4.heap.size W4 X → Calls Tryz.prog 175 #[.pointer (some ⟨g, 0, none⟩), .agg (numA y), .agg (numA y)] X fun e W' => e = .returned (.agg (numA yy)) ∧ Below X.heap.size X W') :=
    Lib.hid fun X hX => by rw [hyy]; exact fmul_full g 0 fieldP dP isFieldP fieldP_lt y y hy256 hy256 X (HF4.out.below hX hg4)
  have hEq : ∀ ww, (Op.equalIn 10000 140 (.agg (numA yy)) (.agg #[.int .u64 (dw s7 0 : Nat), .int .u64 (dw s7 1 : Nat), .int .u64 (dw s7 2 : Nat), .int .u64 (dw s7 3 : Nat)])).run Tryz.prog ww = .ok (decide (yy = s7)) ww := fun ww => eq_num yy s7 (by rw [hyy]; exact Nat.lt_trans (Nat.mod_lt _ (Nat.lt_trans Nat.one_pos isFieldP1)) fieldP_lt) (Nat.lt_trans Ls7.out fieldP_lt) ww
  have Hon : Hid (onCurve x = decide (yy = s7)) := Lib.hid (by rw [hyy, Hy.out, Hs7.out]; rfl)
  clear hyy
  obtain ⟨s0, s1, s2, s3⟩ := cells4 gS4
  obtain ⟨y0, y1, y2, y3⟩ := cells4 gY4
  have HlY := Lib.hid (Array.getElem?_eq_some_iff.1 gY4).1
  have GY := Lib.hid gY4
  clear gS4 gY4
  go_wp2_with fail
  refine wp_region_plan [(0, 0), (1, 1), (2, 1), (4, 1), (3, 2), (5, 0)] 6 hmx (by kernel_rfl) (by intro c a d v w h; cases d <;> exact h) ?_
  repeat ((first | (refine wpPlan_pure rfl (fun K hK => ?_)) | (refine wpPlan_quiet rfl (fun K hK => ?_))); go_simp; (first | (refine hK _ ?_) | (simp only [IntWalk.iteOmega]; go_simp; refine hK _ ?_) | (go_bits; go_simp; refine hK _ ?_)); clear hK K; (try go_bits))
  refine wpPlan_loud rfl rfl (fun K hK => ?_)
  go_wp2_with fail
  refine (HMy.out _ (Below.refl _ _).drew).mono ?_
  rintro e w5 ⟨rfl, hc5⟩
  have hb5 : Below W4.heap.size W4 w5 := (Below.refl _ _).drew.trans (hc5.mono (Nat.le_refl _))
  go_wp2_with fail
  refine ⟨.inr (ext_of_below hc5), ?_⟩
  repeat ((first | (refine wpPlan_pure rfl (fun K hK => ?_)) | (refine wpPlan_quiet rfl (fun K hK => ?_))); go_simp; (first | (refine hK _ ?_) | (simp only [IntWalk.iteOmega]; go_simp; refine hK _ ?_) | (go_bits; go_simp; refine hK _ ?_)); clear hK K; (try go_bits))
  refine wpPlan_nil ?_
  clear HMy hEq s0 s1 s2 s3 y1 y2 y3
  have hb05 := hb4.trans (hb5.mono hb4.size)
  have hBW : B < W0.heap.size := by have := Hz0.out; omega
  have hB1W : B + 1 < W0.heap.size := by have := Hz0.out; omega
  have GX5 := Lib.hid ((hb05.block B hBW).trans GX.out)
  have GR5 := Lib.hid ((hb05.block (B + 1) hB1W).trans GR.out)
  have GY5 := Lib.hid ((hb5.block gY HlY.out).trans GY.out)
  have z0 := (hb5.cell (p := ⟨gY, 0, none⟩) HlY.out).trans y0
  have hbw5 := hb0.trans (hb05.mono (by have := HB.out; omega))
  have hYB : gY ≠ B + 1 := by have := hb3z.out; omega
  have hYB0 : gY ≠ B := by have := hb3z.out; omega
  have HF5 := Lib.hid (HF4.out.below hb5 hg4)
  clear y0 hb5 hb05 hb4 GX GR GY hc5
  by_cases hE : yy = s7
  · rw [decide_eq_true hE]
    obtain ⟨yw, hyw⟩ : ∃ yw, yw = dw y 0 := ⟨_, rfl⟩
    rw [← hyw] at z0
    obtain ⟨bb, hbb⟩ : ∃ bb : Nat, bits .and .u64 (yw : Int) 1 = (bb : Int) := ⟨yw &&& 1, bits_and_u64_nat yw 1 (by rw [hyw]; exact dw_lt _ _) (by decide)⟩
    clear hyw
    by_cases hodd : bb = odd
    · subst hodd
      go_wp2_with (first | (refine wpList_load_row rfl 140 (.tmp 4) rfl B rfl 140 #[.int .u64 (dw x 0 : Nat), .int .u64 (dw x 1 : Nat), .int .u64 (dw x 2 : Nat), .int .u64 (dw x 3 : Nat)] (0, 0) _ GX5.out Tryz.underlying140 rfl (by kernel_rfl) ?_) | (refine wpList_load_row rfl 140 (.tmp 12) rfl gY rfl 140 #[.int .u64 (dw y 0 : Nat), .int .u64 (dw y 1 : Nat), .int .u64 (dw y 2 : Nat), .int .u64 (dw y 3 : Nat)] (0, 0) _ GY5.out Tryz.underlying140 rfl (by kernel_rfl) ?_) | (refine wpList_store_row rfl 142 (.tmp 6) (.tmp 59) rfl (B + 1) (pt12 x y) rfl rfl 142 _ GR5.out (by kernel_rfl) rfl (pt12_one _ _) ?_))
      refine bodyPost_ret (v := .tuple #[.agg (pt12 x y), .bool true]) ?_ rfl ⟨_, by rw [Hon.out, decide_eq_true hE], rfl, pt12_one _ _, below_setRow' hbw5 (by have := HB.out; omega) _⟩
      exact results_row_tmp rfl _ _ (B + 1) 142 (pt12 x y) (0, 0) _ rfl (setRow_heap _ _ _ _ _ _ GR5.out) _ rfl Tryz.underlying142 rfl (by kernel_rfl)
    · have hodI : ¬ ((bb : Int) = (odd : Int)) := by omega
      obtain ⟨yn, hyn⟩ : ∃ yn, yn = (fieldP - y) % fieldP := ⟨_, rfl⟩
      have HNg : Hid (Calls Tryz.prog 179 #[.pointer (some ⟨g, 0, none⟩), .agg (numA y)] w5 fun e W' => e = .returned (.agg (numA yn)) ∧ Below w5.heap.size w5 W') :=
        Lib.hid (by rw [hyn]; exact fneg_any g 0 fieldP dP y Ly.out fieldP_lt w5 HF5.out)
      have HlX5 := Lib.hid (Array.getElem?_eq_some_iff.1 GX5.out).1
      have HlR5 := Lib.hid (Array.getElem?_eq_some_iff.1 GR5.out).1
      have HlY5 := Lib.hid (Array.getElem?_eq_some_iff.1 GY5.out).1
      clear hyn
      go_wp2_with (refine wpList_load_row rfl 140 (.tmp 12) rfl gY rfl 140 (numA y) (0, 0) _ GY5.out Tryz.underlying140 rfl (by kernel_rfl) ?_)
      refine HNg.out.mono ?_
      rintro e w6 ⟨rfl, hb6⟩
      have gX6 := (hb6.block B HlX5.out).trans GX5.out
      have gR6 := (hb6.block (B + 1) HlR5.out).trans GR5.out
      have gY6 := (hb6.block gY HlY5.out).trans GY5.out
      have hbw6 := hbw5.trans (hb6.mono hbw5.size)
      clear z0 hb6 HNg HlX5 HlR5 HlY5
      go_wp2_with (first | (refine wpList_store_rowW rfl 140 (.tmp 12) (.tmp 55) rfl rfl gY (numA yn) rfl rfl 140 _ gY6 (by kernel_rfl) rfl (numA_one _) ?_; intro w7 gY7 ho7 hbb7; have gX7 := ho7 B _ hYB0.symm gX6; have gR7 := ho7 (B + 1) _ hYB.symm gR6; have hbw7 := hbb7 _ _ (by have := hb3z.out; have := HB.out; omega) hbw6; clear ho7 hbb7 gX6 gR6 gY6) | (refine wpList_load_row rfl 140 (.tmp 4) rfl B rfl 140 #[.int .u64 (dw x 0 : Nat), .int .u64 (dw x 1 : Nat), .int .u64 (dw x 2 : Nat), .int .u64 (dw x 3 : Nat)] (0, 0) _ gX7 Tryz.underlying140 rfl (by kernel_rfl) ?_) | (refine wpList_load_row rfl 140 (.tmp 12) rfl gY rfl 140 #[.int .u64 (dw yn 0 : Nat), .int .u64 (dw yn 1 : Nat), .int .u64 (dw yn 2 : Nat), .int .u64 (dw yn 3 : Nat)] (0, 0) _ gY7 Tryz.underlying140 rfl (by kernel_rfl) ?_) | (refine wpList_store_row rfl 142 (.tmp 6) (.tmp 59) rfl (B + 1) (pt12 x yn) rfl rfl 142 _ gR7 (by kernel_rfl) rfl (pt12_one _ _) ?_))
      refine bodyPost_ret (v := .tuple #[.agg (pt12 x yn), .bool true]) ?_ rfl ⟨_, by rw [Hon.out, decide_eq_true hE], rfl, pt12_one _ _, below_setRow' hbw7 (by have := HB.out; omega) _⟩
      exact results_row_tmp rfl _ _ (B + 1) 142 (pt12 x yn) (0, 0) _ rfl (setRow_heap _ _ _ _ _ _ gR7) _ rfl Tryz.underlying142 rfl (by kernel_rfl)
  · rw [decide_eq_false hE]
    go_wp2_with (refine wpList_store_row rfl 142 (.tmp 6) (.tmp 47) rfl (B + 1) pt0 rfl rfl 142 _ GR5.out (by kernel_rfl) rfl pt0_one ?_)
    refine bodyPost_ret (v := .tuple #[.agg pt0, .bool false]) ?_ rfl ⟨_, by rw [Hon.out, decide_eq_false hE], rfl, pt0_one, below_setRow' hbw5 (by have := HB.out; omega) _⟩
    exact results_row_tmp rfl _ _ (B + 1) 142 pt0 (0, 0) _ rfl (setRow_heap _ _ _ _ _ _ GR5.out) _ rfl Tryz.underlying142 rfl (by kernel_rfl)
end Go.Proofs.YtcjioogololnoaaGreatDoor

/-! curve: unpack, key, Valid, IsPublic. -/
namespace Go.Proofs.YtcjioogololnoaaGreatDoor
open Go.RowKit Go.Shelf

section
variable {P : Program} {ops : Array Oper} {N : Nat}
theorem wpPlan_loudGd {i : Nat} {rest : List (Nat × Nat)} {o : Oper} {a : Act} {w : World} {Q : Exit → Act → World → Prop} (ho : ops[i]? = some o) (hg : Region.wanted o (yielded ops a.tmps) = true)
    (h : ∀ K : Act → World → Prop, (∀ a' w', ((N ≤ i ∨ Ext w w') ∧ wpPlan P ops (Q .normal) (fun i K a w => wpOp P ops Q i K a w) N rest a' w') → K a' w') → o.wp P a w K Q) :
    wpPlan P ops (Q .normal) (fun i K a w => wpOp P ops Q i K a w) N ((i, 2) :: rest) a w := by
  simp only [wpPlan, show ¬ (2 = 0) by decide, show ¬ (2 = 1) by decide, if_false, wpOp, ho, hg, if_true]
  exact .inl (h _ (fun _ _ h => h))
theorem wpPlan_skip {i : Nat} {rest : List (Nat × Nat)} {o : Oper} {a : Act} {w : World} {Q : Exit → Act → World → Prop} (ho : ops[i]? = some o) (hg : Region.wanted o (yielded ops a.tmps) = false)
    (h : wpPlan P ops (Q .normal) (fun i K a w => wpOp P ops Q i K a w) N rest (a.put o.dst undef) w) :
    wpPlan P ops (Q .normal) (fun i K a w => wpOp P ops Q i K a w) N ((i, 2) :: rest) a w := by
  simp only [wpPlan, show ¬ (2 = 0) by decide, show ¬ (2 = 1) by decide, if_false, wpOp, ho, hg, Bool.false_eq_true]
  exact ⟨.inr (Ext.refl _), h⟩
end
theorem andNot1 : ∀ x : Fin 256, bits .andNot .u8 ((x.val : Nat) : Int) 1 = ((x.val - x.val % 2 : Nat) : Int) := by decide +kernel
theorem and1_u8 : ∀ x : Fin 256, bits .and .u8 ((x.val : Nat) : Int) 1 = ((x.val % 2 : Nat) : Int) := by decide +kernel
theorem head23 (h : UInt8) : ((h.toNat - h.toNat % 2 : Nat) = 2) ↔ (h = 2 ∨ h = 3) := by
  have hl := h.toNat_lt
  constructor
  · intro e
    rcases (show h.toNat = 2 ∨ h.toNat = 3 by omega) with e | e
    · left; exact UInt8.toNat_inj.1 (by rw [e]; rfl)
    · right; exact UInt8.toNat_inj.1 (by rw [e]; rfl)
  · rintro (rfl | rfl) <;> rfl

theorem isPub_cons (h : UInt8) (t : List UInt8) : isPub (h :: t) = (decide (t.length = 32) && (decide (h = 2) || decide (h = 3)) && decide (beN t < fieldP) && onCurve (beN t)) := rfl
set_option maxRecDepth 100000 in
set_option exponentiation.threshold 1000 in
set_option maxHeartbeats 4000000 in
theorem unpack_any (g : Nat) (A : Option Addr) (c : Nat) (bs : List UInt8) (hc : bs.length ≤ c) (w : World) (hF : FieldAt w g 0 fieldP dP) (hs : Sl w w.heap.size A (B8 bs)) :
    Calls Tryz.prog 98 #[.pointer (some ⟨g, 0, none⟩), .slice A bs.length c] w fun e W' => ∃ pt : Array Value, e = .returned (.tuple #[.agg pt, .bool (isPub bs)]) ∧ pt.size = 12 ∧ pt.all (·.oneCell') = true ∧ Below w.heap.size w W' := by
  have hmx : Tryz.prog.follows .mixedOrders = true := by kernel_rfl
  have hgw := hF.1
  obtain ⟨P, hP⟩ : ∃ P, P = isPub bs := ⟨_, rfl⟩
  rw [← hP]
  have HP := Lib.hid hP
  obtain ⟨n, hn⟩ : ∃ n, n = bs.length := ⟨_, rfl⟩
  rw [← hn] at hc ⊢
  have Hn := Lib.hid hn
  have Hs := Lib.hid hs
  clear hP hn hs
  by_cases h33 : n = 33
  · subst h33
    have hl33 : bs.length = 33 := Hn.out.symm
    obtain ⟨h, t, hbs⟩ : ∃ h t, bs = h :: t := by
      cases bs with
      | nil => simp at hl33
      | cons h t => exact ⟨h, t, rfl⟩
    subst hbs
    have ht : t.length = 32 := by simpa using hl33
    obtain ⟨b0, o0, rfl, hb0, hcell⟩ := Hs.out.at_ (k := 0) (by simp)
    have c0 : w.cell? ⟨b0, o0, none⟩ = some (.int .u8 (h.toNat : Int)) := hcell 0 (by simp)
    have hst : Sl w w.heap.size (some ⟨b0, o0 + 1, none⟩) (B8 t) := by
      have h1 := Hs.out.cut (k := 1) (m := 32) (cap := c) (by rw [B8_length, hl33]; omega) (by rw [B8_length, hl33]; exact hc)
      rw [if_neg (by omega)] at h1
      have e1 : ((B8 (h :: t)).drop 1).take 32 = B8 t := by
        rw [show (B8 (h :: t)).drop 1 = B8 t from rfl, List.take_of_length_le (by rw [B8_length, ht]; exact Nat.le_refl _)]
      rw [e1] at h1
      exact h1
    have Hst := Lib.hid hst
    obtain ⟨q, hq⟩ : ∃ q : Nat, q = h.toNat - h.toNat % 2 := ⟨_, rfl⟩
    have han : bits .andNot .u8 (h.toNat : Int) 1 = (q : Int) := by rw [hq]; exact andNot1 ⟨h.toNat, h.toNat_lt⟩
    obtain ⟨r, hr⟩ : ∃ r : Nat, r = h.toNat % 2 := ⟨_, rfl⟩
    have ha1 : bits .and .u8 (h.toNat : Int) 1 = (r : Int) := by rw [hr]; exact and1_u8 ⟨h.toNat, h.toNat_lt⟩
    have hwr : IntKind.u64.wrap (r : Int) = (r : Int) := by rw [IntKind.wrap_u64]; omega
    have Hq := Lib.hid hq
    have Ht := Lib.hid ht
    clear hcell hl33 hst hq hr ht
    go_enter Tryz.func98, Tryz.ntmps98
    have hrow := heap_alloc_new w (.cells pt0 142)
    obtain ⟨W0, hW0⟩ : ∃ W0, W0 = w.alloc (.cells pt0 142) := ⟨_, rfl⟩
    rw [← hW0] at hrow
    have hbW0 : Below w.heap.size w W0 := by rw [hW0]; exact (Below.refl _ w).alloc (Nat.le_refl _) _
    have hz0 : W0.heap.size = w.heap.size + 1 := by rw [hW0]; simp
    by_cases hh : q = 2
    · go_wp2_with fail
      refine (show W0 = _ from hW0) ▸ ?_
      clear hW0
      obtain ⟨B, hB⟩ : ∃ B, B = w.heap.size := ⟨_, rfl⟩
      rw [← hB] at hrow hz0 ⊢
      have HB := Lib.hid hB
      have hsW : Sl W0 W0.heap.size (some ⟨b0, o0 + 1, none⟩) (B8 t) := (Hst.out.below hbW0).mono (by omega)
      have HF0 := Lib.hid (hF.below hbW0 hgw)
      have hg0 : g < W0.heap.size := by omega
      have hc0 := (hbW0.cell (p := ⟨b0, o0, none⟩) hb0).trans c0
      have hb00 : b0 < W0.heap.size := by omega
      have Hz0 := Lib.hid hz0
      have Hrow := Lib.hid hrow
      clear hB hz0 hrow c0
      obtain ⟨X, hX⟩ : ∃ X, X = beN t := ⟨_, rfl⟩
      have hX256 : X < 2 ^ 256 := by rw [hX]; exact Nat.lt_of_lt_of_le (beN_lt t) (by rw [Ht.out]; decide)
      have HX := Lib.hid hX
      have HNb := Lib.hid (number_any _ (c - 1) t Ht.out W0 hsW)
      rw [← hX] at HNb
      have HX256 := Lib.hid hX256
      clear hX hsW hX256
      refine HNb.out.mono ?_
      rintro e w1 ⟨rfl, hb1⟩
      go_wp2_with (refine wpList_store_row rfl 140 (.tmp 6) (.tmp 20) rfl w1.heap.size (numA X) rfl rfl 140 _ (heap_alloc_new w1 _) (by kernel_rfl) rfl (numA_one _) ?_; rw [World.setRow_alloc_new]; obtain ⟨W2, hW2⟩ : ∃ W2, W2 = w1.alloc (.cells (numA X) 140) := ⟨_, rfl⟩; rw [← hW2]; obtain ⟨gX, hgX⟩ : ∃ gX, gX = w1.heap.size := ⟨_, rfl⟩; rw [← hgX]; have gX2 : W2.heap[gX]? = some (.cells (numA X) 140 (0, 0)) := (by rw [hW2, hgX]; exact heap_alloc_new w1 _); have hb2 : Below W0.heap.size W0 W2 := (by rw [hW2]; exact hb1.alloc hb1.size _); clear hW2 hgX hb1)
      have HF2 := Lib.hid (HF0.out.below hb2 hg0)
      have hc2 := (hb2.cell (p := ⟨b0, o0, none⟩) hb00).trans hc0
      have hg2 : g < W2.heap.size := Nat.lt_of_lt_of_le hg0 hb2.size
      have hb02 : b0 < W2.heap.size := Nat.lt_of_lt_of_le hb00 hb2.size
      obtain ⟨x0, x1, x2, x3⟩ := cells4 gX2
      have HlX := Lib.hid (Array.getElem?_eq_some_iff.1 gX2).1
      have GX := Lib.hid gX2
      have HBe : Hid (∀ Y, Below W2.heap.size W2 Y → Calls Tryz.prog 139 #[.pointer (some ⟨g, 0, none⟩), .agg (numA X)] Y fun e W' => e = .returned (.bool (decide (X < fieldP))) ∧ Below Y.heap.size Y W') :=
        Lib.hid fun Y hY => fbelow_any g 0 fieldP dP X HX256.out fieldP_lt Y (HF2.out.below hY hg2)
      clear gX2 hc0 HF0 HNb
      refine wp_region_plan [(0, 0), (1, 0), (2, 0), (3, 1), (4, 2), (5, 0)] 6 hmx (by kernel_rfl) (by intro c a d v w h; cases d <;> exact h) ?_
      repeat ((first | (refine wpPlan_pure rfl (fun K hK => ?_)) | (refine wpPlan_quiet rfl (fun K hK => ?_))); go_simp; (first | (refine hK _ ?_) | (simp only [IntWalk.iteOmega]; go_simp; refine hK _ ?_) | (go_bits; go_simp; refine hK _ ?_)); clear hK K; (try go_bits))
      refine wpPlan_loud rfl rfl (fun K hK => ?_)
      go_wp2_with fail
      refine (HBe.out _ (Below.refl _ _).drew).mono ?_
      rintro e w3 ⟨rfl, hc3⟩
      have hb3 : Below W2.heap.size W2 w3 := (Below.refl _ _).drew.trans (hc3.mono (Nat.le_refl _))
      go_wp2_with fail
      refine ⟨.inr (ext_of_below hc3), ?_⟩
      repeat ((first | (refine wpPlan_pure rfl (fun K hK => ?_)) | (refine wpPlan_quiet rfl (fun K hK => ?_))); go_simp; (first | (refine hK _ ?_) | (simp only [IntWalk.iteOmega]; go_simp; refine hK _ ?_) | (go_bits; go_simp; refine hK _ ?_)); clear hK K; (try go_bits))
      refine wpPlan_nil ?_
      have hb03 := hb2.trans (hb3.mono hb2.size)
      have hbw3 := hbW0.trans (hb03.mono (by have := Hz0.out; have := HB.out; omega))
      have GR := Lib.hid ((hb03.block B (by have := Hz0.out; omega)).trans Hrow.out)
      by_cases hXp : X < fieldP
      · rw [decide_eq_true hXp]
        have hPv : P = onCurve X := by
          rw [HP.out, isPub_cons]
          rw [decide_eq_true Ht.out, decide_eq_true (show beN t < fieldP by rw [← HX.out]; exact hXp), ← HX.out]
          rcases (head23 h).1 (by rw [← Hq.out]; exact hh) with e | e <;> simp [e]
        have HPv := Lib.hid hPv
        clear hPv
        have x30 := (hb3.cell (p := ⟨gX, 0, none⟩) HlX.out).trans x0
        have x31 := (hb3.cell (p := ⟨gX, 1, none⟩) HlX.out).trans x1
        have x32 := (hb3.cell (p := ⟨gX, 2, none⟩) HlX.out).trans x2
        have x33 := (hb3.cell (p := ⟨gX, 3, none⟩) HlX.out).trans x3
        have hc30 := (hb3.cell (p := ⟨b0, o0, none⟩) hb02).trans hc2
        have HF3 := Lib.hid (HF2.out.below hb3 hg2)
        have hg3 : g < w3.heap.size := Nat.lt_of_lt_of_le hg2 hb3.size
        have HLi : Hid (∀ Y, Below w3.heap.size w3 Y → Calls Tryz.prog 140 #[.pointer (some ⟨g, 0, none⟩), .agg (numA X), .int .u64 r] Y fun e W' => ∃ pt : Array Value, e = .returned (.tuple #[.agg pt, .bool (onCurve X)]) ∧ pt.size = 12 ∧ pt.all (·.oneCell') = true ∧ Below Y.heap.size Y W') :=
          Lib.hid fun Y hY => lift_any g X r hXp Y (HF3.out.below hY hg3)
        have HlR := Lib.hid (Array.getElem?_eq_some_iff.1 GR.out).1
        clear x0 x1 x2 x3 hc2 HBe hc3 hb2 hb3 hb03
        go_wp2_with fail
        refine wp_region_plan [(0, 0), (1, 1), (2, 0), (3, 0), (4, 1), (5, 0), (6, 0), (7, 2), (8, 0), (9, 0), (10, 2), (11, 2)] 10 hmx (by kernel_rfl) (by intro c a d v w h; cases d <;> exact h) ?_
        repeat ((first | (refine wpPlan_pure rfl (fun K hK => ?_)) | (refine wpPlan_quiet rfl (fun K hK => ?_))); go_simp; (first | (refine hK _ ?_) | (simp only [IntWalk.iteOmega]; go_simp; refine hK _ ?_) | (go_bits; go_simp; refine hK _ ?_)); clear hK K; (try go_bits))
        refine wpPlan_loud rfl rfl (fun K hK => ?_)
        go_wp2_with fail
        refine (HLi.out _ (Below.refl _ _).drew).mono ?_
        rintro e w4 ⟨pt, rfl, hpz, hp1, hc4⟩
        have hb4 : Below w3.heap.size w3 w4 := (Below.refl _ _).drew.trans (hc4.mono (Nat.le_refl _))
        go_wp2_with fail
        refine ⟨.inr (ext_of_below hc4), ?_⟩
        repeat ((first | (refine wpPlan_pure rfl (fun K hK => ?_)) | (refine wpPlan_quiet rfl (fun K hK => ?_))); go_simp; (first | (refine hK _ ?_) | (simp only [IntWalk.iteOmega]; go_simp; refine hK _ ?_) | (go_bits; go_simp; refine hK _ ?_)); clear hK K; (try go_bits))
        have gR4 := (hb4.block B HlR.out).trans GR.out
        have hip : (Tryz.prog.info? 142).map (·.size) = some pt.size := by rw [hpz]; kernel_rfl
        refine wpPlan_loud rfl rfl (fun K hK => ?_)
        refine wp_store_row 142 (.tmp 4) (.tmp 36) rfl B pt rfl rfl 142 _ gR4 hip (by rw [hpz]; rfl) hp1 ?_
        refine hK _ _ ⟨.inl (by decide), ?_⟩
        clear hK K
        refine wpPlan_loud rfl rfl (fun K hK => ?_)
        go_wp2_with fail
        refine ⟨.inl (by decide), ?_⟩
        refine wpPlan_nil ?_
        have hbw4 := hbw3.trans (hb4.mono hbw3.size)
        go_wp2_with fail
        refine bodyPost_ret (v := .tuple #[.agg pt, .bool (onCurve X)]) ?_ rfl ⟨_, by rw [HPv.out], hpz, hp1, below_setRow' hbw4 (by have := HB.out; omega) _⟩
        exact results_row_tmp rfl _ _ B 142 pt (0, 0) _ rfl (setRow_heap _ _ _ _ _ _ gR4) _ rfl Tryz.underlying142 rfl hip
      · rw [decide_eq_false hXp]
        have hPv : P = false := by
          rw [HP.out, isPub_cons, ← HX.out, decide_eq_false hXp]
          simp
        go_wp2_with (refine wpList_store_row rfl 142 (.tmp 4) (.tmp 27) rfl B pt0 rfl rfl 142 _ GR.out (by kernel_rfl) rfl pt0_one ?_)
        refine bodyPost_ret (v := .tuple #[.agg pt0, .bool false]) ?_ rfl ⟨_, by rw [hPv], rfl, pt0_one, below_setRow' hbw3 (by have := HB.out; omega) _⟩
        exact results_row_tmp rfl _ _ B 142 pt0 (0, 0) _ rfl (setRow_heap _ _ _ _ _ _ GR.out) _ rfl Tryz.underlying142 rfl (by kernel_rfl)
    · have hI : ¬ ((q : Int) = 2) := by omega
      have hPv : P = false := by
        rw [HP.out, isPub_cons]
        have h23 : ¬ (h = 2 ∨ h = 3) := fun e => hh (by rw [Hq.out]; exact (head23 h).2 e)
        simp only [not_or] at h23
        simp [h23.1, h23.2]
      go_wp2_with fail
      refine bodyPost_ret (v := .tuple #[.agg pt0, .bool false]) ?_ rfl ⟨_, by rw [hPv], rfl, pt0_one, (Below.refl _ w).alloc (Nat.le_refl _) _⟩
      exact results_row_tmp rfl _ _ w.heap.size 142 pt0 (0, 0) _ rfl (heap_alloc_new w _) _ rfl Tryz.underlying142 rfl (by kernel_rfl)
  · have hI : ¬ ((n : Int) = 33) := by omega
    have hPv : P = false := by
      rw [HP.out]
      unfold isPub
      split
      · rfl
      · next h t =>
        have : ¬ t.length = 32 := by have := Hn.out; simp at this; omega
        simp [this]
    go_enter Tryz.func98, Tryz.ntmps98
    go_wp2_with fail
    refine bodyPost_ret (v := .tuple #[.agg pt0, .bool false]) ?_ rfl ⟨_, by rw [hPv], rfl, pt0_one, (Below.refl _ w).alloc (Nat.le_refl _) _⟩
    exact results_row_tmp rfl _ _ w.heap.size 142 pt0 (0, 0) _ rfl (heap_alloc_new w _) _ rfl Tryz.underlying142 rfl (by kernel_rfl)

set_option maxRecDepth 100000 in
set_option maxHeartbeats 4000000 in
theorem isPublic_any (A : Option Addr) (c : Nat) (bs : List UInt8) (hc : bs.length ≤ c) (w : World) (hs : Sl w w.heap.size A (B8 bs)) :
    Calls Tryz.prog 67 #[.slice A bs.length c] w fun e W' => e = .returned (.bool (isPub bs)) ∧ Below w.heap.size w W' := by
  obtain ⟨P, hP⟩ : ∃ P, P = isPub bs := ⟨_, rfl⟩
  rw [← hP]
  have HU : Hid (∀ (g : Nat) (X : World), FieldAt X g 0 fieldP dP → Below w.heap.size w X → Calls Tryz.prog 98 #[.pointer (some ⟨g, 0, none⟩), .slice A bs.length c] X fun e W' => ∃ pt : Array Value, e = .returned (.tuple #[.agg pt, .bool P]) ∧ pt.size = 12 ∧ pt.all (·.oneCell') = true ∧ Below X.heap.size X W') :=
    Lib.hid fun g X hF hX => by rw [hP]; exact unpack_any g A c bs hc X hF ((hs.below hX).mono hX.size)
  obtain ⟨n, hn⟩ : ∃ n, n = bs.length := ⟨_, rfl⟩
  rw [← hn] at HU ⊢
  clear hP hn hc hs
  go_enter Tryz.func67, Tryz.ntmps67
  go_wp2_with fail
  refine (curve_any w).mono ?_
  rintro e w1 ⟨g, rfl, hg, hF0, hF7, hb1⟩
  go_wp2_with fail
  refine (HU.out g w1 hF0 hb1).mono ?_
  rintro e w2 ⟨pt, rfl, hpz, hp1, hb2⟩
  have hb := hb1.trans (hb2.mono hb1.size)
  clear hF0 hF7 hb1 hb2 hg
  have hip : Hid ((Tryz.prog.info? 142).map (·.size) = some pt.size) := Lib.hid (by rw [hpz]; kernel_rfl)
  have Hpz : Hid (pt0.size = pt.size) := Lib.hid (by rw [hpz]; rfl)
  have Hp1 := Lib.hid hp1
  clear hpz hp1
  go_wp2_with (refine wpList_store_row rfl 142 (.tmp 3) (.tmp 9) rfl w2.heap.size pt rfl rfl 142 _ (heap_alloc_new w2 _) hip.out Hpz.out Hp1.out ?_; rw [World.setRow_alloc_new]; obtain ⟨W3, hW3⟩ : ∃ W3, W3 = w2.alloc (.cells pt 142) := ⟨_, rfl⟩; rw [← hW3]; have hb3 : Below w.heap.size w W3 := (by rw [hW3]; exact hb.alloc hb.size _); clear hW3)
  go_ret
  exact ⟨rfl, hb3⟩

set_option maxRecDepth 100000 in
set_option maxHeartbeats 4000000 in
theorem key_any (g : Nat) (b : List UInt8) (hl : b.length = 32) (w : World) (hF : FieldAt w g 7 fieldN dN) :
    Calls Tryz.prog 181 #[.pointer (some ⟨g, 0, none⟩), .agg (B8 b).toArray] w fun e W' => e = .returned (.tuple #[.agg (numA (beN b)), .bool (isKey b)]) ∧ Below w.heap.size w W' := by
  have hmx : Tryz.prog.follows .mixedOrders = true := by kernel_rfl
  have hgw := hF.1
  obtain ⟨P, hP⟩ : ∃ P, P = isKey b := ⟨_, rfl⟩
  obtain ⟨X, hX⟩ : ∃ X, X = beN b := ⟨_, rfl⟩
  rw [← hP, ← hX]
  have hX256 : X < 2 ^ 256 := by rw [hX]; exact Nat.lt_of_lt_of_le (beN_lt b) (by rw [hl]; decide)
  have HP : Hid (P = (decide (X ≠ 0) && decide (X < fieldN))) := Lib.hid (by rw [hP, hX]; rfl)
  obtain ⟨cs, hcs⟩ : ∃ cs, cs = (B8 b).toArray := ⟨_, rfl⟩
  rw [← hcs]
  have Hcs := Lib.hid hcs
  have HX := Lib.hid hX
  have Hl := Lib.hid hl
  have HX256 := Lib.hid hX256
  have hcz : cs.size = 32 := by rw [hcs]; simp [hl]
  clear hP hX hcs hl hX256
  go_enter Tryz.func181, Tryz.ntmps181
  go_wp2_with (refine wpList_boxTo rfl 56 (.tmp 1) rfl _ rfl w.heap.size rfl cs rfl ?_)
  have h2 := rowsTwo w (.cells cs 56) (.cells (numA 0) 140)
  obtain ⟨W0, hW0⟩ : ∃ W0, W0 = (w.alloc (.cells cs 56)).alloc (.cells (numA 0) 140) := ⟨_, rfl⟩
  have hb0 : Below w.heap.size w W0 := by rw [hW0]; exact ((Below.refl _ w).alloc (Nat.le_refl _) _).alloc (by simp) _
  have hz0 : W0.heap.size = w.heap.size + 2 := by rw [hW0]; simp
  refine (show W0 = _ from hW0) ▸ ?_
  rw [← hW0] at h2
  obtain ⟨gB, gR⟩ := h2
  obtain ⟨B, hB⟩ : ∃ B, B = w.heap.size := ⟨_, rfl⟩
  rw [← hB] at gB gR hz0 ⊢
  have hs0 : Sl W0 W0.heap.size (some ⟨B, 0, none⟩) (B8 b) := fun _ => ⟨B, 0, rfl, by omega, fun j hj => by
    rw [cell_of_row _ _ _ _ _ _ gB, Hcs.out]
    simp⟩
  have HNb := Lib.hid (number_any _ 32 b Hl.out W0 hs0)
  rw [← HX.out] at HNb
  have HF0 := Lib.hid (hF.below hb0 hgw)
  have hg0 : g < W0.heap.size := by omega
  have HB := Lib.hid hB
  have Hz0 := Lib.hid hz0
  have Hrow := Lib.hid gR
  clear hW0 hB hz0 gB gR hs0
  refine HNb.out.mono ?_
  rintro e w1 ⟨rfl, hb1⟩
  go_wp2_with (refine wpList_store_row rfl 140 (.tmp 6) (.tmp 8) rfl w1.heap.size (numA X) rfl rfl 140 _ (heap_alloc_new w1 _) (by kernel_rfl) rfl (numA_one _) ?_; rw [World.setRow_alloc_new]; obtain ⟨W2, hW2⟩ : ∃ W2, W2 = w1.alloc (.cells (numA X) 140) := ⟨_, rfl⟩; rw [← hW2]; obtain ⟨gX, hgX⟩ : ∃ gX, gX = w1.heap.size := ⟨_, rfl⟩; rw [← hgX]; have gX2 : W2.heap[gX]? = some (.cells (numA X) 140 (0, 0)) := (by rw [hW2, hgX]; exact heap_alloc_new w1 _); have hb2 : Below W0.heap.size W0 W2 := (by rw [hW2]; exact hb1.alloc hb1.size _); clear hW2 hgX hb1)
  have HF2 := Lib.hid (HF0.out.below hb2 hg0)
  have hg2 : g < W2.heap.size := Nat.lt_of_lt_of_le hg0 hb2.size
  obtain ⟨x0, x1, x2, x3⟩ := cells4 gX2
  have HlX := Lib.hid (Array.getElem?_eq_some_iff.1 gX2).1
  have gR2 := (hb2.block (B + 1) (by have := Hz0.out; omega)).trans Hrow.out
  have HlR := Lib.hid (Array.getElem?_eq_some_iff.1 gR2).1
  have GR := Lib.hid gR2
  have hbw2 := hb0.trans (hb2.mono (by have := Hz0.out; have := HB.out; omega))
  have HZe : Hid (∀ Y, Calls Tryz.prog 206 #[.agg (numA X)] Y fun e W' => e = .returned (.bool (decide (X = 0))) ∧ Below Y.heap.size Y W') := Lib.hid fun Y => nzero_any X HX256.out Y
  have HBe : Hid (∀ Y, Below W2.heap.size W2 Y → Calls Tryz.prog 139 #[.pointer (some ⟨g, 7, none⟩), .agg (numA X)] Y fun e W' => e = .returned (.bool (decide (X < fieldN))) ∧ Below Y.heap.size Y W') :=
    Lib.hid fun Y hY => fbelow_any g 7 fieldN dN X HX256.out fieldN_lt Y (HF2.out.below hY hg2)
  clear gX2 gR2 HNb HF0 hb2
  refine wp_region_plan [(0, 1), (1, 1), (2, 2), (3, 0), (4, 0), (5, 0), (6, 0), (7, 0), (8, 1), (9, 2), (10, 0), (11, 2), (12, 2)] 11 hmx (by kernel_rfl) (by intro c a d v w h; cases d <;> exact h) ?_
  repeat ((first | (refine wpPlan_pure rfl (fun K hK => ?_)) | (refine wpPlan_quiet rfl (fun K hK => ?_))); go_simp; (first | (refine hK _ ?_) | (simp only [IntWalk.iteOmega]; go_simp; refine hK _ ?_) | (go_bits; go_simp; refine hK _ ?_)); clear hK K; (try go_bits))
  refine wpPlan_loud rfl rfl (fun K hK => ?_)
  go_wp2_with fail
  refine (HZe.out _).mono ?_
  rintro e w3 ⟨rfl, hc3⟩
  have hb3 : Below W2.heap.size W2 w3 := (Below.refl _ _).drew.trans (hc3.mono (Nat.le_refl _))
  go_wp2_with fail
  refine ⟨.inr (ext_of_below hc3), ?_⟩
  by_cases hX0 : X = 0
  · rw [decide_eq_true hX0]
    subst hX0
    repeat ((first | (refine wpPlan_pure rfl (fun K hK => ?_)) | (refine wpPlan_quiet rfl (fun K hK => ?_))); go_simp; (first | (refine hK _ ?_) | (simp only [IntWalk.iteOmega]; go_simp; refine hK _ ?_) | (go_bits; go_simp; refine hK _ ?_)); clear hK K; (try go_bits))
    refine wpPlan_skip rfl ?_ ?_
    · rfl
    repeat ((first | (refine wpPlan_pure rfl (fun K hK => ?_)) | (refine wpPlan_quiet rfl (fun K hK => ?_))); go_simp; (first | (refine hK _ ?_) | (simp only [IntWalk.iteOmega]; go_simp; refine hK _ ?_) | (go_bits; go_simp; refine hK _ ?_)); clear hK K; (try go_bits))
    have gR3 := (hb3.block (B + 1) HlR.out).trans GR.out
    have hbw3 := hbw2.trans (hb3.mono hbw2.size)
    have hPv : P = false := by rw [HP.out]; simp
    refine wpPlan_loud rfl rfl (fun K hK => ?_)
    refine wp_store_row 140 (.tmp 4) (.tmp 9) rfl (B + 1) (numA 0) rfl rfl 140 _ gR3 (by kernel_rfl) rfl (numA_one _) ?_
    refine hK _ _ ⟨.inl (by decide), ?_⟩
    clear hK K
    refine wpPlan_loud rfl rfl (fun K hK => ?_)
    go_wp2_with fail
    refine wpPlan_nil ?_
    go_wp2_with fail
    refine bodyPost_ret (v := .tuple #[.agg (numA 0), .bool false]) ?_ rfl ⟨by rw [hPv], below_setRow' hbw3 (by have := HB.out; omega) _⟩
    exact results_row_tmp rfl _ _ (B + 1) 140 (numA 0) (0, 0) _ rfl (setRow_heap _ _ _ _ _ _ gR3) _ rfl Tryz.underlying140 rfl (by kernel_rfl)
  · rw [decide_eq_false hX0]
    have x30 := (hb3.cell (p := ⟨gX, 0, none⟩) HlX.out).trans x0
    have x31 := (hb3.cell (p := ⟨gX, 1, none⟩) HlX.out).trans x1
    have x32 := (hb3.cell (p := ⟨gX, 2, none⟩) HlX.out).trans x2
    have x33 := (hb3.cell (p := ⟨gX, 3, none⟩) HlX.out).trans x3
    repeat ((first | (refine wpPlan_pure rfl (fun K hK => ?_)) | (refine wpPlan_quiet rfl (fun K hK => ?_))); go_simp; (first | (refine hK _ ?_) | (simp only [IntWalk.iteOmega]; go_simp; refine hK _ ?_) | (go_bits; go_simp; refine hK _ ?_)); clear hK K; (try go_bits))
    refine wpPlan_loudGd rfl ?_ (fun K hK => ?_)
    · rfl
    go_wp2_with fail
    refine (HBe.out _ hb3).mono ?_
    rintro e w4 ⟨rfl, hc4⟩
    have hb4 : Below W2.heap.size W2 w4 := hb3.trans (hc4.mono hb3.size)
    go_wp2_with fail
    refine ⟨.inr (ext_of_below hc4), ?_⟩
    repeat ((first | (refine wpPlan_pure rfl (fun K hK => ?_)) | (refine wpPlan_quiet rfl (fun K hK => ?_))); go_simp; (first | (refine hK _ ?_) | (simp only [IntWalk.iteOmega]; go_simp; refine hK _ ?_) | (go_bits; go_simp; refine hK _ ?_)); clear hK K; (try go_bits))
    have gR4 := (hb4.block (B + 1) HlR.out).trans GR.out
    have hbw4 := hbw2.trans (hb4.mono hbw2.size)
    have hPv : P = decide (X < fieldN) := by rw [HP.out, decide_eq_true hX0, Bool.true_and]
    refine wpPlan_loud rfl rfl (fun K hK => ?_)
    refine wp_store_row 140 (.tmp 4) (.tmp 9) rfl (B + 1) (numA X) rfl rfl 140 _ gR4 (by kernel_rfl) rfl (numA_one _) ?_
    refine hK _ _ ⟨.inl (by decide), ?_⟩
    clear hK K
    refine wpPlan_loud rfl rfl (fun K hK => ?_)
    go_wp2_with fail
    refine ⟨.inl (by decide), ?_⟩
    refine wpPlan_nil ?_
    go_wp2_with fail
    refine bodyPost_ret (v := .tuple #[.agg (numA X), .bool (decide (X < fieldN))]) ?_ rfl ⟨by rw [hPv], below_setRow' hbw4 (by have := HB.out; omega) _⟩
    exact results_row_tmp rfl _ _ (B + 1) 140 (numA X) (0, 0) _ rfl (setRow_heap _ _ _ _ _ _ gR4) _ rfl Tryz.underlying140 rfl (by kernel_rfl)
end Go.Proofs.YtcjioogololnoaaGreatDoor

/-! A region that draws its order, along a plan whose steps may turn the world and keep S, and whose quiet reads lean on S alone. -/
namespace Go.Proofs.YtcjioogololnoaaGreatDoor
open Go Go.RowKit
section
variable {P : Program} {ops : Array Oper} {md : Region.Mode}
variable {Q : Act → World → Prop} {st : Nat → (Act → World → Prop) → Act → World → Prop} {S : World → Prop}

def wpPlanS (P : Program) (ops : Array Oper) (Q : Act → World → Prop) (st : Nat → (Act → World → Prop) → Act → World → Prop) (S : World → Prop) : List (Nat × Nat) → Act → World → Prop
  | [], a, w => Q a w
  | (i, k) :: rest, a, w =>
    if k = 2 then st i (fun a' w' => S w' ∧ wpPlanS P ops Q st S rest a' w') a w
    else match ops[i]? with
      | none => False
      | some o => ∃ v, YieldsIf P ops S o v a ∧ wpPlanS P ops Q st S rest (a.put o.dst v) w
def planS (md : Region.Mode) (ops : Array Oper) : List (Nat × Nat) → Array Bool → Bool
  | [], listed => Region.ready md ops listed == []
  | (i, k) :: rest, listed =>
    (if k = 2 then Region.ready md ops listed == [i] else (Region.ready md ops listed).contains i && Region.free md ops listed i) && planS md ops rest (listed.setIfInBounds i true)
theorem no_tb {listed : Array Bool} (h : listed.size = ops.size) : ¬ tb ops.size listed := by
  rintro ⟨t, ht, hl⟩
  rw [show listed.getD t false = false by simp [Array.getElem?_eq_none (show listed.size ≤ t by omega)]] at hl
  cases hl
theorem planS_sound (L : StepLaws P ops Q st) (hsel : Region.noSelect ops = true) : ∀ (plan : List (Nat × Nat)) (listed : Array Bool) (a : Act) (w : World),
    planS md ops plan listed = true → Closed md ops listed → S w → wpPlanS P ops Q st S plan a w → wpAnyS md ops Q st ops.size S plan.length listed a w
  | [], listed, a, w, hB, _, _, h => ⟨by simpa [planS] using hB, h⟩
  | (i, k) :: rest, listed, a, w, hB, hcl, hS, h => by
    by_cases hk : k = 2
    · subst hk
      simp only [planS, if_true, Bool.and_eq_true] at hB
      obtain ⟨hr, hrest⟩ := hB
      have hr : Region.ready md ops listed = [i] := by simpa using hr
      have hr' : i ∈ Region.ready md ops listed := by rw [hr]; simp
      refine ⟨fun h0 => (by rw [h0] at hr; cases hr), fun j hj => ?_⟩
      rw [hr] at hj
      obtain rfl : j = i := by simpa using hj
      simp only [wpPlanS, if_true] at h
      exact L.mono (fun a' w' h' => ⟨.inr h'.1, planS_sound L hsel rest _ a' w' hrest (hcl.set hr') h'.1 h'.2⟩) h
    · simp only [planS, hk, if_false, Bool.and_eq_true] at hB
      obtain ⟨⟨hr, hf⟩, hrest⟩ := hB
      have hr' : i ∈ Region.ready md ops listed := by simpa using hr
      simp only [wpPlanS, hk, if_false] at h
      split at h
      · exact h.elim
      · rename_i o ho
        obtain ⟨v, hy, hK⟩ := h
        have hrec := planS_sound L hsel rest (listed.setIfInBounds i true) (a.put o.dst v) w hrest (hcl.set hr') hS hK
        exact wpAnyS_first L (S := S) (S1 := S) ho (Region.noSelect_spec hsel) (Array.getElem?_eq_some_iff.1 ho).1 (fun l w' hc _ ht => ht.resolve_left (no_tb hc.1)) rest.length listed a w hcl (Region.free_spec ho hf) hr' hy (.inr hS) hrec
end
section
variable {P : Program} {ops : Array Oper} {S : World → Prop}
theorem wp_region_planS {id : Nat} {Q : Exit → Act → World → Prop} {a : Act} {w : World} {l : List Oper} (S : World → Prop) (plan : List (Nat × Nat)) (hm : P.follows .mixedOrders = true)
    (hB : (Region.noSelect l.toArray && decide (plan.length = l.length) && planS .any l.toArray plan (Array.replicate l.length false)) = true) (hQ : ∀ c a d v w, Q (.panic c) (Act.put a d v) w → Q (.panic c) a w) (hS : S w.drew)
    (h : wpPlanS P l.toArray (Q .normal) (fun i K a w => wpOp P l.toArray Q i K a w) S plan a w.drew) : (Code.region id l.toArray true).wp P Q a w := by
  simp only [Bool.and_eq_true, decide_eq_true_eq] at hB
  refine wp_region_any hm ?_
  have := planS_sound (plainLaws Q hQ) hB.1.1 plan (Array.replicate l.length false) a w.drew hB.2 ⟨by simp, fun j oj hj hl => by
    rcases Nat.lt_or_ge j l.length with h | h
    · simp [h] at hl
    · simp [h] at hl⟩ hS h
  rw [hB.1.2] at this
  have := wpAny_of_S _ _ _ _ this
  simpa using this
theorem wpPlanS_pure {Q : Act → World → Prop} {st : Nat → (Act → World → Prop) → Act → World → Prop} {i k : Nat} {rest : List (Nat × Nat)} {o : Oper} {a : Act} {w : World} (hk : k ≠ 2) (ho : ops[i]? = some o)
    (h : ∀ K : Act → Prop, (∀ a, wpPlanS P ops Q st S rest a w → K a) → if Region.wanted o (yielded ops a.tmps) then pureOp P o a K else K (a.put o.dst undef)) :
    wpPlanS P ops Q st S ((i, k) :: rest) a w := by
  have h := h _ (fun _ h => h)
  simp only [wpPlanS, hk, if_false, ho]
  split at h
  · rename_i hw
    obtain ⟨v, hv, hK⟩ := h
    refine ⟨v, .inl ⟨hw, fun w' _ => ?_⟩, hK⟩
    have := hv w'
    generalize (execOp a.eval o).run P w' = r at *
    cases r with
    | ok n w' => cases n <;> simp only [stillUpon] at this
                 obtain ⟨rfl, rfl⟩ := this; rfl
    | halt x w' => simp only [stillUpon] at this
  · rename_i hw
    exact ⟨undef, .inr ⟨by simpa using hw, rfl⟩, h⟩
/-- A load of one cell, that S knows. -/
theorem wpPlanS_load {Q : Act → World → Prop} {st : Nat → (Act → World → Prop) → Act → World → Prop} {i k : Nat} {rest : List (Nat × Nat)} {o : Oper} {a : Act} {w : World} (v : Value) (hk : k ≠ 2) (ho : ops[i]? = some o) (hg : Region.wanted o (yielded ops a.tmps) = true)
    (hv : ∀ W, S W → (execOp a.eval o).run P W = .ok (.value v) W) (h : wpPlanS P ops Q st S rest (a.put o.dst v) w) : wpPlanS P ops Q st S ((i, k) :: rest) a w := by
  simp only [wpPlanS, hk, if_false, ho]
  exact ⟨v, .inl ⟨hg, fun w' hw => hv w' hw⟩, h⟩
theorem wpPlanS_loud {Q : Exit → Act → World → Prop} {i : Nat} {rest : List (Nat × Nat)} {o : Oper} {a : Act} {w : World} (ho : ops[i]? = some o) (hg : o.guard = none)
    (h : ∀ K : Act → World → Prop, (∀ a' w', (S w' ∧ wpPlanS P ops (Q .normal) (fun i K a w => wpOp P ops Q i K a w) S rest a' w') → K a' w') → o.wp P a w K Q) :
    wpPlanS P ops (Q .normal) (fun i K a w => wpOp P ops Q i K a w) S ((i, 2) :: rest) a w := by
  simp only [wpPlanS, if_true, wpOp, ho, Region.wanted, hg]
  exact .inl (h _ (fun _ _ h => h))
theorem wpPlanS_nil {Q : Act → World → Prop} {st : Nat → (Act → World → Prop) → Act → World → Prop} {a : Act} {w : World} (h : Q a w) : wpPlanS P ops Q st S [] a w := h
end
end Go.Proofs.YtcjioogololnoaaGreatDoor
