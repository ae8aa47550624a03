/- hdkey.Parse. | hdkey.Key.Text. | desc.must; what it stops with. -/
import Derived.Test.YtcjioogololnoaaGreatDoorU21
import Derived.Test.YtcjioogololnoaaGreatDoorU8
import Derived.Test.YtcjioogololnoaaGreatDoorU16
import Derived.Test.YtcjioogololnoaaGreatDoorU1

/-! hdkey.Parse. -/
namespace Go.Proofs.YtcjioogololnoaaGreatDoor
open Go Go.RowKit Go.Shelf

def kz : Array Value := #[.int .u8 0, .int .u8 0, .int .u8 0, .int .u8 0, .int .u8 0, .int .u32 0, .int .u8 0, .int .u8 0, .int .u8 0, .int .u8 0, .int .u8 0, .int .u8 0, .int .u8 0, .int .u8 0, .int .u8 0, .int .u8 0, .int .u8 0, .int .u8 0, .int .u8 0, .int .u8 0, .int .u8 0, .int .u8 0, .int .u8 0, .int .u8 0, .int .u8 0, .int .u8 0, .int .u8 0, .int .u8 0, .int .u8 0, .int .u8 0, .int .u8 0, .int .u8 0, .int .u8 0, .int .u8 0, .int .u8 0, .int .u8 0, .int .u8 0, .int .u8 0, .int .u8 0, .int .u8 0, .int .u8 0, .int .u8 0, .int .u8 0, .int .u8 0, .int .u8 0, .int .u8 0, .int .u8 0, .int .u8 0, .int .u8 0, .int .u8 0, .int .u8 0, .int .u8 0, .int .u8 0, .int .u8 0, .int .u8 0, .int .u8 0, .int .u8 0, .int .u8 0, .int .u8 0, .int .u8 0, .int .u8 0, .int .u8 0, .int .u8 0, .int .u8 0, .int .u8 0, .int .u8 0, .int .u8 0, .int .u8 0, .int .u8 0, .int .u8 0, .int .u8 0]
theorem kz_eq : kz = (keyC hkZero).toArray := by kernel_rfl
theorem kz_one : kz.all (·.oneCell') = true := by rw [kz_eq]; exact keyC_one _
theorem eq4 (f : List UInt8) (h : f.length = 4) (w : World) : (Op.equalIn 10000 54 (.agg (B8 f).toArray) (.agg #[.int .u8 0, .int .u8 0, .int .u8 0, .int .u8 0])).run Tryz.prog w = .ok (decide (f = [0, 0, 0, 0])) w := by
  match f, h with
  | [a, b, c, d], _ =>
    have hz : ∀ x : UInt8, (x.toNat = 0) ↔ x = 0 := fun x => by
      constructor
      · intro e
        exact UInt8.toNat_inj.1 (by rw [e]; rfl)
      · rintro rfl; rfl
    simp only [B8, List.map]
    have u3 := Tryz.underlying5
    have a3 := Tryz.isAgg5
    have z3 := Tryz.sizeOf5
    rw [show (10000 : Nat) = 9999 + 1 from rfl, Op.equalIn]
    simp only [Sem.run_bind, run_underlying Tryz.underlying54, Result.andThen_ok]
    simp only [Std.Legacy.Range.forIn_eq_forIn_range', Std.Legacy.Range.size, Nat.sub_zero, Nat.add_sub_cancel, Nat.div_one, List.range'_succ, List.range'_zero, List.forIn_cons, List.forIn_nil]
    go_simp
    simp only [List.cons.injEq, and_true, ← hz]
    by_cases h1 : a.toNat = 0 <;> by_cases h2 : b.toNat = 0 <;> by_cases h3 : c.toNat = 0 <;> by_cases h4 : d.toNat = 0 <;> simp [h1, h2, h3, h4]
theorem range_of_cells {w : World} {b o : Nat} {D : List UInt8} (hcell : ∀ j (h : j < D.length), w.cell? ⟨b, o + j, none⟩ = some (.int .u8 (D[j].toNat : Int))) (k m : Nat) (xs : List UInt8) (hx : xs = (D.drop k).take m) : w.rangeAt b (o + k) (B8 xs) := fun j v hv => by
  have hj : j < (B8 xs).length := (List.getElem?_eq_some_iff.1 hv).1
  have hjx : j < xs.length := by simpa using hj
  rw [List.getElem?_eq_getElem hj, B8_get] at hv
  have hkj : k + j < D.length := by rw [hx, List.length_take, List.length_drop] at hjx; omega
  have e : xs[j] = D[k + j] := by
    subst hx
    simp
  rw [Nat.add_assoc, hcell (k + j) hkj, ← e]
  exact hv
theorem first4 (b : List UInt8) (h : 4 ≤ b.length) : ∃ p q r s t, b = p :: q :: r :: s :: t := by
  match b, h with
  | p :: q :: r :: s :: t, _ => exact ⟨p, q, r, s, t, rfl⟩

set_option maxRecDepth 100000 in
set_option maxHeartbeats 16000000 in
theorem hparse_any (s : ByteArray) (hsz : s.size ≤ 4096) (w : World) :
    Calls Tryz.prog 68 #[.string s] w fun e W' => e = .returned (.tuple #[.agg (keyC (parseH s.data.toList).2).toArray, .int .i64 ((parseH s.data.toList).1 : Int)]) ∧ Below w.heap.size w W' := by
  have hmx : Tryz.prog.follows .mixedOrders = true := by kernel_rfl
  obtain ⟨R, hR⟩ : ∃ R, R = parseH s.data.toList := ⟨_, rfl⟩
  rw [← hR]
  obtain ⟨E, hE⟩ : ∃ E, E = (fromC s.data.toList).1 := ⟨_, rfl⟩
  obtain ⟨D, hD⟩ : ∃ D, D = (fromC s.data.toList).2 := ⟨_, rfl⟩
  have HR : Hid (R = if E = 0 then parseB D else (E, hkZero)) := Lib.hid (by rw [hR, hE, hD]; rfl)
  have Hfc := fun ww => fromc58_full s ww hsz
  rw [← hE, ← hD] at Hfc
  have HFC := Lib.hid Hfc
  obtain ⟨n, hn⟩ : ∃ n, n = D.length := ⟨_, rfl⟩
  rw [← hn] at HFC
  have Hn := Lib.hid hn
  clear hR hE hD Hfc hn hsz
  go_enter Tryz.func68, Tryz.ntmps68
  have hrow := heap_alloc_new w (.cells kz 59)
  obtain ⟨W0, hW0⟩ : ∃ W0, W0 = w.alloc (.cells kz 59) := ⟨_, rfl⟩
  rw [← hW0] at hrow
  have hb0 : Below w.heap.size w W0 := by rw [hW0]; exact (Below.refl _ w).alloc (Nat.le_refl _) _
  have hz0 : W0.heap.size = w.heap.size + 1 := by rw [hW0]; simp
  go_wp2_with fail
  refine (show W0 = _ from hW0) ▸ ?_
  obtain ⟨B, hB⟩ : ∃ B, B = w.heap.size := ⟨_, rfl⟩
  rw [← hB] at hrow hz0 ⊢
  clear hW0
  have HB := Lib.hid hB
  have Hz0 := Lib.hid hz0
  have Hrow := Lib.hid hrow
  have HBl := Lib.hid (Array.getElem?_eq_some_iff.1 hrow).1
  clear hB hz0 hrow
  refine (HFC.out W0).mono ?_
  rintro e w1 ⟨A, c, rfl, hs, ⟨hnc, hcm⟩, hb1⟩
  have hrow1 := (hb1.block B HBl.out).trans Hrow.out
  have hbw1 := hb0.trans (hb1.mono hb0.size)
  have hl1 : B < w1.heap.size := Nat.lt_of_lt_of_le HBl.out hb1.size
  have Hrow1 := Lib.hid hrow1
  have Hs := Lib.hid hs
  have hBw : Hid (w.heap.size ≤ B) := Lib.hid (by rw [HB.out]; exact Nat.le_refl _)
  clear HFC Hrow hrow1 hs hb1 hb0
  by_cases hE0 : E = 0
  · subst hE0
    by_cases h78 : n = 78
    · subst h78
      have hDl : D.length = 78 := Hn.out.symm
      obtain ⟨b0, o0, rfl, hb0', hcell⟩ := Hs.out.at_ (k := 0) (by omega)
      have hc78 : 78 ≤ c := hnc
      have hcne : ¬ c = 45 := by omega
      have hkok := hkOf_ok D hDl
      obtain ⟨k, hk⟩ : ∃ k, k = hkOf D := ⟨_, rfl⟩
      have HRk : Hid (R = if decide (beN (D.take 4) = hkHead k.priv) && k.good && hkRoot k then (0, k) else (3, hkZero)) := Lib.hid (by rw [HR.out, if_pos rfl, parseB, if_pos hDl, hk])
      rw [← hk] at hkok
      obtain ⟨p0, p1, p2, p3, pt, hp⟩ := first4 D (by omega)
      obtain ⟨q0, q1, q2, q3, qt, hq⟩ := first4 (D.drop 9) (by simp [hDl])
      obtain ⟨hd, hhd⟩ : ∃ hd, hd = beN (D.take 4) := ⟨_, rfl⟩
      rw [← hhd] at HRk
      have c4 : w1.cell? ⟨b0, o0 + 4, none⟩ = some (.int .u8 (k.depth.toNat : Int)) := by
        rw [hcell 4 (by omega), hk]
        simp [hkOf, hDl]
      have R5 := Lib.hid (range_of_cells hcell 5 4 k.finger (by rw [hk]; rfl))
      have R13 := Lib.hid (range_of_cells hcell 13 32 k.chain (by rw [hk]; rfl))
      have R45 := Lib.hid (range_of_cells hcell 45 33 k.data (by rw [hk]; show D.drop 45 = _; exact (List.take_of_length_le (by rw [List.length_drop, hDl]; exact Nat.le_refl _)).symm))
      have hsl9 : Sl w1 w1.heap.size (some ⟨b0, o0 + 9, none⟩) (B8 (q0 :: q1 :: q2 :: q3 :: qt)) := by
        have h1 := Hs.out.cut (k := 9) (m := 69) (cap := c) (by rw [B8_length, hDl]; omega) (by rw [B8_length, hDl]; exact hc78)
        rw [if_neg (by omega), List.take_of_length_le (by rw [List.length_drop, B8_length, hDl]; exact Nat.le_refl _), ← B8_drop, hq] at h1
        exact h1
      have hql : qt.length + 4 = 69 := by
        have := congrArg List.length hq
        rw [List.length_drop, hDl] at this
        simp at this
        omega
      have hcn : k.child = beN [q0, q1, q2, q3] := by rw [hk]; show beN ((D.drop 9).take 4) = _; rw [hq]; rfl
      have hhd' : hd = beN [p0, p1, p2, p3] := by rw [hhd, hp]; rfl
      have hslD := Hs.out
      rw [hp] at hslD
      have hpl : pt.length + 4 = 78 := by rw [hp] at hDl; simpa using hDl
      have HN4 : Hid (∀ X, Below w1.heap.size w1 X → Calls Tryz.prog 100 #[.slice (some ⟨b0, o0 + 9, none⟩) 69 (c - 9)] X fun e W' => e = .returned (.int .u32 (k.child : Nat)) ∧ Below X.heap.size X W') :=
        Lib.hid fun X hX => by rw [hcn]; exact number4_any _ 69 (c - 9) q0 q1 q2 q3 qt X ((hsl9.below hX).mono hX.size) hql.symm
      have HNh : Hid (∀ X, Below w1.heap.size w1 X → Calls Tryz.prog 100 #[.slice (some ⟨b0, o0, none⟩) 78 c] X fun e W' => e = .returned (.int .u32 (hd : Nat)) ∧ Below X.heap.size X W') :=
        Lib.hid fun X hX => by rw [hhd']; exact number4_any _ 78 c p0 p1 p2 p3 pt X ((hslD.below hX).mono hX.size) hpl.symm
      obtain ⟨cs, hcs⟩ : ∃ cs, cs = (keyC k).toArray := ⟨_, rfl⟩
      have hcz : cs.size = 71 := by rw [hcs]; simp [keyC_length hkok]
      have HBu : Hid (Tryz.prog.built 59 [(0, .int .u8 (k.depth.toNat : Int)), (1, .agg (B8 k.finger).toArray), (2, .int .u32 (k.child : Int)), (3, .agg (B8 k.chain).toArray), (4, .agg (B8 k.data).toArray)] = some cs) := Lib.hid (by rw [hcs]; exact built_key k hkok)
      have HcI : Hid ((Tryz.prog.info? 59).map (·.size) = some cs.size) := Lib.hid (by rw [hcz]; kernel_rfl)
      have Hcz : Hid (kz.size = cs.size) := Lib.hid (by rw [hcz]; rfl)
      have Hc1 : Hid (cs.all (·.oneCell') = true) := Lib.hid (by rw [hcs]; exact keyC_one k)
      have I4 := Lib.hid (show (Tryz.prog.info? 54).map (·.size) = some (B8 k.finger).length by rw [B8_length, hkok.finger]; kernel_rfl)
      have I32 := Lib.hid (show (Tryz.prog.info? 56).map (·.size) = some (B8 k.chain).length by rw [B8_length, hkok.chain]; kernel_rfl)
      have I33 := Lib.hid (show (Tryz.prog.info? 57).map (·.size) = some (B8 k.data).length by rw [B8_length, hkok.data]; kernel_rfl)
      have Hok := Lib.hid hkok
      have Hcs := Lib.hid hcs
      have HPr : Hid (∀ ww, Calls Tryz.prog 78 #[.agg cs] ww fun e W' => e = .returned (.bool k.priv) ∧ Below ww.heap.size ww W') := Lib.hid fun ww => by rw [hcs]; exact private_any k hkok ww
      have HGd : Hid (∀ ww, Calls Tryz.prog 101 #[.agg cs] ww fun e W' => e = .returned (.bool k.good) ∧ Below ww.heap.size ww W') := Lib.hid fun ww => by rw [hcs]; exact good_any k hkok ww
      clear hcell hk hp hq hhd hhd' hcn hsl9 hslD hql hpl hcs hcz hDl hkok HR Hs
      go_wp2_with fail
      have hbD : Below w1.heap.size w1 w1.drew := (Below.refl _ _).drew
      apply share (fun gN wE => w1.heap.size ≤ gN ∧ wE.heap[gN]? = some (.cells cs 59 (0, 0)) ∧ Below w1.heap.size w1 wE)
      · intro hT
        refine wp_region_tree _ 21 _ hmx (by kernel_rfl) (by intro c a d v w h; cases d <;> exact h) (snd_pre' (plainLaws _ (by intro c a d v w h; cases d <;> exact h)) (by kernel_rfl) 4 [(0, 0), (1, 0), (2, 1), (3, 0), (4, 0), (5, 0), (6, 1), (7, 0), (8, 0), (9, 0), (11, 0), (12, 0), (13, 0), (14, 1), (15, 0), (16, 0), (17, 0), (18, 1)] _ (by kernel_rfl) (snd_fork (plainLaws _ (by intro c a d v w h; cases d <;> exact h)) 10 20 3 _ (by kernel_rfl) (snd_plan (plainLaws _ (by intro c a d v w h; cases d <;> exact h)) (by kernel_rfl) [(19, 0), (20, 2), (21, 2)] _ (by kernel_rfl)) (snd_plan (plainLaws _ (by intro c a d v w h; cases d <;> exact h)) (by kernel_rfl) [(10, 2), (19, 0), (21, 2)] _ (by kernel_rfl)))) ?_
        repeat ((first | (refine wpPlan_pure rfl (fun K hK => ?_)) | (refine wpPlan_quiet rfl (fun K hK => ?_))); go_simp; (first | (refine hK _ ?_) | (simp only [IntWalk.iteOmega]; go_simp; refine hK _ ?_) | (go_bits; go_simp; refine hK _ ?_)); clear hK K; (try go_bits))
        refine wpPlan_arrayPtr rfl rfl 54 (.tmp 28) rfl (some ⟨b0, o0 + 5, none⟩) 4 (c - 5) 4 _ rfl Tryz.underlying54 (Nat.le_refl _) ?_
        refine wpPlan_load_mid rfl rfl 54 (.tmp 29) rfl b0 (o0 + 5) rfl (B8 k.finger) _ R5.out Tryz.underlying54 rfl I4.out ?_
        repeat ((first | (refine wpPlan_pure rfl (fun K hK => ?_)) | (refine wpPlan_quiet rfl (fun K hK => ?_))); go_simp; (first | (refine hK _ ?_) | (simp only [IntWalk.iteOmega]; go_simp; refine hK _ ?_) | (go_bits; go_simp; refine hK _ ?_)); clear hK K; (try go_bits))
        refine wpPlan_arrayPtr rfl rfl 56 (.tmp 36) rfl (some ⟨b0, o0 + 13, none⟩) 32 (c - 13) 32 _ rfl Tryz.underlying56 (Nat.le_refl _) ?_
        refine wpPlan_load_mid rfl rfl 56 (.tmp 37) rfl b0 (o0 + 13) rfl (B8 k.chain) _ R13.out Tryz.underlying56 rfl I32.out ?_
        repeat ((first | (refine wpPlan_pure rfl (fun K hK => ?_)) | (refine wpPlan_quiet rfl (fun K hK => ?_))); go_simp; (first | (refine hK _ ?_) | (simp only [IntWalk.iteOmega]; go_simp; refine hK _ ?_) | (go_bits; go_simp; refine hK _ ?_)); clear hK K; (try go_bits))
        refine wpPlan_arrayPtr rfl rfl 57 (.tmp 40) rfl (some ⟨b0, o0 + 45, none⟩) 33 (c - 45) 33 _ rfl Tryz.underlying57 (Nat.le_refl _) ?_
        refine wpPlan_load_mid rfl rfl 57 (.tmp 41) rfl b0 (o0 + 45) rfl (B8 k.data) _ R45.out Tryz.underlying57 rfl I33.out ?_
        repeat ((first | (refine wpPlan_pure rfl (fun K hK => ?_)) | (refine wpPlan_quiet rfl (fun K hK => ?_))); go_simp; (first | (refine hK _ ?_) | (simp only [IntWalk.iteOmega]; go_simp; refine hK _ ?_) | (go_bits; go_simp; refine hK _ ?_)); clear hK K; (try go_bits))
        refine forkC_mk rfl rfl rfl rfl (fun K hK => ?_) (fun K hK => ?_)
        · go_wp2_with fail
          refine (HN4.out _ hbD).mono ?_
          rintro e w2 ⟨rfl, hcw2⟩
          have hbw2 : Below w1.heap.size w1 w2 := hbD.trans (hcw2.mono hbD.size)
          go_wp2_with fail
          refine ⟨(ext_of_below hcw2), ?_⟩
          refine wpPlan_buildC rfl rfl 59 #[(0, .tmp 26), (1, .tmp 30), (2, .tmp 34), (3, .tmp 38), (4, .tmp 42)] rfl cs HBu.out ?_
          refine wpPlan_loud rfl rfl (fun K hK => ?_)
          go_wp2_with fail
          refine ⟨.inr (ext_alloc _ _), ?_⟩
          refine (show wpPlan _ _ _ _ _ _ _ (w2.alloc (.cells kz 59)) from ?_)
          obtain ⟨wN, hwN⟩ : ∃ Y, Y = w2.alloc (.cells kz 59) := ⟨_, rfl⟩
          rw [← hwN]
          have hbwN : Below w1.heap.size w1 wN := by rw [hwN]; exact hbw2.alloc hbw2.size _
          have gNwN : wN.heap[w2.heap.size]? = some (.cells kz 59 (0, 0)) := by rw [hwN]; exact heap_alloc_new w2 _
          have hzN : w1.heap.size ≤ w2.heap.size := hbw2.size
          clear hwN
          refine wpPlan_loud rfl rfl (fun K hK => ?_)
          refine wp_store_row 59 (.tmp 7) (.tmp 43) rfl w2.heap.size cs rfl rfl 59 _ gNwN HcI.out Hcz.out Hc1.out ?_
          refine hK _ _ ⟨.inl (by decide), ?_⟩
          clear hK K
          refine wpPlan_nil ?_
          obtain ⟨wE, hwE⟩ : ∃ wE, wE = wN.setRow w2.heap.size cs := ⟨_, rfl⟩
          obtain ⟨gE, hgE⟩ : ∃ gE, gE = w2.heap.size := ⟨_, rfl⟩
          rw [← hwE, ← hgE]
          have hf : w1.heap.size ≤ gE ∧ wE.heap[gE]? = some (.cells cs 59 (0, 0)) ∧ Below w1.heap.size w1 wE := ⟨by rw [hgE]; exact hzN, by rw [hwE, hgE]; exact setRow_heap _ _ _ _ _ _ gNwN, by rw [hwE]; exact below_setRow' hbwN hzN _⟩
          clear hwE hgE
          exact hT gE wE hf
        · go_wp2_with fail
          refine ⟨(ext_alloc _ _), ?_⟩
          refine (show wpPlan _ _ _ _ _ _ _ ((w1.alloc (.cells kz 59)).drew) from ?_)
          obtain ⟨wN, hwN⟩ : ∃ Y, Y = (w1.alloc (.cells kz 59)).drew := ⟨_, rfl⟩
          rw [← hwN]
          have hbwN : Below w1.heap.size w1 wN := by rw [hwN]; exact ((Below.refl _ w1).alloc (Nat.le_refl _) _).drew
          have gNwN : wN.heap[w1.heap.size]? = some (.cells kz 59 (0, 0)) := by rw [hwN]; exact heap_alloc_new w1 _
          have hzN : w1.heap.size ≤ w1.heap.size := Nat.le_refl _
          clear hwN
          refine wpPlan_loud rfl rfl (fun K hK => ?_)
          go_wp2_with fail
          refine (HN4.out _ hbwN).mono ?_
          rintro e w2 ⟨rfl, hcw2⟩
          have hbw2 : Below w1.heap.size w1 w2 := hbwN.trans (hcw2.mono hbwN.size)
          have gNw2 := (hcw2.block _ (Array.getElem?_eq_some_iff.1 gNwN).1).trans gNwN
          go_wp2_with fail
          refine ⟨.inr (ext_of_below hcw2), ?_⟩
          refine wpPlan_buildC rfl rfl 59 #[(0, .tmp 26), (1, .tmp 30), (2, .tmp 34), (3, .tmp 38), (4, .tmp 42)] rfl cs HBu.out ?_
          refine wpPlan_loud rfl rfl (fun K hK => ?_)
          refine wp_store_row 59 (.tmp 7) (.tmp 43) rfl w1.heap.size cs rfl rfl 59 _ gNw2 HcI.out Hcz.out Hc1.out ?_
          refine hK _ _ ⟨.inl (by decide), ?_⟩
          clear hK K
          refine wpPlan_nil ?_
          obtain ⟨wE, hwE⟩ : ∃ wE, wE = w2.setRow w1.heap.size cs := ⟨_, rfl⟩
          obtain ⟨gE, hgE⟩ : ∃ gE, gE = w1.heap.size := ⟨_, rfl⟩
          rw [← hwE, ← hgE]
          have hf : w1.heap.size ≤ gE ∧ wE.heap[gE]? = some (.cells cs 59 (0, 0)) ∧ Below w1.heap.size w1 wE := ⟨by rw [hgE]; exact hzN, by rw [hwE, hgE]; exact setRow_heap _ _ _ _ _ _ gNw2, by rw [hwE]; exact below_setRow' hbw2 hzN _⟩
          clear hwE hgE
          exact hT gE wE hf
      rintro gK wE ⟨hgK, gK1, hbE⟩
      have hbwE : Below w.heap.size w wE := hbw1.trans (hbE.mono hbw1.size)
      have hlK : gK < wE.heap.size := (Array.getElem?_eq_some_iff.1 gK1).1
      have rowE := (hbE.block B hl1).trans Hrow1.out
      have GK1 := Lib.hid gK1
      have RowE := Lib.hid rowE
      have hlB : B < wE.heap.size := Nat.lt_of_lt_of_le hl1 hbE.size
      clear gK1 rowE HN4 HBu R5 R13 R45 c4 hbD
      go_wp2_with fail
      refine (HNh.out _ hbE).mono ?_
      rintro e w2 ⟨rfl, hc2⟩
      have hbw2 : Below w.heap.size w w2 := hbwE.trans (hc2.mono hbwE.size)
      have GK2 := Lib.hid ((hc2.block gK hlK).trans GK1.out)
      have Row2 := Lib.hid ((hc2.block B hlB).trans RowE.out)
      have hlK2 : gK < w2.heap.size := Nat.lt_of_lt_of_le hlK hc2.size
      have hlB2 : B < w2.heap.size := Nat.lt_of_lt_of_le hlB hc2.size
      clear hc2 GK1 RowE hbE
      go_wp2_with (refine wpList_load_row rfl 59 (.tmp 7) rfl gK rfl 59 cs (0, 0) _ GK2.out Tryz.underlying59 rfl HcI.out ?_)
      refine (HPr.out _).mono ?_
      rintro e w3 ⟨rfl, hc3⟩
      have hbw3 : Below w.heap.size w w3 := hbw2.trans (hc3.mono hbw2.size)
      have GK3 := Lib.hid ((hc3.block gK hlK2).trans GK2.out)
      have Row3 := Lib.hid ((hc3.block B hlB2).trans Row2.out)
      have hlK3 : gK < w3.heap.size := Nat.lt_of_lt_of_le hlK2 hc3.size
      have hlB3 : B < w3.heap.size := Nat.lt_of_lt_of_le hlB2 hc3.size
      clear hc3 GK2 Row2 HPr
      obtain ⟨dp, hdp⟩ : ∃ dp, dp = k.depth := ⟨_, rfl⟩
      obtain ⟨fg, hfg⟩ : ∃ fg, fg = k.finger := ⟨_, rfl⟩
      obtain ⟨ch, hch⟩ : ∃ ch, ch = k.child := ⟨_, rfl⟩
      obtain ⟨p, hp⟩ : ∃ p, p = k.priv := ⟨_, rfl⟩
      obtain ⟨gd, hgd⟩ : ∃ gd, gd = k.good := ⟨_, rfl⟩
      have hfl : fg.length = 4 := by rw [hfg]; exact Hok.out.finger
      have hcell : ∀ j, w3.cell? ⟨gK, j, none⟩ = (keyC k)[j]? := fun j => by
        rw [cell_of_row _ _ _ _ _ _ GK3.out, Hcs.out]; simp
      have c0 : w3.cell? ⟨gK, 0, none⟩ = some (.int .u8 (dp.toNat : Int)) := by rw [hcell 0, keyC, hdp]; rfl
      have c5 : w3.cell? ⟨gK, 5, none⟩ = some (.int .u32 (ch : Int)) := by
        rw [hcell 5, keyC, List.getElem?_cons_succ, List.getElem?_append_right (by rw [B8_length, ← hfg, hfl]; exact Nat.le_refl _), B8_length, ← hfg, hfl, hch]; rfl
      have RF : Hid (w3.rangeAt gK 1 (B8 fg)) := Lib.hid fun j v hv => by
        have hj : j < (B8 fg).length := (List.getElem?_eq_some_iff.1 hv).1
        rw [Nat.add_comm, hcell (j + 1), keyC, List.getElem?_cons_succ, List.getElem?_append_left (by rw [← hfg]; exact hj), ← hfg]
        exact hv
      have I4' := Lib.hid (show (Tryz.prog.info? 54).map (·.size) = some (B8 fg).length by rw [B8_length, hfl]; kernel_rfl)
      have HE4 := Lib.hid (eq4 fg hfl)
      have HRv : Hid (R = if decide (hd = hkHead p) && gd && (decide (0 < dp.toNat) || (decide (fg = [0, 0, 0, 0]) && decide (ch = 0))) then (0, k) else (3, hkZero)) := Lib.hid (by rw [HRk.out, hp, hgd, hkRoot, hdp, hfg, hch])
      rw [← hp]
      rw [← hgd] at HGd
      have Hcs' := Lib.hid Hcs.out
      clear hdp hfg hch hp hgd hcell hfl HRk I4 I32 I33
      by_cases hd0 : 0 < dp.toNat
      · have hdI : (0 : Int) < (dp.toNat : Int) := by omega
        cases p
        · by_cases hhd : hd = 76067358
          · subst hhd
            cases gd
            · go_wp2_with (first | ((with_reducible refine wpList_load_row_gd ?c1 59 (.tmp 7) ?c2 gK ?c3 59 cs (0, 0) _ GK3.out Tryz.underlying59 ?c4 HcI.out ?_); (case c2 => rfl); (case c3 => rfl); (case c4 => rfl); (case c1 => kernel_rfl)) | ((with_reducible refine wpList_load_mid_gd ?c1 54 (.tmp 53) ?c2 gK 1 ?c3 (B8 fg) _ RF.out Tryz.underlying54 ?c4 I4'.out ?_); (case c2 => rfl); (case c3 => rfl); (case c4 => rfl); (case c1 => kernel_rfl)))
              refine (HGd.out _).mono ?_
              rintro e w4 ⟨rfl, hc4⟩
              have hbw4 : Below w.heap.size w w4 := hbw3.trans (hc4.mono hbw3.size)
              have GK4 := Lib.hid ((hc4.block gK hlK3).trans GK3.out)
              have Row4 := Lib.hid ((hc4.block B hlB3).trans Row3.out)
              clear hc4
              go_wp2_with ((with_reducible refine wpList_store_row ?s1 59 (.tmp 2) (.tmp 75) ?s2 B kz ?s3 ?s4 59 _ Row4.out ?s5 ?s6 kz_one ?_); (case s1 => rfl); (case s2 => rfl); (case s3 => rfl); (case s4 => rfl); (case s6 => rfl); (case s5 => kernel_rfl))
              have hRe : R = (3, hkZero) := by rw [HRv.out]; simp [hkHead, hd0]
              refine bodyPost_ret (v := .tuple #[.agg kz, .int .i64 3]) ?_ rfl ⟨by rw [hRe, kz_eq]; rfl, below_setRow' hbw4 hBw.out _⟩
              exact results_row_tmp rfl _ _ B 59 kz (0, 0) _ rfl (setRow_heap _ _ _ _ _ _ Row4.out) _ rfl Tryz.underlying59 rfl (by kernel_rfl)
            · go_wp2_with (first | ((with_reducible refine wpList_load_row_gd ?c1 59 (.tmp 7) ?c2 gK ?c3 59 cs (0, 0) _ GK3.out Tryz.underlying59 ?c4 HcI.out ?_); (case c2 => rfl); (case c3 => rfl); (case c4 => rfl); (case c1 => kernel_rfl)) | ((with_reducible refine wpList_load_mid_gd ?c1 54 (.tmp 53) ?c2 gK 1 ?c3 (B8 fg) _ RF.out Tryz.underlying54 ?c4 I4'.out ?_); (case c2 => rfl); (case c3 => rfl); (case c4 => rfl); (case c1 => kernel_rfl)))
              refine (HGd.out _).mono ?_
              rintro e w4 ⟨rfl, hc4⟩
              have hbw4 : Below w.heap.size w w4 := hbw3.trans (hc4.mono hbw3.size)
              have GK4 := Lib.hid ((hc4.block gK hlK3).trans GK3.out)
              have Row4 := Lib.hid ((hc4.block B hlB3).trans Row3.out)
              clear hc4
              go_wp2_with (first | ((with_reducible refine wpList_load_row ?l1 59 (.tmp 7) ?l2 gK ?l3 59 cs (0, 0) _ GK4.out Tryz.underlying59 ?l4 HcI.out ?_); (case l1 => rfl); (case l2 => rfl); (case l3 => rfl); (case l4 => rfl)) | ((with_reducible refine wpList_store_row ?s1 59 (.tmp 2) (.tmp 76) ?s2 B cs ?s3 ?s4 59 _ Row4.out HcI.out Hcz.out Hc1.out ?_); (case s1 => rfl); (case s2 => rfl); (case s3 => rfl); (case s4 => rfl)))
              have hRe : R = (0, k) := by rw [HRv.out]; simp [hkHead, hd0]
              refine bodyPost_ret (v := .tuple #[.agg cs, .int .i64 0]) ?_ rfl ⟨by rw [hRe, Hcs.out]; rfl, below_setRow' hbw4 hBw.out _⟩
              exact results_row_tmp rfl _ _ B 59 cs (0, 0) _ rfl (setRow_heap _ _ _ _ _ _ Row4.out) _ rfl Tryz.underlying59 rfl HcI.out
          · have hhI : ¬ ((hd : Int) = 76067358) := by omega
            go_wp2_with (first | ((with_reducible refine wpList_load_mid_gd ?c1 54 (.tmp 53) ?c2 gK 1 ?c3 (B8 fg) _ RF.out Tryz.underlying54 ?c4 I4'.out ?_); (case c2 => rfl); (case c3 => rfl); (case c4 => rfl); (case c1 => kernel_rfl)) | ((with_reducible refine wpList_store_row ?s1 59 (.tmp 2) (.tmp 75) ?s2 B kz ?s3 ?s4 59 _ Row3.out ?s5 ?s6 kz_one ?_); (case s1 => rfl); (case s2 => rfl); (case s3 => rfl); (case s4 => rfl); (case s6 => rfl); (case s5 => kernel_rfl)))
            have hRe : R = (3, hkZero) := by rw [HRv.out]; simp [hkHead, hd0, hhd]
            refine bodyPost_ret (v := .tuple #[.agg kz, .int .i64 3]) ?_ rfl ⟨by rw [hRe, kz_eq]; rfl, below_setRow' hbw3 hBw.out _⟩
            exact results_row_tmp rfl _ _ B 59 kz (0, 0) _ rfl (setRow_heap _ _ _ _ _ _ Row3.out) _ rfl Tryz.underlying59 rfl (by kernel_rfl)
        · by_cases hhd : hd = 76066276
          · subst hhd
            cases gd
            · go_wp2_with (first | ((with_reducible refine wpList_load_row_gd ?c1 59 (.tmp 7) ?c2 gK ?c3 59 cs (0, 0) _ GK3.out Tryz.underlying59 ?c4 HcI.out ?_); (case c2 => rfl); (case c3 => rfl); (case c4 => rfl); (case c1 => kernel_rfl)) | ((with_reducible refine wpList_load_mid_gd ?c1 54 (.tmp 53) ?c2 gK 1 ?c3 (B8 fg) _ RF.out Tryz.underlying54 ?c4 I4'.out ?_); (case c2 => rfl); (case c3 => rfl); (case c4 => rfl); (case c1 => kernel_rfl)))
              refine (HGd.out _).mono ?_
              rintro e w4 ⟨rfl, hc4⟩
              have hbw4 : Below w.heap.size w w4 := hbw3.trans (hc4.mono hbw3.size)
              have GK4 := Lib.hid ((hc4.block gK hlK3).trans GK3.out)
              have Row4 := Lib.hid ((hc4.block B hlB3).trans Row3.out)
              clear hc4
              go_wp2_with ((with_reducible refine wpList_store_row ?s1 59 (.tmp 2) (.tmp 75) ?s2 B kz ?s3 ?s4 59 _ Row4.out ?s5 ?s6 kz_one ?_); (case s1 => rfl); (case s2 => rfl); (case s3 => rfl); (case s4 => rfl); (case s6 => rfl); (case s5 => kernel_rfl))
              have hRe : R = (3, hkZero) := by rw [HRv.out]; simp [hkHead, hd0]
              refine bodyPost_ret (v := .tuple #[.agg kz, .int .i64 3]) ?_ rfl ⟨by rw [hRe, kz_eq]; rfl, below_setRow' hbw4 hBw.out _⟩
              exact results_row_tmp rfl _ _ B 59 kz (0, 0) _ rfl (setRow_heap _ _ _ _ _ _ Row4.out) _ rfl Tryz.underlying59 rfl (by kernel_rfl)
            · go_wp2_with (first | ((with_reducible refine wpList_load_row_gd ?c1 59 (.tmp 7) ?c2 gK ?c3 59 cs (0, 0) _ GK3.out Tryz.underlying59 ?c4 HcI.out ?_); (case c2 => rfl); (case c3 => rfl); (case c4 => rfl); (case c1 => kernel_rfl)) | ((with_reducible refine wpList_load_mid_gd ?c1 54 (.tmp 53) ?c2 gK 1 ?c3 (B8 fg) _ RF.out Tryz.underlying54 ?c4 I4'.out ?_); (case c2 => rfl); (case c3 => rfl); (case c4 => rfl); (case c1 => kernel_rfl)))
              refine (HGd.out _).mono ?_
              rintro e w4 ⟨rfl, hc4⟩
              have hbw4 : Below w.heap.size w w4 := hbw3.trans (hc4.mono hbw3.size)
              have GK4 := Lib.hid ((hc4.block gK hlK3).trans GK3.out)
              have Row4 := Lib.hid ((hc4.block B hlB3).trans Row3.out)
              clear hc4
              go_wp2_with (first | ((with_reducible refine wpList_load_row ?l1 59 (.tmp 7) ?l2 gK ?l3 59 cs (0, 0) _ GK4.out Tryz.underlying59 ?l4 HcI.out ?_); (case l1 => rfl); (case l2 => rfl); (case l3 => rfl); (case l4 => rfl)) | ((with_reducible refine wpList_store_row ?s1 59 (.tmp 2) (.tmp 76) ?s2 B cs ?s3 ?s4 59 _ Row4.out HcI.out Hcz.out Hc1.out ?_); (case s1 => rfl); (case s2 => rfl); (case s3 => rfl); (case s4 => rfl)))
              have hRe : R = (0, k) := by rw [HRv.out]; simp [hkHead, hd0]
              refine bodyPost_ret (v := .tuple #[.agg cs, .int .i64 0]) ?_ rfl ⟨by rw [hRe, Hcs.out]; rfl, below_setRow' hbw4 hBw.out _⟩
              exact results_row_tmp rfl _ _ B 59 cs (0, 0) _ rfl (setRow_heap _ _ _ _ _ _ Row4.out) _ rfl Tryz.underlying59 rfl HcI.out
          · have hhI : ¬ ((hd : Int) = 76066276) := by omega
            go_wp2_with (first | ((with_reducible refine wpList_load_mid_gd ?c1 54 (.tmp 53) ?c2 gK 1 ?c3 (B8 fg) _ RF.out Tryz.underlying54 ?c4 I4'.out ?_); (case c2 => rfl); (case c3 => rfl); (case c4 => rfl); (case c1 => kernel_rfl)) | ((with_reducible refine wpList_store_row ?s1 59 (.tmp 2) (.tmp 75) ?s2 B kz ?s3 ?s4 59 _ Row3.out ?s5 ?s6 kz_one ?_); (case s1 => rfl); (case s2 => rfl); (case s3 => rfl); (case s4 => rfl); (case s6 => rfl); (case s5 => kernel_rfl)))
            have hRe : R = (3, hkZero) := by rw [HRv.out]; simp [hkHead, hd0, hhd]
            refine bodyPost_ret (v := .tuple #[.agg kz, .int .i64 3]) ?_ rfl ⟨by rw [hRe, kz_eq]; rfl, below_setRow' hbw3 hBw.out _⟩
            exact results_row_tmp rfl _ _ B 59 kz (0, 0) _ rfl (setRow_heap _ _ _ _ _ _ Row3.out) _ rfl Tryz.underlying59 rfl (by kernel_rfl)
      · have hdI : ¬ (0 : Int) < (dp.toNat : Int) := by omega
        have hE := HE4.out
        by_cases hfz : fg = [0, 0, 0, 0]
        · simp only [decide_eq_true hfz] at hE
          have Hfz := Lib.hid hfz
          clear hfz
          by_cases hcz0 : ch = 0
          · subst hcz0
            cases p
            · by_cases hhd : hd = 76067358
              · subst hhd
                cases gd
                · go_wp2_with (first | ((with_reducible refine wpList_load_row_gd ?c1 59 (.tmp 7) ?c2 gK ?c3 59 cs (0, 0) _ GK3.out Tryz.underlying59 ?c4 HcI.out ?_); (case c2 => rfl); (case c3 => rfl); (case c4 => rfl); (case c1 => kernel_rfl)) | ((with_reducible refine wpList_load_mid_gd ?c1 54 (.tmp 53) ?c2 gK 1 ?c3 (B8 fg) _ RF.out Tryz.underlying54 ?c4 I4'.out ?_); (case c2 => rfl); (case c3 => rfl); (case c4 => rfl); (case c1 => kernel_rfl)))
                  refine (HGd.out _).mono ?_
                  rintro e w4 ⟨rfl, hc4⟩
                  have hbw4 : Below w.heap.size w w4 := hbw3.trans (hc4.mono hbw3.size)
                  have GK4 := Lib.hid ((hc4.block gK hlK3).trans GK3.out)
                  have Row4 := Lib.hid ((hc4.block B hlB3).trans Row3.out)
                  clear hc4
                  go_wp2_with ((with_reducible refine wpList_store_row ?s1 59 (.tmp 2) (.tmp 75) ?s2 B kz ?s3 ?s4 59 _ Row4.out ?s5 ?s6 kz_one ?_); (case s1 => rfl); (case s2 => rfl); (case s3 => rfl); (case s4 => rfl); (case s6 => rfl); (case s5 => kernel_rfl))
                  have hRe : R = (3, hkZero) := by rw [HRv.out]; simp [hkHead, hd0, Hfz.out]
                  refine bodyPost_ret (v := .tuple #[.agg kz, .int .i64 3]) ?_ rfl ⟨by rw [hRe, kz_eq]; rfl, below_setRow' hbw4 hBw.out _⟩
                  exact results_row_tmp rfl _ _ B 59 kz (0, 0) _ rfl (setRow_heap _ _ _ _ _ _ Row4.out) _ rfl Tryz.underlying59 rfl (by kernel_rfl)
                · go_wp2_with (first | ((with_reducible refine wpList_load_row_gd ?c1 59 (.tmp 7) ?c2 gK ?c3 59 cs (0, 0) _ GK3.out Tryz.underlying59 ?c4 HcI.out ?_); (case c2 => rfl); (case c3 => rfl); (case c4 => rfl); (case c1 => kernel_rfl)) | ((with_reducible refine wpList_load_mid_gd ?c1 54 (.tmp 53) ?c2 gK 1 ?c3 (B8 fg) _ RF.out Tryz.underlying54 ?c4 I4'.out ?_); (case c2 => rfl); (case c3 => rfl); (case c4 => rfl); (case c1 => kernel_rfl)))
                  refine (HGd.out _).mono ?_
                  rintro e w4 ⟨rfl, hc4⟩
                  have hbw4 : Below w.heap.size w w4 := hbw3.trans (hc4.mono hbw3.size)
                  have GK4 := Lib.hid ((hc4.block gK hlK3).trans GK3.out)
                  have Row4 := Lib.hid ((hc4.block B hlB3).trans Row3.out)
                  clear hc4
                  go_wp2_with (first | ((with_reducible refine wpList_load_row ?l1 59 (.tmp 7) ?l2 gK ?l3 59 cs (0, 0) _ GK4.out Tryz.underlying59 ?l4 HcI.out ?_); (case l1 => rfl); (case l2 => rfl); (case l3 => rfl); (case l4 => rfl)) | ((with_reducible refine wpList_store_row ?s1 59 (.tmp 2) (.tmp 76) ?s2 B cs ?s3 ?s4 59 _ Row4.out HcI.out Hcz.out Hc1.out ?_); (case s1 => rfl); (case s2 => rfl); (case s3 => rfl); (case s4 => rfl)))
                  have hRe : R = (0, k) := by rw [HRv.out]; simp [hkHead, hd0, Hfz.out]
                  refine bodyPost_ret (v := .tuple #[.agg cs, .int .i64 0]) ?_ rfl ⟨by rw [hRe, Hcs.out]; rfl, below_setRow' hbw4 hBw.out _⟩
                  exact results_row_tmp rfl _ _ B 59 cs (0, 0) _ rfl (setRow_heap _ _ _ _ _ _ Row4.out) _ rfl Tryz.underlying59 rfl HcI.out
              · have hhI : ¬ ((hd : Int) = 76067358) := by omega
                go_wp2_with (first | ((with_reducible refine wpList_load_mid_gd ?c1 54 (.tmp 53) ?c2 gK 1 ?c3 (B8 fg) _ RF.out Tryz.underlying54 ?c4 I4'.out ?_); (case c2 => rfl); (case c3 => rfl); (case c4 => rfl); (case c1 => kernel_rfl)) | ((with_reducible refine wpList_store_row ?s1 59 (.tmp 2) (.tmp 75) ?s2 B kz ?s3 ?s4 59 _ Row3.out ?s5 ?s6 kz_one ?_); (case s1 => rfl); (case s2 => rfl); (case s3 => rfl); (case s4 => rfl); (case s6 => rfl); (case s5 => kernel_rfl)))
                have hRe : R = (3, hkZero) := by rw [HRv.out]; simp [hkHead, hd0, Hfz.out, hhd]
                refine bodyPost_ret (v := .tuple #[.agg kz, .int .i64 3]) ?_ rfl ⟨by rw [hRe, kz_eq]; rfl, below_setRow' hbw3 hBw.out _⟩
                exact results_row_tmp rfl _ _ B 59 kz (0, 0) _ rfl (setRow_heap _ _ _ _ _ _ Row3.out) _ rfl Tryz.underlying59 rfl (by kernel_rfl)
            · by_cases hhd : hd = 76066276
              · subst hhd
                cases gd
                · go_wp2_with (first | ((with_reducible refine wpList_load_row_gd ?c1 59 (.tmp 7) ?c2 gK ?c3 59 cs (0, 0) _ GK3.out Tryz.underlying59 ?c4 HcI.out ?_); (case c2 => rfl); (case c3 => rfl); (case c4 => rfl); (case c1 => kernel_rfl)) | ((with_reducible refine wpList_load_mid_gd ?c1 54 (.tmp 53) ?c2 gK 1 ?c3 (B8 fg) _ RF.out Tryz.underlying54 ?c4 I4'.out ?_); (case c2 => rfl); (case c3 => rfl); (case c4 => rfl); (case c1 => kernel_rfl)))
                  refine (HGd.out _).mono ?_
                  rintro e w4 ⟨rfl, hc4⟩
                  have hbw4 : Below w.heap.size w w4 := hbw3.trans (hc4.mono hbw3.size)
                  have GK4 := Lib.hid ((hc4.block gK hlK3).trans GK3.out)
                  have Row4 := Lib.hid ((hc4.block B hlB3).trans Row3.out)
                  clear hc4
                  go_wp2_with ((with_reducible refine wpList_store_row ?s1 59 (.tmp 2) (.tmp 75) ?s2 B kz ?s3 ?s4 59 _ Row4.out ?s5 ?s6 kz_one ?_); (case s1 => rfl); (case s2 => rfl); (case s3 => rfl); (case s4 => rfl); (case s6 => rfl); (case s5 => kernel_rfl))
                  have hRe : R = (3, hkZero) := by rw [HRv.out]; simp [hkHead, hd0, Hfz.out]
                  refine bodyPost_ret (v := .tuple #[.agg kz, .int .i64 3]) ?_ rfl ⟨by rw [hRe, kz_eq]; rfl, below_setRow' hbw4 hBw.out _⟩
                  exact results_row_tmp rfl _ _ B 59 kz (0, 0) _ rfl (setRow_heap _ _ _ _ _ _ Row4.out) _ rfl Tryz.underlying59 rfl (by kernel_rfl)
                · go_wp2_with (first | ((with_reducible refine wpList_load_row_gd ?c1 59 (.tmp 7) ?c2 gK ?c3 59 cs (0, 0) _ GK3.out Tryz.underlying59 ?c4 HcI.out ?_); (case c2 => rfl); (case c3 => rfl); (case c4 => rfl); (case c1 => kernel_rfl)) | ((with_reducible refine wpList_load_mid_gd ?c1 54 (.tmp 53) ?c2 gK 1 ?c3 (B8 fg) _ RF.out Tryz.underlying54 ?c4 I4'.out ?_); (case c2 => rfl); (case c3 => rfl); (case c4 => rfl); (case c1 => kernel_rfl)))
                  refine (HGd.out _).mono ?_
                  rintro e w4 ⟨rfl, hc4⟩
                  have hbw4 : Below w.heap.size w w4 := hbw3.trans (hc4.mono hbw3.size)
                  have GK4 := Lib.hid ((hc4.block gK hlK3).trans GK3.out)
                  have Row4 := Lib.hid ((hc4.block B hlB3).trans Row3.out)
                  clear hc4
                  go_wp2_with (first | ((with_reducible refine wpList_load_row ?l1 59 (.tmp 7) ?l2 gK ?l3 59 cs (0, 0) _ GK4.out Tryz.underlying59 ?l4 HcI.out ?_); (case l1 => rfl); (case l2 => rfl); (case l3 => rfl); (case l4 => rfl)) | ((with_reducible refine wpList_store_row ?s1 59 (.tmp 2) (.tmp 76) ?s2 B cs ?s3 ?s4 59 _ Row4.out HcI.out Hcz.out Hc1.out ?_); (case s1 => rfl); (case s2 => rfl); (case s3 => rfl); (case s4 => rfl)))
                  have hRe : R = (0, k) := by rw [HRv.out]; simp [hkHead, hd0, Hfz.out]
                  refine bodyPost_ret (v := .tuple #[.agg cs, .int .i64 0]) ?_ rfl ⟨by rw [hRe, Hcs.out]; rfl, below_setRow' hbw4 hBw.out _⟩
                  exact results_row_tmp rfl _ _ B 59 cs (0, 0) _ rfl (setRow_heap _ _ _ _ _ _ Row4.out) _ rfl Tryz.underlying59 rfl HcI.out
              · have hhI : ¬ ((hd : Int) = 76066276) := by omega
                go_wp2_with (first | ((with_reducible refine wpList_load_mid_gd ?c1 54 (.tmp 53) ?c2 gK 1 ?c3 (B8 fg) _ RF.out Tryz.underlying54 ?c4 I4'.out ?_); (case c2 => rfl); (case c3 => rfl); (case c4 => rfl); (case c1 => kernel_rfl)) | ((with_reducible refine wpList_store_row ?s1 59 (.tmp 2) (.tmp 75) ?s2 B kz ?s3 ?s4 59 _ Row3.out ?s5 ?s6 kz_one ?_); (case s1 => rfl); (case s2 => rfl); (case s3 => rfl); (case s4 => rfl); (case s6 => rfl); (case s5 => kernel_rfl)))
                have hRe : R = (3, hkZero) := by rw [HRv.out]; simp [hkHead, hd0, Hfz.out, hhd]
                refine bodyPost_ret (v := .tuple #[.agg kz, .int .i64 3]) ?_ rfl ⟨by rw [hRe, kz_eq]; rfl, below_setRow' hbw3 hBw.out _⟩
                exact results_row_tmp rfl _ _ B 59 kz (0, 0) _ rfl (setRow_heap _ _ _ _ _ _ Row3.out) _ rfl Tryz.underlying59 rfl (by kernel_rfl)
          · have hcI : ¬ ((ch : Int) = 0) := by omega
            have hcB : ((ch : Int) == 0) = false := by simpa using hcI
            have Hcz0 := Lib.hid hcz0
            clear hcz0 hcI
            cases p
            · by_cases hhd : hd = 76067358
              · subst hhd
                cases gd
                · go_wp2_with (first | ((with_reducible refine wpList_load_row_gd ?c1 59 (.tmp 7) ?c2 gK ?c3 59 cs (0, 0) _ GK3.out Tryz.underlying59 ?c4 HcI.out ?_); (case c2 => rfl); (case c3 => rfl); (case c4 => rfl); (case c1 => kernel_rfl)) | ((with_reducible refine wpList_load_mid_gd ?c1 54 (.tmp 53) ?c2 gK 1 ?c3 (B8 fg) _ RF.out Tryz.underlying54 ?c4 I4'.out ?_); (case c2 => rfl); (case c3 => rfl); (case c4 => rfl); (case c1 => kernel_rfl)))
                  refine (HGd.out _).mono ?_
                  rintro e w4 ⟨rfl, hc4⟩
                  have hbw4 : Below w.heap.size w w4 := hbw3.trans (hc4.mono hbw3.size)
                  have GK4 := Lib.hid ((hc4.block gK hlK3).trans GK3.out)
                  have Row4 := Lib.hid ((hc4.block B hlB3).trans Row3.out)
                  clear hc4
                  go_wp2_with ((with_reducible refine wpList_store_row ?s1 59 (.tmp 2) (.tmp 75) ?s2 B kz ?s3 ?s4 59 _ Row4.out ?s5 ?s6 kz_one ?_); (case s1 => rfl); (case s2 => rfl); (case s3 => rfl); (case s4 => rfl); (case s6 => rfl); (case s5 => kernel_rfl))
                  have hRe : R = (3, hkZero) := by rw [HRv.out]; simp [hkHead, hd0, Hfz.out, Hcz0.out]
                  refine bodyPost_ret (v := .tuple #[.agg kz, .int .i64 3]) ?_ rfl ⟨by rw [hRe, kz_eq]; rfl, below_setRow' hbw4 hBw.out _⟩
                  exact results_row_tmp rfl _ _ B 59 kz (0, 0) _ rfl (setRow_heap _ _ _ _ _ _ Row4.out) _ rfl Tryz.underlying59 rfl (by kernel_rfl)
                · go_wp2_with (first | ((with_reducible refine wpList_load_row_gd ?c1 59 (.tmp 7) ?c2 gK ?c3 59 cs (0, 0) _ GK3.out Tryz.underlying59 ?c4 HcI.out ?_); (case c2 => rfl); (case c3 => rfl); (case c4 => rfl); (case c1 => kernel_rfl)) | ((with_reducible refine wpList_load_mid_gd ?c1 54 (.tmp 53) ?c2 gK 1 ?c3 (B8 fg) _ RF.out Tryz.underlying54 ?c4 I4'.out ?_); (case c2 => rfl); (case c3 => rfl); (case c4 => rfl); (case c1 => kernel_rfl)))
                  refine (HGd.out _).mono ?_
                  rintro e w4 ⟨rfl, hc4⟩
                  have hbw4 : Below w.heap.size w w4 := hbw3.trans (hc4.mono hbw3.size)
                  have GK4 := Lib.hid ((hc4.block gK hlK3).trans GK3.out)
                  have Row4 := Lib.hid ((hc4.block B hlB3).trans Row3.out)
                  clear hc4
                  go_wp2_with ((with_reducible refine wpList_store_row ?s1 59 (.tmp 2) (.tmp 75) ?s2 B kz ?s3 ?s4 59 _ Row4.out ?s5 ?s6 kz_one ?_); (case s1 => rfl); (case s2 => rfl); (case s3 => rfl); (case s4 => rfl); (case s6 => rfl); (case s5 => kernel_rfl))
                  have hRe : R = (3, hkZero) := by rw [HRv.out]; simp [hkHead, hd0, Hfz.out, Hcz0.out]
                  refine bodyPost_ret (v := .tuple #[.agg kz, .int .i64 3]) ?_ rfl ⟨by rw [hRe, kz_eq]; rfl, below_setRow' hbw4 hBw.out _⟩
                  exact results_row_tmp rfl _ _ B 59 kz (0, 0) _ rfl (setRow_heap _ _ _ _ _ _ Row4.out) _ rfl Tryz.underlying59 rfl (by kernel_rfl)
              · have hhI : ¬ ((hd : Int) = 76067358) := by omega
                go_wp2_with (first | ((with_reducible refine wpList_load_mid_gd ?c1 54 (.tmp 53) ?c2 gK 1 ?c3 (B8 fg) _ RF.out Tryz.underlying54 ?c4 I4'.out ?_); (case c2 => rfl); (case c3 => rfl); (case c4 => rfl); (case c1 => kernel_rfl)) | ((with_reducible refine wpList_store_row ?s1 59 (.tmp 2) (.tmp 75) ?s2 B kz ?s3 ?s4 59 _ Row3.out ?s5 ?s6 kz_one ?_); (case s1 => rfl); (case s2 => rfl); (case s3 => rfl); (case s4 => rfl); (case s6 => rfl); (case s5 => kernel_rfl)))
                have hRe : R = (3, hkZero) := by rw [HRv.out]; simp [hkHead, hd0, Hfz.out, Hcz0.out, hhd]
                refine bodyPost_ret (v := .tuple #[.agg kz, .int .i64 3]) ?_ rfl ⟨by rw [hRe, kz_eq]; rfl, below_setRow' hbw3 hBw.out _⟩
                exact results_row_tmp rfl _ _ B 59 kz (0, 0) _ rfl (setRow_heap _ _ _ _ _ _ Row3.out) _ rfl Tryz.underlying59 rfl (by kernel_rfl)
            · by_cases hhd : hd = 76066276
              · subst hhd
                cases gd
                · go_wp2_with (first | ((with_reducible refine wpList_load_row_gd ?c1 59 (.tmp 7) ?c2 gK ?c3 59 cs (0, 0) _ GK3.out Tryz.underlying59 ?c4 HcI.out ?_); (case c2 => rfl); (case c3 => rfl); (case c4 => rfl); (case c1 => kernel_rfl)) | ((with_reducible refine wpList_load_mid_gd ?c1 54 (.tmp 53) ?c2 gK 1 ?c3 (B8 fg) _ RF.out Tryz.underlying54 ?c4 I4'.out ?_); (case c2 => rfl); (case c3 => rfl); (case c4 => rfl); (case c1 => kernel_rfl)))
                  refine (HGd.out _).mono ?_
                  rintro e w4 ⟨rfl, hc4⟩
                  have hbw4 : Below w.heap.size w w4 := hbw3.trans (hc4.mono hbw3.size)
                  have GK4 := Lib.hid ((hc4.block gK hlK3).trans GK3.out)
                  have Row4 := Lib.hid ((hc4.block B hlB3).trans Row3.out)
                  clear hc4
                  go_wp2_with ((with_reducible refine wpList_store_row ?s1 59 (.tmp 2) (.tmp 75) ?s2 B kz ?s3 ?s4 59 _ Row4.out ?s5 ?s6 kz_one ?_); (case s1 => rfl); (case s2 => rfl); (case s3 => rfl); (case s4 => rfl); (case s6 => rfl); (case s5 => kernel_rfl))
                  have hRe : R = (3, hkZero) := by rw [HRv.out]; simp [hkHead, hd0, Hfz.out, Hcz0.out]
                  refine bodyPost_ret (v := .tuple #[.agg kz, .int .i64 3]) ?_ rfl ⟨by rw [hRe, kz_eq]; rfl, below_setRow' hbw4 hBw.out _⟩
                  exact results_row_tmp rfl _ _ B 59 kz (0, 0) _ rfl (setRow_heap _ _ _ _ _ _ Row4.out) _ rfl Tryz.underlying59 rfl (by kernel_rfl)
                · go_wp2_with (first | ((with_reducible refine wpList_load_row_gd ?c1 59 (.tmp 7) ?c2 gK ?c3 59 cs (0, 0) _ GK3.out Tryz.underlying59 ?c4 HcI.out ?_); (case c2 => rfl); (case c3 => rfl); (case c4 => rfl); (case c1 => kernel_rfl)) | ((with_reducible refine wpList_load_mid_gd ?c1 54 (.tmp 53) ?c2 gK 1 ?c3 (B8 fg) _ RF.out Tryz.underlying54 ?c4 I4'.out ?_); (case c2 => rfl); (case c3 => rfl); (case c4 => rfl); (case c1 => kernel_rfl)))
                  refine (HGd.out _).mono ?_
                  rintro e w4 ⟨rfl, hc4⟩
                  have hbw4 : Below w.heap.size w w4 := hbw3.trans (hc4.mono hbw3.size)
                  have GK4 := Lib.hid ((hc4.block gK hlK3).trans GK3.out)
                  have Row4 := Lib.hid ((hc4.block B hlB3).trans Row3.out)
                  clear hc4
                  go_wp2_with ((with_reducible refine wpList_store_row ?s1 59 (.tmp 2) (.tmp 75) ?s2 B kz ?s3 ?s4 59 _ Row4.out ?s5 ?s6 kz_one ?_); (case s1 => rfl); (case s2 => rfl); (case s3 => rfl); (case s4 => rfl); (case s6 => rfl); (case s5 => kernel_rfl))
                  have hRe : R = (3, hkZero) := by rw [HRv.out]; simp [hkHead, hd0, Hfz.out, Hcz0.out]
                  refine bodyPost_ret (v := .tuple #[.agg kz, .int .i64 3]) ?_ rfl ⟨by rw [hRe, kz_eq]; rfl, below_setRow' hbw4 hBw.out _⟩
                  exact results_row_tmp rfl _ _ B 59 kz (0, 0) _ rfl (setRow_heap _ _ _ _ _ _ Row4.out) _ rfl Tryz.underlying59 rfl (by kernel_rfl)
              · have hhI : ¬ ((hd : Int) = 76066276) := by omega
                go_wp2_with (first | ((with_reducible refine wpList_load_mid_gd ?c1 54 (.tmp 53) ?c2 gK 1 ?c3 (B8 fg) _ RF.out Tryz.underlying54 ?c4 I4'.out ?_); (case c2 => rfl); (case c3 => rfl); (case c4 => rfl); (case c1 => kernel_rfl)) | ((with_reducible refine wpList_store_row ?s1 59 (.tmp 2) (.tmp 75) ?s2 B kz ?s3 ?s4 59 _ Row3.out ?s5 ?s6 kz_one ?_); (case s1 => rfl); (case s2 => rfl); (case s3 => rfl); (case s4 => rfl); (case s6 => rfl); (case s5 => kernel_rfl)))
                have hRe : R = (3, hkZero) := by rw [HRv.out]; simp [hkHead, hd0, Hfz.out, Hcz0.out, hhd]
                refine bodyPost_ret (v := .tuple #[.agg kz, .int .i64 3]) ?_ rfl ⟨by rw [hRe, kz_eq]; rfl, below_setRow' hbw3 hBw.out _⟩
                exact results_row_tmp rfl _ _ B 59 kz (0, 0) _ rfl (setRow_heap _ _ _ _ _ _ Row3.out) _ rfl Tryz.underlying59 rfl (by kernel_rfl)
        · simp only [decide_eq_false hfz] at hE
          cases p
          · by_cases hhd : hd = 76067358
            · subst hhd
              cases gd
              · go_wp2_with (first | ((with_reducible refine wpList_load_row_gd ?c1 59 (.tmp 7) ?c2 gK ?c3 59 cs (0, 0) _ GK3.out Tryz.underlying59 ?c4 HcI.out ?_); (case c2 => rfl); (case c3 => rfl); (case c4 => rfl); (case c1 => kernel_rfl)) | ((with_reducible refine wpList_load_mid_gd ?c1 54 (.tmp 53) ?c2 gK 1 ?c3 (B8 fg) _ RF.out Tryz.underlying54 ?c4 I4'.out ?_); (case c2 => rfl); (case c3 => rfl); (case c4 => rfl); (case c1 => kernel_rfl)))
                refine (HGd.out _).mono ?_
                rintro e w4 ⟨rfl, hc4⟩
                have hbw4 : Below w.heap.size w w4 := hbw3.trans (hc4.mono hbw3.size)
                have GK4 := Lib.hid ((hc4.block gK hlK3).trans GK3.out)
                have Row4 := Lib.hid ((hc4.block B hlB3).trans Row3.out)
                clear hc4
                go_wp2_with ((with_reducible refine wpList_store_row ?s1 59 (.tmp 2) (.tmp 75) ?s2 B kz ?s3 ?s4 59 _ Row4.out ?s5 ?s6 kz_one ?_); (case s1 => rfl); (case s2 => rfl); (case s3 => rfl); (case s4 => rfl); (case s6 => rfl); (case s5 => kernel_rfl))
                have hRe : R = (3, hkZero) := by rw [HRv.out]; simp [hkHead, hd0, hfz]
                refine bodyPost_ret (v := .tuple #[.agg kz, .int .i64 3]) ?_ rfl ⟨by rw [hRe, kz_eq]; rfl, below_setRow' hbw4 hBw.out _⟩
                exact results_row_tmp rfl _ _ B 59 kz (0, 0) _ rfl (setRow_heap _ _ _ _ _ _ Row4.out) _ rfl Tryz.underlying59 rfl (by kernel_rfl)
              · go_wp2_with (first | ((with_reducible refine wpList_load_row_gd ?c1 59 (.tmp 7) ?c2 gK ?c3 59 cs (0, 0) _ GK3.out Tryz.underlying59 ?c4 HcI.out ?_); (case c2 => rfl); (case c3 => rfl); (case c4 => rfl); (case c1 => kernel_rfl)) | ((with_reducible refine wpList_load_mid_gd ?c1 54 (.tmp 53) ?c2 gK 1 ?c3 (B8 fg) _ RF.out Tryz.underlying54 ?c4 I4'.out ?_); (case c2 => rfl); (case c3 => rfl); (case c4 => rfl); (case c1 => kernel_rfl)))
                refine (HGd.out _).mono ?_
                rintro e w4 ⟨rfl, hc4⟩
                have hbw4 : Below w.heap.size w w4 := hbw3.trans (hc4.mono hbw3.size)
                have GK4 := Lib.hid ((hc4.block gK hlK3).trans GK3.out)
                have Row4 := Lib.hid ((hc4.block B hlB3).trans Row3.out)
                clear hc4
                go_wp2_with ((with_reducible refine wpList_store_row ?s1 59 (.tmp 2) (.tmp 75) ?s2 B kz ?s3 ?s4 59 _ Row4.out ?s5 ?s6 kz_one ?_); (case s1 => rfl); (case s2 => rfl); (case s3 => rfl); (case s4 => rfl); (case s6 => rfl); (case s5 => kernel_rfl))
                have hRe : R = (3, hkZero) := by rw [HRv.out]; simp [hkHead, hd0, hfz]
                refine bodyPost_ret (v := .tuple #[.agg kz, .int .i64 3]) ?_ rfl ⟨by rw [hRe, kz_eq]; rfl, below_setRow' hbw4 hBw.out _⟩
                exact results_row_tmp rfl _ _ B 59 kz (0, 0) _ rfl (setRow_heap _ _ _ _ _ _ Row4.out) _ rfl Tryz.underlying59 rfl (by kernel_rfl)
            · have hhI : ¬ ((hd : Int) = 76067358) := by omega
              go_wp2_with (first | ((with_reducible refine wpList_load_mid_gd ?c1 54 (.tmp 53) ?c2 gK 1 ?c3 (B8 fg) _ RF.out Tryz.underlying54 ?c4 I4'.out ?_); (case c2 => rfl); (case c3 => rfl); (case c4 => rfl); (case c1 => kernel_rfl)) | ((with_reducible refine wpList_store_row ?s1 59 (.tmp 2) (.tmp 75) ?s2 B kz ?s3 ?s4 59 _ Row3.out ?s5 ?s6 kz_one ?_); (case s1 => rfl); (case s2 => rfl); (case s3 => rfl); (case s4 => rfl); (case s6 => rfl); (case s5 => kernel_rfl)))
              have hRe : R = (3, hkZero) := by rw [HRv.out]; simp [hkHead, hd0, hfz, hhd]
              refine bodyPost_ret (v := .tuple #[.agg kz, .int .i64 3]) ?_ rfl ⟨by rw [hRe, kz_eq]; rfl, below_setRow' hbw3 hBw.out _⟩
              exact results_row_tmp rfl _ _ B 59 kz (0, 0) _ rfl (setRow_heap _ _ _ _ _ _ Row3.out) _ rfl Tryz.underlying59 rfl (by kernel_rfl)
          · by_cases hhd : hd = 76066276
            · subst hhd
              cases gd
              · go_wp2_with (first | ((with_reducible refine wpList_load_row_gd ?c1 59 (.tmp 7) ?c2 gK ?c3 59 cs (0, 0) _ GK3.out Tryz.underlying59 ?c4 HcI.out ?_); (case c2 => rfl); (case c3 => rfl); (case c4 => rfl); (case c1 => kernel_rfl)) | ((with_reducible refine wpList_load_mid_gd ?c1 54 (.tmp 53) ?c2 gK 1 ?c3 (B8 fg) _ RF.out Tryz.underlying54 ?c4 I4'.out ?_); (case c2 => rfl); (case c3 => rfl); (case c4 => rfl); (case c1 => kernel_rfl)))
                refine (HGd.out _).mono ?_
                rintro e w4 ⟨rfl, hc4⟩
                have hbw4 : Below w.heap.size w w4 := hbw3.trans (hc4.mono hbw3.size)
                have GK4 := Lib.hid ((hc4.block gK hlK3).trans GK3.out)
                have Row4 := Lib.hid ((hc4.block B hlB3).trans Row3.out)
                clear hc4
                go_wp2_with ((with_reducible refine wpList_store_row ?s1 59 (.tmp 2) (.tmp 75) ?s2 B kz ?s3 ?s4 59 _ Row4.out ?s5 ?s6 kz_one ?_); (case s1 => rfl); (case s2 => rfl); (case s3 => rfl); (case s4 => rfl); (case s6 => rfl); (case s5 => kernel_rfl))
                have hRe : R = (3, hkZero) := by rw [HRv.out]; simp [hkHead, hd0, hfz]
                refine bodyPost_ret (v := .tuple #[.agg kz, .int .i64 3]) ?_ rfl ⟨by rw [hRe, kz_eq]; rfl, below_setRow' hbw4 hBw.out _⟩
                exact results_row_tmp rfl _ _ B 59 kz (0, 0) _ rfl (setRow_heap _ _ _ _ _ _ Row4.out) _ rfl Tryz.underlying59 rfl (by kernel_rfl)
              · go_wp2_with (first | ((with_reducible refine wpList_load_row_gd ?c1 59 (.tmp 7) ?c2 gK ?c3 59 cs (0, 0) _ GK3.out Tryz.underlying59 ?c4 HcI.out ?_); (case c2 => rfl); (case c3 => rfl); (case c4 => rfl); (case c1 => kernel_rfl)) | ((with_reducible refine wpList_load_mid_gd ?c1 54 (.tmp 53) ?c2 gK 1 ?c3 (B8 fg) _ RF.out Tryz.underlying54 ?c4 I4'.out ?_); (case c2 => rfl); (case c3 => rfl); (case c4 => rfl); (case c1 => kernel_rfl)))
                refine (HGd.out _).mono ?_
                rintro e w4 ⟨rfl, hc4⟩
                have hbw4 : Below w.heap.size w w4 := hbw3.trans (hc4.mono hbw3.size)
                have GK4 := Lib.hid ((hc4.block gK hlK3).trans GK3.out)
                have Row4 := Lib.hid ((hc4.block B hlB3).trans Row3.out)
                clear hc4
                go_wp2_with ((with_reducible refine wpList_store_row ?s1 59 (.tmp 2) (.tmp 75) ?s2 B kz ?s3 ?s4 59 _ Row4.out ?s5 ?s6 kz_one ?_); (case s1 => rfl); (case s2 => rfl); (case s3 => rfl); (case s4 => rfl); (case s6 => rfl); (case s5 => kernel_rfl))
                have hRe : R = (3, hkZero) := by rw [HRv.out]; simp [hkHead, hd0, hfz]
                refine bodyPost_ret (v := .tuple #[.agg kz, .int .i64 3]) ?_ rfl ⟨by rw [hRe, kz_eq]; rfl, below_setRow' hbw4 hBw.out _⟩
                exact results_row_tmp rfl _ _ B 59 kz (0, 0) _ rfl (setRow_heap _ _ _ _ _ _ Row4.out) _ rfl Tryz.underlying59 rfl (by kernel_rfl)
            · have hhI : ¬ ((hd : Int) = 76066276) := by omega
              go_wp2_with (first | ((with_reducible refine wpList_load_mid_gd ?c1 54 (.tmp 53) ?c2 gK 1 ?c3 (B8 fg) _ RF.out Tryz.underlying54 ?c4 I4'.out ?_); (case c2 => rfl); (case c3 => rfl); (case c4 => rfl); (case c1 => kernel_rfl)) | ((with_reducible refine wpList_store_row ?s1 59 (.tmp 2) (.tmp 75) ?s2 B kz ?s3 ?s4 59 _ Row3.out ?s5 ?s6 kz_one ?_); (case s1 => rfl); (case s2 => rfl); (case s3 => rfl); (case s4 => rfl); (case s6 => rfl); (case s5 => kernel_rfl)))
              have hRe : R = (3, hkZero) := by rw [HRv.out]; simp [hkHead, hd0, hfz, hhd]
              refine bodyPost_ret (v := .tuple #[.agg kz, .int .i64 3]) ?_ rfl ⟨by rw [hRe, kz_eq]; rfl, below_setRow' hbw3 hBw.out _⟩
              exact results_row_tmp rfl _ _ B 59 kz (0, 0) _ rfl (setRow_heap _ _ _ _ _ _ Row3.out) _ rfl Tryz.underlying59 rfl (by kernel_rfl)
    · have h78I : ¬ ((n : Int) = 78) := by omega
      have hRv : R = (2, hkZero) := by rw [HR.out, if_pos rfl, parseB, if_neg (by rw [← Hn.out]; exact h78)]
      go_wp2_with (refine wpList_store_row rfl 59 (.tmp 2) (.tmp 23) rfl B kz rfl rfl 59 _ Hrow1.out (by kernel_rfl) rfl kz_one ?_)
      refine bodyPost_ret (v := .tuple #[.agg kz, .int .i64 2]) ?_ rfl ⟨by rw [hRv, kz_eq]; rfl, below_setRow' hbw1 hBw.out _⟩
      exact results_row_tmp rfl _ _ B 59 kz (0, 0) _ rfl (setRow_heap _ _ _ _ _ _ Hrow1.out) _ rfl Tryz.underlying59 rfl (by kernel_rfl)
  · have hEI : ¬ ((E : Int) = 0) := by omega
    have hRv : R = (E, hkZero) := by rw [HR.out, if_neg hE0]
    go_wp2_with (refine wpList_store_row rfl 59 (.tmp 2) (.tmp 18) rfl B kz rfl rfl 59 _ Hrow1.out (by kernel_rfl) rfl kz_one ?_)
    refine bodyPost_ret (v := .tuple #[.agg kz, .int .i64 (E : Int)]) ?_ rfl ⟨by rw [hRv, kz_eq], below_setRow' hbw1 hBw.out _⟩
    exact results_row_tmp rfl _ _ B 59 kz (0, 0) _ rfl (setRow_heap _ _ _ _ _ _ Hrow1.out) _ rfl Tryz.underlying59 rfl (by kernel_rfl)
end Go.Proofs.YtcjioogololnoaaGreatDoor

/-! hdkey.Key.Text. -/
namespace Go.Proofs.YtcjioogololnoaaGreatDoor
open Go Go.RowKit Go.Shelf

theorem shareV (F : Value → Nat → Value → World → Prop) {G : Prop} {T : Value → Nat → Value → World → Prop} (h2 : (∀ u g v w, F u g v w → T u g v w) → G) (h1 : ∀ u g v w, F u g v w → T u g v w) : G := h2 h1
/-- A tree's key as bytes, and as text. -/
def bytesH (k : HKey) : List UInt8 := be4L (hkHead k.priv) ++ k.depth :: (k.finger ++ (be4L k.child ++ (k.chain ++ k.data)))
def textH (k : HKey) : List UInt8 := b58L (checked (bytesH k))
theorem bytesH_length {k : HKey} (h : k.Ok) : (bytesH k).length = 78 := by simp [bytesH, be4L, h.finger, h.chain, h.data]

set_option maxRecDepth 100000 in
set_option maxHeartbeats 4000000 in
theorem htext_any (k : HKey) (hk : k.Ok) (w : World) :
    Calls Tryz.prog 48 #[.agg (keyC k).toArray] w fun e W' => e = .returned (.string ⟨(textH k).toArray⟩) ∧ Below w.heap.size w W' := by
  have hmx : Tryz.prog.follows .mixedOrders = true := by kernel_rfl
  obtain ⟨cs, hcs⟩ : ∃ cs, cs = (keyC k).toArray := ⟨_, rfl⟩
  have HPr : Hid (∀ ww, Calls Tryz.prog 78 #[.agg cs] ww fun e W' => e = .returned (.bool k.priv) ∧ Below ww.heap.size ww W') := Lib.hid fun ww => by rw [hcs]; exact private_any k hk ww
  rw [← hcs]
  have hcz : cs.size = 71 := by rw [hcs]; simp [keyC_length hk]
  have HcI := Lib.hid (show (Tryz.prog.info? 59).map (·.size) = some cs.size by rw [hcz]; kernel_rfl)
  obtain ⟨R, hR⟩ : ∃ R, R = textH k := ⟨_, rfl⟩
  rw [← hR]
  have hrow := heap_alloc_new w (.cells cs 59)
  obtain ⟨W0, hW0⟩ : ∃ W0, W0 = w.alloc (.cells cs 59) := ⟨_, rfl⟩
  rw [← hW0] at hrow
  have hb0 : Below w.heap.size w W0 := by rw [hW0]; exact (Below.refl _ w).alloc (Nat.le_refl _) _
  have hz0 : W0.heap.size = w.heap.size + 1 := by rw [hW0]; simp
  obtain ⟨B, hB⟩ : ∃ B, B = w.heap.size := ⟨_, rfl⟩
  have HB := Lib.hid hB
  have Hrow := Lib.hid hrow
  have HW0 := Lib.hid hW0
  have Hz0 := Lib.hid hz0
  have Hcs := Lib.hid hcs
  have HR := Lib.hid hR
  clear hrow hW0 hz0 hcs hR hcz hB
  go_enter Tryz.func48, Tryz.ntmps48
  go_wp2_with (first | (refine wpList_boxTo rfl 59 (.tmp 0) rfl _ rfl w.heap.size rfl cs rfl ?_) | (refine wpList_load_row rfl 59 (.tmp 1) rfl w.heap.size rfl 59 cs (0, 0) _ (heap_alloc_new w _) Tryz.underlying59 rfl HcI.out ?_))
  refine (show W0 = _ from HW0.out) ▸ ?_
  rw [← HB.out] at hb0 Hrow Hz0 ⊢
  refine (HPr.out _).mono ?_
  rintro e w1 ⟨rfl, hc1⟩
  have hbw1 : Below B w w1 := hb0.trans (hc1.mono (by have := Hz0.out; omega))
  have hBl : B < w1.heap.size := by have := hc1.size; have := Hz0.out; omega
  have hrow1 : w1.heap[B]? = some (.cells cs 59 (0, 0)) := (hc1.block B (by have := Hz0.out; omega)).trans Hrow.out
  have Hrow1 := Lib.hid hrow1
  clear hc1 hrow1 HPr hb0
  obtain ⟨p, hp⟩ : ∃ p, p = k.priv := ⟨_, rfl⟩
  obtain ⟨hd, hhd⟩ : ∃ hd, hd = hkHead p := ⟨_, rfl⟩
  obtain ⟨dp, hdp⟩ : ∃ dp, dp = k.depth := ⟨_, rfl⟩
  have hcell : ∀ j, w1.cell? ⟨B, j, none⟩ = (keyC k)[j]? := fun j => by
    rw [cell_of_row _ _ _ _ _ _ Hrow1.out, Hcs.out]; simp
  have c0 : w1.cell? ⟨B, 0, none⟩ = some (.int .u8 (dp.toNat : Int)) := by rw [hcell 0, keyC, hdp]; rfl
  obtain ⟨fg, hfg⟩ : ∃ fg, fg = k.finger := ⟨_, rfl⟩
  obtain ⟨ch, hch⟩ : ∃ ch, ch = k.child := ⟨_, rfl⟩
  obtain ⟨cn, hcn⟩ : ∃ cn, cn = k.chain := ⟨_, rfl⟩
  obtain ⟨da, hda⟩ : ∃ da, da = k.data := ⟨_, rfl⟩
  have hfl : fg.length = 4 := by rw [hfg]; exact hk.finger
  have hcl : cn.length = 32 := by rw [hcn]; exact hk.chain
  have hdl : da.length = 33 := by rw [hda]; exact hk.data
  have hch32 : ch < 4294967296 := by rw [hch]; exact hk.child
  have hkc : keyC k = .int .u8 (dp.toNat : Int) :: (B8 fg ++ .int .u32 (ch : Int) :: (B8 cn ++ B8 da)) := by rw [keyC, hdp, hfg, hch, hcn, hda]
  have hrg : ∀ (o : Nat) (xs : List UInt8), (∀ j (h : j < xs.length), (keyC k)[o + j]? = some (.int .u8 (xs[j].toNat : Int))) → Sl w1 w1.heap.size (some ⟨B, o, none⟩) (B8 xs) := fun o xs h _ => ⟨B, o, rfl, hBl, fun j hj => by
    rw [hcell (o + j), h j (by simpa using hj), B8_get]⟩
  have Sf := Lib.hid (hrg 1 fg (fun j h => by
    rw [hkc, Nat.add_comm, List.getElem?_cons_succ, List.getElem?_append_left (by simpa using h), List.getElem?_eq_getElem (by simpa using h), B8_get]))
  have Sc := Lib.hid (hrg 6 cn (fun j h => by
    rw [hkc, show 6 + j = (5 + j) + 1 by omega, List.getElem?_cons_succ, List.getElem?_append_right (by rw [B8_length, hfl]; omega), B8_length, hfl, show 5 + j - 4 = j + 1 by omega, List.getElem?_cons_succ, List.getElem?_append_left (by simpa using h), List.getElem?_eq_getElem (by simpa using h), B8_get]))
  have Sd := Lib.hid (hrg 38 da (fun j h => by
    rw [hkc, show 38 + j = (37 + j) + 1 by omega, List.getElem?_cons_succ, List.getElem?_append_right (by rw [B8_length, hfl]; omega), B8_length, hfl, show 37 + j - 4 = (32 + j) + 1 by omega, List.getElem?_cons_succ, List.getElem?_append_right (by rw [B8_length, hcl]; omega), B8_length, hcl, show 32 + j - 32 = j by omega, List.getElem?_eq_getElem (by simpa using h), B8_get]))
  have C5 : Hid (w1.cell? ⟨B, 5, none⟩ = some (.int .u32 (ch : Int))) := Lib.hid (by
    rw [hcell 5, hkc, List.getElem?_cons_succ, List.getElem?_append_right (by rw [B8_length, hfl]; exact Nat.le_refl _), B8_length, hfl]; rfl)
  have HF2 := Lib.hid (fun W => four_any ch hch32 W)
  obtain ⟨C4, hC4⟩ : ∃ C4, C4 = be4L ch := ⟨_, rfl⟩
  rw [← hC4] at HF2
  have HC4 : Hid (C4.length = 4) := Lib.hid (by rw [hC4]; rfl)
  have Hfl := Lib.hid hfl
  have Hcl := Lib.hid hcl
  have Hdl := Lib.hid hdl
  obtain ⟨L4, hL4⟩ : ∃ L4, L4 = be4L hd := ⟨_, rfl⟩
  have HRe : Hid (R = b58L (checked (((((L4 ++ [dp]) ++ fg) ++ C4) ++ cn) ++ da))) := Lib.hid (by rw [HR.out, textH, bytesH, hL4, hhd, hp, hdp, hfg, hC4, hch, hcn, hda]; simp)
  have HL4 : Hid (L4.length = 4) := Lib.hid (by rw [hL4]; rfl)
  rw [← hp]
  have hhd32 : hd < 4294967296 := by rw [hhd]; unfold hkHead; split <;> decide
  have HF := Lib.hid (fun W => four_any hd hhd32 W)
  rw [← hL4] at HF
  have hBz1 : B + 1 ≤ w1.heap.size := by omega
  clear hp hdp hcell hL4 hhd32 hfg hch hcn hda hC4 hfl hcl hdl hkc hrg hch32 HR Hcs
  cases p
  all_goals
    have hhd' := hhd
    unfold hkHead at hhd'
    simp only [if_true, if_false, Bool.false_eq_true] at hhd'
    subst hhd'
    clear hhd
    go_wp2_with fail
    apply shareV (fun _ _ v wE => Ow wE w1.heap.size 5 v (B8 (L4 ++ [dp])) ∧ Below w1.heap.size w1 wE)
    · intro hT
      refine wp_region_tree _ 5 _ hmx (by kernel_rfl) (by intro c a d v w h; cases d <;> exact h) (snd_pre' (plainLaws _ (by intro c a d v w h; cases d <;> exact h)) (by kernel_rfl) 4 [(0, 0), (2, 0), (3, 1)] _ (by kernel_rfl) (snd_fork (plainLaws _ (by intro c a d v w h; cases d <;> exact h)) 1 4 3 _ (by kernel_rfl) (snd_plan (plainLaws _ (by intro c a d v w h; cases d <;> exact h)) (by kernel_rfl) [(4, 2), (5, 2), (6, 2)] _ (by kernel_rfl)) (snd_plan (plainLaws _ (by intro c a d v w h; cases d <;> exact h)) (by kernel_rfl) [(1, 2), (5, 2), (6, 2)] _ (by kernel_rfl)))) ?_
      repeat ((first | (refine wpPlan_pure rfl (fun K hK => ?_)) | (refine wpPlan_quiet rfl (fun K hK => ?_))); go_simp; (first | (refine hK _ ?_) | (simp only [IntWalk.iteOmega]; go_simp; refine hK _ ?_) | (go_bits; go_simp; refine hK _ ?_)); clear hK K; (try go_bits))
      refine forkC_mk rfl rfl rfl rfl (fun K hK => ?_) (fun K hK => ?_)
      · go_wp2_with fail
        refine (HF.out _).mono ?_
        rintro e w2 ⟨v, rfl, ho, hb⟩
        have hbD : Below w1.heap.size w1 w2 := (Below.refl _ w1).drew.trans hb
        have hob : Ow w2 w1.heap.size 5 v (B8 L4) := ho
        go_wp2_with fail
        refine ⟨ext_of_below hb, ?_⟩
        refine wpPlan_loud rfl rfl (fun K hK => ?_)
        go_wp2_with fail
        obtain ⟨wN, hwN⟩ : ∃ wN, wN = w2.alloc (.cells #[.int .u8 (dp.toNat : Int)] 5) := ⟨_, rfl⟩
        obtain ⟨gN, hgN⟩ : ∃ gN, gN = w2.heap.size := ⟨_, rfl⟩
        refine ⟨.inr (ext_alloc _ _), ?_⟩
        rw [← hwN, ← hgN]
        have hbN : Below w1.heap.size w1 wN := by rw [hwN]; exact hbD.alloc hbD.size _
        have hoN : Ow wN w1.heap.size 5 v (B8 L4) := by rw [hwN]; exact hob.alloc _
        have hsN : Sl wN (gN + 1) (some ⟨gN, 0, none⟩) [.int .u8 (dp.toNat : Int)] := by rw [hwN, hgN]; exact Sl.one w2 _ _
        have hrN : ∀ r, rowOf v = some r → w1.heap.size ≤ r := fun r hr => (ho.row r hr).1
        clear hwN hgN hob hb hbD ho
        refine wpPlan_loud rfl rfl (fun K hK => ?_)
        refine wp_append_Ow (m := 1) (c := 1) (base := w1.heap.size) (xs := B8 L4) (v := v) (A := some ⟨gN, 0, none⟩) (B := gN + 1) (news := [.int .u8 (dp.toNat : Int)]) elB (.tmp 8) (.tmp 11) rfl rfl hoN rfl hsN rfl (by simp; rfl) (by rw [B8_length, HL4.out]; simp [maxLen]) (by rw [B8_length, HL4.out]; decide) hbN.size ?_
        intro v3 w3 ho3 hg3 hr3
        rw [b8_snoc L4 _ dp rfl] at ho3
        have hb3 : Below w1.heap.size w1 w3 := hbN.grown hg3 hbN.size hrN
        refine (show K (Act.put _ (some 12) v3) w3 from ?_)
        conv in (Act.put _ (some 12) v3) => simp [Act.put]
        refine hK _ _ ⟨.inl (by decide), ?_⟩
        clear hK K
        refine wpPlan_loud rfl rfl (fun K hK => ?_)
        refine Go.BigFrame.wp_assign (.tmp 12) rfl ?_
        refine (show K (Act.put _ (some 4) v3) w3 from ?_)
        conv in (Act.put _ (some 4) v3) => simp [Act.put]
        refine hK _ _ ⟨.inl (by decide), ?_⟩
        clear hK K
        refine wpPlan_nil ?_
        exact hT v gN v3 w3 ⟨ho3, hb3⟩
      · go_wp2_with fail
        refine ⟨ext_alloc _ _, ?_⟩
        obtain ⟨wM, hwM⟩ : ∃ wM, wM = (w1.alloc (.cells #[.int .u8 (dp.toNat : Int)] 5)).drew := ⟨_, rfl⟩
        obtain ⟨gN, hgN⟩ : ∃ gN, gN = w1.heap.size := ⟨_, rfl⟩
        rw [← hwM, ← hgN]
        have hbM : Below w1.heap.size w1 wM := by rw [hwM]; exact ((Below.refl _ w1).alloc (Nat.le_refl _) _).drew
        have hsM : Sl wM (gN + 1) (some ⟨gN, 0, none⟩) [.int .u8 (dp.toNat : Int)] := by rw [hwM, hgN]; exact (Sl.one w1 _ _).drew
        have hzM : gN + 1 ≤ wM.heap.size := by rw [hwM, hgN]; show _ ≤ (World.alloc _ _).heap.size; rw [World.size_alloc]; exact Nat.le_refl _
        have HgN := Lib.hid hgN
        clear hwM hgN
        refine wpPlan_loud rfl rfl (fun K hK => ?_)
        go_wp2_with fail
        refine (HF.out _).mono ?_
        rintro e wN ⟨v, rfl, ho, hb⟩
        have hbN : Below w1.heap.size w1 wN := hbM.trans (hb.mono hbM.size)
        have hoN : Ow wN w1.heap.size 5 v (B8 L4) := ho.mono hbM.size
        have hsN : Sl wN (gN + 1) (some ⟨gN, 0, none⟩) [.int .u8 (dp.toNat : Int)] := hsM.below (hb.mono hzM)
        have hrN : ∀ r, rowOf v = some r → w1.heap.size ≤ r := fun r hr => Nat.le_trans hbM.size (ho.row r hr).1
        go_wp2_with fail
        refine ⟨.inr (ext_of_below hb), ?_⟩
        clear hb hbM hsM hzM ho
        refine wpPlan_loud rfl rfl (fun K hK => ?_)
        refine wp_append_Ow (m := 1) (c := 1) (base := w1.heap.size) (xs := B8 L4) (v := v) (A := some ⟨gN, 0, none⟩) (B := gN + 1) (news := [.int .u8 (dp.toNat : Int)]) elB (.tmp 8) (.tmp 11) rfl rfl hoN rfl hsN rfl (by simp; rfl) (by rw [B8_length, HL4.out]; simp [maxLen]) (by rw [B8_length, HL4.out]; decide) hbN.size ?_
        intro v3 w3 ho3 hg3 hr3
        rw [b8_snoc L4 _ dp rfl] at ho3
        have hb3 : Below w1.heap.size w1 w3 := hbN.grown hg3 hbN.size hrN
        refine (show K (Act.put _ (some 12) v3) w3 from ?_)
        conv in (Act.put _ (some 12) v3) => simp [Act.put]
        refine hK _ _ ⟨.inl (by decide), ?_⟩
        clear hK K
        refine wpPlan_loud rfl rfl (fun K hK => ?_)
        refine Go.BigFrame.wp_assign (.tmp 12) rfl ?_
        refine (show K (Act.put _ (some 4) v3) w3 from ?_)
        conv in (Act.put _ (some 4) v3) => simp [Act.put]
        refine hK _ _ ⟨.inl (by decide), ?_⟩
        clear hK K
        refine wpPlan_nil ?_
        exact hT v gN v3 w3 ⟨ho3, hb3⟩
    · rintro u g v wE ⟨ho, hbE⟩
      clear HF
      go_wp2_with fail
      refine wp_region_planS (Below w1.heap.size w1) [(0, 0), (1, 0), (2, 0), (4, 0), (5, 1), (8, 0), (9, 0), (3, 2), (6, 2), (7, 2), (10, 2), (11, 2)] hmx (by kernel_rfl) (by intro c a d v w h; cases d <;> exact h) hbE.drew ?_
      repeat (refine wpPlanS_pure (by decide) rfl (fun K hK => ?_); go_simp; (first | (refine hK _ ?_) | (simp only [IntWalk.iteOmega]; go_simp; refine hK _ ?_) | (go_bits; go_simp; refine hK _ ?_)); clear hK K; (try go_bits))
      refine wpPlanS_load (.int .u32 (ch : Int)) (by decide) rfl rfl (fun W hW => ?_) ?_
      · have hcW : W.cell? ⟨B, 5, none⟩ = some (.int .u32 (ch : Int)) := (hW.cell (p := ⟨B, 5, none⟩) hBl).trans C5.out
        clear ho hbE
        go_simp
      refine (show wpPlanS _ _ _ _ _ _ (Act.put _ (some 18) _) _ from ?_)
      conv in (Act.put _ (some 18) _) => simp [Act.put]
      repeat (refine wpPlanS_pure (by decide) rfl (fun K hK => ?_); go_simp; (first | (refine hK _ ?_) | (simp only [IntWalk.iteOmega]; go_simp; refine hK _ ?_) | (go_bits; go_simp; refine hK _ ?_)); clear hK K; (try go_bits))
      obtain ⟨wD, hwD⟩ : ∃ wD, wD = wE.drew := ⟨_, rfl⟩
      rw [← hwD]
      have hbwD : Below w1.heap.size w1 wD := by rw [hwD]; exact hbE.drew
      have hoD : Ow wD w1.heap.size 5 v (B8 (L4 ++ [dp])) := by rw [hwD]; exact ho.drew
      clear hwD ho hbE
      refine wpPlanS_loud rfl rfl (fun K hK => ?_)
      refine wp_append_Ow (m := 4) (c := 4) (base := w1.heap.size) (xs := B8 (L4 ++ [dp])) (v := v) (A := some ⟨B, 1, none⟩) (B := wD.heap.size) (news := B8 fg) elB (.tmp 13) (.tmp 15) rfl rfl hoD rfl ((Sf.out.below hbwD).mono hbwD.size) (by rw [B8_length]; exact Hfl.out) (B8_oneCell _) (by simp only [B8_length, List.length_append, List.length_singleton, HL4.out, Hfl.out, HC4.out, Hcl.out]; simp [maxLen]) (by simp only [B8_length, List.length_append, List.length_singleton, HL4.out, Hfl.out, HC4.out, Hcl.out]; decide) hbwD.size ?_
      intro v5 w5 ho5 hg5 hr5
      rw [← B8_append] at ho5
      have hbw5 : Below w1.heap.size w1 w5 := hbwD.grown hg5 hbwD.size (fun r hr => (hoD.row r hr).1)
      refine (show K (Act.put _ (some 16) v5) w5 from ?_)
      conv in (Act.put _ (some 16) v5) => simp [Act.put]
      refine hK _ _ ⟨hbw5, ?_⟩
      clear hK K
      refine wpPlanS_loud rfl rfl (fun K hK => ?_)
      go_wp2_with fail
      refine (HF2.out _).mono ?_
      rintro e w6 ⟨v6, rfl, ho6, hb6⟩
      have hbw6 : Below w1.heap.size w1 w6 := hbw5.trans (hb6.mono hbw5.size)
      have ho56 : Ow w6 w1.heap.size 5 v5 (B8 (L4 ++ [dp] ++ fg)) := ho5.below hb6 (Nat.le_refl _)
      obtain ⟨A6, c6, rfl, hA6, hA6'⟩ := own_form ho6
      rw [HC4.out] at ho6 ⊢
      go_wp2_with fail
      refine ⟨hbw6, ?_⟩
      refine wpPlanS_loud rfl rfl (fun K hK => ?_)
      refine wp_append_Ow (m := 4) (c := c6) (base := w1.heap.size) (xs := B8 (L4 ++ [dp] ++ fg)) (v := v5) (A := A6) (B := w6.heap.size) (news := B8 C4) elB (.tmp 16) (.tmp 19) rfl rfl ho56 rfl ho6.sl (by rw [B8_length]; exact HC4.out) (B8_oneCell _) (by simp only [B8_length, List.length_append, List.length_singleton, HL4.out, Hfl.out, HC4.out, Hcl.out]; simp [maxLen]) (by simp only [B8_length, List.length_append, List.length_singleton, HL4.out, Hfl.out, HC4.out, Hcl.out]; decide) hbw6.size ?_
      intro v7 w7 ho7 hg7 hr7
      rw [← B8_append] at ho7
      have hbw7 : Below w1.heap.size w1 w7 := hbw6.grown hg7 hbw6.size (fun r hr => (ho56.row r hr).1)
      refine (show K (Act.put _ (some 20) v7) w7 from ?_)
      conv in (Act.put _ (some 20) v7) => simp [Act.put]
      refine hK _ _ ⟨hbw7, ?_⟩
      clear hK K
      refine wpPlanS_loud rfl rfl (fun K hK => ?_)
      refine wp_append_Ow (m := 32) (c := 32) (base := w1.heap.size) (xs := B8 (L4 ++ [dp] ++ fg ++ C4)) (v := v7) (A := some ⟨B, 6, none⟩) (B := w7.heap.size) (news := B8 cn) elB (.tmp 20) (.tmp 22) rfl rfl ho7 rfl ((Sc.out.below hbw7).mono hbw7.size) (by rw [B8_length]; exact Hcl.out) (B8_oneCell _) (by simp only [B8_length, List.length_append, List.length_singleton, HL4.out, Hfl.out, HC4.out, Hcl.out]; simp [maxLen]) (by simp only [B8_length, List.length_append, List.length_singleton, HL4.out, Hfl.out, HC4.out, Hcl.out]; decide) hbw7.size ?_
      intro v8 w8 ho8 hg8 hr8
      rw [← B8_append] at ho8
      have hbw8 : Below w1.heap.size w1 w8 := hbw7.grown hg8 hbw7.size (fun r hr => (ho7.row r hr).1)
      refine (show K (Act.put _ (some 23) v8) w8 from ?_)
      conv in (Act.put _ (some 23) v8) => simp [Act.put]
      refine hK _ _ ⟨hbw8, ?_⟩
      clear hK K
      refine wpPlanS_loud rfl rfl (fun K hK => ?_)
      refine Go.BigFrame.wp_assign (.tmp 23) rfl ?_
      refine (show K (Act.put _ (some 4) v8) w8 from ?_)
      conv in (Act.put _ (some 4) v8) => simp [Act.put]
      refine hK _ _ ⟨hbw8, ?_⟩
      clear hK K
      refine wpPlanS_nil ?_
      have hsd8 := (Sd.out.below hbw8).mono hbw8.size
      go_wp2_with (at_builtin; go_loud (refine wpList_append_Ow (m := 33) (c := 33) (base := w1.heap.size) (xs := B8 (L4 ++ [dp] ++ fg ++ C4 ++ cn)) (v := v8) (A := some ⟨B, 38, none⟩) (B := w8.heap.size) (news := B8 da) elB rfl (.tmp 24) (.tmp 26) rfl rfl ho8 rfl hsd8 (by rw [B8_length]; exact Hdl.out) (B8_oneCell _) (by simp only [B8_length, List.length_append, List.length_singleton, HL4.out, Hfl.out, HC4.out, Hcl.out]; simp [maxLen]) (by simp only [B8_length, List.length_append, List.length_singleton, HL4.out, Hfl.out, HC4.out, Hcl.out]; decide) hbw8.size ?_); intro v9 w9 ho9 hg9 hr9)
      rw [← B8_append] at ho9
      have hbw9 : Below w1.heap.size w1 w9 := hbw8.grown hg9 hbw8.size (fun r hr => (ho8.row r hr).1)
      have hfl9 : (L4 ++ [dp] ++ fg ++ C4 ++ cn ++ da).length = 78 := by simp only [List.length_append, List.length_singleton, HL4.out, Hfl.out, HC4.out, Hcl.out, Hdl.out]
      obtain ⟨A9, c9, rfl, hA9, hA9'⟩ := own_form ho9
      have hck := check58_any A9 c9 _ w9 ho9.sl (by rw [hfl9]; omega) hA9 hA9'
      rw [hfl9] at hck ⊢
      rw [← HRe.out] at hck
      refine hck.mono ?_
      rintro e w10 ⟨rfl, hb10⟩
      have hfin : Below B w w10 := hbw1.trans ((hbw9.trans (hb10.mono hbw9.size)).mono (Nat.le_of_lt hBl))
      clear hck hb10 ho9 hg9 hr9 hfl9 hsd8
      go_wp2_with fail
      go_ret
      exact ⟨rfl, by rw [← HB.out]; exact hfin⟩
end Go.Proofs.YtcjioogololnoaaGreatDoor

/-! desc.must; what it stops with. -/
namespace Go.Proofs.YtcjioogololnoaaGreatDoor
open Go.RowKit

/-- What 'must(false)' stops with. -/
def FAULT : List PanicEntry := [{ v := .iface 44 (.agg #[]), recovered := false }]
set_option maxHeartbeats 1000000 in
theorem must_yes (w : World) :
    Calls Tryz.prog 38 #[.bool true] w fun e w' => e = .returned (.tuple #[]) ∧ w = w' := by
  go_enter Tryz.func38, Tryz.ntmps38
  go_wp2
  go_end0
  exact ⟨rfl, rfl⟩
set_option maxHeartbeats 1000000 in
theorem must_no (w : World) :
    Calls Tryz.prog 38 #[.bool false] w fun e w' => e = .panicked FAULT ∧ w = w' := by
  go_enter Tryz.func38, Tryz.ntmps38
  go_wp2
  exact ⟨rfl, rfl, rfl⟩
end Go.Proofs.YtcjioogololnoaaGreatDoor
