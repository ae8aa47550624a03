/- text.base, walked. -/
import Derived.Test.YtmfligfcejhjaaaDoorIt
import Derived.Test.YtmfligfcejhjaaaDoorP2
import Derived.Test.YtmfligfcejhjaaaDoorR
import Derived.Test.YtmfligfcejhjaaaDoorA1
import Derived.BigQuiet
import Derived.Shelf.RegionOpen
import Derived.Sort.QuietIn
import Derived.Stop.RegionWithIn
import Derived.Deep.QuietTactic
import Derived.StillTailTactics
import Derived.Deep.RegionHeld3
import Derived.Deep.RegionWith
namespace Go.Proofs.YtmfligfcejhjaaaDoor
open Go.RowKit Go.Shelf
attribute [local go_sem] Oper.semAt_some


set_option maxRecDepth 100000 in
set_option maxHeartbeats 4000000 in
theorem base_in (F : Fence) (hF : ∀ k, F.fn k) (hro : F.round = none) (n : Nat) (hn : 3 ≤ n) (f t : Nat) (hf : 1 ≤ f) (hf2 : f ≤ 256) (ht : 2 ≤ t) (ht2 : t ≤ 256) (A : Option Addr) (cap : Nat) (bs : List UInt8) (hl : bs.length ≤ 4096) (w : World) (hs : Sl w w.heap.size A (B8 bs)) :
    CallsIn F n Tryd.prog 21 #[.slice A bs.length cap, .int .i64 f, .int .i64 t] w fun e W' => ∃ v, e = .returned v ∧ Ow W' w.heap.size 5 v (B8 (baseL f t bs.reverse)) ∧ Below w.heap.size w W' := by
  have h1 : 1 ≤ n := by omega
  obtain ⟨i0, hi, hz0, hz1, hz2⟩ := info_parts u8_info
  refine callsIn_of_wp_marks Tryd.func21 rfl (hF _) ?_ hro
  simp only [Tryd.ntmps21, List.size_toArray, List.length_cons, List.length_nil, Nat.reduceAdd, Nat.reduceSub, Array.replicate_succ, Array.replicate_zero, List.push_toArray, List.append_toArray, List.nil_append, List.cons_append]
  gi_wp2_with (gi_at_call 20; refine (bwdB_in F hF hro _ _ _ _ _).mono ?_; rintro e w' ⟨rfl, rfl⟩)
  obtain ⟨B, hB⟩ : ∃ B, B = w.heap.size := ⟨_, rfl⟩
  rw [← hB] at hs ⊢
  obtain ⟨W0, hW0⟩ : ∃ W0, W0 = (((w.alloc (Obj.cells #[Value.int IntKind.i64 f] 3)).alloc (Obj.cells #[Value.int IntKind.i64 t] 3)).alloc (Obj.cells #[Value.slice none 0 0] 22)).alloc (Obj.cells #[Value.slice A bs.length cap] 22) := ⟨_, rfl⟩
  rw [← hW0]
  have b0 : Boxed W0 B 3 (.int .i64 f) := by rw [hW0, hB]; exact (((Boxed.new w _ _).alloc _).alloc _).alloc _
  have b1 : Boxed W0 (B + 1) 3 (.int .i64 t) := by rw [hW0, hB]; have := (((Boxed.new (w.alloc (Obj.cells #[Value.int IntKind.i64 f] 3)) 3 (.int .i64 t)).alloc (Obj.cells #[Value.slice none 0 0] 22)).alloc (Obj.cells #[Value.slice A bs.length cap] 22)); simpa using this
  have b2 : Boxed W0 (B + 2) 22 (.slice none 0 0) := by rw [hW0, hB]; have := (Boxed.new ((w.alloc (Obj.cells #[Value.int IntKind.i64 f] 3)).alloc (Obj.cells #[Value.int IntKind.i64 t] 3)) 22 (.slice none 0 0)).alloc (Obj.cells #[Value.slice A bs.length cap] 22); simpa using this
  have b3 : Boxed W0 (B + 3) 22 (.slice A bs.length cap) := by rw [hW0, hB]; have := (Boxed.new (((w.alloc (Obj.cells #[Value.int IntKind.i64 f] 3)).alloc (Obj.cells #[Value.int IntKind.i64 t] 3)).alloc (Obj.cells #[Value.slice none 0 0] 22)) 22 (.slice A bs.length cap)); simpa using this
  have hsz : W0.heap.size = B + 4 := by rw [hW0, hB]; simp
  have hB0 : Below B w W0 := by rw [hW0, hB]; exact ((((Below.refl _ w).alloc (Nat.le_refl _) _).alloc (by simp) _).alloc (by simp; omega) _).alloc (by simp; omega) _
  have HB := Lib.hid hB
  have hBle : B ≤ w.heap.size := by omega
  have hBge : w.heap.size ≤ B := by omega
  clear hW0 hB
  refine wpIn_rangeFunc_ownG hro h1 (gf := 38) (lb := #[.pointer (some ⟨B + 3, 0, none⟩)]) rfl (hF _) (enters_of Tryd.func38 (by kernel_rfl) rfl)
    (bwdB_stops F hF hro (n - 1) (by omega) (B + 3) B A cap bs (by omega) W0 (by omega) (by omega) b3.cell (hs.below hB0)) keepK_t (keepK_b (by omega) (by omega)) (Below.refl _ _) (fun _ => rfl)
    (fun pre W => (Boxed W B 3 (.int .i64 f) ∧ Boxed W (B + 1) 3 (.int .i64 t) ∧ ∃ v, Boxed W (B + 2) 22 v ∧ Ow W (B + 4) 5 v (B8 (baseL f t (pre.map (·.2))))) ∧ Below B W0 W)
    (fun _ _ _ => False)
    (OwnFrom.and (Go.Own.from (fun s A B row hs hg hr => ⟨boxed_others hs.1 hg hr, boxed_others hs.2.1 hg hr, let ⟨v, hv, ho⟩ := hs.2.2; ⟨v, boxed_others hv hg hr, ho.others hg hr⟩⟩) _) (ownFrom_below (by omega) (by omega)))
    (fun _ _ _ _ _ hs _ _ => hs)
    ⟨⟨b0, b1, _, b2, Ow.nil_ _ _ _ _⟩, Below.refl _ _⟩
    (fun x => { tmps := #[.slice A bs.length cap, .int .i64 f, .int .i64 t, undef, .pointer (some ⟨B, 0, none⟩), .pointer (some ⟨B + 1, 0, none⟩), .slice none 0 0, .pointer (some ⟨B + 2, 0, none⟩), undef, .int .u8 (x.2.toNat : Int), undef, undef, undef, .slice A bs.length cap, .func (.func 38) #[] #[.pointer (some ⟨B + 3, 0, none⟩)], .int .i64 (x.1 : Int), .int .u8 (x.2.toNat : Int), undef, undef, undef, undef, undef, undef, undef, undef, undef, undef, undef, undef, undef, undef, undef, undef, undef, undef, undef, undef, undef, undef, undef, undef, undef, undef, undef, undef, undef, undef, undef, undef, undef, undef, undef, undef, undef, undef, undef], defers := [] }) ?assign ?body ?done ?stop
  case assign =>
    intro l x W K hK
    gi_wp2
    exact hK
  case body =>
    have hsz0 : B + 4 ≤ W0.heap.size := by omega
    clear hs b0 b1 b2 b3 hB0 hsz
    rintro l pre x W ⟨⟨h0, h1, v, h2, ho⟩, hBW⟩ hpre
    have hd : 1 ≤ n - 1 - 1 := by omega
    have c0 := h0.cell
    have c1 := h1.cell
    have c2 := h2.cell
    have f2 := h2.frozen
    obtain ⟨xs, hxs⟩ : ∃ xs, xs = baseL f t (pre.map (·.2)) := ⟨_, rfl⟩
    rw [← hxs] at ho
    have hxl : xs.length ≤ 69632 := by rw [hxs]; have := baseL_len f t hf2 ht (pre.map (·.2)); simp at this; omega
    have Hxs := Lib.hid hxs
    clear hxs
    obtain ⟨Av, cv, rfl⟩ : ∃ Av cv, v = .slice Av xs.length cv := by obtain ⟨Av, cv, e, _⟩ := ho; exact ⟨Av, cv, by simpa using e⟩
    have hx2 := x.2.toNat_lt
    have hd2 : x.2.toNat ≤ 65536 := by omega
    obtain ⟨d, hdd⟩ : ∃ d, d = x.2.toNat := ⟨_, rfl⟩
    rw [← hdd] at hd2
    have Hd := Lib.hid hdd
    gi_wp2
    rw [← hdd]
    clear hdd hx2
    gi_loopw [10, 21] (fun cr i wr => ∃ k c : Nat, k ≤ xs.length ∧ i = .int .i64 k ∧ cr = .int .i64 c ∧ c ≤ 65536 ∧ Hid (c = (mid f t (xs.take k) d).2) ∧ Boxed wr B 3 (.int .i64 f) ∧ Boxed wr (B + 1) 3 (.int .i64 t) ∧
        Boxed wr (B + 2) 22 (.slice Av xs.length cv) ∧ Ow wr (B + 4) 5 (.slice Av xs.length cv) (B8 ((mid f t (xs.take k) d).1 ++ xs.drop k)) ∧ Below B W0 wr ∧ Keep B (B + 3) W wr ∧ KeepsOthers W wr) (fun _ i _ => xs.length - (intOf i).toNat)
    case atStart => exact ⟨0, d, Nat.zero_le _, rfl, rfl, hd2, rfl, h0, h1, h2, by simpa [mid] using ho, hBW, Keep.refl _ _ _, KeepsOthers.refl _⟩
    case round =>
      clear h0 h1 h2 c0 c1 c2 f2 ho hBW
      obtain ⟨k, c, hk, rfl, rfl, hc, Hc, h0, h1, h2, ho, hBW, hWW, hKO⟩ := hrel
      have c0 := h0.cell
      have c1 := h1.cell
      have c2 := h2.cell
      have f2 := h2.frozen
      by_cases hlt : k < xs.length
      · obtain ⟨m, hm⟩ : ∃ m, m = (mid f t (xs.take k) d).1 := ⟨_, rfl⟩
        have hml : m.length = k := by rw [hm, mid_len, List.length_take]; omega
        rw [← hm] at ho
        have Hm := Lib.hid hm
        clear hm
        obtain ⟨g, rfl, hg, hrow, hcell, hfr⟩ := ho.at_ (j := k) (by simp; omega)
        have hv : (B8 (m ++ xs.drop k))[k]'(by simp; omega) = .int .u8 (xs[k].toNat : Int) := by
          rw [B8_get, List.getElem_append_right (by omega)]
          simp [hml]
        rw [hv] at hcell
        have hxk := xs[k].toNat_lt
        have Hml := Lib.hid hml
        clear hv hml
        have Hrow := Lib.hid hrow
        clear hrow
        have b1 : 0 ≤ (xs[k].toNat : Int) * (f : Int) := by exact Int.mul_nonneg (by omega) (by omega)
        have b2 : (xs[k].toNat : Int) * (f : Int) ≤ 65280 := by
          have : xs[k].toNat * f ≤ 255 * 256 := Nat.mul_le_mul (by omega) hf2
          have h : ((xs[k].toNat * f : Nat) : Int) ≤ 65280 := by omega
          rwa [Int.natCast_mul] at h
        gi_wp2
        have hmx : Tryd.prog.follows .mixedOrders = true := by kernel_rfl
        refine wpIn_region_plan [(0, 1), (1, 0), (2, 0), (3, 1), (4, 0), (5, 0), (6, 0), (7, 2)] 7 (fun _ => hF _) hmx (by kernel_rfl) (by intro c a d v w h; cases d <;> exact h) ?_
        repeat ((first | (refine wpPlan_pure rfl (fun K hK => ?_)) | (refine wpPlan_quiet rfl (fun K hK => ?_))); go_simp; (first | (refine hK _ ?_) | (simp only [IntWalk.iteOmega]; go_simp; refine hK _ ?_) | (go_bits; go_simp; refine hK _ ?_)); clear hK K; (try go_bits))
        refine wpPlanIn_loud rfl rfl (fun K hK => ?_)
        gi_wp2
        refine ⟨.inl (by decide), wpPlan_nil ?_⟩
        gi_wp2
        have Bw : B ≤ (⟨g, k, none⟩ : Addr).block := by show B ≤ g; omega
        refine ⟨⟨k + 1, (c + xs[k].toNat * f) / t, by omega, by go_num, by simp, ?_, ?_, boxed_far h0 (p := ⟨g, k, none⟩) (by show B ≠ g; omega) _, boxed_far h1 (p := ⟨g, k, none⟩) (by show B + 1 ≠ g; omega) _, boxed_far h2 (p := ⟨g, k, none⟩) (by show B + 2 ≠ g; omega) _, ?_, hBW.setCell Bw _ |>.drew, keepK_t hWW ⟨((Below.refl B wr).setCell Bw _).drew, Below.heap_setCell wr ⟨g, k, none⟩ _ (B + 3) (by show B + 3 ≠ g; omega)⟩, hKO.trans ((KeepsOthers.setCell _ _ _).trans (KeepsOthers.drew _))⟩, by simp [intOf]; omega⟩
        · have := Nat.div_le_div_left (a := c + xs[k].toNat * f) ht (by omega)
          have hb : xs[k].toNat * f ≤ 255 * 256 := Nat.mul_le_mul (by omega) hf2
          omega
        · show _ = _
          rw [List.take_succ_eq_append_getElem hlt, mid_snoc, ← Hc.out]
        · have hs := ho.store k (by have := ho.len; simp at this; omega) (.int .u8 ((((c : Int) + (xs[k].toNat : Int) * (f : Int)) % (t : Int)) % 256))
          have e : (B8 (m ++ xs.drop k)).set k (.int .u8 ((((c : Int) + (xs[k].toNat : Int) * (f : Int)) % (t : Int)) % 256)) = B8 ((mid f t (xs.take (k + 1)) d).1 ++ xs.drop (k + 1)) := by
            rw [List.take_succ_eq_append_getElem hlt, mid_snoc, ← Hc.out, ← Hm.out]
            have hd : xs.drop k = xs[k] :: xs.drop (k + 1) := by rw [List.getElem_cons_drop]
            rw [hd]
            simp only [B8, List.map_append, List.map_cons]
            rw [List.set_append_right _ _ (by simp [Hml.out])]
            simp [Hml.out]
          rw [e] at hs
          exact hs
      · obtain rfl : k = xs.length := by omega
        rw [List.take_length, List.drop_length, List.append_nil] at ho
        rw [List.take_length] at Hc
        gi_wp2
        obtain ⟨fin, hfin⟩ : ∃ fin, fin = baseStep f t xs d := ⟨_, rfl⟩
        have hfl : fin.length ≤ 69649 := by rw [hfin]; have := baseStep_len f t hf2 ht xs d hd2; omega
        have Hfin := Lib.hid hfin
        clear hfin
        gi_loopw [10] (fun cr wq => ∃ (c : Nat) (v : Value) (ys : List UInt8), cr = .int .i64 c ∧ c ≤ 65536 ∧ Hid (ys ++ pushes t c c = fin) ∧ Boxed wq B 3 (.int .i64 f) ∧ Boxed wq (B + 1) 3 (.int .i64 t) ∧
          Boxed wq (B + 2) 22 v ∧ Ow wq (B + 4) 5 v (B8 ys) ∧ Below B W0 wq ∧ Keep B (B + 3) W wq ∧ KeepsOthers W wq) (fun cr _ => (intOf cr).toNat)
        case atStart => exact ⟨c, _, _, rfl, hc, by rw [Hfin.out]; unfold baseStep; rw [← Hc.out]; rfl, h0, h1, h2, ho, hBW, hWW, hKO⟩
        case round =>
          clear h0 h1 h2 c0 c1 c2 f2 ho hBW hWW hKO Hc hc hk hlt
          obtain ⟨c, v, ys, rfl, hc, hfe, h0, h1, h2, ho, hBW, hWW, hKO⟩ := hrel
          have hyl : ys.length ≤ 69649 := by have := congrArg List.length hfe.out; simp at this; omega
          have c0 := h0.cell
          have c1 := h1.cell
          have c2 := h2.cell
          have f2 := h2.frozen
          obtain ⟨Ay, cy, rfl⟩ : ∃ Ay cy, v = .slice Ay ys.length cy := by obtain ⟨Ay, cy, e, _⟩ := ho; exact ⟨Ay, cy, by simpa using e⟩
          by_cases hc0 : 0 < c
          · have hmx : Tryd.prog.follows .mixedOrders = true := by kernel_rfl
            have hne := ho.row_ne_box h2 (by decide)
            have hne0 := ho.row_ne_box h0 (by decide)
            have hne1 := ho.row_ne_box h1 (by decide)
            have hrow := ho.row
            have hq0 : (0 : Int) ≤ (c : Int) / (t : Int) := Int.ediv_nonneg (by omega) (by omega)
            have hq1 : (c : Int) / (t : Int) ≤ 65536 := by have := Int.ediv_le_self (a := (c : Int)) (t : Int) (by omega); omega
            gi_wp2
            refine wpIn_region_plan [(0, 1), (1, 0), (2, 1), (3, 0), (4, 0), (5, 2), (6, 2), (7, 2)] 6 (fun _ => hF _) hmx (by kernel_rfl) (by intro c a d v w h; cases d <;> exact h) ?_
            repeat ((first | (refine wpPlan_pure rfl (fun K hK => ?_)) | (refine wpPlan_quiet rfl (fun K hK => ?_))); go_simp; (first | (refine hK _ ?_) | (simp only [IntWalk.iteOmega]; go_simp; refine hK _ ?_) | (go_bits; go_simp; refine hK _ ?_)); clear hK K; (try go_bits))
            refine wpPlanIn_loud rfl rfl (fun K hK => ?_)
            gi_wp2
            refine ⟨.inr (ext_alloc_drew _ _), ?_⟩
            refine wpPlanIn_loud rfl rfl (fun K hK => ?_)
            refine wpIn_append_Ow (F := F.inRound l) (v := .slice Ay ys.length cy) (m := 1) (c := 1) (fun _ => hF _) elB (.tmp 48) (.tmp 53) rfl rfl (ho.alloc _).drew rfl (Sl.one wr _ _).drew rfl ?_ ?_ ?_ ?_ ?_
            · intro u hu; simp at hu; subst hu; rfl
            · simp [maxLen]; omega
            · simp; omega
            · have := hBW.size; simp; omega
            intro v' w1 ho1 hg1 hr1
            have hgB : ∀ g, rowOf (.slice Ay ys.length cy) = some g → B + 4 ≤ g := fun g hg => by have := hrow g hg; omega
            have hn1 : ∀ b, b < wr.heap.size → (∀ g, rowOf (.slice Ay ys.length cy) = some g → g ≠ b) → some b ≠ rowOf (.slice Ay ys.length cy) := fun b _ h e => h b e.symm rfl
            have h0' : Boxed w1 B 3 (.int .i64 f) := (boxed_drew (h0.alloc _)).kept hg1 (hn1 _ h0.lt hne0)
            have h1' : Boxed w1 (B + 1) 3 (.int .i64 t) := (boxed_drew (h1.alloc _)).kept hg1 (hn1 _ h1.lt hne1)
            have h2' := Boxed.kept (boxed_drew (h2.alloc _)) hg1 (hn1 _ h2.lt hne)
            have c1' := h1'.cell
            have c2' := h2'.cell
            have f2' := h2'.frozen
            have k1 : KeepsOthers wr w1 := (KeepsOthers.alloc wr _).trans ((KeepsOthers.drew _).trans ((ho.alloc _).drew.keepsOthers hg1 rfl))
            have hws := hBW.size
            have bl : Below B wr w1 := ((Below.refl B wr).alloc (by omega) _).drew.grown hg1 (by simp; omega) (fun g hg => by have := hgB g hg; omega)
            have ho2 : ∀ u, Ow (w1.setCell ⟨B + 2, 0, none⟩ u) (B + 4) 5 v' (B8 (ys ++ [UInt8.ofNat (c % t)])) := fun u => by
              rw [B8_append, B8_one]
              have e : ((c : Int) % (t : Int) % 256) = ((UInt8.ofNat (c % t)).toNat : Int) := by simp
              rw [← e]
              exact ho1.setCell (fun g hg => by have := ho1.row g hg; show B + 2 ≠ g; omega) u
            obtain ⟨Av', cv', rfl⟩ : ∃ Av' cv', v' = .slice Av' (ys.length + 1) cv' := by obtain ⟨A', c', e, _⟩ := ho1; exact ⟨A', c', by simpa using e⟩
            refine hK _ _ ⟨.inl (by decide), ?_⟩
            clear hK K
            refine wpPlanIn_loud rfl rfl (fun K hK => ?_)
            gi_wp2
            refine ⟨.inl (by decide), wpPlan_nil ?_⟩
            gi_wp2
            refine ⟨⟨c / t, .slice Av' (ys.length + 1) cv', ys ++ [UInt8.ofNat (c % t)], by simp, ?_, ?_, h0'.other (by omega) _, h1'.other (by omega) _, ?_, ?_, ?_, ?_, ?_⟩, ?_⟩
            · exact Nat.le_trans (Nat.div_le_self c t) hc
            · show _ = _
              rw [← hfe.out, pushes_pos t c ht hc0]; simp
            · simpa using h2'.set _
            · simpa using ho2 _
            · exact (hBW.trans bl).setCell (p := ⟨B + 2, 0, none⟩) (by show B ≤ B + 2; omega) _
            · exact keepK_t hWW ⟨bl.setCell (p := ⟨B + 2, 0, none⟩) (by show B ≤ B + 2; omega) _, (Below.heap_setCell w1 ⟨B + 2, 0, none⟩ _ (B + 3) (by show B + 3 ≠ B + 2; omega)).trans ((hg1.block (B + 3) (by simp; omega) (fun e => by have := hgB _ e.symm; omega)).trans (Below.heap_alloc wr _ (B + 3) (by omega)))⟩
            · exact hKO.trans (k1.trans (KeepsOthers.setCell _ _ _))
            · have : c / t < c := Nat.div_lt_self hc0 (by omega)
              simp [intOf]; omega
          · obtain rfl : c = 0 := by omega
            gi_wp2
            refine ⟨hKO.from _, hWW, ⟨h0, h1, _, h2, ?_⟩, hBW⟩
            have e : ys = baseL f t ((pre ++ [x]).map (·.2)) := by
              have := hfe.out
              rw [pushes_zero, List.append_nil, Hfin.out, Hxs.out, Hd.out] at this
              rw [this]; simp [baseL_snoc]
            rw [← e]; exact ho
  case done =>
    rintro D ys W hD rfl ⟨⟨_, _, v, h2, ho⟩, hB⟩ hK
    have c2 := h2.cell
    gi_wp2
    refine ⟨by simp, .inl ⟨_, _, rfl, run_takeDeferred hK, ?_⟩⟩
    refine ⟨_, results_tmp rfl _ _ _, v, rfl, ?_, ?_⟩
    · rw [bwd_bytes] at ho
      rw [← HB.out]
      exact (ho.others (grownBy_putObj' _ D (.deferred none)) (fun r e => by cases e; exact ⟨_, hK, rfl⟩)).mono (by omega)
    · rw [← HB.out]
      exact hB0.trans (hB.trans (belowK_b (w := W0) (by omega) W D _ _ hD hK rfl rfl))
  case stop =>
    rintro D c pre W _ _ h _
    exact h.elim

theorem base_any (f t : Nat) (hf : 1 ≤ f) (hf2 : f ≤ 256) (ht : 2 ≤ t) (ht2 : t ≤ 256) (A : Option Addr) (cap : Nat) (bs : List UInt8) (hl : bs.length ≤ 4096) (w : World) (hs : Sl w w.heap.size A (B8 bs)) :
    Calls Tryd.prog 21 #[.slice A bs.length cap, .int .i64 f, .int .i64 t] w fun e W' => ∃ v, e = .returned v ∧ Ow W' w.heap.size 5 v (B8 (baseL f t bs.reverse)) ∧ Below w.heap.size w W' :=
  (callsIn_wide (n := 3)).1 (base_in Fence.wide (fun _ => trivial) rfl 3 (Nat.le_refl _) f t hf hf2 ht ht2 A cap bs hl w hs)
end Go.Proofs.YtmfligfcejhjaaaDoor
