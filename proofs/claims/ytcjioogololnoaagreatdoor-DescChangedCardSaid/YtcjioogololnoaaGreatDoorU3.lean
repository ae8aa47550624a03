/- Base 58: plain facts. | text.base, walked. | slices.Clone, Reverse, text.turned. -/
import Derived.Test.YtcjioogololnoaaGreatDoorU2
import Derived.Test.YtcjioogololnoaaGreatDoorU1
import Derived.BigQuiet
import Derived.Shelf.RegionOpen
import Derived.Sort.QuietIn
import Derived.Stop.RegionWithIn
import Derived.Deep.QuietTactic
import Derived.StillTailTactics
import Derived.Deep.RegionHeld3
import Derived.Deep.RegionWith
import Derived.Lib.LazyBuf

/-! Base 58: plain facts. -/
namespace Go.Proofs.YtcjioogololnoaaGreatDoor

def letters58 : List UInt8 := [49, 50, 51, 52, 53, 54, 55, 56, 57, 65, 66, 67, 68, 69, 70, 71, 72, 74, 75, 76, 77, 78, 80, 81, 82, 83, 84, 85, 86, 87, 88, 89, 90, 97, 98, 99, 100, 101, 102, 103, 104, 105, 106, 107, 109, 110, 111, 112, 113, 114, 115, 116, 117, 118, 119, 120, 121, 122]
def let58 (d : UInt8) : UInt8 := letters58.getD d.toNat 0
theorem letters58_at (d : UInt8) (h : d.toNat < (⟨letters58.toArray⟩ : ByteArray).size) : (⟨letters58.toArray⟩ : ByteArray)[d.toNat] = let58 d := by
  have h' : d.toNat < letters58.length := h
  show letters58.toArray[d.toNat]'(by simpa using h') = _
  simp [let58, h']
/-- How many noughts at the beginning. -/
def lz : List UInt8 → Nat
  | [] => 0
  | b :: bs => if b = 0 then lz bs + 1 else 0
theorem lz_le : ∀ bs : List UInt8, lz bs ≤ bs.length
  | [] => by simp [lz]
  | b :: bs => by have := lz_le bs; simp only [lz]; split <;> simp <;> omega
theorem lz_of : ∀ (bs : List UInt8) (k : Nat) (_ : k ≤ bs.length) (_ : ∀ j (h : j < bs.length), j < k → bs[j] = 0) (_ : ∀ h : k < bs.length, bs[k] ≠ 0), lz bs = k
  | [], k, hk, _, _ => by simp at hk; subst hk; rfl
  | b :: bs, 0, _, _, hn => by have := hn (by simp); simp at this; simp [lz, this]
  | b :: bs, k + 1, hk, hz, hn => by
    have h0 : b = 0 := hz 0 (by simp) (by omega)
    have := lz_of bs k (by simpa using hk) (fun j h hj => by have := hz (j + 1) (by simpa using h) (by omega); simpa using this) (fun h => by have := hn (by simpa using h); simpa using this)
    simp [lz, h0, this]
theorem pushes_lt (t : Nat) (ht : 0 < t) (ht2 : t ≤ 256) : ∀ (n c : Nat), ∀ d ∈ pushes t n c, d.toNat < t
  | 0, c => by simp [pushes]
  | n + 1, c => by
    intro d hd
    unfold pushes at hd
    split at hd
    · simp at hd
    · simp only [List.mem_cons] at hd
      rcases hd with rfl | hd
      · have := Nat.mod_lt c ht
        simp; rw [Nat.mod_eq_of_lt (by omega)]; omega
      · exact pushes_lt t ht ht2 n _ d hd
theorem mid_lt (f t : Nat) (ht : 0 < t) (ht2 : t ≤ 256) : ∀ (xs : List UInt8) (c : Nat), ∀ d ∈ (mid f t xs c).1, d.toNat < t
  | [], c => by simp [mid]
  | x :: xs, c => by
    intro d hd
    simp only [mid, List.mem_cons] at hd
    rcases hd with rfl | hd
    · have := Nat.mod_lt (c + x.toNat * f) ht
      simp; rw [Nat.mod_eq_of_lt (by omega)]; omega
    · exact mid_lt f t ht ht2 xs _ d hd
theorem baseStep_lt (f t : Nat) (ht : 0 < t) (ht2 : t ≤ 256) (xs : List UInt8) (c : Nat) : ∀ d ∈ baseStep f t xs c, d.toNat < t := by
  intro d hd
  simp only [baseStep, List.mem_append] at hd
  rcases hd with hd | hd
  · exact mid_lt f t ht ht2 _ _ d hd
  · exact pushes_lt t ht ht2 _ _ d hd
theorem baseL_lt (f t : Nat) (ht : 0 < t) (ht2 : t ≤ 256) (l : List UInt8) : ∀ d ∈ baseL f t l, d.toNat < t := by
  rcases List.eq_nil_or_concat l with rfl | ⟨l', d0, rfl⟩
  · simp [baseL]
  · rw [List.concat_eq_append, baseL_snoc]
    exact baseStep_lt f t ht ht2 _ _
def b58L (bs : List UInt8) : List UInt8 := List.replicate (lz bs) 49 ++ (baseL 256 58 bs).reverse.map let58
end Go.Proofs.YtcjioogololnoaaGreatDoor

/-! text.base, walked. -/
namespace Go.Proofs.YtcjioogololnoaaGreatDoor
open Go.RowKit Go.Shelf
attribute [local go_sem] Oper.semAt_some


set_option maxRecDepth 100000 in
set_option maxHeartbeats 4000000 in
theorem base_in (F : Fence) (hF : ∀ k, F.fn k) (hro : F.round = none) (n : Nat) (hn : 3 ≤ n) (f t : Nat) (hf : 1 ≤ f) (hf2 : f ≤ 256) (ht : 2 ≤ t) (ht2 : t ≤ 256) (A : Option Addr) (cap : Nat) (bs : List UInt8) (hl : bs.length ≤ 4096) (w : World) (hs : Sl w w.heap.size A (B8 bs)) :
    CallsIn F n Tryz.prog 165 #[.slice A bs.length cap, .int .i64 f, .int .i64 t] w fun e W' => ∃ v, e = .returned v ∧ Ow W' w.heap.size 5 v (B8 (baseL f t bs.reverse)) ∧ Below w.heap.size w W' := by
  have h1 : 1 ≤ n := by omega
  obtain ⟨i0, hi, hz0, hz1, hz2⟩ := info_parts u8_info
  refine callsIn_of_wp_marks Tryz.func165 rfl (hF _) ?_ hro
  simp only [Tryz.ntmps165, List.size_toArray, List.length_cons, List.length_nil, Nat.reduceAdd, Nat.reduceSub, Array.replicate_succ, Array.replicate_zero, List.push_toArray, List.append_toArray, List.nil_append, List.cons_append]
  gi_wp2_with (gi_at_call 164; refine (bwdB_in F hF hro _ _ _ _ _).mono ?_; rintro e w' ⟨rfl, rfl⟩)
  obtain ⟨B, hB⟩ : ∃ B, B = w.heap.size := ⟨_, rfl⟩
  rw [← hB] at hs ⊢
  obtain ⟨W0, hW0⟩ : ∃ W0, W0 = (((w.alloc (Obj.cells #[Value.int IntKind.i64 f] 3)).alloc (Obj.cells #[Value.int IntKind.i64 t] 3)).alloc (Obj.cells #[Value.slice none 0 0] 37)).alloc (Obj.cells #[Value.slice A bs.length cap] 37) := ⟨_, rfl⟩
  rw [← hW0]
  have b0 : Boxed W0 B 3 (.int .i64 f) := by rw [hW0, hB]; exact (((Boxed.new w _ _).alloc _).alloc _).alloc _
  have b1 : Boxed W0 (B + 1) 3 (.int .i64 t) := by rw [hW0, hB]; have := (((Boxed.new (w.alloc (Obj.cells #[Value.int IntKind.i64 f] 3)) 3 (.int .i64 t)).alloc (Obj.cells #[Value.slice none 0 0] 37)).alloc (Obj.cells #[Value.slice A bs.length cap] 37)); simpa using this
  have b2 : Boxed W0 (B + 2) 37 (.slice none 0 0) := by rw [hW0, hB]; have := (Boxed.new ((w.alloc (Obj.cells #[Value.int IntKind.i64 f] 3)).alloc (Obj.cells #[Value.int IntKind.i64 t] 3)) 37 (.slice none 0 0)).alloc (Obj.cells #[Value.slice A bs.length cap] 37); simpa using this
  have b3 : Boxed W0 (B + 3) 37 (.slice A bs.length cap) := by rw [hW0, hB]; have := (Boxed.new (((w.alloc (Obj.cells #[Value.int IntKind.i64 f] 3)).alloc (Obj.cells #[Value.int IntKind.i64 t] 3)).alloc (Obj.cells #[Value.slice none 0 0] 37)) 37 (.slice A bs.length cap)); simpa using this
  have hsz : W0.heap.size = B + 4 := by rw [hW0, hB]; simp
  have hB0 : Below B w W0 := by rw [hW0, hB]; exact ((((Below.refl _ w).alloc (Nat.le_refl _) _).alloc (by simp) _).alloc (by simp; omega) _).alloc (by simp; omega) _
  have HB := Lib.hid hB
  have hBle : B ≤ w.heap.size := by omega
  have hBge : w.heap.size ≤ B := by omega
  clear hW0 hB
  refine wpIn_rangeFunc_ownG hro h1 (gf := 195) (lb := #[.pointer (some ⟨B + 3, 0, none⟩)]) rfl (hF _) (enters_of Tryz.func195 (by kernel_rfl) rfl)
    (bwdB_stops F hF hro (n - 1) (by omega) (B + 3) B A cap bs (by omega) W0 (by omega) (by omega) b3.cell (hs.below hB0)) keepK_t (keepK_b (by omega) (by omega)) (Below.refl _ _) (fun _ => rfl)
    (fun pre W => (Boxed W B 3 (.int .i64 f) ∧ Boxed W (B + 1) 3 (.int .i64 t) ∧ ∃ v, Boxed W (B + 2) 37 v ∧ Ow W (B + 4) 5 v (B8 (baseL f t (pre.map (·.2))))) ∧ Below B W0 W)
    (fun _ _ _ => False)
    (OwnFrom.and (Go.Own.from (fun s A B row hs hg hr => ⟨boxed_others hs.1 hg hr, boxed_others hs.2.1 hg hr, let ⟨v, hv, ho⟩ := hs.2.2; ⟨v, boxed_others hv hg hr, ho.others hg hr⟩⟩) _) (ownFrom_below (by omega) (by omega)))
    (fun _ _ _ _ _ hs _ _ => hs)
    ⟨⟨b0, b1, _, b2, Ow.nil_ _ _ _ _⟩, Below.refl _ _⟩
    (fun x => { tmps := #[.slice A bs.length cap, .int .i64 f, .int .i64 t, undef, .pointer (some ⟨B, 0, none⟩), .pointer (some ⟨B + 1, 0, none⟩), .slice none 0 0, .pointer (some ⟨B + 2, 0, none⟩), undef, .int .u8 (x.2.toNat : Int), undef, undef, undef, .slice A bs.length cap, .func (.func 195) #[] #[.pointer (some ⟨B + 3, 0, none⟩)], .int .i64 (x.1 : Int), .int .u8 (x.2.toNat : Int), undef, undef, undef, undef, undef, undef, undef, undef, undef, undef, undef, undef, undef, undef, undef, undef, undef, undef, undef, undef, undef, undef, undef, undef, undef, undef, undef, undef, undef, undef, undef, undef, undef, undef, undef, undef, undef, undef, undef], defers := [] }) ?assign ?body ?done ?stop
  case assign =>
    intro l x W K hK
    gi_wp2
    exact hK
  case body =>
    have hsz0 : B + 4 ≤ W0.heap.size := by omega
    clear hs b0 b1 b2 b3 hB0 hsz
    rintro l pre x W ⟨⟨h0, h1, v, h2, ho⟩, hBW⟩ hpre
    have hd : 1 ≤ n - 1 - 1 := by omega
    have c0 := h0.cell
    have c1 := h1.cell
    have c2 := h2.cell
    have f2 := h2.frozen
    obtain ⟨xs, hxs⟩ : ∃ xs, xs = baseL f t (pre.map (·.2)) := ⟨_, rfl⟩
    rw [← hxs] at ho
    have hxl : xs.length ≤ 69632 := by rw [hxs]; have := baseL_len f t hf2 ht (pre.map (·.2)); simp at this; omega
    have Hxs := Lib.hid hxs
    clear hxs
    obtain ⟨Av, cv, rfl⟩ : ∃ Av cv, v = .slice Av xs.length cv := by obtain ⟨Av, cv, e, _⟩ := ho; exact ⟨Av, cv, by simpa using e⟩
    have hx2 := x.2.toNat_lt
    have hd2 : x.2.toNat ≤ 65536 := by omega
    obtain ⟨d, hdd⟩ : ∃ d, d = x.2.toNat := ⟨_, rfl⟩
    rw [← hdd] at hd2
    have Hd := Lib.hid hdd
    gi_wp2
    rw [← hdd]
    clear hdd hx2
    gi_loopw [10, 21] (fun cr i wr => ∃ k c : Nat, k ≤ xs.length ∧ i = .int .i64 k ∧ cr = .int .i64 c ∧ c ≤ 65536 ∧ Hid (c = (mid f t (xs.take k) d).2) ∧ Boxed wr B 3 (.int .i64 f) ∧ Boxed wr (B + 1) 3 (.int .i64 t) ∧
        Boxed wr (B + 2) 37 (.slice Av xs.length cv) ∧ Ow wr (B + 4) 5 (.slice Av xs.length cv) (B8 ((mid f t (xs.take k) d).1 ++ xs.drop k)) ∧ Below B W0 wr ∧ Keep B (B + 3) W wr ∧ KeepsOthers W wr) (fun _ i _ => xs.length - (intOf i).toNat)
    case atStart => exact ⟨0, d, Nat.zero_le _, rfl, rfl, hd2, rfl, h0, h1, h2, by simpa [mid] using ho, hBW, Keep.refl _ _ _, KeepsOthers.refl _⟩
    case round =>
      clear h0 h1 h2 c0 c1 c2 f2 ho hBW
      obtain ⟨k, c, hk, rfl, rfl, hc, Hc, h0, h1, h2, ho, hBW, hWW, hKO⟩ := hrel
      have c0 := h0.cell
      have c1 := h1.cell
      have c2 := h2.cell
      have f2 := h2.frozen
      by_cases hlt : k < xs.length
      · obtain ⟨m, hm⟩ : ∃ m, m = (mid f t (xs.take k) d).1 := ⟨_, rfl⟩
        have hml : m.length = k := by rw [hm, mid_len, List.length_take]; omega
        rw [← hm] at ho
        have Hm := Lib.hid hm
        clear hm
        obtain ⟨g, rfl, hg, hrow, hcell, hfr⟩ := ho.at_ (j := k) (by simp; omega)
        have hv : (B8 (m ++ xs.drop k))[k]'(by simp; omega) = .int .u8 (xs[k].toNat : Int) := by
          rw [B8_get, List.getElem_append_right (by omega)]
          simp [hml]
        rw [hv] at hcell
        have hxk := xs[k].toNat_lt
        have Hml := Lib.hid hml
        clear hv hml
        have Hrow := Lib.hid hrow
        clear hrow
        have b1 : 0 ≤ (xs[k].toNat : Int) * (f : Int) := by exact Int.mul_nonneg (by omega) (by omega)
        have b2 : (xs[k].toNat : Int) * (f : Int) ≤ 65280 := by
          have : xs[k].toNat * f ≤ 255 * 256 := Nat.mul_le_mul (by omega) hf2
          have h : ((xs[k].toNat * f : Nat) : Int) ≤ 65280 := by omega
          rwa [Int.natCast_mul] at h
        gi_wp2
        have hmx : Tryz.prog.follows .mixedOrders = true := by kernel_rfl
        refine wpIn_region_plan [(0, 1), (1, 0), (2, 0), (3, 1), (4, 0), (5, 0), (6, 0), (7, 2)] 7 (fun _ => hF _) hmx (by kernel_rfl) (by intro c a d v w h; cases d <;> exact h) ?_
        repeat ((first | (refine wpPlan_pure rfl (fun K hK => ?_)) | (refine wpPlan_quiet rfl (fun K hK => ?_))); go_simp; (first | (refine hK _ ?_) | (simp only [IntWalk.iteOmega]; go_simp; refine hK _ ?_) | (go_bits; go_simp; refine hK _ ?_)); clear hK K; (try go_bits))
        refine wpPlanIn_loud rfl rfl (fun K hK => ?_)
        gi_wp2
        refine ⟨.inl (by decide), wpPlan_nil ?_⟩
        gi_wp2
        have Bw : B ≤ (⟨g, k, none⟩ : Addr).block := by show B ≤ g; omega
        refine ⟨⟨k + 1, (c + xs[k].toNat * f) / t, by omega, by go_num, by simp, ?_, ?_, boxed_far h0 (p := ⟨g, k, none⟩) (by show B ≠ g; omega) _, boxed_far h1 (p := ⟨g, k, none⟩) (by show B + 1 ≠ g; omega) _, boxed_far h2 (p := ⟨g, k, none⟩) (by show B + 2 ≠ g; omega) _, ?_, hBW.setCell Bw _ |>.drew, keepK_t hWW ⟨((Below.refl B wr).setCell Bw _).drew, Below.heap_setCell wr ⟨g, k, none⟩ _ (B + 3) (by show B + 3 ≠ g; omega)⟩, hKO.trans ((KeepsOthers.setCell _ _ _).trans (KeepsOthers.drew _))⟩, by simp [intOf]; omega⟩
        · have := Nat.div_le_div_left (a := c + xs[k].toNat * f) ht (by omega)
          have hb : xs[k].toNat * f ≤ 255 * 256 := Nat.mul_le_mul (by omega) hf2
          omega
        · show _ = _
          rw [List.take_succ_eq_append_getElem hlt, mid_snoc, ← Hc.out]
        · have hs := ho.store k (by have := ho.len; simp at this; omega) (.int .u8 ((((c : Int) + (xs[k].toNat : Int) * (f : Int)) % (t : Int)) % 256))
          have e : (B8 (m ++ xs.drop k)).set k (.int .u8 ((((c : Int) + (xs[k].toNat : Int) * (f : Int)) % (t : Int)) % 256)) = B8 ((mid f t (xs.take (k + 1)) d).1 ++ xs.drop (k + 1)) := by
            rw [List.take_succ_eq_append_getElem hlt, mid_snoc, ← Hc.out, ← Hm.out]
            have hd : xs.drop k = xs[k] :: xs.drop (k + 1) := by rw [List.getElem_cons_drop]
            rw [hd]
            simp only [B8, List.map_append, List.map_cons]
            rw [List.set_append_right _ _ (by simp [Hml.out])]
            simp [Hml.out]
          rw [e] at hs
          exact hs
      · obtain rfl : k = xs.length := by omega
        rw [List.take_length, List.drop_length, List.append_nil] at ho
        rw [List.take_length] at Hc
        gi_wp2
        obtain ⟨fin, hfin⟩ : ∃ fin, fin = baseStep f t xs d := ⟨_, rfl⟩
        have hfl : fin.length ≤ 69649 := by rw [hfin]; have := baseStep_len f t hf2 ht xs d hd2; omega
        have Hfin := Lib.hid hfin
        clear hfin
        gi_loopw [10] (fun cr wq => ∃ (c : Nat) (v : Value) (ys : List UInt8), cr = .int .i64 c ∧ c ≤ 65536 ∧ Hid (ys ++ pushes t c c = fin) ∧ Boxed wq B 3 (.int .i64 f) ∧ Boxed wq (B + 1) 3 (.int .i64 t) ∧
          Boxed wq (B + 2) 37 v ∧ Ow wq (B + 4) 5 v (B8 ys) ∧ Below B W0 wq ∧ Keep B (B + 3) W wq ∧ KeepsOthers W wq) (fun cr _ => (intOf cr).toNat)
        case atStart => exact ⟨c, _, _, rfl, hc, by rw [Hfin.out]; unfold baseStep; rw [← Hc.out]; rfl, h0, h1, h2, ho, hBW, hWW, hKO⟩
        case round =>
          clear h0 h1 h2 c0 c1 c2 f2 ho hBW hWW hKO Hc hc hk hlt
          obtain ⟨c, v, ys, rfl, hc, hfe, h0, h1, h2, ho, hBW, hWW, hKO⟩ := hrel
          have hyl : ys.length ≤ 69649 := by have := congrArg List.length hfe.out; simp at this; omega
          have c0 := h0.cell
          have c1 := h1.cell
          have c2 := h2.cell
          have f2 := h2.frozen
          obtain ⟨Ay, cy, rfl⟩ : ∃ Ay cy, v = .slice Ay ys.length cy := by obtain ⟨Ay, cy, e, _⟩ := ho; exact ⟨Ay, cy, by simpa using e⟩
          by_cases hc0 : 0 < c
          · have hmx : Tryz.prog.follows .mixedOrders = true := by kernel_rfl
            have hne := ho.row_ne_box h2 (by decide)
            have hne0 := ho.row_ne_box h0 (by decide)
            have hne1 := ho.row_ne_box h1 (by decide)
            have hrow := ho.row
            have hq0 : (0 : Int) ≤ (c : Int) / (t : Int) := Int.ediv_nonneg (by omega) (by omega)
            have hq1 : (c : Int) / (t : Int) ≤ 65536 := by have := Int.ediv_le_self (a := (c : Int)) (t : Int) (by omega); omega
            gi_wp2
            refine wpIn_region_plan [(0, 1), (1, 0), (2, 1), (3, 0), (4, 0), (5, 2), (6, 2), (7, 2)] 6 (fun _ => hF _) hmx (by kernel_rfl) (by intro c a d v w h; cases d <;> exact h) ?_
            repeat ((first | (refine wpPlan_pure rfl (fun K hK => ?_)) | (refine wpPlan_quiet rfl (fun K hK => ?_))); go_simp; (first | (refine hK _ ?_) | (simp only [IntWalk.iteOmega]; go_simp; refine hK _ ?_) | (go_bits; go_simp; refine hK _ ?_)); clear hK K; (try go_bits))
            refine wpPlanIn_loud rfl rfl (fun K hK => ?_)
            gi_wp2
            refine ⟨.inr (ext_alloc_drew _ _), ?_⟩
            refine wpPlanIn_loud rfl rfl (fun K hK => ?_)
            refine wpIn_append_Ow (F := F.inRound l) (v := .slice Ay ys.length cy) (m := 1) (c := 1) (fun _ => hF _) elB (.tmp 48) (.tmp 53) rfl rfl (ho.alloc _).drew rfl (Sl.one wr _ _).drew rfl ?_ ?_ ?_ ?_ ?_
            · intro u hu; simp at hu; subst hu; rfl
            · simp [maxLen]; omega
            · simp; omega
            · have := hBW.size; simp; omega
            intro v' w1 ho1 hg1 hr1
            have hgB : ∀ g, rowOf (.slice Ay ys.length cy) = some g → B + 4 ≤ g := fun g hg => by have := hrow g hg; omega
            have hn1 : ∀ b, b < wr.heap.size → (∀ g, rowOf (.slice Ay ys.length cy) = some g → g ≠ b) → some b ≠ rowOf (.slice Ay ys.length cy) := fun b _ h e => h b e.symm rfl
            have h0' : Boxed w1 B 3 (.int .i64 f) := (boxed_drew (h0.alloc _)).kept hg1 (hn1 _ h0.lt hne0)
            have h1' : Boxed w1 (B + 1) 3 (.int .i64 t) := (boxed_drew (h1.alloc _)).kept hg1 (hn1 _ h1.lt hne1)
            have h2' := Boxed.kept (boxed_drew (h2.alloc _)) hg1 (hn1 _ h2.lt hne)
            have c1' := h1'.cell
            have c2' := h2'.cell
            have f2' := h2'.frozen
            have k1 : KeepsOthers wr w1 := (KeepsOthers.alloc wr _).trans ((KeepsOthers.drew _).trans ((ho.alloc _).drew.keepsOthers hg1 rfl))
            have hws := hBW.size
            have bl : Below B wr w1 := ((Below.refl B wr).alloc (by omega) _).drew.grown hg1 (by simp; omega) (fun g hg => by have := hgB g hg; omega)
            have ho2 : ∀ u, Ow (w1.setCell ⟨B + 2, 0, none⟩ u) (B + 4) 5 v' (B8 (ys ++ [UInt8.ofNat (c % t)])) := fun u => by
              rw [B8_append, B8_one]
              have e : ((c : Int) % (t : Int) % 256) = ((UInt8.ofNat (c % t)).toNat : Int) := by simp
              rw [← e]
              exact ho1.setCell (fun g hg => by have := ho1.row g hg; show B + 2 ≠ g; omega) u
            obtain ⟨Av', cv', rfl⟩ : ∃ Av' cv', v' = .slice Av' (ys.length + 1) cv' := by obtain ⟨A', c', e, _⟩ := ho1; exact ⟨A', c', by simpa using e⟩
            refine hK _ _ ⟨.inl (by decide), ?_⟩
            clear hK K
            refine wpPlanIn_loud rfl rfl (fun K hK => ?_)
            gi_wp2
            refine ⟨.inl (by decide), wpPlan_nil ?_⟩
            gi_wp2
            refine ⟨⟨c / t, .slice Av' (ys.length + 1) cv', ys ++ [UInt8.ofNat (c % t)], by simp, ?_, ?_, h0'.other (by omega) _, h1'.other (by omega) _, ?_, ?_, ?_, ?_, ?_⟩, ?_⟩
            · exact Nat.le_trans (Nat.div_le_self c t) hc
            · show _ = _
              rw [← hfe.out, pushes_pos t c ht hc0]; simp
            · simpa using h2'.set _
            · simpa using ho2 _
            · exact (hBW.trans bl).setCell (p := ⟨B + 2, 0, none⟩) (by show B ≤ B + 2; omega) _
            · exact keepK_t hWW ⟨bl.setCell (p := ⟨B + 2, 0, none⟩) (by show B ≤ B + 2; omega) _, (Below.heap_setCell w1 ⟨B + 2, 0, none⟩ _ (B + 3) (by show B + 3 ≠ B + 2; omega)).trans ((hg1.block (B + 3) (by simp; omega) (fun e => by have := hgB _ e.symm; omega)).trans (Below.heap_alloc wr _ (B + 3) (by omega)))⟩
            · exact hKO.trans (k1.trans (KeepsOthers.setCell _ _ _))
            · have : c / t < c := Nat.div_lt_self hc0 (by omega)
              simp [intOf]; omega
          · obtain rfl : c = 0 := by omega
            gi_wp2
            refine ⟨hKO.from _, hWW, ⟨h0, h1, _, h2, ?_⟩, hBW⟩
            have e : ys = baseL f t ((pre ++ [x]).map (·.2)) := by
              have := hfe.out
              rw [pushes_zero, List.append_nil, Hfin.out, Hxs.out, Hd.out] at this
              rw [this]; simp [baseL_snoc]
            rw [← e]; exact ho
  case done =>
    rintro D ys W hD rfl ⟨⟨_, _, v, h2, ho⟩, hB⟩ hK
    have c2 := h2.cell
    gi_wp2
    refine ⟨by simp, .inl ⟨_, _, rfl, run_takeDeferred hK, ?_⟩⟩
    refine ⟨_, results_tmp rfl _ _ _, v, rfl, ?_, ?_⟩
    · rw [bwd_bytes] at ho
      rw [← HB.out]
      exact (ho.others (grownBy_putObj' _ D (.deferred none)) (fun r e => by cases e; exact ⟨_, hK, rfl⟩)).mono (by omega)
    · rw [← HB.out]
      exact hB0.trans (hB.trans (belowK_b (w := W0) (by omega) W D _ _ hD hK rfl rfl))
  case stop =>
    rintro D c pre W _ _ h _
    exact h.elim

theorem base_any (f t : Nat) (hf : 1 ≤ f) (hf2 : f ≤ 256) (ht : 2 ≤ t) (ht2 : t ≤ 256) (A : Option Addr) (cap : Nat) (bs : List UInt8) (hl : bs.length ≤ 4096) (w : World) (hs : Sl w w.heap.size A (B8 bs)) :
    Calls Tryz.prog 165 #[.slice A bs.length cap, .int .i64 f, .int .i64 t] w fun e W' => ∃ v, e = .returned v ∧ Ow W' w.heap.size 5 v (B8 (baseL f t bs.reverse)) ∧ Below w.heap.size w W' :=
  (callsIn_wide (n := 3)).1 (base_in Fence.wide (fun _ => trivial) rfl 3 (Nat.le_refl _) f t hf hf2 ht ht2 A cap bs hl w hs)
end Go.Proofs.YtcjioogololnoaaGreatDoor

/-! slices.Clone, Reverse, text.turned. -/
namespace Go.Proofs.YtcjioogololnoaaGreatDoor
open Go.RowKit

/-- Turned round from both ends, k places. -/
def rv (xs : List UInt8) (k : Nat) : List UInt8 := (List.range xs.length).map fun m => if m < k ∨ xs.length - k ≤ m then xs.getD (xs.length - 1 - m) 0 else xs.getD m 0
theorem rv_len (xs : List UInt8) (k : Nat) : (rv xs k).length = xs.length := by simp [rv]
theorem rv_get (xs : List UInt8) (k m : Nat) (h : m < (rv xs k).length) : (rv xs k)[m] = if m < k ∨ xs.length - k ≤ m then xs.getD (xs.length - 1 - m) 0 else xs.getD m 0 := by simp [rv]
theorem rv_zero (xs : List UInt8) : rv xs 0 = xs := by
  apply List.ext_getElem (by simp [rv])
  intro i h1 h2
  rw [rv_get, if_neg (by omega)]
  simp [h2]
theorem rv_end (xs : List UInt8) (k : Nat) (h : xs.length ≤ 2 * k + 1) : rv xs k = xs.reverse := by
  apply List.ext_getElem (by simp [rv])
  intro i h1 h2
  have hi : i < xs.length := by simpa using h2
  rw [rv_get, List.getElem_reverse]
  by_cases hc : i < k ∨ xs.length - k ≤ i
  · rw [if_pos hc, List.getD_eq_getElem?_getD, List.getElem?_eq_getElem (by omega)]; rfl
  · rw [if_neg hc, List.getD_eq_getElem?_getD, List.getElem?_eq_getElem hi]
    have e : xs.length - 1 - i = i := by omega
    simp only [e]; rfl
theorem rv_step (xs : List UInt8) (k : Nat) (h : k + 1 < xs.length - k) : ((rv xs k).set k (xs.getD (xs.length - 1 - k) 0)).set (xs.length - 1 - k) (xs.getD k 0) = rv xs (k + 1) := by
  apply List.ext_getElem (by simp [rv])
  intro i h1 h2
  have hi : i < xs.length := by simpa [rv] using h2
  rw [rv_get, List.getElem_set, List.getElem_set]
  by_cases e1 : xs.length - 1 - k = i
  · subst e1; rw [if_pos rfl, if_pos (by omega)]; congr 1; omega
  · rw [if_neg e1]
    by_cases e2 : k = i
    · subst e2; rw [if_pos rfl, if_pos (by omega)]
    · rw [if_neg e2, rv_get]
      by_cases hc : i < k ∨ xs.length - k ≤ i
      · rw [if_pos hc, if_pos (by omega)]
      · rw [if_neg hc, if_neg (by omega)]

set_option maxHeartbeats 2000000 in
theorem clone_any (A : Option Addr) (c : Nat) (bs : List UInt8) (w : World) (hs : Sl w w.heap.size A (B8 bs)) (hl : bs.length ≤ 1048576) :
    Calls Tryz.prog 62 #[.slice A bs.length c] w fun e W' => ∃ v, e = .returned v ∧ Ow W' w.heap.size 5 v (B8 bs) ∧ Below w.heap.size w W' := by
  have hnil := fun w => Lib.run_eql_slice_nil (P := Tryz.prog) w 37 5 A bs.length c 0 0 Tryz.underlying37
  by_cases hb : bs = []
  · subst hb
    simp only [List.length_nil] at hnil ⊢
    clear hl hs
    cases A with
    | none =>
      go_enter Tryz.func62, Tryz.ntmps62
      go_wp2
      go_ret
      exact ⟨_, rfl, Ow.nil_ _ _ _ _, Below.refl _ _⟩
    | some ad =>
      go_enter Tryz.func62, Tryz.ntmps62
      go_wp2_with (at_builtin; refine wpList_append_Ow (m := 0) (c := c) (base := w.heap.size) (xs := []) (v := .slice (some ⟨w.heap.size, 0, none⟩) 0 0) (A := some ad) (B := w.heap.size) (news := []) elB rfl (.tmp 5) (.tmp 6) rfl rfl (Ow.nil_ _ _ _ _) rfl Sl.nil rfl (by simp) (by simp) (by simp) (by simp) ?_; intro v1 w1 ho1 hg1 hr1)
      go_ret
      exact ⟨v1, rfl, ho1, ((Below.refl _ w).alloc (Nat.le_refl _) _).grown hg1 (by simp) (by simp [rowOf])⟩
  · have Hl := Lib.hid hl
    obtain ⟨b, o, rfl, _⟩ := hs (by simpa using List.length_pos_iff.2 hb)
    have Hb := Lib.hid hb
    clear hl hb
    go_enter Tryz.func62, Tryz.ntmps62
    go_wp2_with (at_builtin; refine wpList_append_Ow (m := bs.length) (c := c) (base := w.heap.size) (xs := []) (v := .slice (some ⟨w.heap.size, 0, none⟩) 0 0) (A := some ⟨b, o, none⟩) (B := w.heap.size) (news := B8 bs) elB rfl (.tmp 5) (.tmp 6) rfl rfl (Ow.nil_ _ _ _ _) rfl (hs.alloc (Nat.le_refl _) _) (B8_length _) (B8_oneCell _) (by have := Hl.out; simp [maxLen]; omega) (by have := Hl.out; simp; omega) (by simp) ?_; intro v1 w1 ho1 hg1 hr1)
    go_ret
    exact ⟨v1, rfl, by simpa using ho1, ((Below.refl _ w).alloc (Nat.le_refl _) _).grown hg1 (by simp) (by simp [rowOf])⟩

set_option maxHeartbeats 2000000 in
theorem reverse_row (g o c : Nat) (l1 l3 : List Value) (E : Nat) (bs : List UInt8) (w : World) (hh : w.heap[g]? = some (.cells (l1 ++ B8 bs ++ l3).toArray E (0, 0))) (ho : l1.length = o) (hl : bs.length ≤ 4096) :
    Calls Tryz.prog 196 #[.slice (some ⟨g, o, none⟩) bs.length c] w fun e W' => e = .returned (.tuple #[]) ∧ W'.heap[g]? = some (.cells (l1 ++ B8 bs.reverse ++ l3).toArray E (0, 0)) ∧ w.grownBy W' (some g) := by
  have Ho := Lib.hid ho
  have Hh := Lib.hid hh
  clear ho hh
  go_enter Tryz.func196, Tryz.ntmps196
  go_wp2
  go_loopw [2, 3] (fun i j wr => ∃ k : Nat, (2 * k ≤ bs.length + 1 ∧ (0 < k → 2 * k ≤ bs.length)) ∧ i = .int .i64 k ∧ j = .int .i64 ((bs.length : Int) - 1 - (k : Int)) ∧ wr.heap[g]? = some (.cells (l1 ++ B8 (rv bs k) ++ l3).toArray E (0, 0)) ∧ w.grownBy wr (some g)) (fun i _ _ => bs.length + 1 - (intOf i).toNat)
  case atStart => exact ⟨0, by omega, rfl, by go_num, by rw [rv_zero]; exact Hh.out, World.grownBy.refl _ _⟩
  case round =>
    obtain ⟨k, hk, rfl, rfl, hh, hg⟩ := hrel
    by_cases hlt : k + 1 < bs.length - k
    · obtain ⟨m, hm⟩ : ∃ m, m = bs.length - 1 - k := ⟨_, rfl⟩
      have hm1 : m < bs.length := by omega
      have hkm : k < m := by omega
      have e1 : (bs.length : Int) - 1 - (k : Int) = (m : Int) := by omega
      have hk1 : k < bs.length := by omega
      have cell : ∀ j (hj : j < bs.length), wr.cell? ⟨g, o + j, none⟩ = some (.int .u8 (((rv bs k)[j]'(by rw [rv_len]; exact hj)).toNat : Int)) := fun j hj => by
        rw [cell_of_row wr g (o + j) _ _ _ hh]
        have h1 := Ho.out
        subst h1
        simp [B8, List.getElem?_append_right, List.getElem?_append_left, rv_len, hj]
      have ck := cell k hk1
      have cm := cell m hm1
      have fr : ∀ j, wr.frozen? ⟨g, o + j, none⟩ = false := fun j => frozen_of_row wr g (o + j) _ _ hh
      have fk := fr k
      have fm := fr m
      rw [e1]
      have Hm := Lib.hid hm
      have Hh := Lib.hid hh
      clear cell fr hm e1 hh
      have hmx : Tryz.prog.follows .mixedOrders = true := by kernel_rfl
      go_wp2_with fail
      refine wp_region_plan [(0, 0), (1, 0), (2, 0), (3, 0), (4, 0), (5, 0), (6, 0), (7, 1), (8, 0), (9, 0), (10, 0), (11, 1), (12, 0), (13, 2), (14, 2), (15, 2)] 13 hmx (by kernel_rfl) (by intro c a d v w h; cases d <;> exact h) ?_
      repeat ((first | (refine wpPlan_pure rfl (fun K hK => ?_)) | (refine wpPlan_quiet rfl (fun K hK => ?_))); go_simp; (first | (refine hK _ ?_) | (simp only [IntWalk.iteOmega]; go_simp; refine hK _ ?_) | (go_bits; go_simp; refine hK _ ?_)); clear hK K; (try go_bits))
      refine wpPlan_loud rfl rfl (fun K hK => ?_)
      go_wp2
      refine ⟨.inl (by decide), ?_⟩
      refine wpPlan_loud rfl rfl (fun K hK => ?_)
      go_wp2
      refine ⟨.inl (by decide), ?_⟩
      refine wpPlan_loud rfl rfl (fun K hK => ?_)
      go_wp2
      refine ⟨.inl (by decide), wpPlan_nil ?_⟩
      go_wp2
      have hm := Hm.out
      have v1 : (rv bs k)[m]'(by rw [rv_len]; exact hm1) = bs.getD (bs.length - 1 - k) 0 := by rw [rv_get, if_neg (by omega), hm]
      have v2 : (rv bs k)[k]'(by rw [rv_len]; exact hk1) = bs.getD k 0 := by rw [rv_get, if_neg (by omega)]
      have st : l1 ++ B8 (rv bs (k + 1)) ++ l3 = ((l1 ++ B8 (rv bs k) ++ l3).set (o + k) (.int .u8 (((rv bs k)[m]'(by rw [rv_len]; exact hm1)).toNat : Int))).set (o + m) (.int .u8 (((rv bs k)[k]'(by rw [rv_len]; exact hk1)).toNat : Int)) := by
        have h1 := Ho.out
        subst h1
        rw [v1, v2, ← rv_step bs k hlt, ← hm]
        rw [List.append_assoc, List.append_assoc, List.set_append_right _ _ (by omega), List.set_append_right _ _ (by omega)]
        simp only [Nat.add_sub_cancel_left]
        rw [List.set_append_left _ _ (by simp [rv_len]; omega), List.set_append_left _ _ (by simp [rv_len]; omega)]
        simp [B8, List.map_set]
      refine ⟨⟨k + 1, by omega, by go_num, by go_num, ?_, ?_⟩, by simp [intOf]; omega⟩
      · rw [st]
        exact (heap_setCell_same _ g (o + m) _ _ _ (heap_setCell_same wr g (o + k) _ _ _ Hh.out)).trans (by simp)
      · refine World.grownBy.trans hg ⟨rfl, rfl, rfl, by simp [World.setCell, World.drew], fun j hj hne => ?_⟩
        have hne' : j ≠ g := fun e => hne (by rw [e])
        exact (Below.heap_setCell _ ⟨g, o + m, none⟩ _ j hne').trans (Below.heap_setCell wr ⟨g, o + k, none⟩ _ j hne')
    · have e1 : ¬ ((k : Int) < (bs.length : Int) - 1 - (k : Int)) := by omega
      go_wp2
      go_end0
      exact ⟨rfl, by rw [rv_end bs k (by omega)] at hh; simpa using hh, hg⟩

set_option maxHeartbeats 400000 in
theorem reverse_empty (A : Option Addr) (c : Nat) (w : World) :
    Calls Tryz.prog 196 #[.slice A 0 c] w fun e W' => e = .returned (.tuple #[]) ∧ w = W' := by
  go_enter Tryz.func196, Tryz.ntmps196
  go_wp2
  go_loop [2, 3] (fun i j => i = .int .i64 0 ∧ j = .int .i64 (-1)) (fun _ _ => 0)
  case atStart => exact ⟨rfl, rfl⟩
  case round =>
    obtain ⟨rfl, rfl⟩ := hrel
    go_wp2
    go_end0
    exact ⟨rfl, rfl⟩

/-- Reversed in place, an owned slice. -/
theorem reverse_ow (base E : Nat) (A : Option Addr) (n c : Nat) (bs : List UInt8) (w : World) (h : Ow w base E (.slice A n c) (B8 bs)) (hl : bs.length ≤ 4096) :
    Calls Tryz.prog 196 #[.slice A n c] w fun e W' => e = .returned (.tuple #[]) ∧ Ow W' base E (.slice A n c) (B8 bs.reverse) ∧ w.grownBy W' (rowOf (.slice A n c)) := by
  have h0 := h
  obtain ⟨A', c', e, h1, h2, h3⟩ := h
  injection e with e1 e2 e3; subst e1 e2 e3
  simp only [B8_length] at h0 h1 h3 ⊢
  by_cases hc : c = 0
  · have hb : bs = [] := List.eq_nil_of_length_eq_zero (by omega)
    subst hb
    refine (reverse_empty A c w).mono fun e W' ⟨he, hw⟩ => ?_
    subst hw
    exact ⟨he, h0, World.grownBy.refl _ _⟩
  · obtain ⟨g, cur, rfl, hb, hh, hs, ht⟩ := h3 (by omega)
    have hcur : cur = ([] ++ B8 bs ++ cur.toList.drop bs.length).toArray := by
      apply Array.ext'
      simp only [List.nil_append]
      rw [← ht, List.take_append_drop]
    rw [hcur] at hh
    have hr : rowOf (.slice (some ⟨g, 0, none⟩) bs.length c) = some g := by simp [rowOf, hc]
    refine (reverse_row g 0 c [] (cur.toList.drop bs.length) E bs w hh rfl hl).mono fun e W' ⟨he, hh', hg⟩ => ⟨he, ?_, by rw [hr]; exact hg⟩
    refine ⟨_, c, by simp, by simpa using h1, h2, fun _ => ⟨g, _, rfl, hb, hh', by simp; omega, by simp [List.take_append, List.take_of_length_le]⟩⟩

set_option maxHeartbeats 400000 in
theorem turned_any (A : Option Addr) (c : Nat) (bs : List UInt8) (w : World) (hs : Sl w w.heap.size A (B8 bs)) (hl : bs.length ≤ 4096) :
    Calls Tryz.prog 166 #[.slice A bs.length c] w fun e W' => ∃ v, e = .returned v ∧ Ow W' w.heap.size 5 v (B8 bs.reverse) ∧ Below w.heap.size w W' := by
  go_enter Tryz.func166, Tryz.ntmps166
  go_wp2_with fail
  refine (clone_any A c bs w hs (by omega)).mono ?_
  rintro e w1 ⟨v, rfl, ho, hb⟩
  obtain ⟨A1, c1, rfl⟩ : ∃ A1 c1, v = .slice A1 bs.length c1 := by obtain ⟨A1, c1, e, _⟩ := ho; exact ⟨A1, c1, by simpa using e⟩
  go_wp2_with fail
  refine (reverse_ow _ _ _ _ _ bs w1 ho hl).mono ?_
  rintro e w2 ⟨rfl, ho2, hg2⟩
  have hrow := ho.row
  have hsz := hb.size
  go_wp2
  go_ret
  exact ⟨_, rfl, ho2, hb.grown hg2 hsz (fun g hg => (hrow g hg).1)⟩
end Go.Proofs.YtcjioogololnoaaGreatDoor
