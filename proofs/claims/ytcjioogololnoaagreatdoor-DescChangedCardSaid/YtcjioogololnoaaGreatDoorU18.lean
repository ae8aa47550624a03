/- hdkey: secret, good, four, the number of four bytes. | hdkey: four, and the number of four bytes. | hdkey.step. -/
import Derived.Test.YtcjioogololnoaaGreatDoorU17
import Derived.Test.YtcjioogololnoaaGreatDoorU5
import Derived.Test.YtcjioogololnoaaGreatDoorU11

/-! hdkey: secret, good, four, the number of four bytes. -/
namespace Go.Proofs.YtcjioogololnoaaGreatDoor
open Go.RowKit Go.Shelf

def zr32 : Array Value := #[.int .u8 0, .int .u8 0, .int .u8 0, .int .u8 0, .int .u8 0, .int .u8 0, .int .u8 0, .int .u8 0, .int .u8 0, .int .u8 0, .int .u8 0, .int .u8 0, .int .u8 0, .int .u8 0, .int .u8 0, .int .u8 0, .int .u8 0, .int .u8 0, .int .u8 0, .int .u8 0, .int .u8 0, .int .u8 0, .int .u8 0, .int .u8 0, .int .u8 0, .int .u8 0, .int .u8 0, .int .u8 0, .int .u8 0, .int .u8 0, .int .u8 0, .int .u8 0]
theorem run_arrayPtr {P : Program} {arr e : TypeId} {n : Nat} (a : Option Addr) (len cap : Nat) (w : World) (hu : P.underlying arr = some (.array n e)) (hl : n ≤ len) : (Instr.arrayAt arr (.slice a len cap)).run P w = .ok (.pointer a) w := by
  unfold Instr.arrayAt
  simp [run_underlying hu, go_sem, show ¬ len < n by omega]
set_option maxRecDepth 100000 in
set_option maxHeartbeats 2000000 in
theorem secret_any (k : HKey) (hk : k.Ok) (w : World) :
    Calls Tryz.prog 145 #[.agg (keyC k).toArray] w fun e W' => e = .returned (.agg (B8 (k.data.drop 1)).toArray) ∧ Below w.heap.size w W' := by
  obtain ⟨cs, hcs⟩ : ∃ cs, cs = (keyC k).toArray := ⟨_, rfl⟩
  have hcell := fun (W : World) (g : Nat) (h : W.heap[g]? = some (.cells (keyC k).toArray 59 (0, 0))) => key_data_cell hk h
  rw [← hcs] at hcell ⊢
  have hcz : cs.size = 71 := by rw [hcs]; simp [keyC_length hk]
  obtain ⟨sc, hsc⟩ : ∃ sc, sc = B8 (k.data.drop 1) := ⟨_, rfl⟩
  have hsl : sc.length = 32 := by rw [hsc]; simp [hk.data]
  have hs1 : sc.toArray.all (·.oneCell') = true := by rw [hsc]; simp only [List.all_toArray]; exact List.all_eq_true.2 (B8_oneCell _)
  rw [← hsc]
  go_enter Tryz.func145, Tryz.ntmps145
  have h2 := rowsTwo w (.cells cs 59) (.cells zr32 56)
  obtain ⟨W0, hW0⟩ : ∃ W0, W0 = (w.alloc (.cells cs 59)).alloc (.cells zr32 56) := ⟨_, rfl⟩
  have hb0 : Below w.heap.size w W0 := by rw [hW0]; exact ((Below.refl _ w).alloc (Nat.le_refl _) _).alloc (by simp) _
  rw [← hW0] at h2
  obtain ⟨gK, gO⟩ := h2
  have HR : Hid (W0.rangeAt w.heap.size 39 sc) := Lib.hid fun j v hv => by
    have hj : j < sc.length := (List.getElem?_eq_some_iff.1 hv).1
    have hjd : 1 + j < k.data.length := by rw [hk.data]; omega
    have h := hcell W0 _ gK (1 + j) hjd
    rw [show 39 + j = 38 + (1 + j) by omega, h]
    rw [hsc, B8_drop, List.getElem?_drop, List.getElem?_eq_getElem (by rw [B8_length]; exact hjd), B8_get] at hv
    exact hv
  have HsI := Lib.hid (show (Tryz.prog.info? 56).map (·.size) = some sc.length by rw [hsl]; kernel_rfl)
  have HsI' := Lib.hid (show (Tryz.prog.info? 56).map (·.size) = some sc.toArray.size by rw [List.size_toArray, hsl]; kernel_rfl)
  have HsZ := Lib.hid (show zr32.size = sc.toArray.size from (show 32 = sc.toArray.size by rw [List.size_toArray, hsl]))
  have Hs1 := Lib.hid hs1
  have GO := Lib.hid gO
  clear hcs hcell hsc hsl hs1 gK gO
  go_wp2_with (refine wpList_boxTo rfl 59 (.tmp 0) rfl _ rfl w.heap.size rfl cs rfl ?_)
  refine (show W0 = _ from hW0) ▸ ?_
  rw [run_arrayPtr (some ⟨w.heap.size, 39, none⟩) 32 32 W0 Tryz.underlying56 (Nat.le_refl _)]
  clear hW0 hcz
  go_wp2_with (first | (refine wpList_load_mid rfl 56 (.tmp 5) rfl w.heap.size 39 rfl sc _ HR.out Tryz.underlying56 rfl HsI.out ?_) | (refine wpList_store_row rfl 56 (.tmp 2) (.tmp 6) rfl (w.heap.size + 1) sc.toArray rfl rfl 56 _ GO.out HsI'.out HsZ.out Hs1.out ?_))
  refine bodyPost_ret (v := .agg sc.toArray) ?_ rfl ⟨rfl, below_setRow' hb0 (by omega) _⟩
  exact results_cell_row rfl _ _ (w.heap.size + 1) 56 sc.toArray (0, 0) _ rfl (setRow_heap _ _ _ _ _ _ GO.out) Tryz.underlying56 rfl HsI'.out

set_option maxRecDepth 100000 in
set_option maxHeartbeats 2000000 in
theorem good_any (k : HKey) (hk : k.Ok) (w : World) :
    Calls Tryz.prog 101 #[.agg (keyC k).toArray] w fun e W' => e = .returned (.bool k.good) ∧ Below w.heap.size w W' := by
  obtain ⟨cs, hcs⟩ : ∃ cs, cs = (keyC k).toArray := ⟨_, rfl⟩
  have hcell := fun (W : World) (g : Nat) (h : W.heap[g]? = some (.cells (keyC k).toArray 59 (0, 0))) => key_data_cell hk h
  have HPr := Lib.hid (fun ww => private_any k hk ww)
  have HSe := Lib.hid (fun ww => secret_any k hk ww)
  rw [← hcs] at hcell HPr HSe ⊢
  obtain ⟨tl, htl⟩ : ∃ tl, tl = k.data.drop 1 := ⟨_, rfl⟩
  have htll : tl.length = 32 := by rw [htl, List.length_drop, hk.data]
  have HG0 : Hid (k.good = if k.priv then isKey tl else isPub k.data) := Lib.hid (by rw [htl]; rfl)
  simp only [← htl] at HSe
  clear htl
  have hcz : cs.size = 71 := by rw [hcs]; simp [keyC_length hk]
  have HcI := Lib.hid (show (Tryz.prog.info? 59).map (·.size) = some cs.size by rw [hcz]; kernel_rfl)
  clear hcs
  go_enter Tryz.func101, Tryz.ntmps101
  have hrow := heap_alloc_new w (.cells cs 59)
  obtain ⟨W0, hW0⟩ : ∃ W0, W0 = w.alloc (.cells cs 59) := ⟨_, rfl⟩
  rw [← hW0] at hrow
  have hb0 : Below w.heap.size w W0 := by rw [hW0]; exact (Below.refl _ w).alloc (Nat.le_refl _) _
  obtain ⟨B, hB⟩ : ∃ B, B = w.heap.size := ⟨_, rfl⟩
  have HB := Lib.hid hB
  have Hrow := Lib.hid hrow
  have HBlt := Lib.hid (Array.getElem?_eq_some_iff.1 hrow).1
  have Hcell := Lib.hid (hcell W0 _ hrow)
  clear hrow hcell
  clear hcz
  go_wp2_with (first | (refine wpList_boxTo rfl 59 (.tmp 0) rfl _ rfl w.heap.size rfl cs rfl ?_) | (refine wpList_load_row rfl 59 (.tmp 1) rfl w.heap.size rfl 59 cs (0, 0) _ (heap_alloc_new w _) Tryz.underlying59 rfl HcI.out ?_))
  refine (show W0 = _ from hW0) ▸ ?_
  rw [← hB] at Hrow HBlt Hcell ⊢
  clear hW0 hB
  refine (HPr.out _).mono ?_
  rintro e w1 ⟨rfl, hb1⟩
  have Hrow1 := Lib.hid ((hb1.block B HBlt.out).trans Hrow.out)
  have hbw1 := hb0.trans (hb1.mono hb0.size)
  obtain ⟨p, hp⟩ : ∃ p, p = k.priv := ⟨_, rfl⟩
  have Hg : Hid (k.good = if p then isKey tl else isPub k.data) := Lib.hid (by rw [hp]; exact HG0.out)
  rw [← hp]
  clear hp HPr
  have HcD : Hid (∀ (j : Nat) (hj : j < k.data.length), w1.cell? ⟨B, 38 + j, none⟩ = some (.int .u8 (k.data[j].toNat : Int))) := Lib.hid fun j hj => (hb1.cell (p := ⟨B, 38 + j, none⟩) HBlt.out).trans (Hcell.out j hj)
  have hB1 : B < w1.heap.size := Nat.lt_of_lt_of_le HBlt.out hb1.size
  clear Hrow Hcell hb1
  cases p with
  | true =>
    go_wp2_with (refine wpList_load_row rfl 59 (.tmp 1) rfl B rfl 59 cs (0, 0) _ Hrow1.out Tryz.underlying59 rfl HcI.out ?_)
    refine (HSe.out _).mono ?_
    rintro e w2 ⟨rfl, hb2⟩
    go_wp2_with fail
    refine (valid_any tl htll _).mono ?_
    rintro e w3 ⟨rfl, hb3⟩
    go_wp2_with fail
    go_ret
    exact ⟨by rw [Hg.out]; rfl, (hbw1.trans (hb2.mono hbw1.size)).trans (hb3.mono (Nat.le_trans hbw1.size hb2.size))⟩
  | false =>
    go_wp2_with fail
    have hs : Sl w1 w1.heap.size (some ⟨B, 38, none⟩) (B8 k.data) := fun _ => ⟨B, 38, rfl, hB1, fun j hj => by
      rw [HcD.out j (by simpa using hj), B8_get]⟩
    have hpb := isPublic_any (some ⟨B, 38, none⟩) 33 k.data (by rw [hk.data]; exact Nat.le_refl _) w1 hs
    rw [hk.data] at hpb
    refine hpb.mono ?_
    rintro e w2 ⟨rfl, hb2⟩
    go_wp2_with fail
    go_ret
    exact ⟨by rw [Hg.out]; rfl, hbw1.trans (hb2.mono hbw1.size)⟩
end Go.Proofs.YtcjioogololnoaaGreatDoor

/-! hdkey: four, and the number of four bytes. -/
namespace Go.Proofs.YtcjioogololnoaaGreatDoor
open Go.RowKit Go.Shelf

theorem or_addn (x y n : Nat) (hy : y < 2 ^ n) : x * 2 ^ n ||| y = x * 2 ^ n + y := by
  have h := Nat.shiftLeft_add_eq_or_of_lt hy x
  rw [Nat.shiftLeft_eq] at h
  exact h.symm
theorem be4 (a b c d : UInt8) : beN [a, b, c, d] = a.toNat * 16777216 + b.toNat * 65536 + c.toNat * 256 + d.toNat := by
  simp only [beN, List.foldl]; omega
theorem be4_or (a b c d : UInt8) : bits .or .u32 (bits .or .u32 (bits .or .u32 ((a.toNat : Int) * 16777216 % 4294967296) ((b.toNat : Int) * 65536 % 4294967296)) ((c.toNat : Int) * 256 % 4294967296)) (d.toNat : Int) = ((beN [a, b, c, d] : Nat) : Int) := by
  have ha := a.toNat_lt
  have hb := b.toNat_lt
  have hc := c.toNat_lt
  have hd := d.toNat_lt
  rw [show (a.toNat : Int) * 16777216 % 4294967296 = ((a.toNat * 16777216 : Nat) : Int) by omega, show (b.toNat : Int) * 65536 % 4294967296 = ((b.toNat * 65536 : Nat) : Int) by omega, show (c.toNat : Int) * 256 % 4294967296 = ((c.toNat * 256 : Nat) : Int) by omega]
  have e1 : a.toNat * 16777216 ||| b.toNat * 65536 = a.toNat * 16777216 + b.toNat * 65536 := by
    have := or_addn a.toNat (b.toNat * 65536) 24 (by omega)
    simpa using this
  rw [bits_or32 _ _ (by omega) (by omega), e1]
  have e2 : (a.toNat * 16777216 + b.toNat * 65536) ||| c.toNat * 256 = a.toNat * 16777216 + b.toNat * 65536 + c.toNat * 256 := by
    have := or_addn (a.toNat * 256 + b.toNat) (c.toNat * 256) 16 (by omega)
    rw [show (a.toNat * 256 + b.toNat) * 2 ^ 16 = a.toNat * 16777216 + b.toNat * 65536 by omega] at this
    exact this
  rw [bits_or32 _ _ (by omega) (by omega), e2]
  have e3 : (a.toNat * 16777216 + b.toNat * 65536 + c.toNat * 256) ||| d.toNat = a.toNat * 16777216 + b.toNat * 65536 + c.toNat * 256 + d.toNat := by
    have := or_addn (a.toNat * 65536 + b.toNat * 256 + c.toNat) d.toNat 8 (by omega)
    rw [show (a.toNat * 65536 + b.toNat * 256 + c.toNat) * 2 ^ 8 = a.toNat * 16777216 + b.toNat * 65536 + c.toNat * 256 by omega] at this
    exact this
  rw [bits_or32 _ _ (by omega) (by omega), e3, be4]

theorem be4_or' (a b c d : UInt8) : bits .or .u32 (bits .or .u32 (bits .or .u32 ((a.toNat : Int) % 4294967296 * 16777216 % 4294967296) ((b.toNat : Int) % 4294967296 * 65536 % 4294967296)) ((c.toNat : Int) % 4294967296 * 256 % 4294967296)) ((d.toNat : Int) % 4294967296) = ((beN [a, b, c, d] : Nat) : Int) := by
  have ha := a.toNat_lt
  have hb := b.toNat_lt
  have hc := c.toNat_lt
  have hd := d.toNat_lt
  rw [show (a.toNat : Int) % 4294967296 = a.toNat by omega, show (b.toNat : Int) % 4294967296 = b.toNat by omega, show (c.toNat : Int) % 4294967296 = c.toNat by omega, show (d.toNat : Int) % 4294967296 = d.toNat by omega]
  exact be4_or a b c d
/-- A number in four bytes, the greatest first. -/
def be4L (n : Nat) : List UInt8 := [UInt8.ofNat (n / 16777216), UInt8.ofNat (n / 65536), UInt8.ofNat (n / 256), UInt8.ofNat n]
theorem beN_be4L (n : Nat) (h : n < 4294967296) : beN (be4L n) = n := by
  rw [be4L, be4]
  simp only [UInt8.toNat_ofNat']
  omega
set_option maxRecDepth 100000 in
set_option maxHeartbeats 2000000 in
theorem number4_any (A : Option Addr) (n c : Nat) (a b x d : UInt8) (bs : List UInt8) (w : World) (hs : Sl w w.heap.size A (B8 (a :: b :: x :: d :: bs))) (hn : n = bs.length + 4) :
    Calls Tryz.prog 100 #[.slice A n c] w fun e W' => e = .returned (.int .u32 (beN [a, b, x, d] : Nat)) ∧ Below w.heap.size w W' := by
  have hmx : Tryz.prog.follows .mixedOrders = true := by kernel_rfl
  obtain ⟨b0, o0, rfl, hb0, hcell⟩ := hs.at_ (k := 0) (by simp)
  have c0 : w.cell? ⟨b0, o0, none⟩ = some (.int .u8 (a.toNat : Int)) := hcell 0 (by simp)
  have c1 : w.cell? ⟨b0, o0 + 1, none⟩ = some (.int .u8 (b.toNat : Int)) := hcell 1 (by simp)
  have c2 : w.cell? ⟨b0, o0 + 2, none⟩ = some (.int .u8 (x.toNat : Int)) := hcell 2 (by simp)
  have c3 : w.cell? ⟨b0, o0 + 3, none⟩ = some (.int .u8 (d.toNat : Int)) := hcell 3 (by simp)
  obtain ⟨v, hv⟩ : ∃ v, v = beN [a, b, x, d] := ⟨_, rfl⟩
  have hor := be4_or' a b x d
  rw [← hv] at hor ⊢
  have hn0 : 0 < n := by omega
  have hn1 : 1 < n := by omega
  have hn2 : 2 < n := by omega
  have hn3 : 3 < n := by omega
  clear hcell hs hv hn
  go_enter Tryz.func100, Tryz.ntmps100
  go_wp2_with fail
  refine wp_region_plan [(0, 0), (1, 0), (2, 1), (3, 0), (4, 0), (5, 0), (6, 0), (7, 1), (8, 0), (9, 0), (10, 0), (11, 0), (12, 0), (13, 1), (14, 0), (15, 0), (16, 0), (17, 0), (18, 0), (19, 1), (20, 0), (21, 0), (22, 0)] 23 hmx (by kernel_rfl) (by intro c a d v w h; cases d <;> exact h) ?_
  repeat ((first | (refine wpPlan_pure rfl (fun K hK => ?_)) | (refine wpPlan_quiet rfl (fun K hK => ?_))); go_simp; (first | (refine hK _ ?_) | (simp only [IntWalk.iteOmega]; go_simp; refine hK _ ?_) | (go_bits; go_simp; refine hK _ ?_)); clear hK K; (try go_bits))
  refine wpPlan_nil ?_
  go_wp2_with fail
  go_ret
  exact ⟨rfl, (Below.refl _ w).drew⟩

set_option maxRecDepth 100000 in
set_option maxHeartbeats 2000000 in
theorem four_any (n : Nat) (hn : n < 4294967296) (w : World) :
    Calls Tryz.prog 79 #[.int .u32 n] w fun e W' => ∃ v, e = .returned v ∧ Ow W' w.heap.size 5 v (B8 (be4L n)) ∧ Below w.heap.size w W' := by
  go_enter Tryz.func79, Tryz.ntmps79
  go_wp2_with fail
  go_ret
  have hq : (#[.int .u8 ((n : Int) / 16777216), .int .u8 ((n : Int) / 65536 % 256), .int .u8 ((n : Int) / 256 % 256), .int .u8 ((n : Int) % 256)] : Array Value) = (B8 (be4L n)).toArray := by
    simp only [be4L, B8, List.map, UInt8.toNat_ofNat']
    rw [show ((n / 16777216 % 2 ^ 8 : Nat) : Int) = (n : Int) / 16777216 by omega, show ((n / 65536 % 2 ^ 8 : Nat) : Int) = (n : Int) / 65536 % 256 by omega, show ((n / 256 % 2 ^ 8 : Nat) : Int) = (n : Int) / 256 % 256 by omega, show ((n % 2 ^ 8 : Nat) : Int) = (n : Int) % 256 by omega]
  rw [hq]
  refine ⟨_, rfl, ?_, (Below.refl _ w).alloc (Nat.le_refl _) _⟩
  have h := Ow.of_row (w := w) (cap := 4) (B8 (be4L n)).toArray 5 w.heap.size (Nat.le_refl _) (by simp [be4L]) (by decide) 4 (Nat.le_refl _)
  have e : (B8 (be4L n)).toArray.toList.take 4 = B8 (be4L n) := by simp [be4L, B8]
  rw [e] at h
  exact h
end Go.Proofs.YtcjioogololnoaaGreatDoor

/-! hdkey.step. -/
namespace Go.Proofs.YtcjioogololnoaaGreatDoor
open Go.RowKit Go.Shelf

def marksL : List UInt8 := [39, 104, 72]
theorem marks_hard (c : UInt8) : placeZ marksL c = if isHardC c then ((marksL.idxOf c : Nat) : Int) else -1 := by
  unfold placeZ isHardC marksL
  by_cases h1 : c = 39
  · simp [h1]
  · by_cases h2 : c = 104
    · simp [h2]
    · by_cases h3 : c = 72 <;> simp [h1, h2, h3]
theorem take_next (T : List UInt8) (k : Nat) (h : k < T.length) : T.take (k + 1) = T.take k ++ [T[k]] := List.take_succ_eq_append_getElem h
theorem or_hard (V : Nat) (h : V < 2147483648) : bits .or .u32 ((V : Int) % 4294967296) 2147483648 = ((V + 2147483648 : Nat) : Int) := by
  rw [show (V : Int) % 4294967296 = V by omega]
  have e := or_addn 1 V 31 (by omega)
  rw [show (2147483648 : Int) = ((2147483648 : Nat) : Int) from rfl, bits_or32 _ _ (by omega) (by omega), Nat.or_comm]
  rw [show (2147483648 : Nat) = 1 * 2 ^ 31 from rfl, e]
  congr 1; omega
theorem or_soft (V : Nat) (h : V < 2147483648) : bits .or .u32 ((V : Int) % 4294967296) 0 = (V : Int) := by
  rw [show (V : Int) % 4294967296 = V by omega]
  rw [show (0 : Int) = ((0 : Nat) : Int) from rfl, bits_or32 _ _ (by omega) (by omega), Nat.or_zero]
theorem stepNum_bad {T : List UInt8} (h : T = [] ∨ (T.head? = some 48 ∧ 1 < T.length)) : stepNum T = (3, 0) := by rw [stepNum, if_pos h]
theorem stepNum_letter {T : List UInt8} (c : UInt8) (hc : c ∈ T) (hd : digitC c = false) : stepNum T = (3, 0) := by
  unfold stepNum
  split
  · rfl
  · rw [if_neg]
    intro h
    have := List.all_eq_true.1 h c hc
    rw [hd] at this; exact absurd this (by decide)
theorem stepNum_num {T : List UInt8} (h : ¬ (T = [] ∨ (T.head? = some 48 ∧ 1 < T.length))) (ha : ∀ c ∈ T, digitC c = true) : stepNum T = if satV T < 2147483648 then (0, satV T) else (2, 0) := by
  rw [stepNum, if_neg h, if_pos (List.all_eq_true.2 ha)]

set_option maxRecDepth 100000 in
set_option maxHeartbeats 4000000 in
theorem hstep_any (s : ByteArray) (hsz : s.size ≤ 4096) (w : World) :
    Calls Tryz.prog 146 #[.string s] w fun e w' => e = .returned (.tuple #[.int .u32 ((stepS s.data.toList).2 : Int), .int .i64 ((stepS s.data.toList).1 : Int)]) ∧ w' = w := by
  obtain ⟨S, hS⟩ : ∃ S, S = s.data.toList := ⟨_, rfl⟩
  have hSl : S.length = s.size := by rw [hS]; simp
  obtain ⟨R, hR⟩ : ∃ R, R = stepS S := ⟨_, rfl⟩
  rw [← hS, ← hR]
  by_cases h0 : s.size = 0
  · have hs0 : s = ⟨#[]⟩ := by
      apply ByteArray.ext
      exact Array.eq_empty_of_size_eq_zero h0
    subst hs0
    have hRv : R = (3, 0) := by rw [hR, hS]; rfl
    subst hRv
    clear hS hSl hR h0
    go_enter Tryz.func146, Tryz.ntmps146
    go_wp2
    go_ret2
    exact ⟨rfl, rfl⟩
  · have hpos : 0 < s.size := by omega
    obtain ⟨m, hm⟩ : ∃ m, s.size = m + 1 := ⟨s.size - 1, by omega⟩
    have hms : m < s.size := by omega
    obtain ⟨c, hc⟩ : ∃ c, c = s[m] := ⟨_, rfl⟩
    have hcm : ∀ h, s[m]'h = c := fun h => hc.symm
    have hne : S ≠ [] := fun e => by rw [e] at hSl; simp at hSl; omega
    have hlast : S.getLastD 0 = c := by
      rw [List.getLastD_eq_getLast?, List.getLast?_eq_getElem?, hSl, hm, Nat.add_sub_cancel, hS, hc]
      simp [hms]; rfl
    have hix := Tryz.strings_IndexByte ⟨marksL.toArray⟩ (c.toNat : Int)
    rw [show (⟨marksL.toArray⟩ : ByteArray).data.toList = marksL from rfl, indexByte_placeZ, show ((c.toNat : Int)).toNat.toUInt8 = c from by simp, marks_hard] at hix
    have Hix := Lib.hid hix
    have hmi : ((s.size : Int) - 1) = (m : Int) := by omega
    have Hm := Lib.hid hm
    by_cases hh : isHardC c = true
    · rw [if_pos hh] at Hix
      obtain ⟨ip, hip⟩ : ∃ ip, ip = marksL.idxOf c := ⟨_, rfl⟩
      rw [← hip] at Hix
      obtain ⟨t, ht⟩ : ∃ t, t = s.extract 0 m := ⟨_, rfl⟩
      have het : s.extract 0 m = t := ht.symm
      obtain ⟨T, hT⟩ : ∃ T, T = t.data.toList := ⟨_, rfl⟩
      have hTd : T = S.dropLast := by
        rw [hT, ht, Lib.extract_data, List.drop_zero, List.dropLast_eq_take, hSl, hm, hS]; simp
      have HRs := Lib.hid (show R = if (stepNum T).1 = 0 then (0, (stepNum T).2 + 2147483648) else ((stepNum T).1, 0) by rw [hR, stepS, if_pos ⟨hne, by rw [hlast]; exact hh⟩, hTd])
      have hts : t.size ≤ 4096 := by
        have h1 : T.length = t.size := by rw [hT]; simp
        rw [hTd, List.length_dropLast, hSl] at h1
        omega
      have HT := Lib.hid hT
      have hms' : m ≤ s.size := by omega
      clear hS hSl hR h0 hix hm hc hip ht hT hTd hlast hne
      have Hts := Lib.hid hts
      have hTl : T.length = t.size := by rw [HT.out]; simp
      have HTl := Lib.hid hTl
      clear hTl
      by_cases hb : T = [] ∨ (T.head? = some 48 ∧ 1 < T.length)
      · have HRv := Lib.hid (stepNum_bad hb)
        by_cases he : T = []
        · have hte : t.toList.isEmpty = true := by rw [ByteArray.toList_eq, ← HT.out, he]; rfl
          have hte0 : t.toList = [] := by rw [ByteArray.toList_eq, ← HT.out, he]
          clear hb he
          (go_enter Tryz.func146, Tryz.ntmps146; go_wp2_with (go_at_call 32; refine (Hix.out _).mono ?_; rintro e w' ⟨rfl, hww⟩; rw [hww]; clear hww))
          go_ret2
          exact ⟨by rw [HRs.out, HRv.out]; rfl, rfl⟩
        · have hpos : 0 < t.size := by
            have := HTl.out
            have := List.length_pos_iff.2 he
            omega
          have h2 : T.head? = some 48 ∧ 1 < T.length := hb.resolve_left he
          have hgt : 1 < t.size := by have := HTl.out; omega
          have hte : t.toList.isEmpty = false := by
            rw [ByteArray.toList_eq, ← HT.out]
            cases T with | nil => exact absurd rfl he | cons => rfl
          have hte0 : ¬ t.toList = [] := by rw [ByteArray.toList_eq, ← HT.out]; exact he
          have h48 : ∀ h : 0 < t.size, (t[0]'h).toNat = 48 := fun h => by
            have h3 := h2.1
            rw [List.head?_eq_getElem?, HT.out] at h3
            rw [show t.data.toList[0]? = some (t[0]'h) by simp [h]; rfl] at h3
            rw [Option.some.inj h3]; rfl
          have hgtI : (1 : Int) < (t.size : Int) := by omega
          clear hb h2 he
          (go_enter Tryz.func146, Tryz.ntmps146; go_wp2_with (go_at_call 32; refine (Hix.out _).mono ?_; rintro e w' ⟨rfl, hww⟩; rw [hww]; clear hww))
          go_ret2
          exact ⟨by rw [HRs.out, HRv.out]; rfl, rfl⟩
      · have he : T ≠ [] := fun h => hb (.inl h)
        have hpos : 0 < t.size := by
          have := HTl.out
          have := List.length_pos_iff.2 he
          omega
        have hte : t.toList.isEmpty = false := by
          rw [ByteArray.toList_eq, ← HT.out]
          cases T with | nil => exact absurd rfl he | cons => rfl
        have hte0 : ¬ t.toList = [] := by rw [ByteArray.toList_eq, ← HT.out]; exact he
        have hor : (∀ h : 0 < t.size, ¬ ((t[0]'h).toNat : Int) = 48) ∨ ((∀ h : 0 < t.size, (t[0]'h).toNat = 48) ∧ ¬ (1 : Int) < (t.size : Int)) := by
          have h0 : T.head? = some (t[0]'hpos) := by
            rw [List.head?_eq_getElem?, HT.out]; simp [hpos]; rfl
          by_cases h48 : (t[0]'hpos).toNat = 48
          · refine .inr ⟨fun _ => h48, ?_⟩
            have h1 : t[0]'hpos = 48 := UInt8.toNat_inj.1 (by rw [h48]; rfl)
            rw [h1] at h0
            intro h2
            exact hb (.inr ⟨h0, by have := HTl.out; omega⟩)
          · exact .inl fun _ h2 => h48 (by omega)
        have Hb := Lib.hid hb
        clear hb he
        rcases hor with hx | ⟨hx, hyy⟩
        all_goals
          (go_enter Tryz.func146, Tryz.ntmps146; go_wp2_with (go_at_call 32; refine (Hix.out _).mono ?_; rintro e w' ⟨rfl, hww⟩; rw [hww]; clear hww))
          go_loop [2, 3, 6, 38] (fun a b x i => ∃ k : Nat, k ≤ t.size ∧ i = .int .i64 k ∧ a = .int .u32 0 ∧ b = .int .i64 0 ∧ x = .int .u64 (satV (T.take k) : Nat) ∧ Hid (∀ c ∈ T.take k, digitC c = true)) (fun _ _ _ i => t.size - (intOf i).toNat)
          case atStart => exact ⟨0, Nat.zero_le _, rfl, rfl, rfl, rfl, Lib.hid (by simp)⟩
          case round =>
            obtain ⟨k, hk, rfl, rfl, rfl, rfl, Hall⟩ := hrel
            obtain ⟨V, hV⟩ : ∃ V, V = satV (T.take k) := ⟨_, rfl⟩
            have hVle : V ≤ 2147483648 := by rw [hV]; exact satV_le _
            rw [← hV]
            have HV := Lib.hid hV
            clear hV hx
            by_cases hlt : k < t.size
            · obtain ⟨y, hy⟩ : ∃ y, y = t[k] := ⟨_, rfl⟩
              have hyk : ∀ h, t[k]'h = y := fun h => hy.symm
              have hTk : T.take (k + 1) = T.take k ++ [y] := by
                rw [List.take_succ_eq_append_getElem (by have := HTl.out; omega), hy]
                simp only [HT.out]; rfl
              have HTk := Lib.hid hTk
              have hyT : y ∈ T := List.mem_of_mem_take (i := k + 1) (by rw [hTk]; simp)
              have HyT := Lib.hid hyT
              have hy8 := y.toNat_lt
              clear hy hTk hyT
              by_cases hd : digitC y = true
              · have hd2 : 48 ≤ y.toNat ∧ y.toNat ≤ 57 := by simpa [digitC] using hd
                have hd48 := hd2.1
                have hd57 := hd2.2
                have Hd := Lib.hid hd
                have HV' : Hid (satV (T.take (k + 1)) = min (V * 10 + (y.toNat - 48)) 2147483648) := Lib.hid (by rw [HTk.out, satV_snoc, HV.out])
                clear hd hd2
                go_wp2
                exact ⟨⟨k + 1, by omega, rfl, rfl, rfl, by rw [HV'.out]; congr 1; omega, Lib.hid (by
                  rw [HTk.out]
                  intro c hc
                  simp only [List.mem_append, List.mem_singleton] at hc
                  rcases hc with hc | rfl
                  · exact Hall.out c hc
                  · exact Hd.out)⟩, by simp [intOf]; omega⟩
              · have hd2 : y.toNat < 48 ∨ 57 < y.toNat := by
                  simp [digitC] at hd; omega
                have HRv := Lib.hid (stepNum_letter y HyT.out (by simpa using hd))
                clear hd
                rcases hd2 with h | h
                all_goals
                  go_wp2
                  go_ret2
                  exact ⟨by rw [HRs.out, HRv.out]; rfl, rfl⟩
            · obtain rfl : k = t.size := by omega
              have hTt : T.take t.size = T := List.take_of_length_le (by have := HTl.out; omega)
              have hnum : stepNum T = if V < 2147483648 then (0, V) else (2, 0) := by
                rw [stepNum_num Hb.out (by have := Hall.out; rwa [hTt] at this), HV.out, hTt]
              have Hnum := Lib.hid hnum
              clear hnum hTt hlt
              by_cases hV31 : V < 2147483648
              · have HRv := Lib.hid (show stepNum T = (0, V) by rw [Hnum.out, if_pos hV31])
                have hvI : decide ((2147483648 : Int) ≤ (V : Int)) = false := decide_eq_false (by omega)
                have hor := or_hard V hV31
                clear hVle hV31 hk Hts Hb HV
                go_wp2
                go_ret2
                exact ⟨by rw [HRs.out, HRv.out]; rfl, rfl⟩
              · have HRv := Lib.hid (show stepNum T = (2, 0) by rw [Hnum.out, if_neg hV31])
                have hvI : decide ((2147483648 : Int) ≤ (V : Int)) = true := decide_eq_true (by omega)
                clear hVle hV31 hk Hts Hb HV
                go_wp2
                go_ret2
                exact ⟨by rw [HRs.out, HRv.out]; rfl, rfl⟩
    · rw [if_neg hh] at Hix
      have HRs := Lib.hid (show R = stepNum S by rw [hR, stepS, if_neg (by rw [hlast]; exact fun h => hh h.2)])
      obtain ⟨T, hTS⟩ : ∃ T, T = S := ⟨_, rfl⟩
      rw [← hTS] at HRs hS
      have HT := Lib.hid hS
      clear hS hSl hR h0 hix hm hc hlast hne hTS
      have Hts := Lib.hid hsz
      have hTl : T.length = s.size := by rw [HT.out]; simp
      have HTl := Lib.hid hTl
      clear hTl
      by_cases hb : T = [] ∨ (T.head? = some 48 ∧ 1 < T.length)
      · have HRv := Lib.hid (stepNum_bad hb)
        by_cases he : T = []
        · have hte : s.toList.isEmpty = true := by rw [ByteArray.toList_eq, ← HT.out, he]; rfl
          have hte0 : s.toList = [] := by rw [ByteArray.toList_eq, ← HT.out, he]
          clear hb he
          (go_enter Tryz.func146, Tryz.ntmps146; go_wp2_with (go_at_call 32; refine (Hix.out _).mono ?_; rintro e w' ⟨rfl, hww⟩; rw [hww]; clear hww))
          go_ret2
          exact ⟨by rw [HRs.out, HRv.out]; rfl, rfl⟩
        · have hpos : 0 < s.size := by
            have := HTl.out
            have := List.length_pos_iff.2 he
            omega
          have h2 : T.head? = some 48 ∧ 1 < T.length := hb.resolve_left he
          have hgt : 1 < s.size := by have := HTl.out; omega
          have hte : s.toList.isEmpty = false := by
            rw [ByteArray.toList_eq, ← HT.out]
            cases T with | nil => exact absurd rfl he | cons => rfl
          have hte0 : ¬ s.toList = [] := by rw [ByteArray.toList_eq, ← HT.out]; exact he
          have h48 : ∀ h : 0 < s.size, (s[0]'h).toNat = 48 := fun h => by
            have h3 := h2.1
            rw [List.head?_eq_getElem?, HT.out] at h3
            rw [show s.data.toList[0]? = some (s[0]'h) by simp [h]; rfl] at h3
            rw [Option.some.inj h3]; rfl
          have hgtI : (1 : Int) < (s.size : Int) := by omega
          clear hb h2 he
          (go_enter Tryz.func146, Tryz.ntmps146; go_wp2_with (go_at_call 32; refine (Hix.out _).mono ?_; rintro e w' ⟨rfl, hww⟩; rw [hww]; clear hww))
          go_ret2
          exact ⟨by rw [HRs.out, HRv.out]; rfl, rfl⟩
      · have he : T ≠ [] := fun h => hb (.inl h)
        have hpos : 0 < s.size := by
          have := HTl.out
          have := List.length_pos_iff.2 he
          omega
        have hte : s.toList.isEmpty = false := by
          rw [ByteArray.toList_eq, ← HT.out]
          cases T with | nil => exact absurd rfl he | cons => rfl
        have hte0 : ¬ s.toList = [] := by rw [ByteArray.toList_eq, ← HT.out]; exact he
        have hor : (∀ h : 0 < s.size, ¬ ((s[0]'h).toNat : Int) = 48) ∨ ((∀ h : 0 < s.size, (s[0]'h).toNat = 48) ∧ ¬ (1 : Int) < (s.size : Int)) := by
          have h0 : T.head? = some (s[0]'hpos) := by
            rw [List.head?_eq_getElem?, HT.out]; simp [hpos]; rfl
          by_cases h48 : (s[0]'hpos).toNat = 48
          · refine .inr ⟨fun _ => h48, ?_⟩
            have h1 : s[0]'hpos = 48 := UInt8.toNat_inj.1 (by rw [h48]; rfl)
            rw [h1] at h0
            intro h2
            exact hb (.inr ⟨h0, by have := HTl.out; omega⟩)
          · exact .inl fun _ h2 => h48 (by omega)
        have Hb := Lib.hid hb
        clear hb he
        rcases hor with hx | ⟨hx, hyy⟩
        all_goals
          (go_enter Tryz.func146, Tryz.ntmps146; go_wp2_with (go_at_call 32; refine (Hix.out _).mono ?_; rintro e w' ⟨rfl, hww⟩; rw [hww]; clear hww))
          go_loop [2, 3, 6, 38] (fun a b x i => ∃ k : Nat, k ≤ s.size ∧ i = .int .i64 k ∧ a = .int .u32 0 ∧ b = .int .i64 0 ∧ x = .int .u64 (satV (T.take k) : Nat) ∧ Hid (∀ c ∈ T.take k, digitC c = true)) (fun _ _ _ i => s.size - (intOf i).toNat)
          case atStart => exact ⟨0, Nat.zero_le _, rfl, rfl, rfl, rfl, Lib.hid (by simp)⟩
          case round =>
            obtain ⟨k, hk, rfl, rfl, rfl, rfl, Hall⟩ := hrel
            obtain ⟨V, hV⟩ : ∃ V, V = satV (T.take k) := ⟨_, rfl⟩
            have hVle : V ≤ 2147483648 := by rw [hV]; exact satV_le _
            rw [← hV]
            have HV := Lib.hid hV
            clear hV hx
            by_cases hlt : k < s.size
            · obtain ⟨y, hy⟩ : ∃ y, y = s[k] := ⟨_, rfl⟩
              have hyk : ∀ h, s[k]'h = y := fun h => hy.symm
              have hTk : T.take (k + 1) = T.take k ++ [y] := by
                rw [List.take_succ_eq_append_getElem (by have := HTl.out; omega), hy]
                simp only [HT.out]; rfl
              have HTk := Lib.hid hTk
              have hyT : y ∈ T := List.mem_of_mem_take (i := k + 1) (by rw [hTk]; simp)
              have HyT := Lib.hid hyT
              have hy8 := y.toNat_lt
              clear hy hTk hyT
              by_cases hd : digitC y = true
              · have hd2 : 48 ≤ y.toNat ∧ y.toNat ≤ 57 := by simpa [digitC] using hd
                have hd48 := hd2.1
                have hd57 := hd2.2
                have Hd := Lib.hid hd
                have HV' : Hid (satV (T.take (k + 1)) = min (V * 10 + (y.toNat - 48)) 2147483648) := Lib.hid (by rw [HTk.out, satV_snoc, HV.out])
                clear hd hd2
                go_wp2
                exact ⟨⟨k + 1, by omega, rfl, rfl, rfl, by rw [HV'.out]; congr 1; omega, Lib.hid (by
                  rw [HTk.out]
                  intro c hc
                  simp only [List.mem_append, List.mem_singleton] at hc
                  rcases hc with hc | rfl
                  · exact Hall.out c hc
                  · exact Hd.out)⟩, by simp [intOf]; omega⟩
              · have hd2 : y.toNat < 48 ∨ 57 < y.toNat := by
                  simp [digitC] at hd; omega
                have HRv := Lib.hid (stepNum_letter y HyT.out (by simpa using hd))
                clear hd
                rcases hd2 with h | h
                all_goals
                  go_wp2
                  go_ret2
                  exact ⟨by rw [HRs.out, HRv.out]; rfl, rfl⟩
            · obtain rfl : k = s.size := by omega
              have hTt : T.take s.size = T := List.take_of_length_le (by have := HTl.out; omega)
              have hnum : stepNum T = if V < 2147483648 then (0, V) else (2, 0) := by
                rw [stepNum_num Hb.out (by have := Hall.out; rwa [hTt] at this), HV.out, hTt]
              have Hnum := Lib.hid hnum
              clear hnum hTt hlt
              by_cases hV31 : V < 2147483648
              · have HRv := Lib.hid (show stepNum T = (0, V) by rw [Hnum.out, if_pos hV31])
                have hvI : decide ((2147483648 : Int) ≤ (V : Int)) = false := decide_eq_false (by omega)
                have hor := or_soft V hV31
                clear hVle hV31 hk Hts Hb HV
                go_wp2
                go_ret2
                exact ⟨by rw [HRs.out, HRv.out]; rfl, rfl⟩
              · have HRv := Lib.hid (show stepNum T = (2, 0) by rw [Hnum.out, if_neg hV31])
                have hvI : decide ((2147483648 : Int) ≤ (V : Int)) = true := decide_eq_true (by omega)
                clear hVle hV31 hk Hts Hb HV
                go_wp2
                go_ret2
                exact ⟨by rw [HRs.out, HRv.out]; rfl, rfl⟩
end Go.Proofs.YtcjioogololnoaaGreatDoor
