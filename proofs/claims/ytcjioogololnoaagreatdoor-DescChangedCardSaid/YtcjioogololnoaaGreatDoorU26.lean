/- desc.readKey. | (*Desc).read. | The closure that desc.Parse defers: its two contracts. -/
import Derived.Test.YtcjioogololnoaaGreatDoorU25
import Derived.Great.BuildSlice
import Derived.Maps.AppendAt
import Derived.Test.YtcjioogololnoaaGreatDoorU22
import Derived.Recover
import Derived.Defers

/-! desc.readKey. -/
namespace Go.Proofs.YtcjioogololnoaaGreatDoor
open Go Go.RowKit Go.Shelf

section
variable {P : Program} {ops : Array Oper} {rest : List Oper} {o : Oper} {a : Act} {w : World} {Q : Exit → Act → World → Prop}
theorem wpList_buildC (hgd : o.guard = none) (t : TypeId) (parts : Array (Nat × Operand)) (ho : o.op = .build t parts) (cells : Array Value)
    (hf0 : P.built t (parts.toList.map fun (i, x) => (i, a.eval x)) = some cells) (h : wpList P ops Q rest (a.put o.dst (.agg cells)) w) : wpList P ops Q (o :: rest) a w := by
  have hf : P.built t (parts.map fun (i, x) => (i, a.eval x)).toList = some cells := by rw [Array.toList_map]; exact hf0
  exact wpList_build hgd t parts ho (by rw [hf]; rfl) (by rw [hf]; exact h)
end
/-- The zero key. -/
def dz : Array Value := (dkC (tree0 hkZero) nilS nilS).toArray
theorem dz_size : dz.size = 75 := by simp [dz, dkC_length (k := tree0 hkZero) hkZero_ok]
theorem dkC_one (k : DKey) (pv sv : Value) (h1 : pv.oneCell' = true) (h2 : sv.oneCell' = true) : (dkC k pv sv).toArray.all (·.oneCell') = true := by
  have hk := keyC_one k.top
  rw [List.all_toArray] at hk ⊢
  simp only [dkC, List.all_cons, List.all_append, h1, hk, h2, Bool.true_and, List.all_nil, Bool.and_true]
  rfl
theorem dbuilt_places (parts : List (Nat × Value)) : Tryz.prog.built 62 parts = Instr.fill (fun x => (#[(0, 1), (1, 71), (72, 1), (73, 1), (74, 1)] : Array (Nat × Nat))[x]?) dz parts := by kernel_rfl
theorem dbuilt_plain (b : List UInt8) (A : Option Addr) (n c : Nat) : Tryz.prog.built 62 [(0, .slice A n c)] = some (dkC ⟨b, hkZero, [], false, false⟩ (.slice A n c) nilS).toArray := by
  rw [dbuilt_places]
  have e0 : dz = ([] ++ ([nilS] ++ (keyC hkZero ++ [nilS, .bool false, .bool false]))).toArray := rfl
  rw [e0, fill_mid _ 0 _ _ [] [nilS] _ rfl rfl, Instr.fill]
  rfl
theorem dbuilt_top (top : HKey) (h : top.Ok) : Tryz.prog.built 62 [(1, .agg (keyC top).toArray)] = some (dkC (tree0 top) nilS nilS).toArray := by
  rw [dbuilt_places]
  have e0 : dz = ([nilS] ++ (keyC hkZero ++ [nilS, .bool false, .bool false])).toArray := rfl
  rw [e0, fill_mid _ 1 _ _ [nilS] (keyC hkZero) _ (by rw [keyC_length hkZero_ok]; rfl) (by simp [Value.cells, keyC_length h, keyC_length hkZero_ok]), Instr.fill]
  rfl
/-- A key's slices, in blocks from 'lo' on. -/
def KV (W : World) (lo : Nat) (k : DKey) (pv sv : Value) : Prop :=
  (∃ A c, pv = .slice A k.plain.length c ∧ Sl W W.heap.size A (B8 k.plain) ∧ (k.plain = [] → pv = nilS) ∧ (∀ a, A = some a → lo ≤ a.block)) ∧ (∃ A c, sv = .slice A k.steps.length c ∧ Sl W W.heap.size A (U32 k.steps) ∧ (∀ a, A = some a → lo ≤ a.block))
theorem KV.below {W W' : World} {lo : Nat} {k : DKey} {pv sv : Value} (h : KV W lo k pv sv) (hb : Below W.heap.size W W') : KV W' lo k pv sv := by
  obtain ⟨⟨A, c, h1, h2, h3, h6⟩, A', c', h4, h5, h7⟩ := h
  exact ⟨⟨A, c, h1, (h2.below hb).mono hb.size, h3, h6⟩, A', c', h4, (h5.below hb).mono hb.size, h7⟩
theorem KV.mono {W : World} {lo lo' : Nat} {k : DKey} {pv sv : Value} (h : KV W lo k pv sv) (hl : lo' ≤ lo) : KV W lo' k pv sv := by
  obtain ⟨⟨A, c, h1, h2, h3, h6⟩, A', c', h4, h5, h7⟩ := h
  exact ⟨⟨A, c, h1, h2, h3, fun a ha => Nat.le_trans hl (h6 a ha)⟩, A', c', h4, h5, fun a ha => Nat.le_trans hl (h7 a ha)⟩
/-- What leaves the blocks from 'lo' on that stood, leaves a key's slices. -/
theorem KV.kept {W W' : World} {lo : Nat} {k : DKey} {pv sv : Value} (h : KV W lo k pv sv) (hz : W.heap.size ≤ W'.heap.size) (hk : ∀ j, lo ≤ j → j < W.heap.size → W'.heap[j]? = W.heap[j]?) : KV W' lo k pv sv := by
  obtain ⟨⟨A, c, h1, h2, h3, h6⟩, A', c', h4, h5, h7⟩ := h
  have go : ∀ (A : Option Addr) (xs : List Value), Sl W W.heap.size A xs → (∀ a, A = some a → lo ≤ a.block) → Sl W' W'.heap.size A xs := fun A xs hs hl hn => by
    obtain ⟨b, o, rfl, hb, hc⟩ := hs hn
    exact ⟨b, o, rfl, by omega, fun j hj => by rw [World.cell?_of_block (a := ⟨b, o + j, none⟩) (hk b (hl _ rfl) hb)]; exact hc j hj⟩
  exact ⟨⟨A, c, h1, go A _ h2 h6, h3, h6⟩, A', c', h4, go A' _ h5 h7, h7⟩
theorem KV.one {W : World} {lo : Nat} {k : DKey} {pv sv : Value} (h : KV W lo k pv sv) : pv.oneCell' = true ∧ sv.oneCell' = true := by
  obtain ⟨⟨A, c, h1, _⟩, A', c', h4, _⟩ := h
  rw [h1, h4]; exact ⟨rfl, rfl⟩
theorem cut_len (s sep : List UInt8) : (Lib.cut s sep).1.length ≤ s.length ∧ (Lib.cut s sep).2.1.length ≤ s.length := by
  unfold Lib.cut
  split <;> simp
  omega
theorem sl_setRow {w : World} {A : Option Addr} {xs : List Value} {g : Nat} {cs : Array Value} (h : Sl w w.heap.size A xs) (hne : ∀ a, A = some a → a.block ≠ g) : Sl (w.setRow g cs) (w.setRow g cs).heap.size A xs := fun hn => by
  obtain ⟨b, o, rfl, hb, hc⟩ := h hn
  refine ⟨b, o, rfl, by simpa using hb, fun j hj => ?_⟩
  rw [World.cell?_of_block (a := ⟨b, o + j, none⟩) (setRow_other w g b cs (fun e => hne ⟨b, o, none⟩ rfl e))]
  exact hc j hj
def readU (S : List UInt8) : Option (List UInt8) → Option DKey
  | some b => if isPub b && decide (hexL b = S) then some ⟨b, hkZero, [], false, false⟩ else none
  | none => treeK S
theorem readK_66 (S : List UInt8) (h : S.length = 66) : readK S = readU S (unhex S) := by
  rw [readK, if_pos h]
  cases unhex S <;> rfl
/-- What 'readKey' ends with. -/
def RK (w : World) (S : List UInt8) (e : Ending) (W' : World) : Prop :=
  ((e = .panicked FAULT ∧ readK S = none) ∨ (∃ k pv sv, readK S = some k ∧ e = .returned (.agg (dkC k pv sv).toArray) ∧ KV W' w.heap.size k pv sv)) ∧ Below w.heap.size w W'

set_option maxRecDepth 100000 in
set_option maxHeartbeats 8000000 in
theorem readKey_any (s : ByteArray) (hsz : s.size ≤ 4096) (w : World) (hE : Env w) :
    Calls Tryz.prog 39 #[.string s] w (RK w s.data.toList) := by
  obtain ⟨S, hS⟩ : ∃ S, S = s.data.toList := ⟨_, rfl⟩
  have hSl : S.length = s.size := by rw [hS]; simp
  rw [← hS]
  have hcut := cut_any s 47 (by omega)
  rw [← hS] at hcut
  have hrow := heap_alloc_new w (.cells dz 62)
  obtain ⟨W0, hW0⟩ : ∃ W0, W0 = w.alloc (.cells dz 62) := ⟨_, rfl⟩
  rw [← hW0] at hrow
  have hb0 : Below w.heap.size w W0 := by rw [hW0]; exact (Below.refl _ w).alloc (Nat.le_refl _) _
  have hz0 : W0.heap.size = w.heap.size + 1 := by rw [hW0]; simp
  obtain ⟨B, hB⟩ : ∃ B, B = w.heap.size := ⟨_, rfl⟩
  have Hcut := Lib.hid hcut
  have HW0 := Lib.hid hW0
  have HS := Lib.hid hS
  have HSl := Lib.hid hSl
  have HE := Lib.hid hE
  have HB := Lib.hid hB
  have Hrow := Lib.hid hrow
  have Hz0 := Lib.hid hz0
  have Idz := Lib.hid (show (Tryz.prog.info? 62).map (·.size) = some dz.size by rw [dz_size]; kernel_rfl)
  clear hS hSl hcut hrow hW0 hz0 hB hE
  by_cases h66 : s.size = 66
  · have h66I : (s.size : Int) = 66 := by omega
    obtain ⟨U, hU⟩ : ∃ U, U = unhex S := ⟨_, rfl⟩
    have hfx := fun W => fromhex_full s W (by omega)
    rw [← HS.out, ← hU] at hfx
    have Hfx := Lib.hid hfx
    have hR : readK S = readU S U := by rw [readK_66 S (by rw [HSl.out]; exact h66), ← hU]
    have HR0 := Lib.hid hR
    have HU := Lib.hid hU
    have H66 := Lib.hid h66
    clear hR hU hfx h66
    go_enter Tryz.func39, Tryz.ntmps39
    go_wp2_with fail
    refine (show W0 = _ from HW0.out) ▸ ?_
    rw [← HB.out] at Hrow Hz0 ⊢
    refine (Hfx.out W0).mono ?_
    rintro e wh ⟨v, rfl, ho, hch⟩
    have hbwh : Below w.heap.size w wh := hb0.trans (hch.mono hb0.size)
    have RowW := Lib.hid ((hch.block B (by have := Hz0.out; omega)).trans Hrow.out)
    have hBl : B < wh.heap.size := (Array.getElem?_eq_some_iff.1 RowW.out).1
    cases U with
    | none =>
      have HR := Lib.hid (show readK S = treeK S from HR0.out)
      have hE3 : unE none = 3 := rfl
      rw [hE3]
      clear ho hch Hfx HR0 hE3
      go_wp2_with fail
      obtain ⟨C1, hC1⟩ : ∃ C1, C1 = (Lib.cut S [47]).1 := ⟨_, rfl⟩
      obtain ⟨C2, hC2⟩ : ∃ C2, C2 = (Lib.cut S [47]).2.1 := ⟨_, rfl⟩
      obtain ⟨mo, hmo⟩ : ∃ mo, mo = (Lib.cut S [47]).2.2 := ⟨_, rfl⟩
      have hCl := cut_len S [47]
      rw [← hC1, ← hC2] at hCl
      obtain ⟨E, hEe⟩ : ∃ E, E = (parseH C1).1 := ⟨_, rfl⟩
      obtain ⟨top, htop⟩ : ∃ top, top = (parseH C1).2 := ⟨_, rfl⟩
      have ht : top.Ok := by rw [htop]; exact parseH_ok C1
      have hRv : readK S = if E = 0 then (if mo = true then (tailOf top.priv (pieces 47 C2)).map fun t => ⟨[], top, t.1, t.2.1, t.2.2⟩ else some (tree0 top)) else none := by
        rw [HR.out, treeK, ← hC1, ← hC2, ← hmo, ← hEe, ← htop]; rfl
      have HRv := Lib.hid hRv
      have hP := hparse_any ⟨C1.toArray⟩ (by show C1.toArray.size ≤ 4096; have := HSl.out; simp; omega)
      simp only [] at hP
      rw [← hEe, ← htop] at hP
      have HP := Lib.hid hP
      have HC2s : Hid ((⟨C2.toArray⟩ : ByteArray).size ≤ 4096) := Lib.hid (by show C2.toArray.size ≤ 4096; have := HSl.out; simp; omega)
      have hcu := Hcut.out wh (HE.out.below hbwh)
      rw [← hC1, ← hC2, ← hmo] at hcu
      have Hcu := Lib.hid hcu
      obtain ⟨cs, hcs⟩ : ∃ cs, cs = (keyC top).toArray := ⟨_, rfl⟩
      have hcz : cs.size = 71 := by rw [hcs]; simp [keyC_length ht]
      have HcI := Lib.hid (show (Tryz.prog.info? 59).map (·.size) = some cs.size by rw [hcz]; kernel_rfl)
      have Hcz := Lib.hid (show kz.size = cs.size by rw [hcz]; rfl)
      have Hc1 := Lib.hid (show cs.all (·.oneCell') = true by rw [hcs]; exact keyC_one top)
      obtain ⟨ds, hds⟩ : ∃ ds, ds = (dkC (tree0 top) nilS nilS).toArray := ⟨_, rfl⟩
      have hdz : ds.size = 75 := by rw [hds]; simp [dkC_length (k := tree0 top) ht]
      have HdI := Lib.hid (show (Tryz.prog.info? 62).map (·.size) = some ds.size by rw [hdz]; kernel_rfl)
      have Hdz := Lib.hid (show dz.size = ds.size by rw [hdz]; exact dz_size)
      have Hd1 := Lib.hid (show ds.all (·.oneCell') = true by rw [hds]; exact dkC_one _ _ _ rfl rfl)
      have HBd := Lib.hid (show Tryz.prog.built 62 [(1, .agg cs)] = some ds by rw [hcs, hds]; exact dbuilt_top top ht)
      have Hds := Lib.hid hds
      have Hcs := Lib.hid hcs
      have Ht := Lib.hid ht
      rw [← hcs] at HP
      clear hC1 hC2 hmo hCl hEe htop ht hRv hP hcu hcs hcz hds hdz HR Hcut
      refine Hcu.out.mono ?_
      rintro e w1 ⟨rfl, hc1⟩
      have hbw1 := hbwh.trans (hc1.mono hbwh.size)
      have Row1 := Lib.hid ((hc1.block B hBl).trans RowW.out)
      have hBl1 : B < w1.heap.size := (Array.getElem?_eq_some_iff.1 Row1.out).1
      clear hc1 Hcu
      go_wp2_with fail
      refine (HP.out w1).mono ?_
      rintro e w2 ⟨rfl, hc2⟩
      have hbw2 := hbw1.trans (hc2.mono hbw1.size)
      have Row2 := Lib.hid ((hc2.block B hBl1).trans Row1.out)
      have hBl2 : B < w2.heap.size := (Array.getElem?_eq_some_iff.1 Row2.out).1
      obtain ⟨w3, hw3⟩ : ∃ w3, w3 = w2.alloc (.cells cs 59) := ⟨_, rfl⟩
      obtain ⟨g1, hg1⟩ : ∃ g1, g1 = w2.heap.size := ⟨_, rfl⟩
      have HW3 := Lib.hid hw3
      have HG1 := Lib.hid hg1
      have K3 : Hid (w3.heap[g1]? = some (.cells cs 59 (0, 0))) := Lib.hid (by rw [hw3, hg1]; exact heap_alloc_new w2 _)
      have hbw3 : Below w.heap.size w w3 := by rw [hw3]; exact hbw2.alloc hbw2.size _
      have Row3 : Hid (w3.heap[B]? = some (.cells dz 62 (0, 0))) := Lib.hid (by rw [hw3, Lib.alloc_old _ _ _ hBl2]; exact Row2.out)
      have hBl3 : B < w3.heap.size := (Array.getElem?_eq_some_iff.1 Row3.out).1
      clear hw3 hg1 hc2 HP Row1
      by_cases hE0 : E = 0
      · subst hE0
        obtain ⟨w4, hw4⟩ : ∃ w4, w4 = w3.alloc (.cells ds 62) := ⟨_, rfl⟩
        obtain ⟨g2, hg2⟩ : ∃ g2, g2 = w3.heap.size := ⟨_, rfl⟩
        have K4 : Hid (w4.heap[g2]? = some (.cells ds 62 (0, 0))) := Lib.hid (by rw [hw4, hg2]; exact heap_alloc_new w3 _)
        have hbw4 : Below w.heap.size w w4 := by rw [hw4]; exact hbw3.alloc hbw3.size _
        have Row4 : Hid (w4.heap[B]? = some (.cells dz 62 (0, 0))) := Lib.hid (by rw [hw4, Lib.alloc_old _ _ _ hBl3]; exact Row3.out)
        have hg2b : w.heap.size ≤ g2 := by rw [hg2]; exact hbw3.size
        have hBg2 : B ≠ g2 := by omega
        have HW4 := Lib.hid hw4
        have HG2 := Lib.hid hg2
        clear hw4 hg2
        cases mo
        · -- no steps
          go_wp2_with (first | (go_at_call 38; (with_reducible refine (must_yes _).mono ?_); rintro e w' ⟨rfl, rfl⟩) | ((with_reducible refine wpList_store_row ?s1 59 (.tmp 8) (.tmp 41) ?s2 w2.heap.size cs ?s3 ?s4 59 _ (heap_alloc_new w2 _) HcI.out ?s6 Hc1.out ?_); (case s1 => rfl); (case s2 => rfl); (case s3 => rfl); (case s4 => rfl); (case s6 => exact Hcz.out); rw [World.setRow_alloc_new]; (refine (show w3 = _ from HW3.out) ▸ ?_); rw [← HG1.out]) | ((with_reducible refine wpList_load_row ?l1 59 (.tmp 8) ?l2 g1 ?l3 59 cs (0, 0) _ K3.out Tryz.underlying59 ?l4 HcI.out ?_); (case l1 => rfl); (case l2 => rfl); (case l3 => rfl); (case l4 => rfl)) | ((with_reducible refine wpList_buildC ?b1 62 #[(1, .tmp 46)] ?b2 ds ?b3 ?_); (case b1 => rfl); (case b2 => rfl); (case b3 => exact HBd.out)) | ((with_reducible refine wpList_store_row ?s1 62 (.tmp 10) (.tmp 47) ?s2 w3.heap.size ds ?s3 ?s4 62 _ (heap_alloc_new w3 _) HdI.out ?s6 Hd1.out ?_); (case s1 => rfl); (case s2 => rfl); (case s3 => rfl); (case s4 => rfl); (case s6 => exact Hdz.out); rw [World.setRow_alloc_new]; (refine (show w4 = _ from HW4.out) ▸ ?_); rw [← HG2.out]) | ((with_reducible refine wpList_load_row ?l1 62 (.tmp 10) ?l2 g2 ?l3 62 ds (0, 0) _ K4.out Tryz.underlying62 ?l4 HdI.out ?_); (case l1 => rfl); (case l2 => rfl); (case l3 => rfl); (case l4 => rfl)) | ((with_reducible refine wpList_store_row ?s1 62 (.tmp 2) (.tmp 51) ?s2 B ds ?s3 ?s4 62 _ Row4.out HdI.out ?s6 Hd1.out ?_); (case s1 => rfl); (case s2 => rfl); (case s3 => rfl); (case s4 => rfl); (case s6 => exact Hdz.out)))
          have hk : readK S = some (tree0 top) := by rw [HRv.out]; simp
          refine bodyPost_ret (v := .agg ds) ?_ rfl ⟨.inr ⟨tree0 top, nilS, nilS, hk, by rw [Hds.out], ⟨none, 0, rfl, Sl.nil, fun _ => rfl, fun _ h => by cases h⟩, none, 0, rfl, Sl.nil, fun _ h => by cases h⟩, below_setRow' hbw4 (by rw [HB.out]; exact Nat.le_refl _) _⟩
          exact results_cell_row rfl _ _ B 62 ds (0, 0) _ rfl (setRow_heap _ _ _ _ _ _ Row4.out) Tryz.underlying62 rfl HdI.out
        · have hb34 : Below w3.heap.size w3 w4 := by rw [HW4.out]; exact (Below.refl _ w3).alloc (Nat.le_refl _) _
          have hK := kpath_any w3 (HE.out.below hbw3) g2 (by rw [HG2.out]; exact Nat.le_refl _) ⟨C2.toArray⟩ HC2s.out top Ht.out w4 hb34 (by rw [← Hds.out]; exact K4.out)
          simp only [] at hK
          have HKp := Lib.hid hK
          clear hK hb34
          go_wp2_with (first | (go_at_call 38; (with_reducible refine (must_yes _).mono ?_); rintro e w' ⟨rfl, rfl⟩) | ((with_reducible refine wpList_store_row ?s1 59 (.tmp 8) (.tmp 41) ?s2 w2.heap.size cs ?s3 ?s4 59 _ (heap_alloc_new w2 _) HcI.out ?s6 Hc1.out ?_); (case s1 => rfl); (case s2 => rfl); (case s3 => rfl); (case s4 => rfl); (case s6 => exact Hcz.out); rw [World.setRow_alloc_new]; (refine (show w3 = _ from HW3.out) ▸ ?_); rw [← HG1.out]) | ((with_reducible refine wpList_load_row ?l1 59 (.tmp 8) ?l2 g1 ?l3 59 cs (0, 0) _ K3.out Tryz.underlying59 ?l4 HcI.out ?_); (case l1 => rfl); (case l2 => rfl); (case l3 => rfl); (case l4 => rfl)) | ((with_reducible refine wpList_buildC ?b1 62 #[(1, .tmp 46)] ?b2 ds ?b3 ?_); (case b1 => rfl); (case b2 => rfl); (case b3 => exact HBd.out)) | ((with_reducible refine wpList_store_row ?s1 62 (.tmp 10) (.tmp 47) ?s2 w3.heap.size ds ?s3 ?s4 62 _ (heap_alloc_new w3 _) HdI.out ?s6 Hd1.out ?_); (case s1 => rfl); (case s2 => rfl); (case s3 => rfl); (case s4 => rfl); (case s6 => exact Hdz.out); rw [World.setRow_alloc_new]; (refine (show w4 = _ from HW4.out) ▸ ?_); rw [← HG2.out]))
          refine HKp.out.mono ?_
          rintro e w5 ⟨h5, hb5⟩
          have hbw5 := hbw3.trans (hb5.mono hbw3.size)
          have Row5 := Lib.hid ((hb5.block B hBl3).trans Row3.out)
          rcases h5 with ⟨rfl, hT5⟩ | ⟨rfl, ns, r, h, A5, c5, hT5, hK5, hS5, hA5⟩
          · have hk : readK S = none := by rw [HRv.out]; simp [hT5]
            have Hk := Lib.hid hk
            clear hk hT5 hb5
            exact ⟨rfl, .inl ⟨rfl, Hk.out⟩, hbw5⟩
          · have hk : readK S = some ⟨[], top, ns, r, h⟩ := by rw [HRv.out]; simp [hT5]
            have Hk := Lib.hid hk
            obtain ⟨fs, hfs⟩ : ∃ fs, fs = (dkC ⟨[], top, ns, r, h⟩ nilS (.slice A5 ns.length c5)).toArray := ⟨_, rfl⟩
            have hfz : fs.size = 75 := by rw [hfs]; simp [dkC_length (k := ⟨[], top, ns, r, h⟩) Ht.out]
            have HfI := Lib.hid (show (Tryz.prog.info? 62).map (·.size) = some fs.size by rw [hfz]; kernel_rfl)
            have Hfz := Lib.hid (show dz.size = fs.size by rw [hfz]; exact dz_size)
            have Hf1 := Lib.hid (show fs.all (·.oneCell') = true by rw [hfs]; exact dkC_one _ _ _ rfl rfl)
            rw [← hfs] at hK5
            have K5 := Lib.hid hK5
            have S5 := Lib.hid hS5
            have Hfs := Lib.hid hfs
            clear hk hT5 hb5 hfs hfz hK5 hS5
            go_wp2_with (first | ((with_reducible refine wpList_load_row ?l1 62 (.tmp 10) ?l2 g2 ?l3 62 fs (0, 0) _ K5.out Tryz.underlying62 ?l4 HfI.out ?_); (case l1 => rfl); (case l2 => rfl); (case l3 => rfl); (case l4 => rfl)) | ((with_reducible refine wpList_store_row ?s1 62 (.tmp 2) (.tmp 51) ?s2 B fs ?s3 ?s4 62 _ Row5.out HfI.out ?s6 Hf1.out ?_); (case s1 => rfl); (case s2 => rfl); (case s3 => rfl); (case s4 => rfl); (case s6 => exact Hfz.out)))
            refine bodyPost_ret (v := .agg fs) ?_ rfl ⟨.inr ⟨⟨[], top, ns, r, h⟩, nilS, .slice A5 ns.length c5, Hk.out, by rw [Hfs.out], ⟨none, 0, rfl, Sl.nil, fun _ => rfl, fun _ h => by cases h⟩, A5, c5, rfl, ?_, fun a ha => by have := hA5 a ha; have := hbw3.size; omega⟩, below_setRow' hbw5 (by rw [HB.out]; exact Nat.le_refl _) _⟩
            · exact results_cell_row rfl _ _ B 62 fs (0, 0) _ rfl (setRow_heap _ _ _ _ _ _ Row5.out) Tryz.underlying62 rfl HfI.out
            · exact sl_setRow S5.out (fun a ha => by have := hA5 a ha; omega)
      · have hk : readK S = none := by rw [HRv.out, if_neg hE0]
        have Hk := Lib.hid hk
        have hEI : ((E : Int) == 0) = false := by simpa using hE0
        clear hk hE0
        go_wp2_with (first | (go_at_call 38; (with_reducible refine (must_no _).mono ?_); rintro e w' ⟨rfl, rfl⟩) | ((with_reducible refine wpList_store_row ?s1 59 (.tmp 8) (.tmp 41) ?s2 w2.heap.size cs ?s3 ?s4 59 _ (heap_alloc_new w2 _) HcI.out ?s6 Hc1.out ?_); (case s1 => rfl); (case s2 => rfl); (case s3 => rfl); (case s4 => rfl); (case s6 => exact Hcz.out); rw [World.setRow_alloc_new]; (refine (show w3 = _ from HW3.out) ▸ ?_); rw [← HG1.out]))
        exact ⟨rfl, .inl ⟨rfl, Hk.out⟩, hbw3⟩
    | some b =>
      have hE0 : unE (some b) = 0 := rfl
      rw [hE0]
      have hbl : b.length = 33 := by
        have h1 := unhex_len S b HU.out.symm
        have h2 := HSl.out
        have h3 := H66.out
        omega
      rw [show (some b).getD [] = b from rfl] at ho
      obtain ⟨Ab, cb, rfl, hcb, hcb'⟩ := own_form ho
      have hHR := HR0.out
      have HsB := Lib.hid ho.sl
      have HAb : Hid (∀ a, Ab = some a → W0.heap.size ≤ a.block) := Lib.hid (fun a ha => by
        obtain ⟨A7, c7, e7, h7, _, h8⟩ := ho
        injection e7 with e7 _ e9
        subst e7 e9
        obtain ⟨g9, _, e8, hb9, _⟩ := h8 (by rw [B8_length] at h7; omega)
        rw [e8] at ha
        injection ha with ha
        subst ha
        exact hb9)
      have HPu : Hid (∀ X, Below wh.heap.size wh X → Calls Tryz.prog 67 #[.slice Ab 33 cb] X fun e W' => e = .returned (.bool (isPub b)) ∧ Below X.heap.size X W') := Lib.hid fun X hX => by
        have h := isPublic_any Ab cb b hcb X ((HsB.out.below hX).mono hX.size)
        rw [hbl] at h
        exact h
      have HHx : Hid (∀ X, Below wh.heap.size wh X → Calls Tryz.prog 47 #[.slice Ab 33 cb] X fun e W' => e = .returned (.string ⟨(hexL b).toArray⟩) ∧ Below X.heap.size X W') := Lib.hid fun X hX => by
        have h := hex_any Ab cb b X ((HsB.out.below hX).mono hX.size) (by omega)
        rw [hbl] at h
        exact h
      have HHR : Hid (readK S = if isPub b && decide (hexL b = S) then some ⟨b, hkZero, [], false, false⟩ else none) := Lib.hid hHR
      obtain ⟨P, hP⟩ : ∃ P, P = isPub b := ⟨_, rfl⟩
      rw [← hP] at HPu HHR
      have Hbl := Lib.hid hbl
      rw [hbl]
      clear ho hch Hfx HR0 hE0 hHR hP hcb hcb' hbl
      go_wp2_with fail
      refine (HPu.out wh (Below.refl _ _)).mono ?_
      rintro e w2 ⟨rfl, hc2⟩
      have hbw2 := hbwh.trans (hc2.mono hbwh.size)
      have Row2 := Lib.hid ((hc2.block B hBl).trans RowW.out)
      have hBl2 : B < w2.heap.size := (Array.getElem?_eq_some_iff.1 Row2.out).1
      have hb2 : Below wh.heap.size wh w2 := hc2
      cases P with
      | false =>
        have Hk := Lib.hid (show readK S = none by rw [HHR.out]; rfl)
        clear HHR hc2 HHx HPu
        go_wp2_with (go_at_call 38; (with_reducible refine (must_no _).mono ?_); rintro e w' ⟨rfl, rfl⟩)
        exact ⟨rfl, .inl ⟨rfl, Hk.out⟩, hbw2⟩
      | true =>
        go_wp2_with fail
        refine (HHx.out w2 hb2).mono ?_
        rintro e w3 ⟨rfl, hc3⟩
        have hbw3 := hbw2.trans (hc3.mono hbw2.size)
        have Row3 := Lib.hid ((hc3.block B hBl2).trans Row2.out)
        have HsB3 := Lib.hid (((HsB.out.below hb2).mono hb2.size).below hc3 |>.mono hc3.size)
        clear hc2 hc3 HHx HPu hb2
        by_cases hx : hexL b = S
        · have hxs : (⟨(hexL b).toArray⟩ : ByteArray) = s := by rw [hx, HS.out]
          rw [hxs]
          have Hk := Lib.hid (show readK S = some ⟨b, hkZero, [], false, false⟩ by rw [HHR.out, decide_eq_true hx]; rfl)
          obtain ⟨fs, hfs⟩ : ∃ fs, fs = (dkC ⟨b, hkZero, [], false, false⟩ (.slice Ab 33 cb) nilS).toArray := ⟨_, rfl⟩
          have hfz : fs.size = 75 := by rw [hfs]; simp [dkC_length (k := ⟨b, hkZero, [], false, false⟩) hkZero_ok]
          have HfI := Lib.hid (show (Tryz.prog.info? 62).map (·.size) = some fs.size by rw [hfz]; kernel_rfl)
          have Hfz := Lib.hid (show dz.size = fs.size by rw [hfz]; exact dz_size)
          have Hf1 := Lib.hid (show fs.all (·.oneCell') = true by rw [hfs]; exact dkC_one _ _ _ rfl rfl)
          have HBd := Lib.hid (show Tryz.prog.built 62 [(0, .slice Ab 33 cb)] = some fs by rw [hfs]; exact dbuilt_plain b Ab 33 cb)
          have Hfs := Lib.hid hfs
          clear hx hxs hfs hfz HHR
          go_wp2_with (first | (go_at_call 38; (with_reducible refine (must_yes _).mono ?_); rintro e w' ⟨rfl, rfl⟩) | ((with_reducible refine wpList_buildC ?b1 62 #[(0, .tmp 30)] ?b2 fs ?b3 ?_); (case b1 => rfl); (case b2 => rfl); (case b3 => exact HBd.out)) | ((with_reducible refine wpList_store_row ?s1 62 (.tmp 2) (.tmp 31) ?s2 B fs ?s3 ?s4 62 _ Row3.out HfI.out ?s6 Hf1.out ?_); (case s1 => rfl); (case s2 => rfl); (case s3 => rfl); (case s4 => rfl); (case s6 => exact Hfz.out)))
          refine bodyPost_ret (v := .agg fs) ?_ rfl ⟨.inr ⟨⟨b, hkZero, [], false, false⟩, .slice Ab 33 cb, nilS, Hk.out, by rw [Hfs.out], ⟨Ab, cb, by show Value.slice Ab 33 cb = .slice Ab b.length cb; rw [Hbl.out], ?_, fun h0 => by have h1 : b = [] := h0; have := Hbl.out; rw [h1] at this; simp at this, fun a ha => by have := HAb.out a ha; have := hb0.size; omega⟩, none, 0, rfl, Sl.nil, fun _ h => by cases h⟩, below_setRow' hbw3 (by rw [HB.out]; exact Nat.le_refl _) _⟩
          · exact results_cell_row rfl _ _ B 62 fs (0, 0) _ rfl (setRow_heap _ _ _ _ _ _ Row3.out) Tryz.underlying62 rfl HfI.out
          · exact sl_setRow HsB3.out (fun a ha => by have := HAb.out a ha; have := Hz0.out; omega)
        · have hxs : ¬ (⟨(hexL b).toArray⟩ : ByteArray) = s := fun e => hx (by
            have h1 := congrArg (fun x : ByteArray => x.data.toList) e
            simp only [] at h1
            rw [HS.out, ← h1])
          obtain ⟨X, hX⟩ : ∃ X, X = (⟨(hexL b).toArray⟩ : ByteArray) := ⟨_, rfl⟩
          rw [← hX] at hxs ⊢
          have hxb : (X.toList == s.toList) = false := beq_eq_false_iff_ne.2 (fun e => hxs (by rw [ByteArray.toList_eq, ByteArray.toList_eq] at e; rw [← mk_list X, ← mk_list s, e]))
          have Hk := Lib.hid (show readK S = none by rw [HHR.out, decide_eq_false hx]; rfl)
          clear hx hX HHR hxs
          go_wp2_with (go_at_call 38; (with_reducible refine (must_no _).mono ?_); rintro e w' ⟨rfl, rfl⟩)
          exact ⟨rfl, .inl ⟨rfl, Hk.out⟩, hbw3⟩
  · have h66I : ¬ (s.size : Int) = 66 := by omega
    have hR : readK S = treeK S := by rw [readK, if_neg (by rw [HSl.out]; exact h66)]
    have HR := Lib.hid hR
    clear hR h66
    go_enter Tryz.func39, Tryz.ntmps39
    go_wp2_with fail
    refine (show W0 = _ from HW0.out) ▸ ?_
    rw [← HB.out] at Hrow Hz0 ⊢
    obtain ⟨C1, hC1⟩ : ∃ C1, C1 = (Lib.cut S [47]).1 := ⟨_, rfl⟩
    obtain ⟨C2, hC2⟩ : ∃ C2, C2 = (Lib.cut S [47]).2.1 := ⟨_, rfl⟩
    obtain ⟨mo, hmo⟩ : ∃ mo, mo = (Lib.cut S [47]).2.2 := ⟨_, rfl⟩
    have hCl := cut_len S [47]
    rw [← hC1, ← hC2] at hCl
    obtain ⟨E, hEe⟩ : ∃ E, E = (parseH C1).1 := ⟨_, rfl⟩
    obtain ⟨top, htop⟩ : ∃ top, top = (parseH C1).2 := ⟨_, rfl⟩
    have ht : top.Ok := by rw [htop]; exact parseH_ok C1
    have hRv : readK S = if E = 0 then (if mo = true then (tailOf top.priv (pieces 47 C2)).map fun t => ⟨[], top, t.1, t.2.1, t.2.2⟩ else some (tree0 top)) else none := by
      rw [HR.out, treeK, ← hC1, ← hC2, ← hmo, ← hEe, ← htop]; rfl
    have HRv := Lib.hid hRv
    have hP := hparse_any ⟨C1.toArray⟩ (by show C1.toArray.size ≤ 4096; have := HSl.out; simp; omega)
    simp only [] at hP
    rw [← hEe, ← htop] at hP
    have HP := Lib.hid hP
    have HC2s : Hid ((⟨C2.toArray⟩ : ByteArray).size ≤ 4096) := Lib.hid (by show C2.toArray.size ≤ 4096; have := HSl.out; simp; omega)
    have hcu := Hcut.out W0 (HE.out.below hb0)
    rw [← hC1, ← hC2, ← hmo] at hcu
    have Hcu := Lib.hid hcu
    obtain ⟨cs, hcs⟩ : ∃ cs, cs = (keyC top).toArray := ⟨_, rfl⟩
    have hcz : cs.size = 71 := by rw [hcs]; simp [keyC_length ht]
    have HcI := Lib.hid (show (Tryz.prog.info? 59).map (·.size) = some cs.size by rw [hcz]; kernel_rfl)
    have Hcz := Lib.hid (show kz.size = cs.size by rw [hcz]; rfl)
    have Hc1 := Lib.hid (show cs.all (·.oneCell') = true by rw [hcs]; exact keyC_one top)
    obtain ⟨ds, hds⟩ : ∃ ds, ds = (dkC (tree0 top) nilS nilS).toArray := ⟨_, rfl⟩
    have hdz : ds.size = 75 := by rw [hds]; simp [dkC_length (k := tree0 top) ht]
    have HdI := Lib.hid (show (Tryz.prog.info? 62).map (·.size) = some ds.size by rw [hdz]; kernel_rfl)
    have Hdz := Lib.hid (show dz.size = ds.size by rw [hdz]; exact dz_size)
    have Hd1 := Lib.hid (show ds.all (·.oneCell') = true by rw [hds]; exact dkC_one _ _ _ rfl rfl)
    have HBd := Lib.hid (show Tryz.prog.built 62 [(1, .agg cs)] = some ds by rw [hcs, hds]; exact dbuilt_top top ht)
    have Hds := Lib.hid hds
    have Hcs := Lib.hid hcs
    have Ht := Lib.hid ht
    rw [← hcs] at HP
    clear hC1 hC2 hmo hCl hEe htop ht hRv hP hcu hcs hcz hds hdz HR Hcut
    refine Hcu.out.mono ?_
    rintro e w1 ⟨rfl, hc1⟩
    have hbw1 := hb0.trans (hc1.mono hb0.size)
    have Row1 := Lib.hid ((hc1.block B (by have := Hz0.out; omega)).trans Hrow.out)
    have hBl1 : B < w1.heap.size := (Array.getElem?_eq_some_iff.1 Row1.out).1
    clear hc1 Hcu
    go_wp2_with fail
    refine (HP.out w1).mono ?_
    rintro e w2 ⟨rfl, hc2⟩
    have hbw2 := hbw1.trans (hc2.mono hbw1.size)
    have Row2 := Lib.hid ((hc2.block B hBl1).trans Row1.out)
    have hBl2 : B < w2.heap.size := (Array.getElem?_eq_some_iff.1 Row2.out).1
    obtain ⟨w3, hw3⟩ : ∃ w3, w3 = w2.alloc (.cells cs 59) := ⟨_, rfl⟩
    obtain ⟨g1, hg1⟩ : ∃ g1, g1 = w2.heap.size := ⟨_, rfl⟩
    have HW3 := Lib.hid hw3
    have HG1 := Lib.hid hg1
    have K3 : Hid (w3.heap[g1]? = some (.cells cs 59 (0, 0))) := Lib.hid (by rw [hw3, hg1]; exact heap_alloc_new w2 _)
    have hbw3 : Below w.heap.size w w3 := by rw [hw3]; exact hbw2.alloc hbw2.size _
    have Row3 : Hid (w3.heap[B]? = some (.cells dz 62 (0, 0))) := Lib.hid (by rw [hw3, Lib.alloc_old _ _ _ hBl2]; exact Row2.out)
    have hBl3 : B < w3.heap.size := (Array.getElem?_eq_some_iff.1 Row3.out).1
    clear hw3 hg1 hc2 HP Row1
    by_cases hE0 : E = 0
    · subst hE0
      obtain ⟨w4, hw4⟩ : ∃ w4, w4 = w3.alloc (.cells ds 62) := ⟨_, rfl⟩
      obtain ⟨g2, hg2⟩ : ∃ g2, g2 = w3.heap.size := ⟨_, rfl⟩
      have K4 : Hid (w4.heap[g2]? = some (.cells ds 62 (0, 0))) := Lib.hid (by rw [hw4, hg2]; exact heap_alloc_new w3 _)
      have hbw4 : Below w.heap.size w w4 := by rw [hw4]; exact hbw3.alloc hbw3.size _
      have Row4 : Hid (w4.heap[B]? = some (.cells dz 62 (0, 0))) := Lib.hid (by rw [hw4, Lib.alloc_old _ _ _ hBl3]; exact Row3.out)
      have hg2b : w.heap.size ≤ g2 := by rw [hg2]; exact hbw3.size
      have hBg2 : B ≠ g2 := by omega
      have HW4 := Lib.hid hw4
      have HG2 := Lib.hid hg2
      clear hw4 hg2
      cases mo
      · -- no steps
        go_wp2_with (first | (go_at_call 38; (with_reducible refine (must_yes _).mono ?_); rintro e w' ⟨rfl, rfl⟩) | ((with_reducible refine wpList_store_row ?s1 59 (.tmp 8) (.tmp 41) ?s2 w2.heap.size cs ?s3 ?s4 59 _ (heap_alloc_new w2 _) HcI.out ?s6 Hc1.out ?_); (case s1 => rfl); (case s2 => rfl); (case s3 => rfl); (case s4 => rfl); (case s6 => exact Hcz.out); rw [World.setRow_alloc_new]; (refine (show w3 = _ from HW3.out) ▸ ?_); rw [← HG1.out]) | ((with_reducible refine wpList_load_row ?l1 59 (.tmp 8) ?l2 g1 ?l3 59 cs (0, 0) _ K3.out Tryz.underlying59 ?l4 HcI.out ?_); (case l1 => rfl); (case l2 => rfl); (case l3 => rfl); (case l4 => rfl)) | ((with_reducible refine wpList_buildC ?b1 62 #[(1, .tmp 46)] ?b2 ds ?b3 ?_); (case b1 => rfl); (case b2 => rfl); (case b3 => exact HBd.out)) | ((with_reducible refine wpList_store_row ?s1 62 (.tmp 10) (.tmp 47) ?s2 w3.heap.size ds ?s3 ?s4 62 _ (heap_alloc_new w3 _) HdI.out ?s6 Hd1.out ?_); (case s1 => rfl); (case s2 => rfl); (case s3 => rfl); (case s4 => rfl); (case s6 => exact Hdz.out); rw [World.setRow_alloc_new]; (refine (show w4 = _ from HW4.out) ▸ ?_); rw [← HG2.out]) | ((with_reducible refine wpList_load_row ?l1 62 (.tmp 10) ?l2 g2 ?l3 62 ds (0, 0) _ K4.out Tryz.underlying62 ?l4 HdI.out ?_); (case l1 => rfl); (case l2 => rfl); (case l3 => rfl); (case l4 => rfl)) | ((with_reducible refine wpList_store_row ?s1 62 (.tmp 2) (.tmp 51) ?s2 B ds ?s3 ?s4 62 _ Row4.out HdI.out ?s6 Hd1.out ?_); (case s1 => rfl); (case s2 => rfl); (case s3 => rfl); (case s4 => rfl); (case s6 => exact Hdz.out)))
        have hk : readK S = some (tree0 top) := by rw [HRv.out]; simp
        refine bodyPost_ret (v := .agg ds) ?_ rfl ⟨.inr ⟨tree0 top, nilS, nilS, hk, by rw [Hds.out], ⟨none, 0, rfl, Sl.nil, fun _ => rfl, fun _ h => by cases h⟩, none, 0, rfl, Sl.nil, fun _ h => by cases h⟩, below_setRow' hbw4 (by rw [HB.out]; exact Nat.le_refl _) _⟩
        exact results_cell_row rfl _ _ B 62 ds (0, 0) _ rfl (setRow_heap _ _ _ _ _ _ Row4.out) Tryz.underlying62 rfl HdI.out
      · have hb34 : Below w3.heap.size w3 w4 := by rw [HW4.out]; exact (Below.refl _ w3).alloc (Nat.le_refl _) _
        have hK := kpath_any w3 (HE.out.below hbw3) g2 (by rw [HG2.out]; exact Nat.le_refl _) ⟨C2.toArray⟩ HC2s.out top Ht.out w4 hb34 (by rw [← Hds.out]; exact K4.out)
        simp only [] at hK
        have HKp := Lib.hid hK
        clear hK hb34
        go_wp2_with (first | (go_at_call 38; (with_reducible refine (must_yes _).mono ?_); rintro e w' ⟨rfl, rfl⟩) | ((with_reducible refine wpList_store_row ?s1 59 (.tmp 8) (.tmp 41) ?s2 w2.heap.size cs ?s3 ?s4 59 _ (heap_alloc_new w2 _) HcI.out ?s6 Hc1.out ?_); (case s1 => rfl); (case s2 => rfl); (case s3 => rfl); (case s4 => rfl); (case s6 => exact Hcz.out); rw [World.setRow_alloc_new]; (refine (show w3 = _ from HW3.out) ▸ ?_); rw [← HG1.out]) | ((with_reducible refine wpList_load_row ?l1 59 (.tmp 8) ?l2 g1 ?l3 59 cs (0, 0) _ K3.out Tryz.underlying59 ?l4 HcI.out ?_); (case l1 => rfl); (case l2 => rfl); (case l3 => rfl); (case l4 => rfl)) | ((with_reducible refine wpList_buildC ?b1 62 #[(1, .tmp 46)] ?b2 ds ?b3 ?_); (case b1 => rfl); (case b2 => rfl); (case b3 => exact HBd.out)) | ((with_reducible refine wpList_store_row ?s1 62 (.tmp 10) (.tmp 47) ?s2 w3.heap.size ds ?s3 ?s4 62 _ (heap_alloc_new w3 _) HdI.out ?s6 Hd1.out ?_); (case s1 => rfl); (case s2 => rfl); (case s3 => rfl); (case s4 => rfl); (case s6 => exact Hdz.out); rw [World.setRow_alloc_new]; (refine (show w4 = _ from HW4.out) ▸ ?_); rw [← HG2.out]))
        refine HKp.out.mono ?_
        rintro e w5 ⟨h5, hb5⟩
        have hbw5 := hbw3.trans (hb5.mono hbw3.size)
        have Row5 := Lib.hid ((hb5.block B hBl3).trans Row3.out)
        rcases h5 with ⟨rfl, hT5⟩ | ⟨rfl, ns, r, h, A5, c5, hT5, hK5, hS5, hA5⟩
        · have hk : readK S = none := by rw [HRv.out]; simp [hT5]
          have Hk := Lib.hid hk
          clear hk hT5 hb5
          exact ⟨rfl, .inl ⟨rfl, Hk.out⟩, hbw5⟩
        · have hk : readK S = some ⟨[], top, ns, r, h⟩ := by rw [HRv.out]; simp [hT5]
          have Hk := Lib.hid hk
          obtain ⟨fs, hfs⟩ : ∃ fs, fs = (dkC ⟨[], top, ns, r, h⟩ nilS (.slice A5 ns.length c5)).toArray := ⟨_, rfl⟩
          have hfz : fs.size = 75 := by rw [hfs]; simp [dkC_length (k := ⟨[], top, ns, r, h⟩) Ht.out]
          have HfI := Lib.hid (show (Tryz.prog.info? 62).map (·.size) = some fs.size by rw [hfz]; kernel_rfl)
          have Hfz := Lib.hid (show dz.size = fs.size by rw [hfz]; exact dz_size)
          have Hf1 := Lib.hid (show fs.all (·.oneCell') = true by rw [hfs]; exact dkC_one _ _ _ rfl rfl)
          rw [← hfs] at hK5
          have K5 := Lib.hid hK5
          have S5 := Lib.hid hS5
          have Hfs := Lib.hid hfs
          clear hk hT5 hb5 hfs hfz hK5 hS5
          go_wp2_with (first | ((with_reducible refine wpList_load_row ?l1 62 (.tmp 10) ?l2 g2 ?l3 62 fs (0, 0) _ K5.out Tryz.underlying62 ?l4 HfI.out ?_); (case l1 => rfl); (case l2 => rfl); (case l3 => rfl); (case l4 => rfl)) | ((with_reducible refine wpList_store_row ?s1 62 (.tmp 2) (.tmp 51) ?s2 B fs ?s3 ?s4 62 _ Row5.out HfI.out ?s6 Hf1.out ?_); (case s1 => rfl); (case s2 => rfl); (case s3 => rfl); (case s4 => rfl); (case s6 => exact Hfz.out)))
          refine bodyPost_ret (v := .agg fs) ?_ rfl ⟨.inr ⟨⟨[], top, ns, r, h⟩, nilS, .slice A5 ns.length c5, Hk.out, by rw [Hfs.out], ⟨none, 0, rfl, Sl.nil, fun _ => rfl, fun _ h => by cases h⟩, A5, c5, rfl, ?_, fun a ha => by have := hA5 a ha; have := hbw3.size; omega⟩, below_setRow' hbw5 (by rw [HB.out]; exact Nat.le_refl _) _⟩
          · exact results_cell_row rfl _ _ B 62 fs (0, 0) _ rfl (setRow_heap _ _ _ _ _ _ Row5.out) Tryz.underlying62 rfl HfI.out
          · exact sl_setRow S5.out (fun a ha => by have := hA5 a ha; omega)
    · have hk : readK S = none := by rw [HRv.out, if_neg hE0]
      have Hk := Lib.hid hk
      have hEI : ((E : Int) == 0) = false := by simpa using hE0
      clear hk hE0
      go_wp2_with (first | (go_at_call 38; (with_reducible refine (must_no _).mono ?_); rintro e w' ⟨rfl, rfl⟩) | ((with_reducible refine wpList_store_row ?s1 59 (.tmp 8) (.tmp 41) ?s2 w2.heap.size cs ?s3 ?s4 59 _ (heap_alloc_new w2 _) HcI.out ?s6 Hc1.out ?_); (case s1 => rfl); (case s2 => rfl); (case s3 => rfl); (case s4 => rfl); (case s6 => exact Hcz.out); rw [World.setRow_alloc_new]; (refine (show w3 = _ from HW3.out) ▸ ?_); rw [← HG1.out]))
      exact ⟨rfl, .inl ⟨rfl, Hk.out⟩, hbw3⟩
end Go.Proofs.YtcjioogololnoaaGreatDoor

/-! (*Desc).read. -/
namespace Go.Proofs.YtcjioogololnoaaGreatDoor
open Go Go.RowKit Go.Shelf

/-- One word taken off. -/
def takeW (word : List UInt8) (p : List (List UInt8) × List UInt8) : List (List UInt8) × List UInt8 :=
  match unwrapL p.2 word with
  | some t => (p.1 ++ [word], t)
  | none => p
theorem unwrapL_len {S word t : List UInt8} (h : unwrapL S word = some t) : t.length ≤ S.length := by
  unfold unwrapL at h
  split at h
  · split at h
    · injection h with h
      rw [← h, List.length_take, List.length_drop]; omega
    · cases h
  · cases h
theorem takeW_len (word : List UInt8) (p : List (List UInt8) × List UInt8) : (takeW word p).2.length ≤ p.2.length := by
  unfold takeW
  split
  · next t h => exact unwrapL_len h
  · exact Nat.le_refl _
def hullW (S : List UInt8) : Nat → List (List UInt8) × List UInt8
  | 0 => ([], S)
  | 1 => takeW wSh ([], S)
  | _ + 2 => takeW wWsh (takeW wSh ([], S))
theorem hullW_len (S : List UInt8) : ∀ k, (hullW S k).2.length ≤ S.length
  | 0 => Nat.le_refl _
  | 1 => takeW_len _ _
  | _ + 2 => Nat.le_trans (takeW_len _ _) (takeW_len _ _)
def word1 : Nat → List UInt8
  | 0 => wSh
  | _ + 1 => wWsh
def word2 : Nat → List UInt8
  | 0 => wPkh
  | _ + 1 => wWpkh
theorem hullW_succ (S : List UInt8) (k : Nat) (hk : k < 2) : hullW S (k + 1) = takeW (word1 k) (hullW S k) := by
  match k, hk with
  | 0, _ => rfl
  | 1, _ => rfl
theorem hullW_ws (S : List UInt8) : ∀ k, (hullW S k).1.length ≤ 2
  | 0 => by simp [hullW]
  | 1 => by simp only [hullW, takeW]; split <;> simp
  | _ + 2 => by simp only [hullW, takeW]; split <;> (split <;> simp)
theorem readD_hull (S : List UInt8) : readD S = innerD (hullW S 2).1 ((hullW S 2).1.contains wWsh) (hullW S 2).2 := by
  unfold readD
  simp only [hullW, takeW]
  cases h1 : unwrapL S wSh with
  | none =>
    simp only []
    cases h2 : unwrapL S wWsh with
    | none => rfl
    | some u => rfl
  | some t =>
    simp only []
    cases h2 : unwrapL t wWsh with
    | none => rfl
    | some u => rfl

theorem ST_snoc (l : List (List UInt8)) (x : List UInt8) : ST l ++ [.string ⟨x.toArray⟩] = ST (l ++ [x]) := by rw [ST_append]; rfl
def DC (v : Value) (m : Int) (s : Bool) (kv : Value) : Array Value := #[v, .int .i64 m, .bool s, kv]
section
variable {w : World} {g : Nat} {v kv : Value} {m : Int} {s : Bool}
theorem DC_0 (h : w.heap[g]? = some (.cells (DC v m s kv) 48 (0, 0))) : w.cell? ⟨g, 0, none⟩ = some v := by rw [cell_of_row _ _ _ _ _ _ h]; rfl
theorem DC_3 (h : w.heap[g]? = some (.cells (DC v m s kv) 48 (0, 0))) : w.cell? ⟨g, 3, none⟩ = some kv := by rw [cell_of_row _ _ _ _ _ _ h]; rfl
theorem DC_set0 (h : w.heap[g]? = some (.cells (DC v m s kv) 48 (0, 0))) (u : Value) : (w.setCell ⟨g, 0, none⟩ u).heap[g]? = some (.cells (DC u m s kv) 48 (0, 0)) := heap_setCell_same w g 0 _ _ u h
theorem DC_set1 (h : w.heap[g]? = some (.cells (DC v m s kv) 48 (0, 0))) (u : Int) : (w.setCell ⟨g, 1, none⟩ (.int .i64 u)).heap[g]? = some (.cells (DC v u s kv) 48 (0, 0)) := heap_setCell_same w g 1 _ _ _ h
theorem DC_set2 (h : w.heap[g]? = some (.cells (DC v m s kv) 48 (0, 0))) (u : Bool) : (w.setCell ⟨g, 2, none⟩ (.bool u)).heap[g]? = some (.cells (DC v m u kv) 48 (0, 0)) := heap_setCell_same w g 2 _ _ _ h
theorem DC_set3 (h : w.heap[g]? = some (.cells (DC v m s kv) 48 (0, 0))) (u : Value) : (w.setCell ⟨g, 3, none⟩ u).heap[g]? = some (.cells (DC v m s u) 48 (0, 0)) := heap_setCell_same w g 3 _ _ u h
end
/-- A slice that does not lie in row r. -/
def Off (r : Option Nat) (v : Value) : Prop := ∀ A n c, v = .slice A n c → 0 < n → ∀ a, A = some a → some a.block ≠ r
/-- Keys in a row of the walk's own. -/
def KS (W : World) (base lo : Nat) (kv : Value) (ks : List DKey) : Prop :=
  ∃ prs : List (DKey × Value × Value), prs.map (·.1) = ks ∧ (∀ p ∈ prs, p.1.top.Ok ∧ KV W lo p.1 p.2.1 p.2.2 ∧ Off kv.ownBlock p.2.1 ∧ Off kv.ownBlock p.2.2) ∧ W.ownsRow base 62 75 kv prs.length (prs.flatMap fun p => dkC p.1 p.2.1 p.2.2)
/-- A descriptor in memory. -/
def DA (W : World) (base g : Nat) (d : DDesc) : Prop :=
  ∃ v kv, W.heap[g]? = some (.cells (DC v d.m d.sorted kv) 48 (0, 0)) ∧ Ow W base 9 v (ST d.wraps) ∧ KS W base (g + 1) kv d.keys
/-- What 'read' ends with. -/
def RD (w0 : World) (g : Nat) (S : List UInt8) (e : Ending) (W' : World) : Prop :=
  ((e = .panicked FAULT ∧ readD S = none) ∨ (∃ d, readD S = some d ∧ e = .returned (.tuple #[]) ∧ DA W' w0.heap.size g d)) ∧ Below w0.heap.size w0 W'

theorem elT : El Tryz.prog 45 9 (.string ⟨#[]⟩) 16 := ⟨Tryz.underlying45, by kernel_rfl, rfl⟩
theorem push_hull {w0 wr w3 : World} {g G n c : Nat} {A : Option Addr} {xs : List Value} {o : Obj} (hbk : Below w0.heap.size w0 wr) (hg : w0.heap.size ≤ g) (hgG : g < G) (hG : G < wr.heap.size)
    (ho : Ow wr (G + 1) 9 (.slice A n c) xs) (hg3 : (wr.alloc o).grownBy w3 (rowOf (.slice A n c))) :
    w3.heap[g]? = wr.heap[g]? ∧ w3.heap[G]? = wr.heap[G]? ∧ Below w0.heap.size w0 w3 := by
  have hk : ∀ j, j ≤ G → w3.heap[j]? = wr.heap[j]? := fun j hj => by
    rw [hg3.block j (by rw [World.size_alloc]; omega) (fun e => by have := (ho.row j e.symm).1; omega), Lib.alloc_old _ _ _ (by omega)]
  exact ⟨hk g (by omega), hk G (Nat.le_refl _), push_below hbk (Nat.le_refl _) (ho.mono (by omega)) hg3⟩

theorem contains_any (A : Option Addr) (c : Nat) (ws : List (List UInt8)) (x : List UInt8) (w : World) (hs : Sl w w.heap.size A (ST ws)) (hn : ws.length ≤ 1000) :
    Calls Tryz.prog 37 #[.slice A ws.length c, .string ⟨x.toArray⟩] w fun e W' => e = .returned (.bool (ws.contains x)) ∧ w = W' := by
  by_cases h0 : ws = []
  · subst h0
    exact (Tryz.slices_Contains_string_empty A c ⟨x.toArray⟩ w).mono fun e W' h => ⟨h.1, h.2.symm⟩
  · obtain ⟨b, o, rfl, _, hc⟩ := hs (by rw [ST_length]; exact List.length_pos_iff.2 h0)
    refine (Tryz.slices_Contains_string b o ws.length c (ws.map fun l => ⟨l.toArray⟩) ⟨x.toArray⟩ w (by simp) (by omega) (fun j hj => ?_)).mono fun e W' h => ⟨?_, h.2.symm⟩
    · have hj' : j < ws.length := by simpa using hj
      have h1 := hc j (by simpa using hj')
      rw [ST_get] at h1
      rw [h1, List.getD_eq_getElem?_getD, List.getElem?_map, List.getElem?_eq_getElem hj']
      rfl
    · rw [h.1, List.take_of_length_le (by simp)]
      congr 2
      rw [Bool.eq_iff_iff, Lib.containsS_iff, List.contains_iff_mem, List.mem_map]
      constructor
      · rintro ⟨l, hl, e⟩
        have e2 : l.toArray = x.toArray := congrArg ByteArray.data e
        rw [← List.toArray_inj e2]
        exact hl
      · intro h
        exact ⟨x, h, rfl⟩
/-- The way of one key alone. -/
def pkhD (ws : List (List UInt8)) (W : Bool) (wd t : List UInt8) : Option DDesc :=
  if !W && (decide (ws.length = 0) || decide (wd = wWpkh)) then (readK t).map fun k => ⟨ws ++ [wd], 0, false, [k]⟩ else none
theorem inner_k (ws : List (List UInt8)) (W : Bool) (T t : List UInt8) (k : Nat) (hk : k < 2) (h0 : ∀ j, j < k → unwrapL T (word2 j) = none) (h : unwrapL T (word2 k) = some t) : innerD ws W T = pkhD ws W (word2 k) t := by
  match k, hk with
  | 0, _ =>
    have h' : unwrapL T wPkh = some t := h
    show innerD ws W T = pkhD ws W wPkh t
    unfold innerD pkhD
    rw [h']
    have e : ws.isEmpty = decide (ws.length = 0) := by cases ws <;> rfl
    have h2 : decide (wPkh = wWpkh) = false := by decide
    simp only [e, h2, Bool.or_false]
  | 1, _ =>
    have h' : unwrapL T wWpkh = some t := h
    have h2 : unwrapL T wPkh = none := h0 0 (by decide)
    unfold innerD pkhD
    rw [h2, h']
    simp only [word2, decide_true, Bool.or_true, Bool.and_true]
theorem inner_2 (ws : List (List UInt8)) (W : Bool) (T : List UInt8) (h0 : ∀ j, j < 2 → unwrapL T (word2 j) = none) : innerD ws W T = match unwrapL T wSorted with
      | some t => manyD ws true t
      | none => match unwrapL T wMulti with
        | some t => manyD ws false t
        | none => none := by
  have h1 : unwrapL T wPkh = none := h0 0 (by decide)
  have h2 : unwrapL T wWpkh = none := h0 1 (by decide)
  unfold innerD
  rw [h1, h2]
  rfl

theorem KV.off {W : World} {lo : Nat} {k : DKey} {pv sv : Value} (h : KV W lo k pv sv) : ∀ r, W.heap.size ≤ r → Off (some r) pv ∧ Off (some r) sv := by
  obtain ⟨⟨A, c, rfl, h2, h3, h6⟩, A', c', rfl, h5, h7⟩ := h
  have go : ∀ (A : Option Addr) (n c r : Nat) (xs : List Value), Sl W W.heap.size A xs → xs.length = n → W.heap.size ≤ r → Off (some r) (.slice A n c) := fun A n c r xs hs hl hr A2 n2 c2 e hn a ha e2 => by
    injection e with e1 e3 e4
    subst e1 e3 e4 ha
    obtain ⟨b, o, e5, hb, _⟩ := hs (by omega)
    injection e5 with e5
    subst e5
    injection e2 with e2
    simp only [] at e2
    omega
  exact fun r hr => ⟨go A _ c r _ h2 (by simp) hr, go A' _ c' r _ h5 (by simp [U32]) hr⟩
theorem KV.grown {W W' : World} {lo : Nat} {k : DKey} {pv sv : Value} {r : Option Nat} (h : KV W lo k pv sv) (hg : W.grownBy W' r) (h1 : Off r pv) (h2 : Off r sv) : KV W' lo k pv sv := by
  obtain ⟨⟨A, c, rfl, h3, h4, h6⟩, A', c', rfl, h5, h7⟩ := h
  have go : ∀ (A : Option Addr) (n c : Nat) (xs : List Value), Sl W W.heap.size A xs → xs.length = n → Off r (.slice A n c) → Sl W' W'.heap.size A xs := fun A n c xs hs hl ho hn => by
    obtain ⟨b, o, rfl, hb, hc⟩ := hs hn
    refine ⟨b, o, rfl, by have := hg.size; omega, fun j hj => ?_⟩
    rw [World.cell?_of_block (a := ⟨b, o + j, none⟩) (hg.block b hb (ho _ _ _ rfl (by omega) _ rfl))]
    exact hc j hj
  exact ⟨⟨A, c, rfl, go A _ c _ h3 (by simp) h1, h4, h6⟩, A', c', rfl, go A' _ c' _ h5 (by simp [U32]) h2, h7⟩
theorem ks_one {W W5 : World} {base lo : Nat} {k : DKey} {pv sv : Value} (hk : k.top.Ok) (hKV : KV W lo k pv sv) (hKV5 : KV W5 lo k pv sv) (hB : base ≤ W5.heap.size) (cs : Array Value) (hcs : cs = (dkC k pv sv).toArray)
    (hrow : W.heap[W5.heap.size]? = some (.cells cs 62 (0, 0))) : KS W base lo (.slice (some ⟨W5.heap.size, 0, none⟩) 1 1) [k] :=
  ⟨[(k, pv, sv)], rfl, fun p hp => by rw [List.mem_singleton] at hp; subst hp; exact ⟨hk, hKV, hKV5.off _ (Nat.le_refl _)⟩, by simp [dkC_length hk], .inr ⟨W5.heap.size, 1, cs, rfl, hB, hrow, Nat.le_refl _, by simp [maxLen], by rw [hcs]; simp [dkC_length hk], by
    rw [hcs]
    simp only [List.flatMap_cons, List.flatMap_nil, List.append_nil, List.length_singleton]
    rw [List.take_of_length_le (by simp [dkC_length hk])]⟩⟩
theorem ks_nil (W : World) (base lo : Nat) : KS W base lo nilS [] := ⟨[], rfl, fun p hp => by simp at hp, W.ownsRow_nil base _ 75⟩
theorem KS.mono {W : World} {base base' lo : Nat} {kv : Value} {ks : List DKey} (h : KS W base lo kv ks) (hb : base' ≤ base) : KS W base' lo kv ks := by
  obtain ⟨prs, h1, h2, h3, h4⟩ := h
  refine ⟨prs, h1, h2, h3, ?_⟩
  rcases h4 with h4 | ⟨g, cap, cur, e, hg, r⟩
  · exact .inl h4
  · exact .inr ⟨g, cap, cur, e, by omega, r⟩
/-- What leaves the blocks that stood. -/
theorem KS.below {W W' : World} {base lo : Nat} {kv : Value} {ks : List DKey} (h : KS W base lo kv ks) (hb : Below W.heap.size W W') : KS W' base lo kv ks := by
  obtain ⟨prs, h1, h2, h3⟩ := h
  refine ⟨prs, h1, fun p hp => ⟨(h2 p hp).1, (h2 p hp).2.1.below hb, (h2 p hp).2.2⟩, h3.kept (row := none) ⟨hb.os, hb.tape, hb.output, hb.size, fun k hk _ => hb.block k hk⟩ ?_⟩
  cases kv.ownBlock <;> simp
/-- A store at a row below. -/
theorem KS.setCell {W : World} {base lo g : Nat} {kv : Value} {ks : List DKey} (h : KS W base lo kv ks) (hg : g < base) (hl : g < lo) (o : Nat) (u : Value) : KS (W.setCell ⟨g, o, none⟩ u) base lo kv ks := by
  obtain ⟨prs, h1, h2, h3⟩ := h
  refine ⟨prs, h1, fun p hp => ⟨(h2 p hp).1, (h2 p hp).2.1.kept (by simp) (fun j hj _ => Below.heap_setCell _ _ _ _ (show j ≠ g by omega)), (h2 p hp).2.2⟩, h3.1, ?_⟩
  rcases h3.2 with h4 | ⟨g', cap, cur, e, hg', hr, r⟩
  · exact .inl h4
  · exact .inr ⟨g', cap, cur, e, hg', (Below.heap_setCell _ _ _ _ (show g' ≠ g by omega)).trans hr, r⟩
/-- One key more. -/
theorem KS.push {P : Program} {w : World} {base lo : Nat} {kv : Value} {ks : List DKey} {k : DKey} {pv sv : Value} (h : KS w base lo kv ks) (hk : k.top.Ok) (hKV : KV w lo k pv sv) (ho1 : Off kv.ownBlock pv) (ho2 : Off kv.ownBlock sv)
    (t ty : TypeId) (i : TypeInfo) (z : Value) (bytes : Nat) (ht : P.underlying t = some (.slice 62)) (hi : P.info? 62 = some i) (hz : i.zero = some z) (hs : i.size = 75) (hy : i.bytes = bytes) (hzs : z.cells.size = 75)
    (hby : bytes ≤ 4096) (g : Nat) (hrow : w.heap[g]? = some (.cells (dkC k pv sv).toArray 62 (0, 0))) (hn : ks.length ≤ 1000) (hbase : base ≤ w.heap.size) :
    ∃ v' w', (Builtin.append_ #[t, t] ty #[kv, .slice (some ⟨g, 0, none⟩) 1 1]).run P w = .ok v' w' ∧ KS w' base lo v' (ks ++ [k]) ∧ w.grownBy w' kv.ownBlock ∧ (∃ A n c, v' = .slice A n c) := by
  obtain ⟨prs, h1, h2, h3⟩ := h
  have hl : prs.length = ks.length := by rw [← h1]; simp
  have hbb : (prs.length + 1) * bytes ≤ 140737488355328 := Nat.le_trans (Nat.mul_le_mul (show prs.length + 1 ≤ 1001 by omega) hby) (by decide)
  obtain ⟨v', w', hr, ho, hg, _, hv⟩ := run_append_own_at (P := P) w base t ty 62 i z 75 bytes ht hi hz hs hy hzs (by decide) kv prs.length _ h3 ⟨g, 0, none⟩ 1 1 (dkC k pv sv) (by rw [dkC_length hk]) (fun j u hu => by
      rw [add_lit', Nat.zero_add, cell_of_row _ _ _ _ _ _ hrow, List.getElem?_toArray, hu]) (fun u hu => by
      have := List.all_eq_true.1 (by have := dkC_one k pv sv hKV.one.1 hKV.one.2; rwa [List.all_toArray] at this) u hu
      exact this) (by simp [maxLen]; omega) hbb hbase
  refine ⟨v', w', hr, ?_, hg, ?_⟩
  · have hoff : ∀ (k' : DKey) (pv' sv' : Value), KV w lo k' pv' sv' → Off kv.ownBlock pv' ∧ Off kv.ownBlock sv' → Off v'.ownBlock pv' ∧ Off v'.ownBlock sv' := fun k' pv' sv' h' ho' => by
      rcases hv with hv | hv
      · rw [hv]; exact ho'
      · rw [hv]; exact h'.off _ (Nat.le_refl _)
    refine ⟨prs ++ [(k, pv, sv)], by simp [h1], fun p hp => ?_, ?_⟩
    · rw [List.mem_append, List.mem_singleton] at hp
      rcases hp with hp | rfl
      · exact ⟨(h2 p hp).1, (h2 p hp).2.1.grown hg (h2 p hp).2.2.1 (h2 p hp).2.2.2, hoff _ _ _ (h2 p hp).2.1 (h2 p hp).2.2⟩
      · exact ⟨hk, hKV.grown hg ho1 ho2, hoff _ _ _ hKV ⟨ho1, ho2⟩⟩
    · simpa using ho
  · rcases ho.2 with ⟨e, _⟩ | ⟨g', cap, cur, e, _⟩
    · exact ⟨_, _, _, e⟩
    · exact ⟨_, _, _, e⟩

theorem keysOf_snoc : ∀ (l : List (List UInt8)) (p : List UInt8) (ks : List DKey) (k : DKey), keysOf l = some ks → readK p = some k → keysOf (l ++ [p]) = some (ks ++ [k])
  | [], p, ks, k, h, hk => by
    obtain rfl : [] = ks := by simpa [keysOf] using h
    simp [keysOf, hk]
  | x :: l, p, ks, k, h, hk => by
    rw [keysOf] at h
    rw [List.cons_append, keysOf]
    cases hx : readK x with
    | none => rw [hx] at h; cases h
    | some y =>
      rw [hx] at h
      simp only [Option.map_eq_some_iff] at h
      obtain ⟨r, hr, rfl⟩ := h
      simp only []
      rw [keysOf_snoc l p r k hr hk]
      rfl
theorem keysOf_none : ∀ (l : List (List UInt8)) (p : List UInt8), p ∈ l → readK p = none → keysOf l = none
  | [], p, h, _ => by cases h
  | x :: l, p, h, hk => by
    rw [keysOf]
    rcases List.mem_cons.1 h with rfl | h
    · rw [hk]
    · cases readK x with
      | none => rfl
      | some y => simp only []; rw [keysOf_none l p h hk]; rfl
theorem keysOf_len : ∀ (l : List (List UInt8)) (ks : List DKey), keysOf l = some ks → ks.length = l.length
  | [], ks, h => by
    obtain rfl : [] = ks := by simpa [keysOf] using h
    rfl
  | x :: l, ks, h => by
    rw [keysOf] at h
    cases hx : readK x with
    | none => rw [hx] at h; cases h
    | some y =>
      rw [hx] at h
      simp only [Option.map_eq_some_iff] at h
      obtain ⟨r, hr, rfl⟩ := h
      simp [keysOf_len l r hr]
theorem readK_ok {S : List UInt8} {k : DKey} (h : readK S = some k) : k.top.Ok := by
  have tree : ∀ S : List UInt8, treeK S = some k → k.top.Ok := fun S h => by
    simp only [treeK] at h
    split at h
    · split at h
      · rw [Option.map_eq_some_iff] at h
        obtain ⟨t, _, rfl⟩ := h
        exact parseH_ok _
      · injection h with h
        rw [← h]
        exact parseH_ok _
    · cases h
  unfold readK at h
  split at h
  · split at h
    · split at h
      · injection h with h
        rw [← h]
        exact hkZero_ok
      · cases h
    · exact tree S h
  · exact tree S h
section
variable {P : Program} {ops : Array Oper} {rest : List Oper} {o : Oper} {a : Act} {w : World} {Q : Exit → Act → World → Prop}
theorem fill_one {s : Nat} (hs : 0 < s) (cs cells : Array Value) (h1 : cs.size = s) (hn : cells.size = 1 * s) : Instr.fill (fun i => some (i * s, s)) cells [(0, .agg cs)] = some cs := by
  have h := Go.Great.fill_whole hs [.agg cs] cells (fun v hv => by rw [List.mem_singleton] at hv; subst hv; exact h1) (by simpa using hn.symm)
  simpa [Value.cells] using h
theorem wp_build1 {K : Act → World → Prop} (t e : TypeId) (x : Operand) (s : Nat) (cs : Array Value) (ho : o.op = .buildSlice t 1 #[(0, x)]) (hu : P.underlying t = some (.slice e)) (hsz : (P.info? e).map (·.size) = some s)
    (hz : ((P.info? e).bind (·.zero)).isSome = true) (hs : 0 < s) (hsmall : s ≤ 2 ^ 24) (hx : a.eval x = .agg cs) (h1 : cs.size = s)
    (h : K (a.put o.dst (.slice (some ⟨w.heap.size, 0, none⟩) 1 1)) (w.alloc (.cells cs e))) : o.wp P a w K Q := by
  cases hie : P.info? e with
  | none => simp [hie] at hsz
  | some ie =>
    simp only [hie, Option.map_some, Option.some.injEq, Option.bind_some] at hsz hz
    obtain ⟨z, hzz⟩ := Option.isSome_iff_exists.1 hz
    refine wp_buildSlice t e 1 #[(0, x)] ho cs ie z hu hie hzz (by rw [hsz]; omega) (by rw [hsz]; omega) ?_ h
    rw [hsz, Array.toList_map]
    simp only [List.map_cons, List.map_nil, hx]
    exact fill_one hs cs _ h1 (by simp)
theorem wpList_build1 (hg : o.guard = none) (t e : TypeId) (x : Operand) (s : Nat) (cs : Array Value) (ho : o.op = .buildSlice t 1 #[(0, x)]) (dst : Option Tmp) (hdst : o.dst = dst) (hu : P.underlying t = some (.slice e)) (hsz : (P.info? e).map (·.size) = some s)
    (hz : ((P.info? e).bind (·.zero)).isSome = true) (hs : 0 < s) (hsmall : s ≤ 2 ^ 24) (hx : a.eval x = .agg cs) (h1 : cs.size = s)
    (h : wpList P ops Q rest (a.put dst (.slice (some ⟨w.heap.size, 0, none⟩) 1 1)) (w.alloc (.cells cs e))) : wpList P ops Q (o :: rest) a w := by
  subst hdst
  exact wpList_plain hg fun _ hK => wp_build1 t e x s cs ho hu hsz hz hs hsmall hx h1 (hK _ _ h)
end
-- MANY LEMMAS
theorem DC_1 {w : World} {g : Nat} {v kv : Value} {m : Int} {s : Bool} (h : w.heap[g]? = some (.cells (DC v m s kv) 48 (0, 0))) : w.cell? ⟨g, 1, none⟩ = some (.int .i64 m) := by rw [cell_of_row _ _ _ _ _ _ h]; rfl
theorem DC_2 {w : World} {g : Nat} {v kv : Value} {m : Int} {s : Bool} (h : w.heap[g]? = some (.cells (DC v m s kv) 48 (0, 0))) : w.cell? ⟨g, 2, none⟩ = some (.bool s) := by rw [cell_of_row _ _ _ _ _ _ h]; rfl
def innerU (ws : List (List UInt8)) (US UM : Option (List UInt8)) : Option DDesc :=
  match US with
  | some t => manyD ws true t
  | none => match UM with
    | some t => manyD ws false t
    | none => none
theorem inner_u (ws : List (List UInt8)) (W : Bool) (T : List UInt8) (h0 : ∀ j, j < 2 → unwrapL T (word2 j) = none) : innerD ws W T = innerU ws (unwrapL T wSorted) (unwrapL T wMulti) := inner_2 ws W T h0
def manyV (ws : List (List UInt8)) (sorted : Bool) (ps : List (List UInt8)) : Option DDesc :=
  match ps with
  | [] => none
  | p :: ps => if 1 ≤ ps.length ∧ ps.length ≤ 16 then
      match mOf p with
      | none => none
      | some n => if n ≤ ps.length then (keysOf ps).map fun ks => ⟨ws, n, sorted, ks⟩ else none
    else none
theorem manyV_eq (ws : List (List UInt8)) (sorted : Bool) (t : List UInt8) : manyD ws sorted t = manyV ws sorted (pieces 44 t) := rfl
theorem manyV_no (ws : List (List UInt8)) (sorted : Bool) (ps : List (List UInt8)) (h : ¬ (2 ≤ ps.length ∧ ps.length ≤ 17)) : manyV ws sorted ps = none := by
  cases ps with
  | nil => rfl
  | cons p r => rw [manyV, if_neg (by simp only [List.length_cons] at h; omega)]
theorem manyV_yes (ws : List (List UInt8)) (sorted : Bool) (p : List UInt8) (r : List (List UInt8)) (h : 2 ≤ (p :: r).length ∧ (p :: r).length ≤ 17) : manyV ws sorted (p :: r) = match mOf p with
      | none => none
      | some n => if n ≤ r.length then (keysOf r).map fun ks => ⟨ws, n, sorted, ks⟩ else none := by
  rw [manyV, if_pos (by simp only [List.length_cons] at h; omega)]
section
variable {P : Program} {ops : Array Oper} {N : Nat}
theorem wpPlan_loudG {i : Nat} {rest : List (Nat × Nat)} {o : Oper} {a : Act} {w : World} {Q : Exit → Act → World → Prop} (ho : ops[i]? = some o) (hg : Region.wanted o (yielded ops a.tmps) = true)
    (h : ∀ K : Act → World → Prop, (∀ a' w', ((N ≤ i ∨ Ext w w') ∧ wpPlan P ops (Q .normal) (fun i K a w => wpOp P ops Q i K a w) N rest a' w') → K a' w') → o.wp P a w K Q) :
    wpPlan P ops (Q .normal) (fun i K a w => wpOp P ops Q i K a w) N ((i, 2) :: rest) a w := by
  simp only [wpPlan, show ¬ (2 = 0) by decide, show ¬ (2 = 1) by decide, if_false, wpOp, ho, hg, if_true]
  exact .inl (h _ (fun _ _ h => h))
theorem wpPlan_loudN {i : Nat} {rest : List (Nat × Nat)} {o : Oper} {a : Act} {w : World} {Q : Exit → Act → World → Prop} (ho : ops[i]? = some o) (hg : Region.wanted o (yielded ops a.tmps) = false)
    (h : wpPlan P ops (Q .normal) (fun i K a w => wpOp P ops Q i K a w) N rest (a.put o.dst undef) w) :
    wpPlan P ops (Q .normal) (fun i K a w => wpOp P ops Q i K a w) N ((i, 2) :: rest) a w := by
  simp only [wpPlan, show ¬ (2 = 0) by decide, show ¬ (2 = 1) by decide, if_false, wpOp, ho, hg, Bool.false_eq_true]
  exact ⟨.inr (Ext.refl _), h⟩
end
theorem mOf_ok {p : List UInt8} {v : Int} (h : Lib.atoiAll p = .ok v) : mOf p = if Lib.itoa v = p ∧ 1 ≤ v then some v.toNat else none := by
  rw [mOf, h]
theorem mOf_no {p : List UInt8} (h : ∀ v, Lib.atoiAll p ≠ .ok v) : mOf p = none := by
  unfold mOf
  split
  · next v hv => exact absurd hv (h v)
  · rfl
theorem wpPlan_streq {P : Program} {ops : Array Oper} {N : Nat} {Q : Act → World → Prop} {st : Nat → (Act → World → Prop) → Act → World → Prop} {i : Nat} {rest : List (Nat × Nat)} {o : Oper} {a : Act} {w : World} (x y : Operand) (t t2 : TypeId) (s1 s2 : ByteArray) (b : Bool)
    (ho : ops[i]? = some o) (hw : Region.wanted o (yielded ops a.tmps) = true) (hop : o.op = .binOp .eql t x y t2) (hx : a.eval x = .string s1) (hy : a.eval y = .string s2) (hu : P.underlying t = some .string) (hb : (s1.toList == s2.toList) = b)
    (h : wpPlan P ops Q st N rest (a.put o.dst (.bool b)) w) : wpPlan P ops Q st N ((i, 0) :: rest) a w := by
  simp only [wpPlan, if_true, ho]
  refine ⟨.bool b, .inl ⟨hw, fun W _ => ?_⟩, h⟩
  unfold execOp
  subst hb
  simp only [hop, hx, hy]
  go_simp
  done
theorem infoK : (Tryz.prog.info? 62).any (fun i => i.size == 75 && decide (i.bytes ≤ 4096) && (i.zero.any fun z => z.cells.size == 75)) = true := by kernel_rfl
theorem wp_pushK {o : Oper} {a : Act} {w : World} {K : Act → World → Prop} {Q : Exit → Act → World → Prop} (s x : Operand) (ho : o.op = .call { callee := .builtin .append, args := #[s, x], argTypes := #[46, 46] })
    {base lo : Nat} {kv : Value} {ks : List DKey} {k : DKey} {pv sv : Value} (h : KS w base lo kv ks) (hk : k.top.Ok) (hKV : KV w lo k pv sv) (ho1 : Off kv.ownBlock pv) (ho2 : Off kv.ownBlock sv)
    (g : Nat) (hrow : w.heap[g]? = some (.cells (dkC k pv sv).toArray 62 (0, 0))) (hn : ks.length ≤ 1000) (hbase : base ≤ w.heap.size) (hs : a.eval s = kv) (hx : a.eval x = .slice (some ⟨g, 0, none⟩) 1 1)
    (hK : ∀ A n c w', KS w' base lo (.slice A n c) (ks ++ [k]) → w.grownBy w' kv.ownBlock → K (a.put o.dst (.slice A n c)) w') : o.wp Tryz.prog a w K Q := by
  have hi := infoK
  cases hie : Tryz.prog.info? 62 with
  | none => rw [hie] at hi; cases hi
  | some i =>
    rw [hie] at hi
    simp only [Option.any_some, Bool.and_eq_true, beq_iff_eq, decide_eq_true_eq] at hi
    obtain ⟨⟨h75, hby⟩, hz⟩ := hi
    cases hze : i.zero with
    | none => rw [hze] at hz; cases hz
    | some z =>
      rw [hze] at hz
      simp only [Option.any_some, beq_iff_eq] at hz
      obtain ⟨v', w', hr, h2, h3, A, n, c, rfl⟩ := h.push hk hKV ho1 ho2 46 o.type i z i.bytes Tryz.underlying46 hie hze h75 rfl hz hby g hrow hn hbase
      unfold Oper.wp execOp
      simp only [ho, resolve, invoke, builtin, Sem.run_bind, Sem.run_pure, Result.andThen_ok, List.map_toArray, List.map_cons, List.map_nil, hs, hx, hr]
      exact hK A n c w' h2 h3
theorem KV.offLo {W : World} {lo : Nat} {k : DKey} {pv sv : Value} (h : KV W lo k pv sv) (ro : Option Nat) (hr : ∀ r, ro = some r → r < lo) : Off ro pv ∧ Off ro sv := by
  obtain ⟨⟨A, c, rfl, h2, h3, h6⟩, A', c', rfl, h5, h7⟩ := h
  have go : ∀ (A : Option Addr) (n c : Nat), (∀ a, A = some a → lo ≤ a.block) → Off ro (.slice A n c) := fun A n c hl A2 n2 c2 e hn a ha e2 => by
    injection e with e1 e3 e4
    subst e1
    have h1 := hl a ha
    have h2 := hr a.block e2.symm
    omega
  exact ⟨go A _ c h6, go A' _ c' h7⟩
-- END LEMMAS
end Go.Proofs.YtcjioogololnoaaGreatDoor

/-! The closure that desc.Parse defers: its two contracts. -/
namespace Go.Proofs.YtcjioogololnoaaGreatDoor
open Go Go.RowKit

def FENT (r : Bool) : PanicEntry := { v := .iface 44 (.agg #[]), recovered := r }
set_option maxRecDepth 100000 in
set_option maxHeartbeats 2000000 in
/-- The deferred closure, of a frame that panics with a fault. -/
theorem catch_fault (p q : Nat) (hpq : p ≠ q) (x y : Value) (w : World) (hp : w.cell? ⟨p, 0, none⟩ = some x) (hfp : w.frozen? ⟨p, 0, none⟩ = false) (hq : w.cell? ⟨q, 0, none⟩ = some y) (hfq : w.frozen? ⟨q, 0, none⟩ = false) :
    CallsD Tryz.prog 17 #[.pointer (some ⟨p, 0, none⟩), .pointer (some ⟨q, 0, none⟩)] (.panicking [FENT false]) w fun e u' w' =>
      e = .returned (.tuple #[]) ∧ u' = .panicking [FENT true] ∧ w' = ((w.setCell ⟨p, 0, none⟩ (.pointer none)).setCell ⟨q, 0, none⟩ (.int .i64 3)).alloc (.cells #[] 44) := by
  refine callsD_of_wpS Tryz.func17 rfl fun c₀ cs hu => ?_
  simp only [Tryz.ntmps17, List.size_toArray, List.length_cons, List.length_nil, Nat.reduceAdd, Nat.reduceSub, Array.replicate_succ, Array.replicate_zero, List.push_toArray, List.append_toArray, List.nil_append, List.cons_append]
  apply wpS_seq
  apply wpS_region
  rw [FENT] at hu
  simp [wpOpsS, go_sem, recoverD, hu, Exit.thenS]
  have hlp := World.block_lt_of_cell? w _ hp
  have hlq := World.block_lt_of_cell? w _ hq
  have hp1 : ∀ o, (w.alloc o).cell? ⟨p, 0, none⟩ = some x := fun o => by rw [World.cell?_alloc_past o p 0 hlp]; exact hp
  have hq1 : ∀ o, (w.alloc o).cell? ⟨q, 0, none⟩ = some y := fun o => by rw [World.cell?_alloc_past o q 0 hlq]; exact hq
  have hta : ∀ W : World, (Instr.typeAssert (.iface 44 (.agg #[])) 20 44 true).run Tryz.prog W = .ok (.tuple #[.agg #[], .bool true]) W := fun W => by kernel_rfl
  refine wpS_of_wp ?_
  go_wp2
  refine ⟨rfl, _, rfl, _, results_none rfl _ _ _, rfl, rfl, rfl⟩
set_option maxRecDepth 100000 in
set_option maxHeartbeats 2000000 in
/-- The deferred closure, of a frame that returns. -/
theorem catch_idle (p q : Nat) (w : World) :
    CallsD Tryz.prog 17 #[.pointer (some ⟨p, 0, none⟩), .pointer (some ⟨q, 0, none⟩)] .returning w fun e u' w' => e = .returned (.tuple #[]) ∧ u' = .returning ∧ w' = w := by
  refine callsD_of_wpS Tryz.func17 rfl fun c₀ cs hu => ?_
  simp only [Tryz.ntmps17, List.size_toArray, List.length_cons, List.length_nil, Nat.reduceAdd, Nat.reduceSub, Array.replicate_succ, Array.replicate_zero, List.push_toArray, List.append_toArray, List.nil_append, List.cons_append]
  apply wpS_seq
  apply wpS_region
  simp [wpOpsS, go_sem, recoverD, hu, Exit.thenS]
  refine wpS_of_wp ?_
  go_wp2
  cases c₀
  simp_all [bodyPostS, results, Tryz.results17]
end Go.Proofs.YtcjioogololnoaaGreatDoor
