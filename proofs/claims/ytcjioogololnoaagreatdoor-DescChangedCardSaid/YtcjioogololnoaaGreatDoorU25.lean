/- (*desc.key).path. | text.digit and text.FromHex of any text. -/
import Derived.Test.YtcjioogololnoaaGreatDoorU20
import Derived.Test.YtcjioogololnoaaGreatDoorU24
import Derived.Test.YtcjioogololnoaaGreatDoorU11

/-! (*desc.key).path. -/
namespace Go.Proofs.YtcjioogololnoaaGreatDoor
open Go Go.RowKit Go.Shelf

/-- A descriptor's key as cells: with the values of its two slices. -/
def dkC (k : DKey) (pv sv : Value) : List Value := pv :: (keyC k.top ++ [sv, .bool k.ranged, .bool k.hard])
theorem dkC_length {k : DKey} (h : k.top.Ok) (pv sv : Value) : (dkC k pv sv).length = 75 := by simp [dkC, keyC_length h]
theorem dkC_72 {k : DKey} (h : k.top.Ok) (pv sv : Value) : (dkC k pv sv)[72]? = some sv := by
  rw [dkC, List.getElem?_cons_succ, List.getElem?_append_right (by rw [keyC_length h]; exact Nat.le_refl _), keyC_length h]; rfl
theorem dkC_73 {k : DKey} (h : k.top.Ok) (pv sv : Value) : (dkC k pv sv)[73]? = some (.bool k.ranged) := by
  rw [dkC, List.getElem?_cons_succ, List.getElem?_append_right (by rw [keyC_length h]; omega), keyC_length h]; rfl
theorem dkC_74 {k : DKey} (h : k.top.Ok) (pv sv : Value) : (dkC k pv sv)[74]? = some (.bool k.hard) := by
  rw [dkC, List.getElem?_cons_succ, List.getElem?_append_right (by rw [keyC_length h]; omega), keyC_length h]; rfl
theorem dkC_top {k : DKey} (h : k.top.Ok) (pv sv : Value) (j : Nat) (hj : j < 71) : (dkC k pv sv)[1 + j]? = (keyC k.top)[j]? := by
  rw [dkC, Nat.add_comm, List.getElem?_cons_succ, List.getElem?_append_left (by rw [keyC_length h]; exact hj)]
theorem set_mid (pv : Value) (K r : List Value) (i : Nat) (v : Value) (h : K.length = 71) : (pv :: (K ++ r)).toArray.setIfInBounds (72 + i) v = (pv :: (K ++ r.set i v)).toArray := by
  rw [List.setIfInBounds_toArray]
  congr 1
  rw [show 72 + i = (71 + i) + 1 by omega, List.set_cons_succ, List.set_append, if_neg (by omega), h, show 71 + i - 71 = i by omega]
theorem dkC_set72 {k : DKey} (h : k.top.Ok) (pv sv : Value) (u : Value) : (dkC k pv sv).toArray.setIfInBounds 72 u = (dkC k pv u).toArray := set_mid pv _ _ 0 u (keyC_length h)
theorem dkC_set73 {k : DKey} (h : k.top.Ok) (pv sv : Value) (b : Bool) : (dkC k pv sv).toArray.setIfInBounds 73 (.bool b) = (dkC { k with ranged := b } pv sv).toArray := set_mid pv _ _ 1 _ (keyC_length h)
theorem dkC_set74 {k : DKey} (h : k.top.Ok) (pv sv : Value) (b : Bool) : (dkC k pv sv).toArray.setIfInBounds 74 (.bool b) = (dkC { k with hard := b } pv sv).toArray := set_mid pv _ _ 2 _ (keyC_length h)
def nilS : Value := .slice none 0 0
def tree0 (top : HKey) : DKey := ⟨[], top, [], false, false⟩

theorem hasPrefix_one (l : List UInt8) (c : UInt8) : Lib.hasPrefix l [c] = decide (l.head? = some c) := by
  cases l with
  | nil => rfl
  | cons x r =>
    simp only [Lib.hasPrefix, List.isPrefixOf, List.head?_cons, Option.some.injEq, Bool.and_true]
    by_cases h : c = x
    · subst h; simp
    · have h' : ¬ x = c := fun e => h e.symm
      simp [h, h']
theorem contains_marks (c : UInt8) : Lib.contains marksL [c] = isHardC c := by
  unfold Lib.contains marksL isHardC
  simp only [Lib.index, List.isPrefixOf, Bool.and_true, List.isEmpty_cons]
  by_cases h1 : c = 39
  · subst h1; decide
  · by_cases h2 : c = 104
    · subst h2; decide
    · by_cases h3 : c = 72
      · subst h3; decide
      · simp [h1, h2, h3]
theorem join_len (c : UInt8) : ∀ l : List (List UInt8), l ≠ [] → (Lib.join l [c]).length + 1 = Lib.lens l + l.length
  | [], h => absurd rfl h
  | [x], _ => by simp [Lib.join_one, Lib.lens]
  | x :: y :: r, _ => by
    have ih := join_len c (y :: r) (by simp)
    rw [Lib.join_cons] at ih ⊢
    simp only [Lib.joinTail, List.map_cons, List.flatten_cons, List.length_append, List.length_cons, List.length_nil, Lib.lens, List.sum_cons] at ih ⊢
    omega
theorem join_take_le (c : UInt8) (l : List (List UInt8)) (k : Nat) : (Lib.join (l.take k) [c]).length ≤ (Lib.join l [c]).length := by
  by_cases h0 : l.take k = []
  · rw [h0]; simp [Lib.join_nil]
  · have hl : l ≠ [] := fun e => h0 (by simp [e])
    have h1 := join_len c _ h0
    have h2 := join_len c l hl
    have h3 := Lib.lens_take_le l k
    rw [List.length_take] at h1
    omega
theorem tail_eq (priv : Bool) (ps qs : List (List UInt8)) (r h : Bool) (hl : lastOf (ps.getLastD []) = some (r, h)) (hq : qs = if r then ps.dropLast else ps) :
    tailOf priv ps = if 20 < qs.length then none else match stepsOf qs with | none => none | some ns => if (h || anyHard ns) && !priv then none else some (ns, r, h) := by
  unfold tailOf
  rw [hl, hq]
  rfl
theorem tail_none (priv : Bool) (ps : List (List UInt8)) (hl : lastOf (ps.getLastD []) = none) : tailOf priv ps = none := by
  unfold tailOf
  rw [hl]
theorem sl_row {W : World} {g : Nat} {cs : List Value} {t : TypeId} {fr : Nat × Nat} (h : W.heap[g]? = some (.cells cs.toArray t fr)) : Sl W W.heap.size (some ⟨g, 0, none⟩) cs := fun _ => ⟨g, 0, rfl, (Array.getElem?_eq_some_iff.1 h).1, fun j hj => by
  rw [Nat.zero_add, cell_of_row _ _ _ _ _ _ h, List.getElem?_toArray, List.getElem?_eq_getElem hj]⟩
theorem row_dk {W : World} {g : Nat} {k : DKey} {pv sv : Value} (h : W.heap[g]? = some (.cells (dkC k pv sv).toArray 62 (0, 0))) (j : Nat) : W.cell? ⟨g, j, none⟩ = (dkC k pv sv)[j]? := by
  rw [cell_of_row _ _ _ _ _ _ h]; simp
theorem range_dk {W : World} {g : Nat} {k : DKey} (ht : k.top.Ok) {pv sv : Value} (h : W.heap[g]? = some (.cells (dkC k pv sv).toArray 62 (0, 0))) : W.rangeAt g 1 (keyC k.top) := fun j v hv => by
  have hj : j < 71 := by have := (List.getElem?_eq_some_iff.1 hv).1; rwa [keyC_length ht] at this
  rw [row_dk h, dkC_top ht _ _ _ hj]
  exact hv

set_option maxRecDepth 100000 in
set_option maxHeartbeats 16000000 in
theorem kpath_any (w0 : World) (hE : Env w0) (g : Nat) (hg0 : w0.heap.size ≤ g) (s : ByteArray) (hsz : s.size ≤ 4096) (top : HKey) (ht : top.Ok) (w : World) (hb : Below w0.heap.size w0 w)
    (hg : w.heap[g]? = some (.cells (dkC (tree0 top) nilS nilS).toArray 62 (0, 0))) :
    Calls Tryz.prog 69 #[.pointer (some ⟨g, 0, none⟩), .string s] w fun e W' =>
      ((e = .panicked FAULT ∧ tailOf top.priv (pieces 47 s.data.toList) = none) ∨
       (e = .returned (.tuple #[]) ∧ ∃ ns r h A c, tailOf top.priv (pieces 47 s.data.toList) = some (ns, r, h) ∧ W'.heap[g]? = some (.cells (dkC ⟨[], top, ns, r, h⟩ nilS (.slice A ns.length c)).toArray 62 (0, 0)) ∧ Sl W' W'.heap.size A (U32 ns) ∧ (∀ a, A = some a → w0.heap.size ≤ a.block))) ∧ Below w0.heap.size w0 W' := by
  have hsp := split_any s 47 (by omega) w (hE.below hb)
  obtain ⟨ps, hps⟩ : ∃ ps, ps = pieces 47 s.data.toList := ⟨_, rfl⟩
  rw [← hps] at hsp ⊢
  have hpl : ∀ p ∈ ps, p.length ≤ 4096 := fun p hp => by
    have := pieces_le 47 s.data.toList p (by rw [← hps]; exact hp)
    simp at this; omega
  have hfree : ∀ p ∈ ps, ∀ x ∈ p, x ≠ 47 := by rw [hps]; exact pieces_free 47 _
  have hne : ps ≠ [] := by rw [hps]; exact pieces_ne _ _
  have htot : (Lib.join ps [47]).length ≤ 4096 := by rw [hps, pieces_join]; simpa using hsz
  obtain ⟨n, hn⟩ : ∃ n, n = ps.length := ⟨_, rfl⟩
  rw [← hn] at hsp
  have hn1 : 0 < n := by rw [hn]; exact List.length_pos_iff.2 hne
  have hnle : n ≤ 4097 := by
    have := pieces_total 47 s.data.toList
    rw [hn, hps]; simp at this; omega
  obtain ⟨m, hm⟩ : ∃ m, n = m + 1 := ⟨n - 1, by omega⟩
  have hmp : m < ps.length := by omega
  obtain ⟨last, hlast⟩ : ∃ last, last = ps[m] := ⟨_, rfl⟩
  have hlD : ps.getLastD [] = last := by
    rw [List.getLastD_eq_getLast?, List.getLast?_eq_getElem?, ← hn, hm, Nat.add_sub_cancel, List.getElem?_eq_getElem hmp, hlast]; rfl
  have hglt : g < w.heap.size := (Array.getElem?_eq_some_iff.1 hg).1
  have hrow := heap_alloc_new w (.cells (ST ps).toArray 9)
  obtain ⟨W1, hW1⟩ : ∃ W1, W1 = w.alloc (.cells (ST ps).toArray 9) := ⟨_, rfl⟩
  rw [← hW1] at hrow
  obtain ⟨G, hG⟩ : ∃ G, G = w.heap.size := ⟨_, rfl⟩
  rw [← hG] at hrow hsp hglt
  have hb1 : Below w0.heap.size w0 W1 := by rw [hW1]; exact hb.alloc hb.size _
  have hz1 : W1.heap.size = G + 1 := by rw [hW1, hG]; simp
  have hg1 : W1.heap[g]? = some (.cells (dkC (tree0 top) nilS nilS).toArray 62 (0, 0)) := by
    rw [hW1, Lib.alloc_old w _ g (by omega)]; exact hg
  have hS : Sl W1 (G + 1) (some ⟨G, 0, none⟩) (ST ps) := fun _ => ⟨G, 0, rfl, by omega, fun j hj => by
    rw [Nat.zero_add, cell_of_row _ _ _ _ _ _ hrow, List.getElem?_toArray, List.getElem?_eq_getElem hj]⟩
  have hcl : W1.cell? ⟨G, m, none⟩ = some (.string ⟨last.toArray⟩) := by
    rw [cell_of_row _ _ _ _ _ _ hrow, List.getElem?_toArray, List.getElem?_eq_getElem (by simpa using hmp), ST_get, hlast]
  have hmi : ((n : Int) - 1) = (m : Int) := by omega
  have hmn : m < n := by omega
  have hlm : last ∈ ps := by rw [hlast]; exact List.getElem_mem _
  obtain ⟨L, hL⟩ : ∃ L : ByteArray, L = ⟨last.toArray⟩ := ⟨_, rfl⟩
  rw [← hL] at hcl
  have Hrow1 := Lib.hid hrow
  have Hsp := Lib.hid hsp
  have Hn := Lib.hid hn
  have Hpl := Lib.hid hpl
  have Hm := Lib.hid hm
  have HlD := Lib.hid hlD
  have HG := Lib.hid hG
  have HW1 := Lib.hid hW1
  have HS := Lib.hid hS
  have Hg1 := Lib.hid hg1
  have Hz1 := Lib.hid hz1
  have HL := Lib.hid hL
  have Hfree := Lib.hid hfree
  have Htot := Lib.hid htot
  have Hlm := Lib.hid hlm
  have Hne := Lib.hid hne
  have HE := Lib.hid hE
  have Hpre := Lib.hid (Tryz.strings_HasPrefix L ⟨#[42]⟩)
  clear hsp hps hpl hn hm hlast hlD hrow hW1 hG hS hg1 hz1 hL hfree htot hlm hne hg hE
  go_enter Tryz.func69, Tryz.ntmps69
  go_wp2_with fail
  refine (Hsp.out).mono ?_
  rintro e w1 ⟨rfl, hw1⟩
  rw [← HW1.out] at hw1
  subst hw1
  clear Hsp HW1 hb
  go_wp2_with fail
  refine (Hpre.out _).mono ?_
  rintro e w' ⟨rfl, hww⟩
  rw [hww]
  clear hww Hpre
  have HLd : Hid (L.data.toList = last) := Lib.hid (by rw [HL.out])
  rw [HLd.out, hasPrefix_one]
  have HPr : Hid (∀ ww, Calls Tryz.prog 78 #[.agg (keyC top).toArray] ww fun e W' => e = .returned (.bool top.priv) ∧ Below ww.heap.size ww W') := Lib.hid fun ww => private_any top ht ww
  have IK := Lib.hid (show (Tryz.prog.info? 59).map (·.size) = some (keyC top).length by rw [keyC_length ht]; kernel_rfl)
  by_cases hst : last.head? = some 42
  · rw [decide_eq_true hst]
    by_cases hB : last = [42]
    · have hlo : lastOf last = some (true, false) := by rw [lastOf, if_pos hst, if_pos hB]
      have hLB : (L.toList == [42]) = true := by rw [ByteArray.toList_eq, HLd.out, hB]; rfl
      have hLs : L.size = 1 := by
        have h1 := congrArg List.length (HLd.out.trans hB)
        simpa using h1
      clear hcl hB
      have HT := Lib.hid (tail_eq top.priv ps (ps.take m) true false (by rw [HlD.out]; exact hlo) (by rw [if_pos rfl, List.dropLast_eq_take, ← Hn.out, Hm.out, Nat.add_sub_cancel]))
      have RW : Hid (((w1.setCell ⟨g, 73, none⟩ (.bool true)).setCell ⟨g, 74, none⟩ (.bool false)).heap[g]? = some (.cells (dkC ⟨[], top, [], true, false⟩ nilS nilS).toArray 62 (0, 0))) := Lib.hid (by
        have h1 := heap_setCell_same w1 g 73 _ _ (Value.bool true) Hg1.out
        rw [dkC_set73 (k := tree0 top) ht] at h1
        have h2 := heap_setCell_same _ g 74 _ _ (Value.bool false) h1
        rw [dkC_set74 (k := { tree0 top with ranged := true }) ht] at h2
        exact h2)
      have HSw : Hid (Sl ((w1.setCell ⟨g, 73, none⟩ (.bool true)).setCell ⟨g, 74, none⟩ (.bool false)) ((w1.setCell ⟨g, 73, none⟩ (.bool true)).setCell ⟨g, 74, none⟩ (.bool false)).heap.size (some ⟨G, 0, none⟩) (ST (ps.take m))) := Lib.hid (by
        rw [ST_take]
        refine (sl_row (cs := ST ps) (g := G) (t := 9) (fr := (0, 0)) ?_).take m
        rw [Below.heap_setCell _ _ _ _ (show G ≠ g by omega), Below.heap_setCell _ _ _ _ (show G ≠ g by omega)]
        exact Hrow1.out)
      have hbW : Below w0.heap.size w0 ((w1.setCell ⟨g, 73, none⟩ (.bool true)).setCell ⟨g, 74, none⟩ (.bool false)) := (hb1.setCell (p := ⟨g, 73, none⟩) hg0 _).setCell (p := ⟨g, 74, none⟩) hg0 _
      have Hq : Hid (m = (ps.take m).length) := Lib.hid (by rw [List.length_take]; have := Hn.out; omega)
      have hqsub : ∀ p ∈ ps.take m, p ∈ ps := fun p hp => List.mem_of_mem_take hp
      have hjle : (Lib.join (ps.take m) [47]).length ≤ (Lib.join ps [47]).length := join_take_le 47 ps m
      have c73 : w1.cell? ⟨g, 73, none⟩ = some (.bool false) := (row_dk Hg1.out 73).trans (dkC_73 (k := tree0 top) ht _ _)
      have c74 : w1.cell? ⟨g, 74, none⟩ = some (.bool false) := (row_dk Hg1.out 74).trans (dkC_74 (k := tree0 top) ht _ _)
      have c72 : w1.cell? ⟨g, 72, none⟩ = some (.slice none 0 0) := (row_dk Hg1.out 72).trans (dkC_72 (k := tree0 top) ht _ _)
      have f73 : w1.frozen? ⟨g, 73, none⟩ = false := frozen_of_row _ _ _ _ _ Hg1.out
      have f74 : w1.frozen? ⟨g, 74, none⟩ = false := frozen_of_row _ _ _ _ _ Hg1.out
      obtain ⟨qs, hqs⟩ : ∃ qs, qs = ps.take m := ⟨_, rfl⟩
      rw [← hqs] at HT HSw Hq hqsub hjle
      clear hlo hst HlD HS HLd HL Hrow1 hqs
      by_cases hq20 : m ≤ 20
      · have h20 : decide ((m : Int) ≤ 20) = true := decide_eq_true (by omega)
        by_cases hq0 : m = 0
        · have hqs0 : qs = [] := List.eq_nil_of_length_eq_zero (by rw [← Hq.out]; exact hq0)
          have HT2 : Hid (tailOf top.priv ps = if (false || anyHard []) && !top.priv then none else some ([], true, false)) := Lib.hid (by rw [HT.out, hqs0]; rfl)
          have HS0 : Hid (Sl ((w1.setCell ⟨g, 73, none⟩ (.bool true)).setCell ⟨g, 74, none⟩ (.bool false)) ((w1.setCell ⟨g, 73, none⟩ (.bool true)).setCell ⟨g, 74, none⟩ (.bool false)).heap.size none (U32 [])) := Lib.hid Sl.nil
          subst hq0
          clear hq20 hqs0 HT h20
          have RG := Lib.hid (range_dk (k := ⟨[], top, [], true, false⟩) ht RW.out)
          have HCF := Lib.hid (containsFunc_any none 0 [] (by simp) ((w1.setCell ⟨g, 73, none⟩ (.bool true)).setCell ⟨g, 74, none⟩ (.bool false)) HS0.out)
          obtain ⟨X, hX⟩ : ∃ X, X = anyHard [] := ⟨_, rfl⟩
          rw [← hX] at HCF
          have HX := Lib.hid hX.symm
          clear hX

          go_wp2_with (first | (go_at_call 38; (with_reducible refine (must_yes _).mono ?_); rintro e w' ⟨rfl, rfl⟩))
          refine HCF.out.mono ?_
          rintro e w' ⟨rfl, rfl⟩
          cases X with
          | true =>
            go_wp2_with ((with_reducible refine wpList_load_mid_gd ?c1 59 (.tmp 87) ?c2 g 1 ?c3 (keyC top) _ RG.out Tryz.underlying59 ?c4 IK.out ?_); (case c2 => rfl); (case c3 => rfl); (case c4 => rfl); (case c1 => kernel_rfl))
            refine (HPr.out _).mono ?_
            rintro e w8 ⟨rfl, hb8⟩
            have hbw8 := hbW.trans (hb8.mono hbW.size)
            obtain ⟨p, hp⟩ : ∃ p, p = top.priv := ⟨_, rfl⟩
            have Hp := Lib.hid hp
            rw [← hp]
            have GR := Lib.hid ((hb8.block g (Array.getElem?_eq_some_iff.1 RW.out).1).trans RW.out)
            have GS := Lib.hid ((HS0.out.below hb8).mono hb8.size)
            clear hp hb8
            cases p with
            | false =>
              go_wp2_with (go_at_call 38; (with_reducible refine (must_no _).mono ?_); rintro e w' ⟨rfl, rfl⟩)
              exact ⟨rfl, .inl ⟨rfl, by rw [HT2.out, HX.out, ← Hp.out]; rfl⟩, hbw8⟩
            | true =>
              go_wp2_with (go_at_call 38; (with_reducible refine (must_yes _).mono ?_); rintro e w' ⟨rfl, rfl⟩)
              go_end0
              exact ⟨.inr ⟨rfl, [], true, false, none, 0, by rw [HT2.out, HX.out, ← Hp.out]; rfl, GR.out, GS.out, fun _ h => by cases h⟩, hbw8⟩
          | false =>
            go_wp2_with (go_at_call 38; (with_reducible refine (must_yes _).mono ?_); rintro e w' ⟨rfl, rfl⟩)
            go_end0
            exact ⟨.inr ⟨rfl, [], true, false, none, 0, by rw [HT2.out, HX.out]; rfl, RW.out, HS0.out, fun _ h => by cases h⟩, hbW⟩
        · have hqp : 0 < m := by omega
          have hqp2 : (0 : Int) < (m : Int) := by omega
          obtain ⟨p0, pr, hp0⟩ : ∃ p0 pr, qs = p0 :: pr := by
            cases hh : qs with
            | nil => have := Hq.out; rw [hh] at this; simp at this; omega
            | cons a b => exact ⟨a, b, rfl⟩
          obtain ⟨P0, hP0⟩ : ∃ P0 : ByteArray, P0 = ⟨p0.toArray⟩ := ⟨_, rfl⟩
          have c0 : ((w1.setCell ⟨g, 73, none⟩ (.bool true)).setCell ⟨g, 74, none⟩ (.bool false)).cell? ⟨G, 0, none⟩ = some (.string P0) := by
            obtain ⟨b9, o9, e9, _, hc9⟩ := HSw.out (by rw [ST_length, ← Hq.out]; exact hqp)
            simp at e9
            obtain ⟨rfl, rfl⟩ := e9
            have h9 := hc9 0 (by rw [ST_length, ← Hq.out]; exact hqp)
            rw [Nat.zero_add, ST_get] at h9
            rw [h9, hP0]
            simp only [hp0, List.getElem_cons_zero]
          have Hp0 := Lib.hid hp0
          have HP0 := Lib.hid hP0
          clear hp0 hP0 hq0
          by_cases hm : p0 = [109]
          · have hPm : (P0.toList == [109]) = true := by
              rw [HP0.out, ByteArray.toList_eq]
              simpa using hm
            have HTn : Hid (tailOf top.priv ps = none) := Lib.hid (by
              rw [HT.out]
              have hst : stepsOf qs = none := by rw [Hp0.out, hm]; rfl
              rw [hst]
              split <;> rfl)
            clear hm HT
            go_wp2_with (first | (go_at_call 38; (with_reducible refine (must_yes _).mono ?_); rintro e w' ⟨rfl, rfl⟩) | (go_at_call 38; (with_reducible refine (must_no _).mono ?_); rintro e w' ⟨rfl, rfl⟩))
            exact ⟨rfl, .inl ⟨rfl, HTn.out⟩, hbW⟩
          · have hPm : (P0.toList == [109]) = false := by
              rw [HP0.out, ByteArray.toList_eq]
              simpa using hm
            obtain ⟨J, hJ⟩ : ∃ J, J = Lib.join qs [47] := ⟨_, rfl⟩
            have hJl : J.length ≤ 4096 := by rw [hJ]; exact Nat.le_trans (hjle) Htot.out
            have hqne : qs ≠ [] := by rw [Hp0.out]; simp
            have hJp : pieces 47 J = qs := by rw [hJ]; exact join_pieces 47 _ hqne (fun p hp => Hfree.out p (hqsub p hp))
            have HJoin := Lib.hid (join_any (some ⟨G, 0, none⟩) n qs 47 ((w1.setCell ⟨g, 73, none⟩ (.bool true)).setCell ⟨g, 74, none⟩ (.bool false)) HSw.out (by rw [← Hq.out]; omega) (by rw [← hJ]; omega) (by rw [← Hq.out]; omega))
            rw [← hJ, ← Hq.out] at HJoin
            have HPP : Hid (∀ X, Env X → Calls Tryz.prog 104 #[.string ⟨J.toArray⟩] X fun e W' => ∃ v E, e = .returned (.tuple #[v, .int .i64 ((E : Nat) : Int)]) ∧ ((E = 0 ∧ greatP qs = false ∧ Ow W' X.heap.size 55 v (U32 (numsP qs))) ∨ (E ≠ 0 ∧ greatP qs = true)) ∧ Below X.heap.size X W') := Lib.hid fun X hX => by
              have h := ppath_any ⟨J.toArray⟩ (by show J.toArray.size ≤ 4096; simpa using hJl) (by simp only []; rw [hJp, Hp0.out]; exact hm) (by simp only []; rw [hJp, ← Hq.out]; omega) X hX
              simp only [hJp] at h
              exact h
            clear hm hJ hJl hqne hJp hjle hqsub
            go_wp2_with (first | (go_at_call 38; (with_reducible refine (must_yes _).mono ?_); rintro e w' ⟨rfl, rfl⟩))
            refine HJoin.out.mono ?_
            rintro e w3 ⟨rfl, hb3⟩
            have hbw3 := hbW.trans (hb3.mono hbW.size)
            have hgl : g < ((w1.setCell ⟨g, 73, none⟩ (.bool true)).setCell ⟨g, 74, none⟩ (.bool false)).heap.size := (Array.getElem?_eq_some_iff.1 RW.out).1
            have R3 := Lib.hid ((hb3.block g hgl).trans RW.out)
            have hgl3 : g < w3.heap.size := Nat.lt_of_lt_of_le hgl hb3.size
            clear hb3 c0 HJoin
            go_wp2_with fail
            refine (HPP.out w3 (HE.out.below hbw3)).mono ?_
            rintro e w4 ⟨v, E, rfl, hEE, hb4⟩
            have hbw4 := hbw3.trans (hb4.mono hbw3.size)
            have R4 := Lib.hid ((hb4.block g hgl3).trans R3.out)
            have hgl4 : g < w4.heap.size := Nat.lt_of_lt_of_le hgl3 hb4.size
            clear hb4 R3 HPP
            rcases hEE with ⟨rfl, hgr, ho⟩ | ⟨hE0, hgr⟩
            · obtain ⟨ns, hns⟩ : ∃ ns, ns = numsP qs := ⟨_, rfl⟩
              rw [← hns] at ho
              have hst : stepsOf qs = some ns := by rw [stepsOf_eq, hgr, hns]; rfl
              have HT2 : Hid (tailOf top.priv ps = if (false || anyHard ns) && !top.priv then none else some (ns, true, false)) := Lib.hid (by rw [HT.out, hst, if_neg (by rw [← Hq.out]; omega)])
              have hnl0 : ns.length = m := by rw [hns, numsP, List.length_map, Hq.out]
              obtain ⟨As, cS, rfl, hc1, hc2⟩ := ho.form
              have ho' := ho
              rw [U32_length]
              obtain ⟨nl, hnl1⟩ : ∃ nl, nl = ns.length := ⟨_, rfl⟩
              have HNL := Lib.hid hnl1.symm
              have hnl : ns.length ≤ 4096 := by omega
              rw [← hnl1]
              have c72' : w4.cell? ⟨g, 72, none⟩ = some nilS := (row_dk R4.out 72).trans (dkC_72 ht _ _)
              have f72 : w4.frozen? ⟨g, 72, none⟩ = false := frozen_of_row _ _ _ _ _ R4.out
              have hne72 : ∀ r, rowOf (.slice As ns.length cS) = some r → (⟨g, 72, none⟩ : Addr).block ≠ r := fun r hr e => by
                have h1 := (ho'.row r (by rw [U32_length]; exact hr)).1
                have h2 : g = r := e
                omega
              have HAb : Hid (∀ a, As = some a → w0.heap.size ≤ a.block) := Lib.hid (fun a ha => by
                obtain ⟨A7, c7, e7, h7, _, h8⟩ := ho'
                injection e7 with e7 _ e9
                subst e7 e9
                obtain ⟨g9, _, e8, hb9, _⟩ := h8 (by rw [U32_length] at h7; omega)
                rw [e8] at ha
                injection ha with ha
                subst ha
                exact Nat.le_trans hbw3.size hb9)
              have HS5 : Hid (Sl (w4.setCell ⟨g, 72, none⟩ (.slice As nl cS)) (w4.setCell ⟨g, 72, none⟩ (.slice As nl cS)).heap.size As (U32 ns)) := Lib.hid (by
                have h1 := ho'.setCell (p := ⟨g, 72, none⟩) (by rw [U32_length]; exact hne72) (.slice As nl cS)
                exact h1.sl)
              have R5 : Hid ((w4.setCell ⟨g, 72, none⟩ (.slice As nl cS)).heap[g]? = some (.cells (dkC ⟨[], top, ns, true, false⟩ nilS (.slice As nl cS)).toArray 62 (0, 0))) := Lib.hid (by
                rw [heap_setCell_same _ _ _ _ _ _ R4.out]; exact congrArg (fun c => some (Obj.cells c 62 (0, 0))) (dkC_set72 (k := ⟨[], top, [], true, false⟩) ht nilS nilS (.slice As nl cS)))
              have hbw5 : Below w0.heap.size w0 (w4.setCell ⟨g, 72, none⟩ (.slice As nl cS)) := hbw4.setCell (p := ⟨g, 72, none⟩) hg0 _
              have c74' : w4.cell? ⟨g, 74, none⟩ = some (.bool false) := (row_dk R4.out 74).trans (dkC_74 ht _ _)
              clear HT hst hns hgr ho ho' hc1 hc2 hnl1 hnl0 hne72
              have RG := Lib.hid (range_dk (k := ⟨[], top, ns, true, false⟩) ht R5.out)
              have HCF := Lib.hid (containsFunc_any As cS ns hnl (w4.setCell ⟨g, 72, none⟩ (.slice As nl cS)) HS5.out)
              obtain ⟨X, hX⟩ : ∃ X, X = anyHard ns := ⟨_, rfl⟩
              rw [← hX] at HCF
              have HX := Lib.hid hX.symm
              clear hX
              rw [HNL.out] at HCF
              go_wp2_with (go_at_call 38; (with_reducible refine (must_yes _).mono ?_); rintro e w' ⟨rfl, rfl⟩)
              refine HCF.out.mono ?_
              rintro e w' ⟨rfl, rfl⟩
              cases X with
              | true =>
                go_wp2_with ((with_reducible refine wpList_load_mid_gd ?c1 59 (.tmp 87) ?c2 g 1 ?c3 (keyC top) _ RG.out Tryz.underlying59 ?c4 IK.out ?_); (case c2 => rfl); (case c3 => rfl); (case c4 => rfl); (case c1 => kernel_rfl))
                refine (HPr.out _).mono ?_
                rintro e w8 ⟨rfl, hb8⟩
                have hbw8 := hbw5.trans (hb8.mono hbw5.size)
                obtain ⟨p, hp⟩ : ∃ p, p = top.priv := ⟨_, rfl⟩
                have Hp := Lib.hid hp
                rw [← hp]
                have GR := Lib.hid ((hb8.block g (Array.getElem?_eq_some_iff.1 R5.out).1).trans R5.out)
                have GS := Lib.hid ((HS5.out.below hb8).mono hb8.size)
                clear hp hb8
                cases p with
                | false =>
                  go_wp2_with (go_at_call 38; (with_reducible refine (must_no _).mono ?_); rintro e w' ⟨rfl, rfl⟩)
                  exact ⟨rfl, .inl ⟨rfl, by rw [HT2.out, HX.out, ← Hp.out]; rfl⟩, hbw8⟩
                | true =>
                  go_wp2_with (go_at_call 38; (with_reducible refine (must_yes _).mono ?_); rintro e w' ⟨rfl, rfl⟩)
                  go_end0
                  exact ⟨.inr ⟨rfl, ns, true, false, As, cS, by rw [HT2.out, HX.out, ← Hp.out]; rfl, (by rw [HNL.out]; exact GR.out), GS.out, HAb.out⟩, hbw8⟩
              | false =>
                go_wp2_with (go_at_call 38; (with_reducible refine (must_yes _).mono ?_); rintro e w' ⟨rfl, rfl⟩)
                go_end0
                exact ⟨.inr ⟨rfl, ns, true, false, As, cS, by rw [HT2.out, HX.out]; rfl, (by rw [HNL.out]; exact R5.out), HS5.out, HAb.out⟩, hbw5⟩
            · have HTn : Hid (tailOf top.priv ps = none) := Lib.hid (by
                rw [HT.out]
                have hst : stepsOf qs = none := by rw [stepsOf_eq, hgr]; rfl
                rw [hst]
                split <;> rfl)
              have hEI : decide ((E : Int) = 0) = false := decide_eq_false (by omega)
              have hEI2 : ((E : Int) == 0) = false := by simpa using hE0
              clear HT hgr hE0
              go_wp2_with (go_at_call 38; (with_reducible refine (must_no _).mono ?_); rintro e w' ⟨rfl, rfl⟩)
              exact ⟨rfl, .inl ⟨rfl, HTn.out⟩, hbw4⟩
      · have HTn : Hid (tailOf top.priv ps = none) := Lib.hid (by rw [HT.out, if_pos (by rw [← Hq.out]; omega)])
        have h20 : decide ((m : Int) ≤ 20) = false := decide_eq_false (by omega)
        clear HT hq20
        go_wp2_with (first | (go_at_call 38; (with_reducible refine (must_yes _).mono ?_); rintro e w' ⟨rfl, rfl⟩) | (go_at_call 38; (with_reducible refine (must_no _).mono ?_); rintro e w' ⟨rfl, rfl⟩))
        exact ⟨rfl, .inl ⟨rfl, HTn.out⟩, hbW⟩
    · have hLB : (L.toList == [42]) = false := by rw [ByteArray.toList_eq, HLd.out]; simpa using hB
      by_cases h2 : last.length = 2
      · have hLs : L.size = 2 := by
          have h1 := congrArg List.length HLd.out
          rw [h2] at h1
          simpa using h1
        obtain ⟨c, hc⟩ : ∃ c, last = [42, c] := by
          match last, h2, hst with
          | [a, b], _, hst => simp at hst; exact ⟨b, by rw [hst]⟩
        have hex : L.extract 1 2 = (⟨#[c]⟩ : ByteArray) := by
          rw [HL.out, hc]; rfl
        obtain ⟨mx, hmx⟩ := (HE.out.below hb1).max
        have HCt := Lib.hid (Tryz.strings_Contains ⟨marksL.toArray⟩ ⟨#[c]⟩ mx w1 (by decide) hmx)
        rw [show (⟨marksL.toArray⟩ : ByteArray).data.toList = marksL from rfl, show (⟨#[c]⟩ : ByteArray).data.toList = [c] from rfl, contains_marks] at HCt
        clear hmx
        by_cases hh : isHardC c = true
        · rw [hh] at HCt
          have hlo : lastOf last = some (true, true) := by rw [lastOf, if_pos hst, if_neg hB, if_pos ⟨h2, by rw [hc]; exact hh⟩]
          clear hcl hB hh hc h2
          have HT := Lib.hid (tail_eq top.priv ps (ps.take m) true true (by rw [HlD.out]; exact hlo) (by rw [if_pos rfl, List.dropLast_eq_take, ← Hn.out, Hm.out, Nat.add_sub_cancel]))
          have RW : Hid (((w1.setCell ⟨g, 73, none⟩ (.bool true)).setCell ⟨g, 74, none⟩ (.bool true)).heap[g]? = some (.cells (dkC ⟨[], top, [], true, true⟩ nilS nilS).toArray 62 (0, 0))) := Lib.hid (by
            have h1 := heap_setCell_same w1 g 73 _ _ (Value.bool true) Hg1.out
            rw [dkC_set73 (k := tree0 top) ht] at h1
            have h2 := heap_setCell_same _ g 74 _ _ (Value.bool true) h1
            rw [dkC_set74 (k := { tree0 top with ranged := true }) ht] at h2
            exact h2)
          have HSw : Hid (Sl ((w1.setCell ⟨g, 73, none⟩ (.bool true)).setCell ⟨g, 74, none⟩ (.bool true)) ((w1.setCell ⟨g, 73, none⟩ (.bool true)).setCell ⟨g, 74, none⟩ (.bool true)).heap.size (some ⟨G, 0, none⟩) (ST (ps.take m))) := Lib.hid (by
            rw [ST_take]
            refine (sl_row (cs := ST ps) (g := G) (t := 9) (fr := (0, 0)) ?_).take m
            rw [Below.heap_setCell _ _ _ _ (show G ≠ g by omega), Below.heap_setCell _ _ _ _ (show G ≠ g by omega)]
            exact Hrow1.out)
          have hbW : Below w0.heap.size w0 ((w1.setCell ⟨g, 73, none⟩ (.bool true)).setCell ⟨g, 74, none⟩ (.bool true)) := (hb1.setCell (p := ⟨g, 73, none⟩) hg0 _).setCell (p := ⟨g, 74, none⟩) hg0 _
          have Hq : Hid (m = (ps.take m).length) := Lib.hid (by rw [List.length_take]; have := Hn.out; omega)
          have hqsub : ∀ p ∈ ps.take m, p ∈ ps := fun p hp => List.mem_of_mem_take hp
          have hjle : (Lib.join (ps.take m) [47]).length ≤ (Lib.join ps [47]).length := join_take_le 47 ps m
          have c73 : w1.cell? ⟨g, 73, none⟩ = some (.bool false) := (row_dk Hg1.out 73).trans (dkC_73 (k := tree0 top) ht _ _)
          have c74 : w1.cell? ⟨g, 74, none⟩ = some (.bool false) := (row_dk Hg1.out 74).trans (dkC_74 (k := tree0 top) ht _ _)
          have c72 : w1.cell? ⟨g, 72, none⟩ = some (.slice none 0 0) := (row_dk Hg1.out 72).trans (dkC_72 (k := tree0 top) ht _ _)
          have f73 : w1.frozen? ⟨g, 73, none⟩ = false := frozen_of_row _ _ _ _ _ Hg1.out
          have f74 : w1.frozen? ⟨g, 74, none⟩ = false := frozen_of_row _ _ _ _ _ Hg1.out
          obtain ⟨qs, hqs⟩ : ∃ qs, qs = ps.take m := ⟨_, rfl⟩
          rw [← hqs] at HT HSw Hq hqsub hjle
          clear hlo hst HlD HS HLd HL Hrow1 hqs
          by_cases hq20 : m ≤ 20
          · have h20 : decide ((m : Int) ≤ 20) = true := decide_eq_true (by omega)
            by_cases hq0 : m = 0
            · have hqs0 : qs = [] := List.eq_nil_of_length_eq_zero (by rw [← Hq.out]; exact hq0)
              have HT2 : Hid (tailOf top.priv ps = if (true || anyHard []) && !top.priv then none else some ([], true, true)) := Lib.hid (by rw [HT.out, hqs0]; rfl)
              have HS0 : Hid (Sl ((w1.setCell ⟨g, 73, none⟩ (.bool true)).setCell ⟨g, 74, none⟩ (.bool true)) ((w1.setCell ⟨g, 73, none⟩ (.bool true)).setCell ⟨g, 74, none⟩ (.bool true)).heap.size none (U32 [])) := Lib.hid Sl.nil
              subst hq0
              clear hq20 hqs0 HT h20
              have RG := Lib.hid (range_dk (k := ⟨[], top, [], true, true⟩) ht RW.out)
              go_wp2_with (first | (go_at_call 38; (with_reducible refine (must_yes _).mono ?_); rintro e w' ⟨rfl, rfl⟩) | (go_at_call 103; refine (HCt.out).mono ?_; rintro e w' ⟨rfl, hww⟩; rw [hww]; clear hww) | ((with_reducible refine wpList_load_mid_gd ?c1 59 (.tmp 87) ?c2 g 1 ?c3 (keyC top) _ RG.out Tryz.underlying59 ?c4 IK.out ?_); (case c2 => rfl); (case c3 => rfl); (case c4 => rfl); (case c1 => kernel_rfl)))
              refine (HPr.out _).mono ?_
              rintro e w8 ⟨rfl, hb8⟩
              have hbw8 := hbW.trans (hb8.mono hbW.size)
              obtain ⟨p, hp⟩ : ∃ p, p = top.priv := ⟨_, rfl⟩
              have Hp := Lib.hid hp
              rw [← hp]
              have GR := Lib.hid ((hb8.block g (Array.getElem?_eq_some_iff.1 RW.out).1).trans RW.out)
              have GS := Lib.hid ((HS0.out.below hb8).mono hb8.size)
              clear hp hb8
              cases p with
              | false =>
                go_wp2_with (go_at_call 38; (with_reducible refine (must_no _).mono ?_); rintro e w' ⟨rfl, rfl⟩)
                exact ⟨rfl, .inl ⟨rfl, by rw [HT2.out, ← Hp.out]; rfl⟩, hbw8⟩
              | true =>
                go_wp2_with (go_at_call 38; (with_reducible refine (must_yes _).mono ?_); rintro e w' ⟨rfl, rfl⟩)
                go_end0
                exact ⟨.inr ⟨rfl, [], true, true, none, 0, by rw [HT2.out, ← Hp.out]; rfl, GR.out, GS.out, fun _ h => by cases h⟩, hbw8⟩
            · have hqp : 0 < m := by omega
              have hqp2 : (0 : Int) < (m : Int) := by omega
              obtain ⟨p0, pr, hp0⟩ : ∃ p0 pr, qs = p0 :: pr := by
                cases hh : qs with
                | nil => have := Hq.out; rw [hh] at this; simp at this; omega
                | cons a b => exact ⟨a, b, rfl⟩
              obtain ⟨P0, hP0⟩ : ∃ P0 : ByteArray, P0 = ⟨p0.toArray⟩ := ⟨_, rfl⟩
              have c0 : ((w1.setCell ⟨g, 73, none⟩ (.bool true)).setCell ⟨g, 74, none⟩ (.bool true)).cell? ⟨G, 0, none⟩ = some (.string P0) := by
                obtain ⟨b9, o9, e9, _, hc9⟩ := HSw.out (by rw [ST_length, ← Hq.out]; exact hqp)
                simp at e9
                obtain ⟨rfl, rfl⟩ := e9
                have h9 := hc9 0 (by rw [ST_length, ← Hq.out]; exact hqp)
                rw [Nat.zero_add, ST_get] at h9
                rw [h9, hP0]
                simp only [hp0, List.getElem_cons_zero]
              have Hp0 := Lib.hid hp0
              have HP0 := Lib.hid hP0
              clear hp0 hP0 hq0
              by_cases hm : p0 = [109]
              · have hPm : (P0.toList == [109]) = true := by
                  rw [HP0.out, ByteArray.toList_eq]
                  simpa using hm
                have HTn : Hid (tailOf top.priv ps = none) := Lib.hid (by
                  rw [HT.out]
                  have hst : stepsOf qs = none := by rw [Hp0.out, hm]; rfl
                  rw [hst]
                  split <;> rfl)
                clear hm HT
                go_wp2_with (first | (go_at_call 38; (with_reducible refine (must_yes _).mono ?_); rintro e w' ⟨rfl, rfl⟩) | (go_at_call 38; (with_reducible refine (must_no _).mono ?_); rintro e w' ⟨rfl, rfl⟩) | (go_at_call 103; refine (HCt.out).mono ?_; rintro e w' ⟨rfl, hww⟩; rw [hww]; clear hww))
                exact ⟨rfl, .inl ⟨rfl, HTn.out⟩, hbW⟩
              · have hPm : (P0.toList == [109]) = false := by
                  rw [HP0.out, ByteArray.toList_eq]
                  simpa using hm
                obtain ⟨J, hJ⟩ : ∃ J, J = Lib.join qs [47] := ⟨_, rfl⟩
                have hJl : J.length ≤ 4096 := by rw [hJ]; exact Nat.le_trans (hjle) Htot.out
                have hqne : qs ≠ [] := by rw [Hp0.out]; simp
                have hJp : pieces 47 J = qs := by rw [hJ]; exact join_pieces 47 _ hqne (fun p hp => Hfree.out p (hqsub p hp))
                have HJoin := Lib.hid (join_any (some ⟨G, 0, none⟩) n qs 47 ((w1.setCell ⟨g, 73, none⟩ (.bool true)).setCell ⟨g, 74, none⟩ (.bool true)) HSw.out (by rw [← Hq.out]; omega) (by rw [← hJ]; omega) (by rw [← Hq.out]; omega))
                rw [← hJ, ← Hq.out] at HJoin
                have HPP : Hid (∀ X, Env X → Calls Tryz.prog 104 #[.string ⟨J.toArray⟩] X fun e W' => ∃ v E, e = .returned (.tuple #[v, .int .i64 ((E : Nat) : Int)]) ∧ ((E = 0 ∧ greatP qs = false ∧ Ow W' X.heap.size 55 v (U32 (numsP qs))) ∨ (E ≠ 0 ∧ greatP qs = true)) ∧ Below X.heap.size X W') := Lib.hid fun X hX => by
                  have h := ppath_any ⟨J.toArray⟩ (by show J.toArray.size ≤ 4096; simpa using hJl) (by simp only []; rw [hJp, Hp0.out]; exact hm) (by simp only []; rw [hJp, ← Hq.out]; omega) X hX
                  simp only [hJp] at h
                  exact h
                clear hm hJ hJl hqne hJp hjle hqsub
                go_wp2_with (first | (go_at_call 38; (with_reducible refine (must_yes _).mono ?_); rintro e w' ⟨rfl, rfl⟩) | (go_at_call 103; refine (HCt.out).mono ?_; rintro e w' ⟨rfl, hww⟩; rw [hww]; clear hww))
                refine HJoin.out.mono ?_
                rintro e w3 ⟨rfl, hb3⟩
                have hbw3 := hbW.trans (hb3.mono hbW.size)
                have hgl : g < ((w1.setCell ⟨g, 73, none⟩ (.bool true)).setCell ⟨g, 74, none⟩ (.bool true)).heap.size := (Array.getElem?_eq_some_iff.1 RW.out).1
                have R3 := Lib.hid ((hb3.block g hgl).trans RW.out)
                have hgl3 : g < w3.heap.size := Nat.lt_of_lt_of_le hgl hb3.size
                clear hb3 c0 HJoin
                go_wp2_with fail
                refine (HPP.out w3 (HE.out.below hbw3)).mono ?_
                rintro e w4 ⟨v, E, rfl, hEE, hb4⟩
                have hbw4 := hbw3.trans (hb4.mono hbw3.size)
                have R4 := Lib.hid ((hb4.block g hgl3).trans R3.out)
                have hgl4 : g < w4.heap.size := Nat.lt_of_lt_of_le hgl3 hb4.size
                clear hb4 R3 HPP
                rcases hEE with ⟨rfl, hgr, ho⟩ | ⟨hE0, hgr⟩
                · obtain ⟨ns, hns⟩ : ∃ ns, ns = numsP qs := ⟨_, rfl⟩
                  rw [← hns] at ho
                  have hst : stepsOf qs = some ns := by rw [stepsOf_eq, hgr, hns]; rfl
                  have HT2 : Hid (tailOf top.priv ps = if (true || anyHard ns) && !top.priv then none else some (ns, true, true)) := Lib.hid (by rw [HT.out, hst, if_neg (by rw [← Hq.out]; omega)])
                  have hnl0 : ns.length = m := by rw [hns, numsP, List.length_map, Hq.out]
                  obtain ⟨As, cS, rfl, hc1, hc2⟩ := ho.form
                  have ho' := ho
                  rw [U32_length]
                  obtain ⟨nl, hnl1⟩ : ∃ nl, nl = ns.length := ⟨_, rfl⟩
                  have HNL := Lib.hid hnl1.symm
                  have hnl : ns.length ≤ 4096 := by omega
                  rw [← hnl1]
                  have c72' : w4.cell? ⟨g, 72, none⟩ = some nilS := (row_dk R4.out 72).trans (dkC_72 ht _ _)
                  have f72 : w4.frozen? ⟨g, 72, none⟩ = false := frozen_of_row _ _ _ _ _ R4.out
                  have hne72 : ∀ r, rowOf (.slice As ns.length cS) = some r → (⟨g, 72, none⟩ : Addr).block ≠ r := fun r hr e => by
                    have h1 := (ho'.row r (by rw [U32_length]; exact hr)).1
                    have h2 : g = r := e
                    omega
                  have HAb : Hid (∀ a, As = some a → w0.heap.size ≤ a.block) := Lib.hid (fun a ha => by
                    obtain ⟨A7, c7, e7, h7, _, h8⟩ := ho'
                    injection e7 with e7 _ e9
                    subst e7 e9
                    obtain ⟨g9, _, e8, hb9, _⟩ := h8 (by rw [U32_length] at h7; omega)
                    rw [e8] at ha
                    injection ha with ha
                    subst ha
                    exact Nat.le_trans hbw3.size hb9)
                  have HS5 : Hid (Sl (w4.setCell ⟨g, 72, none⟩ (.slice As nl cS)) (w4.setCell ⟨g, 72, none⟩ (.slice As nl cS)).heap.size As (U32 ns)) := Lib.hid (by
                    have h1 := ho'.setCell (p := ⟨g, 72, none⟩) (by rw [U32_length]; exact hne72) (.slice As nl cS)
                    exact h1.sl)
                  have R5 : Hid ((w4.setCell ⟨g, 72, none⟩ (.slice As nl cS)).heap[g]? = some (.cells (dkC ⟨[], top, ns, true, true⟩ nilS (.slice As nl cS)).toArray 62 (0, 0))) := Lib.hid (by
                    rw [heap_setCell_same _ _ _ _ _ _ R4.out]; exact congrArg (fun c => some (Obj.cells c 62 (0, 0))) (dkC_set72 (k := ⟨[], top, [], true, true⟩) ht nilS nilS (.slice As nl cS)))
                  have hbw5 : Below w0.heap.size w0 (w4.setCell ⟨g, 72, none⟩ (.slice As nl cS)) := hbw4.setCell (p := ⟨g, 72, none⟩) hg0 _
                  have c74' : w4.cell? ⟨g, 74, none⟩ = some (.bool true) := (row_dk R4.out 74).trans (dkC_74 ht _ _)
                  clear HT hst hns hgr ho ho' hc1 hc2 hnl1 hnl0 hne72
                  have RG := Lib.hid (range_dk (k := ⟨[], top, ns, true, true⟩) ht R5.out)
                  go_wp2_with (first | (go_at_call 38; (with_reducible refine (must_yes _).mono ?_); rintro e w' ⟨rfl, rfl⟩) | ((with_reducible refine wpList_load_mid_gd ?c1 59 (.tmp 87) ?c2 g 1 ?c3 (keyC top) _ RG.out Tryz.underlying59 ?c4 IK.out ?_); (case c2 => rfl); (case c3 => rfl); (case c4 => rfl); (case c1 => kernel_rfl)))
                  refine (HPr.out _).mono ?_
                  rintro e w8 ⟨rfl, hb8⟩
                  have hbw8 := hbw5.trans (hb8.mono hbw5.size)
                  obtain ⟨p, hp⟩ : ∃ p, p = top.priv := ⟨_, rfl⟩
                  have Hp := Lib.hid hp
                  rw [← hp]
                  have GR := Lib.hid ((hb8.block g (Array.getElem?_eq_some_iff.1 R5.out).1).trans R5.out)
                  have GS := Lib.hid ((HS5.out.below hb8).mono hb8.size)
                  clear hp hb8
                  cases p with
                  | false =>
                    go_wp2_with (go_at_call 38; (with_reducible refine (must_no _).mono ?_); rintro e w' ⟨rfl, rfl⟩)
                    exact ⟨rfl, .inl ⟨rfl, by rw [HT2.out, ← Hp.out]; rfl⟩, hbw8⟩
                  | true =>
                    go_wp2_with (go_at_call 38; (with_reducible refine (must_yes _).mono ?_); rintro e w' ⟨rfl, rfl⟩)
                    go_end0
                    exact ⟨.inr ⟨rfl, ns, true, true, As, cS, by rw [HT2.out, ← Hp.out]; rfl, (by rw [HNL.out]; exact GR.out), GS.out, HAb.out⟩, hbw8⟩
                · have HTn : Hid (tailOf top.priv ps = none) := Lib.hid (by
                    rw [HT.out]
                    have hst : stepsOf qs = none := by rw [stepsOf_eq, hgr]; rfl
                    rw [hst]
                    split <;> rfl)
                  have hEI : decide ((E : Int) = 0) = false := decide_eq_false (by omega)
                  have hEI2 : ((E : Int) == 0) = false := by simpa using hE0
                  clear HT hgr hE0
                  go_wp2_with (go_at_call 38; (with_reducible refine (must_no _).mono ?_); rintro e w' ⟨rfl, rfl⟩)
                  exact ⟨rfl, .inl ⟨rfl, HTn.out⟩, hbw4⟩
          · have HTn : Hid (tailOf top.priv ps = none) := Lib.hid (by rw [HT.out, if_pos (by rw [← Hq.out]; omega)])
            have h20 : decide ((m : Int) ≤ 20) = false := decide_eq_false (by omega)
            clear HT hq20
            go_wp2_with (first | (go_at_call 38; (with_reducible refine (must_yes _).mono ?_); rintro e w' ⟨rfl, rfl⟩) | (go_at_call 38; (with_reducible refine (must_no _).mono ?_); rintro e w' ⟨rfl, rfl⟩) | (go_at_call 103; refine (HCt.out).mono ?_; rintro e w' ⟨rfl, hww⟩; rw [hww]; clear hww))
            exact ⟨rfl, .inl ⟨rfl, HTn.out⟩, hbW⟩
        · have hlo : lastOf last = none := by rw [lastOf, if_pos hst, if_neg hB, if_neg (by rw [hc]; exact fun h => hh h.2)]
          have HTn : Hid (tailOf top.priv ps = none) := Lib.hid (tail_none _ _ (by rw [HlD.out]; exact hlo))
          rw [show isHardC c = false by simpa using hh] at HCt
          clear hcl hB hh hc h2 hlo hst HLd HlD HL
          go_wp2_with (first | (go_at_call 103; refine (HCt.out).mono ?_; rintro e w' ⟨rfl, hww⟩; rw [hww]; clear hww) | (go_at_call 38; (with_reducible refine (must_no _).mono ?_); rintro e w' ⟨rfl, rfl⟩))
          exact ⟨rfl, .inl ⟨rfl, HTn.out⟩, hb1⟩
      · have hlo : lastOf last = none := by rw [lastOf, if_pos hst, if_neg hB, if_neg (fun h => h2 h.1)]
        have HTn : Hid (tailOf top.priv ps = none) := Lib.hid (tail_none _ _ (by rw [HlD.out]; exact hlo))
        have hLs : ¬ L.size = 2 := fun e => h2 (by have h1 := congrArg List.length HLd.out; rw [← h1]; simpa using e)
        have hLsI : ((L.size : Int) == 2) = false := by simp; omega
        clear hcl hB h2 hlo hst HLd HlD HL
        go_wp2_with (go_at_call 38; (with_reducible refine (must_no _).mono ?_); rintro e w' ⟨rfl, rfl⟩)
        exact ⟨rfl, .inl ⟨rfl, HTn.out⟩, hb1⟩
  · rw [decide_eq_false hst]
    have hlo : lastOf last = some (false, false) := by rw [lastOf, if_neg hst]
    have HT := Lib.hid (tail_eq top.priv ps ps false false (by rw [HlD.out]; exact hlo) rfl)
    have HSw : Hid (Sl w1 w1.heap.size (some ⟨G, 0, none⟩) (ST ps)) := Lib.hid (HS.out.mono (by have := Hz1.out; omega))
    have Hq := Hn
    have hqsub : ∀ p ∈ ps, p ∈ ps := fun _ h => h
    have hjle : (Lib.join ps [47]).length ≤ (Lib.join ps [47]).length := Nat.le_refl _
    clear hlo hst hcl hmi HlD HS HLd HL
    by_cases hq20 : n ≤ 20
    · have h20 : decide ((n : Int) ≤ 20) = true := decide_eq_true (by omega)
      by_cases hq0 : n = 0
      · exact absurd hq0 (by omega)
      · have hqp : 0 < n := by omega
        have hqp2 : (0 : Int) < (n : Int) := by omega
        obtain ⟨p0, pr, hp0⟩ : ∃ p0 pr, ps = p0 :: pr := by
          cases hh : ps with
          | nil => have := Hq.out; rw [hh] at this; simp at this; omega
          | cons a b => exact ⟨a, b, rfl⟩
        obtain ⟨P0, hP0⟩ : ∃ P0 : ByteArray, P0 = ⟨p0.toArray⟩ := ⟨_, rfl⟩
        have c0 : w1.cell? ⟨G, 0, none⟩ = some (.string P0) := by
          obtain ⟨b9, o9, e9, _, hc9⟩ := HSw.out (by rw [ST_length, ← Hq.out]; exact hqp)
          simp at e9
          obtain ⟨rfl, rfl⟩ := e9
          have h9 := hc9 0 (by rw [ST_length, ← Hq.out]; exact hqp)
          rw [Nat.zero_add, ST_get] at h9
          rw [h9, hP0]
          simp only [hp0, List.getElem_cons_zero]
        have Hp0 := Lib.hid hp0
        have HP0 := Lib.hid hP0
        clear hp0 hP0 hq0
        by_cases hm : p0 = [109]
        · have hPm : (P0.toList == [109]) = true := by
            rw [HP0.out, ByteArray.toList_eq]
            simpa using hm
          have HTn : Hid (tailOf top.priv ps = none) := Lib.hid (by
            rw [HT.out]
            have hst : stepsOf ps = none := by rw [Hp0.out, hm]; rfl
            rw [hst]
            split <;> rfl)
          clear hm HT
          go_wp2_with (first | (go_at_call 38; (with_reducible refine (must_yes _).mono ?_); rintro e w' ⟨rfl, rfl⟩) | (go_at_call 38; (with_reducible refine (must_no _).mono ?_); rintro e w' ⟨rfl, rfl⟩))
          exact ⟨rfl, .inl ⟨rfl, HTn.out⟩, hb1⟩
        · have hPm : (P0.toList == [109]) = false := by
            rw [HP0.out, ByteArray.toList_eq]
            simpa using hm
          obtain ⟨J, hJ⟩ : ∃ J, J = Lib.join ps [47] := ⟨_, rfl⟩
          have hJl : J.length ≤ 4096 := by rw [hJ]; exact Nat.le_trans (hjle) Htot.out
          have hqne : ps ≠ [] := by rw [Hp0.out]; simp
          have hJp : pieces 47 J = ps := by rw [hJ]; exact join_pieces 47 _ hqne (fun p hp => Hfree.out p (hqsub p hp))
          have HJoin := Lib.hid (join_any (some ⟨G, 0, none⟩) n ps 47 w1 HSw.out (by rw [← Hq.out]; omega) (by rw [← hJ]; omega) (by rw [← Hq.out]; omega))
          rw [← hJ, ← Hq.out] at HJoin
          have HPP : Hid (∀ X, Env X → Calls Tryz.prog 104 #[.string ⟨J.toArray⟩] X fun e W' => ∃ v E, e = .returned (.tuple #[v, .int .i64 ((E : Nat) : Int)]) ∧ ((E = 0 ∧ greatP ps = false ∧ Ow W' X.heap.size 55 v (U32 (numsP ps))) ∨ (E ≠ 0 ∧ greatP ps = true)) ∧ Below X.heap.size X W') := Lib.hid fun X hX => by
            have h := ppath_any ⟨J.toArray⟩ (by show J.toArray.size ≤ 4096; simpa using hJl) (by simp only []; rw [hJp, Hp0.out]; exact hm) (by simp only []; rw [hJp, ← Hq.out]; omega) X hX
            simp only [hJp] at h
            exact h
          clear hm hJ hJl hqne hJp hjle hqsub
          go_wp2_with (first | (go_at_call 38; (with_reducible refine (must_yes _).mono ?_); rintro e w' ⟨rfl, rfl⟩))
          refine HJoin.out.mono ?_
          rintro e w3 ⟨rfl, hb3⟩
          have hbw3 := hb1.trans (hb3.mono hb1.size)
          have hgl : g < w1.heap.size := (Array.getElem?_eq_some_iff.1 Hg1.out).1
          have R3 := Lib.hid ((hb3.block g hgl).trans Hg1.out)
          have hgl3 : g < w3.heap.size := Nat.lt_of_lt_of_le hgl hb3.size
          clear hb3 c0 HJoin
          go_wp2_with fail
          refine (HPP.out w3 (HE.out.below hbw3)).mono ?_
          rintro e w4 ⟨v, E, rfl, hEE, hb4⟩
          have hbw4 := hbw3.trans (hb4.mono hbw3.size)
          have R4 := Lib.hid ((hb4.block g hgl3).trans R3.out)
          have hgl4 : g < w4.heap.size := Nat.lt_of_lt_of_le hgl3 hb4.size
          clear hb4 R3 HPP
          rcases hEE with ⟨rfl, hgr, ho⟩ | ⟨hE0, hgr⟩
          · obtain ⟨ns, hns⟩ : ∃ ns, ns = numsP ps := ⟨_, rfl⟩
            rw [← hns] at ho
            have hst : stepsOf ps = some ns := by rw [stepsOf_eq, hgr, hns]; rfl
            have HT2 : Hid (tailOf top.priv ps = if (false || anyHard ns) && !top.priv then none else some (ns, false, false)) := Lib.hid (by rw [HT.out, hst, if_neg (by rw [← Hq.out]; omega)])
            have hnl0 : ns.length = n := by rw [hns, numsP, List.length_map, Hq.out]
            obtain ⟨As, cS, rfl, hc1, hc2⟩ := ho.form
            have ho' := ho
            rw [U32_length]
            obtain ⟨nl, hnl1⟩ : ∃ nl, nl = ns.length := ⟨_, rfl⟩
            have HNL := Lib.hid hnl1.symm
            have hnl : ns.length ≤ 4096 := by omega
            rw [← hnl1]
            have c72' : w4.cell? ⟨g, 72, none⟩ = some nilS := (row_dk R4.out 72).trans (dkC_72 ht _ _)
            have f72 : w4.frozen? ⟨g, 72, none⟩ = false := frozen_of_row _ _ _ _ _ R4.out
            have hne72 : ∀ r, rowOf (.slice As ns.length cS) = some r → (⟨g, 72, none⟩ : Addr).block ≠ r := fun r hr e => by
              have h1 := (ho'.row r (by rw [U32_length]; exact hr)).1
              have h2 : g = r := e
              omega
            have HAb : Hid (∀ a, As = some a → w0.heap.size ≤ a.block) := Lib.hid (fun a ha => by
              obtain ⟨A7, c7, e7, h7, _, h8⟩ := ho'
              injection e7 with e7 _ e9
              subst e7 e9
              obtain ⟨g9, _, e8, hb9, _⟩ := h8 (by rw [U32_length] at h7; omega)
              rw [e8] at ha
              injection ha with ha
              subst ha
              exact Nat.le_trans hbw3.size hb9)
            have HS5 : Hid (Sl (w4.setCell ⟨g, 72, none⟩ (.slice As nl cS)) (w4.setCell ⟨g, 72, none⟩ (.slice As nl cS)).heap.size As (U32 ns)) := Lib.hid (by
              have h1 := ho'.setCell (p := ⟨g, 72, none⟩) (by rw [U32_length]; exact hne72) (.slice As nl cS)
              exact h1.sl)
            have R5 : Hid ((w4.setCell ⟨g, 72, none⟩ (.slice As nl cS)).heap[g]? = some (.cells (dkC ⟨[], top, ns, false, false⟩ nilS (.slice As nl cS)).toArray 62 (0, 0))) := Lib.hid (by
              rw [heap_setCell_same _ _ _ _ _ _ R4.out]; exact congrArg (fun c => some (Obj.cells c 62 (0, 0))) (dkC_set72 (k := ⟨[], top, [], false, false⟩) ht nilS nilS (.slice As nl cS)))
            have hbw5 : Below w0.heap.size w0 (w4.setCell ⟨g, 72, none⟩ (.slice As nl cS)) := hbw4.setCell (p := ⟨g, 72, none⟩) hg0 _
            have c74' : w4.cell? ⟨g, 74, none⟩ = some (.bool false) := (row_dk R4.out 74).trans (dkC_74 ht _ _)
            clear HT hst hns hgr ho ho' hc1 hc2 hnl1 hnl0 hne72
            have RG := Lib.hid (range_dk (k := ⟨[], top, ns, false, false⟩) ht R5.out)
            have HCF := Lib.hid (containsFunc_any As cS ns hnl (w4.setCell ⟨g, 72, none⟩ (.slice As nl cS)) HS5.out)
            obtain ⟨X, hX⟩ : ∃ X, X = anyHard ns := ⟨_, rfl⟩
            rw [← hX] at HCF
            have HX := Lib.hid hX.symm
            clear hX
            rw [HNL.out] at HCF
            go_wp2_with (go_at_call 38; (with_reducible refine (must_yes _).mono ?_); rintro e w' ⟨rfl, rfl⟩)
            refine HCF.out.mono ?_
            rintro e w' ⟨rfl, rfl⟩
            cases X with
            | true =>
              go_wp2_with ((with_reducible refine wpList_load_mid_gd ?c1 59 (.tmp 87) ?c2 g 1 ?c3 (keyC top) _ RG.out Tryz.underlying59 ?c4 IK.out ?_); (case c2 => rfl); (case c3 => rfl); (case c4 => rfl); (case c1 => kernel_rfl))
              refine (HPr.out _).mono ?_
              rintro e w8 ⟨rfl, hb8⟩
              have hbw8 := hbw5.trans (hb8.mono hbw5.size)
              obtain ⟨p, hp⟩ : ∃ p, p = top.priv := ⟨_, rfl⟩
              have Hp := Lib.hid hp
              rw [← hp]
              have GR := Lib.hid ((hb8.block g (Array.getElem?_eq_some_iff.1 R5.out).1).trans R5.out)
              have GS := Lib.hid ((HS5.out.below hb8).mono hb8.size)
              clear hp hb8
              cases p with
              | false =>
                go_wp2_with (go_at_call 38; (with_reducible refine (must_no _).mono ?_); rintro e w' ⟨rfl, rfl⟩)
                exact ⟨rfl, .inl ⟨rfl, by rw [HT2.out, HX.out, ← Hp.out]; rfl⟩, hbw8⟩
              | true =>
                go_wp2_with (go_at_call 38; (with_reducible refine (must_yes _).mono ?_); rintro e w' ⟨rfl, rfl⟩)
                go_end0
                exact ⟨.inr ⟨rfl, ns, false, false, As, cS, by rw [HT2.out, HX.out, ← Hp.out]; rfl, (by rw [HNL.out]; exact GR.out), GS.out, HAb.out⟩, hbw8⟩
            | false =>
              go_wp2_with (go_at_call 38; (with_reducible refine (must_yes _).mono ?_); rintro e w' ⟨rfl, rfl⟩)
              go_end0
              exact ⟨.inr ⟨rfl, ns, false, false, As, cS, by rw [HT2.out, HX.out]; rfl, (by rw [HNL.out]; exact R5.out), HS5.out, HAb.out⟩, hbw5⟩
          · have HTn : Hid (tailOf top.priv ps = none) := Lib.hid (by
              rw [HT.out]
              have hst : stepsOf ps = none := by rw [stepsOf_eq, hgr]; rfl
              rw [hst]
              split <;> rfl)
            have hEI : decide ((E : Int) = 0) = false := decide_eq_false (by omega)
            have hEI2 : ((E : Int) == 0) = false := by simpa using hE0
            clear HT hgr hE0
            go_wp2_with (go_at_call 38; (with_reducible refine (must_no _).mono ?_); rintro e w' ⟨rfl, rfl⟩)
            exact ⟨rfl, .inl ⟨rfl, HTn.out⟩, hbw4⟩
    · have HTn : Hid (tailOf top.priv ps = none) := Lib.hid (by rw [HT.out, if_pos (by rw [← Hq.out]; omega)])
      have h20 : decide ((n : Int) ≤ 20) = false := decide_eq_false (by omega)
      clear HT hq20
      go_wp2_with (first | (go_at_call 38; (with_reducible refine (must_yes _).mono ?_); rintro e w' ⟨rfl, rfl⟩) | (go_at_call 38; (with_reducible refine (must_no _).mono ?_); rintro e w' ⟨rfl, rfl⟩))
      exact ⟨rfl, .inl ⟨rfl, HTn.out⟩, hb1⟩
end Go.Proofs.YtcjioogololnoaaGreatDoor

/-! text.digit and text.FromHex of any text. -/
namespace Go.Proofs.YtcjioogololnoaaGreatDoor
open Go.RowKit Go.Shelf

def hexZ (c : UInt8) : Int := placeZ hexLetters (lowC c)
theorem hexZ_in {c : UInt8} (h : hexIn c = true) : hexZ c = (hexAt c : Int) ∧ hexAt c < 16 := by
  have h' : lowC c ∈ hexLetters := by simpa [hexIn] using h
  exact ⟨by rw [hexZ, placeZ, if_pos h']; rfl, List.idxOf_lt_length_of_mem h'⟩
theorem hexZ_out {c : UInt8} (h : hexIn c = false) : hexZ c = -1 := by
  have h' : ¬ lowC c ∈ hexLetters := by simpa [hexIn] using h
  rw [hexZ, placeZ, if_neg h']

set_option maxRecDepth 100000 in
set_option maxHeartbeats 2000000 in
theorem digitc_any (y : UInt8) (w : World) :
    Calls Tryz.prog 96 #[.int .u8 (y.toNat : Int)] w fun e w' => e = .returned (.int .i64 (hexZ y)) ∧ w' = w := by
  obtain ⟨z, hz⟩ : ∃ z, z = hexZ y := ⟨_, rfl⟩
  rw [← hz]
  have hy8 := y.toNat_lt
  obtain ⟨m, hm⟩ : ∃ m : Nat, m = (lowC y).toNat := ⟨_, rfl⟩
  have hix := Tryz.strings_IndexByte ⟨hexLetters.toArray⟩ (m : Int)
  rw [show (⟨hexLetters.toArray⟩ : ByteArray).data.toList = hexLetters from rfl, indexByte_placeZ, show ((m : Int)).toNat.toUInt8 = lowC y from by rw [hm]; simp, show placeZ hexLetters (lowC y) = z from hz.symm] at hix
  have Hix := Lib.hid hix
  have hm' : m = if 65 ≤ y.toNat ∧ y.toNat ≤ 70 then y.toNat + 32 else y.toNat := by
    rw [hm, lowC]
    split
    · rw [UInt8.toNat_ofNat', Nat.mod_eq_of_lt (by omega)]
    · rfl
  have Hm := Lib.hid hm'
  clear hix hz hm hm'
  by_cases h65 : 65 ≤ y.toNat
  · by_cases h70 : y.toNat ≤ 70
    · have e : m = y.toNat + 32 := by rw [Hm.out, if_pos ⟨h65, h70⟩]
      have e2 : ((y.toNat : Int) + 32) = (m : Int) := by omega
      clear e
      go_enter Tryz.func96, Tryz.ntmps96
      go_wp2_with (go_at_call 32; refine (Hix.out _).mono ?_; rintro e w' ⟨rfl, hww⟩; rw [hww]; clear hww)
      go_ret
      exact ⟨rfl, rfl⟩
    · have h70' : 70 < y.toNat := by omega
      have e : m = y.toNat := by rw [Hm.out, if_neg (by omega)]
      subst e
      clear h70
      go_enter Tryz.func96, Tryz.ntmps96
      go_wp2_with (go_at_call 32; refine (Hix.out _).mono ?_; rintro e w' ⟨rfl, hww⟩; rw [hww]; clear hww)
      go_ret
      exact ⟨rfl, rfl⟩
  · have h65' : y.toNat < 65 := by omega
    have e : m = y.toNat := by rw [Hm.out, if_neg (by omega)]
    subst e
    clear h65
    go_enter Tryz.func96, Tryz.ntmps96
    go_wp2_with (go_at_call 32; refine (Hix.out _).mono ?_; rintro e w' ⟨rfl, hww⟩; rw [hww]; clear hww)
    go_ret
    exact ⟨rfl, rfl⟩

theorem unhex_odd (s : List UInt8) (h : s.length % 2 = 1) : unhex s = none := by
  cases hu : unhex s with
  | none => rfl
  | some u => have := unhex_len s u hu; omega
def unE (o : Option (List UInt8)) : Nat := if o.isSome then 0 else 3
theorem or_hex' (a b : Nat) (ha : a < 16) (hb : b < 16) : bits .or .i64 ((a : Int) * 16) (b : Int) = ((a * 16 + b : Nat) : Int) := by
  have : ∀ (a b : Fin 16), bits .or .i64 ((a.val : Int) * 16) (b.val : Int) = ((a.val * 16 + b.val : Nat) : Int) := by decide
  exact this ⟨a, ha⟩ ⟨b, hb⟩

set_option maxRecDepth 100000 in
set_option maxHeartbeats 4000000 in
theorem fromhex_full (s : ByteArray) (w : World) (hl : s.size ≤ 8192) :
    Calls Tryz.prog 66 #[.string s] w fun e W' => ∃ v, e = .returned (.tuple #[v, .int .i64 (unE (unhex s.data.toList) : Int)]) ∧ Ow W' w.heap.size 5 v (B8 ((unhex s.data.toList).getD [])) ∧ Below w.heap.size w W' := by
  have hmx : Tryz.prog.follows .mixedOrders = true := by kernel_rfl
  obtain ⟨S, hS⟩ : ∃ S, S = s.data.toList := ⟨_, rfl⟩
  have hSl : S.length = s.size := by rw [hS]; simp
  obtain ⟨U, hU⟩ : ∃ U, U = unhex S := ⟨_, rfl⟩
  rw [← hS, ← hU]
  have HS := Lib.hid hS
  have HSl := Lib.hid hSl
  have HU := Lib.hid hU
  by_cases hodd : s.size % 2 = 1
  · have hUn : U = none := by rw [hU]; exact unhex_odd S (by omega)
    subst hUn
    have hmod : (s.size : Int) % 2 = 1 := by omega
    clear hS hSl hU hodd
    go_enter Tryz.func66, Tryz.ntmps66
    go_wp2_with fail
    go_ret2
    exact ⟨_, rfl, Ow.nil_ _ _ _ _, Below.refl _ _⟩
  · have hmod : (s.size : Int) % 2 = 0 := by omega
    obtain ⟨n, hn⟩ : ∃ n, n = s.size / 2 := ⟨_, rfl⟩
    have hS1 : s.size ≤ 2 * n := by omega
    have hS2 : 2 * n ≤ s.size := by omega
    have hn4 : n ≤ 4096 := by omega
    clear hS hSl hU hodd hn
    go_enter Tryz.func66, Tryz.ntmps66
    go_wp2_with fail
    clear hmod
    go_loopw [4, 5] (fun v i wr => ∃ k : Nat, k ≤ n ∧ i = .int .i64 ((2 * k : Nat) : Int) ∧ (∃ L, Hid (unhex (S.take (2 * k)) = some L) ∧ Ow wr w.heap.size 5 v (B8 L)) ∧ Below w.heap.size w wr) (fun _ i _ => 2 * n - (intOf i).toNat)
    case atStart => exact ⟨0, Nat.zero_le _, rfl, ⟨[], Lib.hid rfl, Ow.nil_ _ _ _ _⟩, Below.refl _ _⟩
    case round =>
      obtain ⟨k, hk, rfl, ⟨L, HL, ho⟩, hb⟩ := hrel
      obtain ⟨m, hm⟩ : ∃ m, m = 2 * k := ⟨_, rfl⟩
      have hLl : L.length = k := by
        have h1 := unhex_len _ _ HL.out
        rw [List.length_take] at h1
        have := HSl.out
        omega
      rw [← hm] at HL ⊢
      obtain ⟨Al, cl, rfl, hcl, hcl'⟩ := own_form ho
      rw [hLl] at ho hcl ⊢
      have HLl := Lib.hid hLl
      have hm1 : m ≤ 2 * k := by omega
      have hm2 : 2 * k ≤ m := by omega
      by_cases hlt : k < n
      · have hms : m < s.size := by omega
        have hms1 : m + 1 < s.size := by omega
        obtain ⟨a1, ha1⟩ : ∃ a1, a1 = s[m] := ⟨_, rfl⟩
        obtain ⟨a2, ha2⟩ : ∃ a2, a2 = s[m + 1] := ⟨_, rfl⟩
        have hsplit : S = S.take m ++ a1 :: a2 :: S.drop (m + 2) := by
          have hml : m < S.length := by have := HSl.out; omega
          have hml1 : m + 1 < S.length := by have := HSl.out; omega
          have e1 : S[m] = a1 := by rw [ha1]; simp only [HS.out]; rfl
          have e2 : S[m + 1] = a2 := by rw [ha2]; simp only [HS.out]; rfl
          conv => lhs; rw [← List.take_append_drop m S, List.drop_eq_getElem_cons hml, List.drop_eq_getElem_cons hml1]
          rw [e1, e2]
        have Hsp := Lib.hid hsplit
        have hs1 : ∀ h, s[m]'h = a1 := fun h => ha1.symm
        have hs2 : ∀ h, s[m + 1]'h = a2 := fun h => ha2.symm
        have Hda := Lib.hid (digitc_any a1)
        have Hdb := Lib.hid (digitc_any a2)
        have Hm := Lib.hid hm
        clear hsplit ha1 ha2 hm hLl
        by_cases hab : (hexIn a1 && hexIn a2) = true
        · have hA := hexZ_in (c := a1) (by simp at hab; exact hab.1)
          have hB := hexZ_in (c := a2) (by simp at hab; exact hab.2)
          obtain ⟨d1, hd1⟩ : ∃ d1, d1 = hexAt a1 := ⟨_, rfl⟩
          obtain ⟨d2, hd2⟩ : ∃ d2, d2 = hexAt a2 := ⟨_, rfl⟩
          rw [← hd1] at hA
          rw [← hd2] at hB
          rw [hA.1] at Hda
          rw [hB.1] at Hdb
          have hd16 := hA.2
          have hd26 := hB.2
          have hor := or_hex' d1 d2 hd16 hd26
          obtain ⟨z, hz⟩ : ∃ z, z = d1 * 16 + d2 := ⟨_, rfl⟩
          rw [← hz] at hor
          have hz256 : z < 256 := by omega
          have hnew : unhex (S.take (2 * (k + 1))) = some (L ++ [UInt8.ofNat z]) := by
            have e : S.take (2 * (k + 1)) = S.take m ++ [a1, a2] := by
              have h1 := Hm.out
              have hml : (S.take m).length = m := by rw [List.length_take]; have := HSl.out; omega
              have h2 := Hsp.out
              generalize S.take m = X at h2 hml ⊢
              generalize S.drop (m + 2) = Y at h2
              rw [h2, show 2 * (k + 1) = X.length + 2 by omega, List.take_length_add_append]
              rfl
            rw [e, unhex_append _ _ _ HL.out, unhex, if_pos hab]
            simp [unhex, hz, hd1, hd2]
          have Hnew := Lib.hid hnew
          clear hnew hz hd1 hd2 hA hB hab
          go_wp2_with fail
          refine wp_region_plan [(0, 0), (1, 0), (2, 0), (4, 0), (5, 0), (6, 0), (7, 0), (3, 2), (8, 2), (9, 0), (10, 0)] 11 hmx (by kernel_rfl) (by intro c a d v w h; cases d <;> exact h) ?_
          repeat ((first | (refine wpPlan_pure rfl (fun K hK => ?_)) | (refine wpPlan_quiet rfl (fun K hK => ?_))); go_simp; (first | (refine hK _ ?_) | (simp only [IntWalk.iteOmega]; go_simp; refine hK _ ?_) | (go_bits; go_simp; refine hK _ ?_)); clear hK K; (try go_bits))
          refine wpPlan_loud rfl rfl (fun K hK => ?_)
          go_wp2_with fail
          refine (Hda.out _).mono ?_
          rintro e w' ⟨rfl, rfl⟩
          go_wp2_with fail
          refine ⟨.inr (Ext.refl _), ?_⟩
          refine wpPlan_loud rfl rfl (fun K hK => ?_)
          go_wp2_with fail
          refine (Hdb.out _).mono ?_
          rintro e w' ⟨rfl, rfl⟩
          go_wp2_with fail
          refine ⟨.inr (Ext.refl _), ?_⟩
          repeat ((first | (refine wpPlan_pure rfl (fun K hK => ?_)) | (refine wpPlan_quiet rfl (fun K hK => ?_))); go_simp; (first | (refine hK _ ?_) | (simp only [IntWalk.iteOmega]; go_simp; refine hK _ ?_) | (go_bits; go_simp; refine hK _ ?_)); clear hK K; (try go_bits))
          refine wpPlan_nil ?_
          go_wp2_with (at_builtin; go_loud (refine wpList_append_Ow (m := 1) (c := 1) (base := w.heap.size) (xs := B8 L) (v := .slice Al k cl) (A := some ⟨wr.heap.size, 0, none⟩) (B := wr.heap.size + 1) (news := [.int .u8 (z : Int)]) elB rfl (.tmp 33) (.tmp 39) rfl rfl (ho.drew.alloc _) rfl (Sl.one wr.drew _ _) rfl (by simp; rfl) (by rw [B8_length, HLl.out]; simp [maxLen]; omega) (by rw [B8_length, HLl.out]; omega) (by have := hb.size; simp; omega) ?_); intro v3 w3 ho3 hg3 hr3)
          rw [b8_snoc L _ (UInt8.ofNat z) (by simp; omega)] at ho3
          refine ⟨⟨k + 1, by omega, ?_, ⟨_, Hnew, ho3⟩, push_below hb.drew (Nat.le_refl _) ho.drew hg3⟩, by simp [intOf]; omega⟩
          have e : ((m : Int) + 2) = ((2 * (k + 1) : Nat) : Int) := by omega
          rw [e]
        · have hUn : U = none := by
            rw [HU.out, Hsp.out, unhex_append _ _ _ HL.out, unhex, if_neg hab]
            rfl
          have hcase : hexIn a1 = false ∨ hexIn a2 = false := by
            cases h1 : hexIn a1 <;> cases h2 : hexIn a2 <;> simp_all
          subst hUn
          obtain ⟨z1, hz1⟩ : ∃ z1, z1 = hexZ a1 := ⟨_, rfl⟩
          obtain ⟨z2, hz2⟩ : ∃ z2, z2 = hexZ a2 := ⟨_, rfl⟩
          rw [← hz1] at Hda
          rw [← hz2] at Hdb
          have hneg : z1 < 0 ∨ (0 ≤ z1 ∧ z2 < 0) := by
            by_cases h0 : z1 < 0
            · exact .inl h0
            · refine .inr ⟨by omega, ?_⟩
              rcases hcase with h | h
              · rw [hexZ_out h] at hz1; omega
              · rw [hexZ_out h] at hz2; omega
          clear hcase hz1 hz2 hab Hsp HL HLl HU
          rcases hneg with hn1 | ⟨hn0, hn1⟩
          all_goals
            go_wp2_with fail
            refine wp_region_plan [(0, 0), (1, 0), (2, 0), (4, 0), (5, 0), (6, 0), (7, 0), (3, 2), (8, 2), (9, 0), (10, 0)] 11 hmx (by kernel_rfl) (by intro c a d v w h; cases d <;> exact h) ?_
            repeat ((first | (refine wpPlan_pure rfl (fun K hK => ?_)) | (refine wpPlan_quiet rfl (fun K hK => ?_))); go_simp; (first | (refine hK _ ?_) | (simp only [IntWalk.iteOmega]; go_simp; refine hK _ ?_) | (go_bits; go_simp; refine hK _ ?_)); clear hK K; (try go_bits))
            refine wpPlan_loud rfl rfl (fun K hK => ?_)
            go_wp2_with fail
            refine (Hda.out _).mono ?_
            rintro e w' ⟨rfl, rfl⟩
            go_wp2_with fail
            refine ⟨.inr (Ext.refl _), ?_⟩
            refine wpPlan_loud rfl rfl (fun K hK => ?_)
            go_wp2_with fail
            refine (Hdb.out _).mono ?_
            rintro e w' ⟨rfl, rfl⟩
            go_wp2_with fail
            refine ⟨.inr (Ext.refl _), ?_⟩
            repeat ((first | (refine wpPlan_pure rfl (fun K hK => ?_)) | (refine wpPlan_quiet rfl (fun K hK => ?_))); go_simp; (first | (refine hK _ ?_) | (simp only [IntWalk.iteOmega]; go_simp; refine hK _ ?_) | (go_bits; go_simp; refine hK _ ?_)); clear hK K; (try go_bits))
            refine wpPlan_nil ?_
            go_wp2_with fail
            go_ret2
            exact ⟨_, rfl, Ow.nil_ _ _ _ _, hb.drew⟩
      · have hkn : k = n := by omega
        have hUv : U = some L := by
          rw [HU.out, ← HL.out, List.take_of_length_le]
          have := HSl.out; omega
        have hge : s.size ≤ m := by omega
        subst hUv
        clear hkn HL HU hm hLl
        go_wp2_with fail
        go_ret2
        exact ⟨_, rfl, ho, hb⟩
end Go.Proofs.YtcjioogololnoaaGreatDoor
