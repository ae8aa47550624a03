/- Desc.many; what a walk of Desc.Text needs of keys in memory. | Desc.Text. | Desc.Form, Desc.Ranged. -/
import Derived.Test.YtcjioogololnoaaGreatDoorU26
import Derived.Test.YtcjioogololnoaaGreatDoorU30
import Derived.Test.YtcjioogololnoaaGreatDoorU27

/-! Desc.many; what a walk of Desc.Text needs of keys in memory. -/
namespace Go.Proofs.YtcjioogololnoaaGreatDoor
open Go Go.RowKit Go.Shelf

set_option maxHeartbeats 1000000 in
theorem many_any (g : Nat) (s : Bool) (w : World) (hc : w.cell? ⟨g, 2, none⟩ = some (.bool s)) :
    Calls Tryz.prog 23 #[.pointer (some ⟨g, 0, none⟩)] w fun e w' => e = .returned (.string ⟨(manyW s).toArray⟩) ∧ w' = w := by
  cases s
  · go_enter Tryz.func23, Tryz.ntmps23
    go_wp2
    go_ret
    exact ⟨rfl, rfl⟩
  · go_enter Tryz.func23, Tryz.ntmps23
    go_wp2
    go_ret
    exact ⟨rfl, rfl⟩
theorem flat_at {α : Type} (f : α → List Value) (c : Nat) : ∀ (l : List α), (∀ a ∈ l, (f a).length = c) → ∀ (j : Nat) (hj : j < l.length) (i : Nat), i < c → (l.flatMap f)[j * c + i]? = (f l[j])[i]?
  | [], _, j, hj, _, _ => absurd hj (by simp)
  | a :: l, h, 0, _, i, hi => by
    have := h a (by simp)
    rw [List.flatMap_cons, Nat.zero_mul, Nat.zero_add, List.getElem?_append_left (by omega)]
    rfl
  | a :: l, h, j + 1, hj, i, hi => by
    have h0 := h a (by simp)
    rw [List.flatMap_cons, List.getElem?_append_right (by rw [h0, Nat.succ_mul]; omega), show (j + 1) * c + i - (f a).length = j * c + i by rw [h0, Nat.succ_mul]; omega]
    exact flat_at f c l (fun b hb => h b (by simp [hb])) j (by simpa using hj) i hi
theorem KS.form {W : World} {base lo : Nat} {kv : Value} {ks : List DKey} (h : KS W base lo kv ks) : ∃ A c, kv = .slice A ks.length c ∧ ks.length ≤ c ∧ c ≤ maxLen := by
  obtain ⟨prs, h1, _, h2, h3⟩ := h
  have hl : prs.length = ks.length := by rw [← h1]; simp
  rcases h3 with ⟨e, h0⟩ | ⟨g, cap, cur, e, _, _, hc, hm, _⟩
  · exact ⟨none, 0, by rw [e]; congr 1; omega, by omega, by decide⟩
  · exact ⟨_, cap, by rw [e, hl], by omega, hm⟩
/-- One of the keys: where it lies, and its slices. -/
theorem KS.at_ {W : World} {base lo : Nat} {kv : Value} {ks : List DKey} (h : KS W base lo kv ks) (j : Nat) (hj : j < ks.length) : ∃ g c pv sv, kv = .slice (some ⟨g, 0, none⟩) ks.length c ∧ g < W.heap.size ∧ KV W lo ks[j] pv sv ∧ W.rangeAt g (j * 75) (dkC ks[j] pv sv) := by
  obtain ⟨prs, h1, h2, h3, h4⟩ := h
  have hl : prs.length = ks.length := by rw [← h1]; simp
  have hjp : j < prs.length := by omega
  rcases h4 with ⟨_, h0⟩ | ⟨g, cap, cur, e, _, hg, hc, hm, hcz, ht⟩
  · omega
  · have hp := h2 prs[j] (List.getElem_mem _)
    have hk : prs[j].1 = ks[j] := by
      have := List.getElem_map (·.1) (l := prs) (i := j) (h := by simpa using hjp)
      rw [← this]
      congr 1
    refine ⟨g, cap, prs[j].2.1, prs[j].2.2, by rw [e, hl], (Array.getElem?_eq_some_iff.1 hg).1, by rw [← hk]; exact hp.2.1, fun i v hv => ?_⟩
    have hi : i < 75 := by
      have h75 := dkC_length hp.1 prs[j].2.1 prs[j].2.2
      rw [hk] at h75
      rw [← h75]
      exact (List.getElem?_eq_some_iff.1 hv).1
    have hle : j * 75 + i < prs.length * 75 := by
      have : (j + 1) * 75 ≤ prs.length * 75 := Nat.mul_le_mul_right 75 hjp
      omega
    rw [cell_of_row _ _ _ _ _ _ hg, ← Array.getElem?_toList, ← List.getElem?_take_of_lt hle, ht, flat_at _ 75 prs (fun p hp => dkC_length (h2 p hp).1 _ _) j hjp i hi, hk]
    exact hv
end Go.Proofs.YtcjioogololnoaaGreatDoor

/-! Desc.Text. -/
namespace Go.Proofs.YtcjioogololnoaaGreatDoor
open Go Go.RowKit Go.Shelf

def wrap1 (s w : List UInt8) : List UInt8 := w ++ 40 :: (s ++ [41])
theorem wrapT_rev : ∀ (ws : List (List UInt8)) (s : List UInt8), wrapT ws s = ws.reverse.foldl wrap1 s
  | [], _ => rfl
  | w :: ws, s => by
    rw [List.reverse_cons, List.foldl_append, ← wrapT_rev ws s]
    rfl
theorem row_mid {W : World} {g : Nat} {l : List Value} {t : TypeId} {fr : Nat × Nat} (h : W.heap[g]? = some (.cells l.toArray t fr)) (j : Nat) : W.cell? ⟨g, j, none⟩ = l[j]? := by rw [cell_of_row _ _ _ _ _ _ h, List.getElem?_toArray]

/-- What a body with a range over a function must achieve, where no panic leaves it. -/
def bodyPostM2 (F : Fence) (n : Nat) (P : Program) (fn : Func) (R : Ending → World → Prop) : Exit → Act → World → Prop
  | .panic chain, a, w => a.defers = [] ∧ R (.panicked chain) w
  | e, a, w => bodyPostM F n P fn R e a w
theorem postM2 {F : Fence} {n : Nat} {P : Program} {fn : Func} {R : Ending → World → Prop} : ∀ e a w, bodyPostM2 F n P fn R e a w → bodyPostM F n P fn R e a w
  | .normal, _, _, h => h
  | .ret, _, _, h => h
  | .outgrown, _, _, h => h
  | .exit _, _, _, h => h
  | .goto _, _, _, h => h
  | .panic c, a, w, h => by
    obtain ⟨hd, hR⟩ := h
    show LeavesInM F n P fn a.tmps R a.defers (.panicking c) w
    rw [hd]
    exact hR
attribute [local go_sem] Oper.semAt_some
set_option maxRecDepth 100000 in
set_option maxHeartbeats 8000000 in
theorem text_in (n0 : Nat) (hn0 : 3 ≤ n0) (d : DDesc) (hd : d.Fit) (base g : Nat) (w : World) (hD : DA w base g d) (hE : Env w) :
    CallsIn Fence.wide n0 Tryz.prog 9 #[.pointer (some ⟨g, 0, none⟩)] w fun e W' => e = .returned (.string ⟨(descT d).toArray⟩) ∧ Below w.heap.size w W' := by
  have h1 : 1 ≤ n0 := by omega
  have hF : ∀ k, Fence.wide.fn k := fun _ => trivial
  have hro : Fence.wide.round = none := rfl
  have hmx : Tryz.prog.follows .mixedOrders = true := by kernel_rfl
  obtain ⟨v, kv, hR, hO, hK⟩ := hD
  obtain ⟨Ak, ck, rfl, hk1, hk2⟩ := hK.form
  obtain ⟨Av, cv, rfl, hv1, hv2⟩ := hO.form
  rw [ST_length] at hR hv1 hO
  have hgl : g < w.heap.size := (Array.getElem?_eq_some_iff.1 hR).1
  obtain ⟨n, hn⟩ : ∃ n, n = d.keys.length := ⟨_, rfl⟩
  have hn16 : n ≤ 16 := by rw [hn]; exact hd.num
  rw [← hn] at hk1 hR hK
  obtain ⟨m, hm⟩ : ∃ m, m = d.wraps.length := ⟨_, rfl⟩
  have hm3 : m ≤ 3 := by rw [hm]; exact hd.wraps
  rw [← hm] at hv1 hR hO
  have c0 := DC_0 hR
  have c1 := DC_1 hR
  have c2 := DC_2 hR
  have c3 := DC_3 hR
  have Hn := Lib.hid hn
  have Hm := Lib.hid hm
  have HR := Lib.hid hR
  have HO := Lib.hid hO
  have HK := Lib.hid hK
  have HE := Lib.hid hE
  have Hd := Lib.hid hd
  have Hgl := Lib.hid hgl
  have IK := Lib.hid (show (Tryz.prog.info? 62).map (·.size) = some 75 by kernel_rfl)
  clear hn hm hR hO hK hE hd hgl
  refine callsIn_of_wp_marks Tryz.func9 rfl (hF _) ?_ hro
  simp only [Tryz.ntmps9, List.size_toArray, List.length_cons, List.length_nil, Nat.reduceAdd, Nat.reduceSub, Array.replicate_succ, Array.replicate_zero, List.push_toArray, List.append_toArray, List.nil_append, List.cons_append]
  refine wpIn_mono (Q := bodyPostM2 _ _ _ _ _) ?_ postM2
  refine wpIn_wide.2 ?_
  go_wp2_with fail
  go_loopw [3, 16] (fun s i wr => ∃ k : Nat, k ≤ n ∧ i = .int .i64 k ∧ Ow wr w.heap.size 9 s (ST ((d.keys.take k).map keyT)) ∧ Below w.heap.size w wr) (fun _ i _ => n - (intOf i).toNat)
  case atStart => exact ⟨0, Nat.zero_le _, rfl, Ow.nil_ _ _ _ _, Below.refl _ _⟩
  case round =>
    obtain ⟨k, hk, rfl, ho, hb⟩ := hrel
    obtain ⟨As, cs0, rfl, hs1, hs2⟩ := ho.form
    have hkl : (ST ((d.keys.take k).map keyT)).length = k := by rw [ST_length, List.length_map, List.length_take, ← Hn.out]; omega
    rw [hkl] at ho hs1 ⊢
    by_cases hlt : k < n
    · have hkn : k < d.keys.length := by have := Hn.out; omega
      obtain ⟨ky, hky⟩ : ∃ ky, ky = d.keys[k] := ⟨_, rfl⟩
      obtain ⟨gk, ck', pv, sv, he, hgk, hKV, hrg⟩ := HK.out.at_ k hkn
      rw [← hky] at hKV hrg
      injection he with he1 he2 he3
      subst he1
      have hfit : ky.Fit := by rw [hky]; exact Hd.out.keys _ (List.getElem_mem _)
      have hrg' : wr.rangeAt gk (k * 75) (dkC ky pv sv) := fun j u hu => cell_below (hrg j u hu) hb
      have hKV' := hKV.below hb
      have htk : ST ((d.keys.take k).map keyT) ++ [.string ⟨(keyT ky).toArray⟩] = ST ((d.keys.take (k + 1)).map keyT) := by
        rw [ST_snoc, List.take_succ_eq_append_getElem hkn, List.map_append, hky]; rfl
      obtain ⟨L, hL⟩ : ∃ L, L = dkC ky pv sv := ⟨_, rfl⟩
      have hcz : L.length = 75 := by rw [hL]; exact dkC_length hfit.top _ _
      obtain ⟨w1, hw1⟩ : ∃ w1, w1 = wr.alloc (.cells L.toArray 62) := ⟨_, rfl⟩
      obtain ⟨G, hG⟩ : ∃ G, G = wr.heap.size := ⟨_, rfl⟩
      have hb1 : Below wr.heap.size wr w1 := by rw [hw1]; exact (Below.refl _ _).alloc (Nat.le_refl _) _
      have hbw1 : Below w.heap.size w w1 := hb.trans (hb1.mono hb.size)
      have hN1 : w1.heap[G]? = some (.cells L.toArray 62 (0, 0)) := by rw [hw1, hG]; exact heap_alloc_new wr _
      have HT := Lib.hid (keytext_any ky hfit pv sv _ w1 (hKV'.below hb1) (HE.out.below hbw1))
      rw [← hL] at HT hrg'
      have Ho1 := Lib.hid (ho.below hb1 (Nat.le_refl _))
      have HN1 := Lib.hid hN1
      have HW1 := Lib.hid hw1
      have HG := Lib.hid hG
      have Hb1 := Lib.hid hbw1
      have Hcz75 : Hid (Tryz.zeroCells62.size = L.toArray.size) := Lib.hid (by simp only [List.size_toArray, hcz]; kernel_rfl)
      have HIc : Hid ((Tryz.prog.info? 62).map (·.size) = some L.toArray.size) := Lib.hid (by simp only [List.size_toArray, hcz]; exact IK.out)
      have HIl : Hid ((Tryz.prog.info? 62).map (·.size) = some L.length) := Lib.hid (by rw [hcz]; exact IK.out)
      have H1c : Hid (L.toArray.all (·.oneCell') = true) := Lib.hid (by rw [hL]; exact dkC_one _ _ _ hKV.one.1 hKV.one.2)
      have Hrg := Lib.hid hrg'
      have Htk := Lib.hid htk
      have Hkl := Lib.hid hkl
      clear hky he2 he3 hKV hrg hfit hrg' hKV' htk hL hcz hw1 hG hb1 hbw1 hN1 ho hb hkl hgk
      go_wp2_with (first | ((with_reducible refine wpList_load_mid ?s1 62 (.tmp 18) ?s2 gk (k * 75) ?s3 L _ Hrg.out Tryz.underlying62 ?s4 HIl.out ?_); (case s1 => rfl); (case s2 => rfl); (case s3 => rfl); (case s4 => rfl)) | ((with_reducible refine wpList_store_row ?s1 62 (.tmp 5) (.tmp 19) ?s2 wr.heap.size L.toArray ?s3 ?s4 62 _ (heap_alloc_new wr _) HIc.out ?s6 H1c.out ?_); (case s1 => rfl); (case s2 => rfl); (case s3 => rfl); (case s4 => rfl); (case s6 => exact Hcz75.out); rw [World.setRow_alloc_new]; (refine (show w1 = _ from HW1.out) ▸ ?_); rw [← HG.out]) | ((with_reducible refine wpList_load_row ?l1 62 (.tmp 5) ?l2 G ?l3 62 L.toArray (0, 0) _ HN1.out Tryz.underlying62 ?l4 HIc.out ?_); (case l1 => rfl); (case l2 => rfl); (case l3 => rfl); (case l4 => rfl)))
      refine HT.out.mono ?_
      rintro e w2 ⟨rfl, hb2⟩
      obtain ⟨X0, hX0⟩ : ∃ X0, X0 = ST ((d.keys.take k).map keyT) := ⟨_, rfl⟩
      rw [← hX0] at Ho1 Hkl Htk
      have Ho2 := Lib.hid (Ho1.out.below hb2 (Nat.le_refl _))
      have Hb2 := Lib.hid (Hb1.out.trans (hb2.mono Hb1.out.size))
      have Hzb : Hid (∀ o, w.heap.size ≤ (w2.alloc o).heap.size) := Lib.hid fun o => by have := Hb2.out.size; rw [World.size_alloc]; omega
      obtain ⟨kt, hkt⟩ : ∃ kt, kt = keyT ky := ⟨_, rfl⟩
      rw [← hkt] at Htk ⊢
      clear hb2 hX0 hkt Ho1 HT Hrg HN1 HW1 HG Hb1
      go_wp2_with (at_builtin; go_loud (refine wpList_append_Ow (m := 1) (c := 1) (base := w.heap.size) (xs := X0) (v := .slice As k cs0) (A := some ⟨w2.heap.size, 0, none⟩) (B := w2.heap.size + 1) (news := [.string ⟨kt.toArray⟩]) elT rfl (.tmp 20) (.tmp 23) rfl rfl (Ho2.out.alloc _) rfl (Sl.one w2 _ _) rfl (by simp; rfl) (by rw [Hkl.out]; simp [maxLen]; omega) (by rw [Hkl.out]; omega) (Hzb.out _) ?_); intro v3 w3 ho3 hg3 hr3; rw [Htk.out] at ho3; have HB3 := Lib.hid (push_below Hb2.out (Nat.le_refl _) Ho2.out hg3); have HO3 := Lib.hid ho3; clear hg3 ho3 hr3)
      exact ⟨⟨k + 1, by omega, rfl, HO3.out, HB3.out⟩, by simp [intOf]; omega⟩
    · obtain rfl : k = n := by omega
      have htk : d.keys.take k = d.keys := List.take_of_length_le (by have := Hn.out; omega)
      rw [htk] at ho
      obtain ⟨jB, hjB⟩ : ∃ jB : ByteArray, jB = ⟨(Lib.join (d.keys.map keyT) [44]).toArray⟩ := ⟨_, rfl⟩
      have hjz : jB.size ≤ 6416 := by rw [hjB, size_mk]; exact (keysT_fit Hd.out).1
      have hj := join_any As cs0 (d.keys.map keyT) 44 wr ho.sl (by rw [List.length_map, ← Hn.out]; exact hs1) (by have := (keysT_fit Hd.out).1; omega) (by rw [List.length_map, ← Hn.out]; omega)
      rw [← hjB, List.length_map, ← Hn.out] at hj
      have Hj := Lib.hid hj
      have HjB := Lib.hid hjB
      have Hb := Lib.hid hb
      clear htk hjB hj hb ho hkl c0 c1 c2 c3
      go_wp2_with fail
      refine Hj.out.mono ?_
      rintro e w2 ⟨rfl, hb2⟩
      have hbw2 : Below w.heap.size w w2 := Hb.out.trans (hb2.mono Hb.out.size)
      have hR2 := (hbw2.block g Hgl.out).trans HR.out
      have hgz : g < w2.heap.size := (Array.getElem?_eq_some_iff.1 hR2).1
      have c0 := DC_0 hR2
      have c1 := DC_1 hR2
      obtain ⟨w3, hw3⟩ : ∃ w3, w3 = w2.alloc (.cells #[.string jB] 9) := ⟨_, rfl⟩
      obtain ⟨G6, hG6⟩ : ∃ G6, G6 = w2.heap.size := ⟨_, rfl⟩
      have hb3 : Below w.heap.size w w3 := by rw [hw3]; exact hbw2.alloc hbw2.size _
      have hgx : w3.heap[G6]? = some (.cells #[.string jB] 9 (0, 0)) := by rw [hw3, hG6]; exact heap_alloc_new w2 _
      have HG6w : Hid (w.heap.size ≤ G6) := Lib.hid (by rw [hG6]; exact hbw2.size)
      have Hw3 := Lib.hid hw3
      have HG6 := Lib.hid hG6
      have HB3 := Lib.hid hb3
      have GX3 := Lib.hid hgx
      have HgG : Hid (g < G6) := Lib.hid (by rw [hG6]; exact hgz)
      obtain ⟨mm, hmm⟩ : ∃ mm, mm = d.m := ⟨_, rfl⟩
      rw [← hmm] at c1
      have Hmm := Lib.hid hmm
      clear hb2 hbw2 hR2 hw3 hG6 hb3 hgx hmm Hj Hb
      by_cases h0 : 0 < mm
      · have hd0 : decide ((0 : Int) < (mm : Int)) = true := decide_eq_true (by omega)
        go_wp2_with fail
        refine (show w3 = _ from Hw3.out) ▸ ?_
        rw [← HG6.out]
        have hR3 := (HB3.out.block g Hgl.out).trans HR.out
        have q0 := DC_0 hR3
        have q1 := DC_1 hR3
        rw [← Hmm.out] at q1
        have q2 := DC_2 hR3
        have q6 : w3.cell? ⟨G6, 0, none⟩ = some (.string jB) := by rw [cell_of_row _ _ _ _ _ _ GX3.out]; rfl
        have HMa := Lib.hid (fun (W : World) (h : W.cell? ⟨g, 2, none⟩ = some (.bool d.sorted)) => many_any g d.sorted W h)
        obtain ⟨mB, hmB⟩ : ∃ mB : ByteArray, mB = ⟨(manyW d.sorted).toArray⟩ := ⟨_, rfl⟩
        have hmz : mB.size ≤ 11 := by rw [hmB, size_mk]; exact (manyW_fit _).1
        obtain ⟨iB, hiB⟩ : ∃ iB : ByteArray, iB = ⟨(Lib.itoa (mm : Int)).toArray⟩ := ⟨_, rfl⟩
        have hm16 : mm ≤ 16 := by rw [Hmm.out]; exact Hd.out.m
        have hiz : iB.size ≤ 2 := by rw [hiB, size_mk]; exact itoa_len mm (by omega)
        rw [← hmB] at HMa
        have HIt := Lib.hid (fun (W : World) (h : Env W) => itoa_any (mm : Int) (by omega) (by omega) W h)
        rw [← hiB] at HIt
        have Hq2 := Lib.hid q2
        have HmB := Lib.hid hmB
        have HiB := Lib.hid hiB
        clear hR3 q2 hmB hiB c0 c1
        refine wp_region_plan [(0, 0), (3, 0), (4, 0), (5, 0), (6, 1), (10, 1), (1, 2), (2, 0), (7, 2), (8, 0), (9, 0), (11, 0), (12, 0), (13, 2)] 13 hmx (by kernel_rfl) (by intro c a d v w h; cases d <;> exact h) ?_
        repeat ((first | (refine wpPlan_pure rfl (fun K hK => ?_)) | (refine wpPlan_quiet rfl (fun K hK => ?_))); go_simp; (first | (refine hK _ ?_) | (simp only [IntWalk.iteOmega]; go_simp; refine hK _ ?_) | (go_bits; go_simp; refine hK _ ?_)); clear hK K; (try go_bits))
        refine wpPlan_loud rfl rfl (fun K hK => ?_)
        go_wp2_with fail
        refine (HMa.out w3.drew Hq2.out).mono ?_
        rintro e w4 ⟨rfl, hww⟩
        rw [hww]
        clear hww HMa
        go_wp2_with fail
        refine ⟨.inr (Ext.refl _), ?_⟩
        repeat ((first | (refine wpPlan_pure rfl (fun K hK => ?_)) | (refine wpPlan_quiet rfl (fun K hK => ?_))); go_simp; (first | (refine hK _ ?_) | (simp only [IntWalk.iteOmega]; go_simp; refine hK _ ?_) | (go_bits; go_simp; refine hK _ ?_)); clear hK K; (try go_bits))
        refine wpPlan_loud rfl rfl (fun K hK => ?_)
        go_wp2_with fail
        refine (HIt.out w3.drew (HE.out.below HB3.out.drew)).mono ?_
        rintro e w5 ⟨rfl, hb5⟩
        have HB5 := Lib.hid (HB3.out.drew.trans (hb5.mono HB3.out.size))
        have HX5 := Lib.hid (ext_of_below hb5)
        have GX5 := Lib.hid ((hb5.block G6 (Array.getElem?_eq_some_iff.1 GX3.out).1).trans GX3.out)
        have f6 : w5.frozen? ⟨G6, 0, none⟩ = false := frozen_of_row _ _ _ _ _ GX5.out
        have p6 : w5.cell? ⟨G6, 0, none⟩ = some (.string jB) := by rw [cell_of_row _ _ _ _ _ _ GX5.out]; rfl
        clear hb5 HIt
        go_wp2_with fail
        refine ⟨.inr HX5.out, ?_⟩
        repeat ((first | (refine wpPlan_pure rfl (fun K hK => ?_)) | (refine wpPlan_quiet rfl (fun K hK => ?_))); go_simp; (first | (refine hK _ ?_) | (simp only [IntWalk.iteOmega]; go_simp; refine hK _ ?_) | (go_bits; go_simp; refine hK _ ?_)); clear hK K; (try go_bits))
        refine wpPlan_loud rfl rfl (fun K hK => ?_)
        go_wp2_with fail
        refine ⟨.inl (by decide), wpPlan_nil ?_⟩
        obtain ⟨iT, hiT⟩ : ∃ iT : ByteArray, iT = mB ++ ⟨#[40]⟩ ++ iB ++ ⟨#[44]⟩ ++ jB ++ ⟨#[41]⟩ := ⟨_, rfl⟩
        rw [← hiT]
        have hitz : iT.size ≤ 6500 := by
          rw [hiT]
          simp only [ByteArray.size_append]
          show mB.size + 1 + iB.size + 1 + jB.size + 1 ≤ 6500
          omega
        have hiTe : iT = ⟨(innerT d).toArray⟩ := by
          rw [hiT, HmB.out, HiB.out, HjB.out, innerT, if_pos (by rw [← Hmm.out]; exact h0), ← Hmm.out]
          rw [show (⟨#[40]⟩ : ByteArray) = ⟨([40] : List UInt8).toArray⟩ from rfl, show (⟨#[44]⟩ : ByteArray) = ⟨([44] : List UInt8).toArray⟩ from rfl, show (⟨#[41]⟩ : ByteArray) = ⟨([41] : List UInt8).toArray⟩ from rfl]
          simp only [cat_mk, List.append_assoc, List.cons_append, List.nil_append]
        obtain ⟨w6, hw6⟩ : ∃ w6, w6 = w5.setCell ⟨G6, 0, none⟩ (.string iT) := ⟨_, rfl⟩
        rw [← hw6]
        have HSX := Lib.hid hiTe
        have HSXz := Lib.hid hitz
        have HBX : Hid (Below w.heap.size w w6) := Lib.hid (by rw [hw6]; exact HB5.out.setCell (p := ⟨G6, 0, none⟩) HG6w.out _)
        have GX : Hid (w6.heap[G6]? = some (.cells #[.string iT] 9 (0, 0))) := Lib.hid (by rw [hw6]; exact heap_setCell_same _ G6 0 _ _ _ GX5.out)
        have hR6 := (HBX.out.block g Hgl.out).trans HR.out
        have q0 := DC_0 hR6
        have hg6 : g < w6.heap.size := (Array.getElem?_eq_some_iff.1 hR6).1
        clear hiT hitz hiTe hw6 p6 f6 q1 q6 hR6 hmz hiz hjz
        go_wp2_with fail
        obtain ⟨Bs, hBs⟩ : ∃ Bs, Bs = (w6).heap.size := ⟨_, rfl⟩
        refine ((callsIn_wide (n := n0)).1 (bwdS_in Fence.wide hF hro n0 Av m cv (w6))).mono ?_
        rintro e w8 ⟨rfl, hw8⟩
        have b8 : Boxed w8 Bs 45 (.slice Av m cv) := by rw [hw8, hBs]; exact Boxed.new _ _ _
        have hb8 : Below (w6).heap.size (w6) w8 := by rw [hw8]; exact (Below.refl _ _).alloc (Nat.le_refl _) _
        have b6 : Boxed w8 G6 9 (.string iT) := (hb8.block G6 (Array.getElem?_eq_some_iff.1 GX.out).1).trans GX.out
        have hb8w : Below w.heap.size w w8 := HBX.out.trans (hb8.mono HBX.out.size)
        have hz8 : w8.heap.size = Bs + 1 := by rw [hw8, hBs]; simp
        have hBsW : w.heap.size ≤ Bs := by rw [hBs]; exact HBX.out.size
        obtain ⟨BW, hBW⟩ : ∃ BW, BW = w.heap.size := ⟨_, rfl⟩
        have hsW : Sl w8 BW Av (ST d.wraps) := by rw [hBW]; exact (HO.out.sl).below hb8w
        rw [← hBs]
        rw [← hBW] at hb8w hBsW
        have hGB : G6 < Bs := by rw [hBs]; exact (Array.getElem?_eq_some_iff.1 GX.out).1
        have h6W : BW ≤ G6 := by rw [hBW]; exact HG6w.out
        have hc8 : w8.cell? ⟨Bs, 0, none⟩ = some (.slice Av d.wraps.length cv) := by rw [← Hm.out]; exact b8.cell
        have hword : ∀ j (h : j < d.wraps.length), d.wraps[j].length ≤ 4 := fun j h => (word_fit _ (Hd.out.words _ (List.getElem_mem h))).1
        have HBW := Lib.hid hBW
        clear hBs hw8 hb8 hBW
        go_wp2_with fail
        refine (wpIn_wide (n := n0)).1 ?_
        refine wpIn_rangeFunc_ownG (a₁ := ?frA1) hro h1 (gf := 55) (lb := #[.pointer (some ⟨Bs, 0, none⟩)]) rfl (hF _) (enters_of Tryz.func55 (by kernel_rfl) rfl)
          (bwdS_stopsK Fence.wide hF hro (n0 - 1) (by omega) Bs BW (Keep BW Bs) (Keep.refl _ _) keepK_t (fun h => h.2) Av cv d.wraps (by have := Hm.out; omega) (α := {x : Nat × List UInt8 // x.2.length ≤ 4}) (·.1) (fun j h => ⟨⟨(j, d.wraps[j]), hword j h⟩, rfl⟩) w8 (fun W hW => ⟨hW.mono (by omega), hW.block Bs (by omega)⟩) hc8 (fun W' h => hsW.below h.1))
          keepK_t (keepK_b (by omega) (by omega)) (Below.refl _ _) (fun _ => rfl)
          (fun pre W => (∃ sB : ByteArray, Boxed W G6 9 (.string sB) ∧ sB = ⟨((pre.map (·.1.2)).foldl wrap1 (innerT d)).toArray⟩ ∧ sB.size ≤ 6500 + 6 * pre.length) ∧ Below BW w8 W)
          (fun _ _ _ => False)
          (OwnFrom.and (Go.Own.from (fun s A B row hs hg hr => let ⟨sB, h0, h1, h2⟩ := hs; ⟨sB, boxed_others h0 hg hr, h1, h2⟩) _) (ownFrom_below (by omega) (by omega)))
          (fun _ _ _ _ _ hs _ _ => hs)
          ⟨⟨iT, b6, HSX.out, by simp; have := HSXz.out; omega⟩, Below.refl _ _⟩
          ?assign ?body ?done ?stop
        case assign =>
          intro l x W K hK
          gi_wp2
          exact hK
        case stop =>
          rintro D c pre W _ _ h _
          exact h.elim
        case done =>
          rintro D ys W hD hys ⟨⟨sB, h6, hse, hsz⟩, hBW⟩ hK
          have hmap : ys.map (·.1.2) = d.wraps.reverse := by
            rw [← bwS_bytes d.wraps, ← hys]; simp [Function.comp_def]
          have hyl : ys.length ≤ 3 := by
            have := congrArg List.length hmap
            simp at this
            have := Hm.out
            omega
          rw [hmap, ← wrapT_rev] at hse
          have hsd : sB.data.toList = bodyT d := by rw [hse]; rfl
          have hck := checksum_full sB W (by omega)
          rw [hsd] at hck
          have hsz' : sB.size ≤ 6518 := by omega
          have HK := Lib.hid hK
          have HD := Lib.hid hD
          have HBWW := Lib.hid hBW
          have Hse := Lib.hid hse
          have Hck := Lib.hid hck
          have c6 := h6.cell
          have H6 := Lib.hid h6
          clear hsz hck hsd hse hmap hyl hys hK hD hBW h6 b6 b8
          go_wp2_with fail
          refine Hck.out.mono ?_
          rintro e w9 ⟨h9, hb9⟩
          rcases h9 with ⟨_, rfl⟩ | ⟨⟨c, hc, hn⟩, _⟩
          · have h69 := (hb9.block G6 (Array.getElem?_eq_some_iff.1 H6.out).1).trans H6.out
            have c69 : w9.cell? ⟨G6, 0, none⟩ = some (.string sB) := by rw [cell_of_row _ _ _ _ _ _ h69]; rfl
            obtain ⟨kB, hkB⟩ : ∃ kB : ByteArray, kB = ⟨(checksum (bodyT d)).toArray⟩ := ⟨_, rfl⟩
            have hkz : kB.size ≤ 8 := by rw [hkB, size_mk, checksum]; simp [lettersL]
            rw [← hkB]
            have Hb9 := Lib.hid hb9
            have HkB := Lib.hid hkB
            clear hkB hb9 c6
            go_wp2_with fail
            have hK9 : w9.heap[D]? = some (.deferred (some [])) := (Hb9.out.block D (Array.getElem?_eq_some_iff.1 HK.out).1).trans HK.out
            refine ⟨by simp, .inl ⟨_, _, rfl, run_takeDeferred hK9, ?_⟩⟩
            refine ⟨_, results_tmp rfl _ _ _, ?_, ?_⟩
            · have hdT : sB ++ ⟨#[35]⟩ ++ kB = ⟨(descT d).toArray⟩ := by
                rw [Hse.out, HkB.out, descT, bodyT, show (⟨#[35]⟩ : ByteArray) = ⟨([35] : List UInt8).toArray⟩ from rfl]
                simp only [cat_mk, List.append_assoc, List.cons_append, List.nil_append]
              rw [← hdT]
              rfl
            · rw [← HBW.out]
              exact ((hb8w.trans HBWW.out).trans (Hb9.out.mono (by have := HBWW.out.size; omega))).trans (belowK_b (w := w8) (by omega) _ D _ _ HD.out hK9 rfl rfl)
          · exact absurd (okD_spec ((bodyT_fit Hd.out).2 c hc)).1 hn
        case body =>
          rintro l pre ⟨x, hx⟩ W ⟨⟨sB, h6, hse, hsz⟩, hBW⟩ hpre
          have hpl : pre.length < 3 := by have := Hm.out; omega
          have hxz : (⟨x.2.toArray⟩ : ByteArray).size ≤ 4 := by rw [size_mk]; exact hx
          have hd : 1 ≤ n0 - 1 - 1 := by omega
          have c6 := h6.cell
          have f6 := h6.frozen
          have Hse := Lib.hid hse
          have H6 := Lib.hid h6
          have HBWW := Lib.hid hBW
          clear hse h6 hBW b6 b8 hsW hpre
          gi_wp2
          have bk : ∀ v, Below BW W (W.setCell ⟨G6, 0, none⟩ v) := fun v => (Below.refl _ _).mono (by have := HBWW.out.size; omega) |>.setCell (p := ⟨G6, 0, none⟩) h6W v
          refine ⟨(KeepsOthers.setCell _ _ _).from _, ⟨bk _, Below.heap_setCell _ _ _ _ (show Bs ≠ G6 by omega)⟩, ⟨_, H6.out.set _, ?_, ?_⟩, HBWW.out.trans (bk _)⟩
          · rw [List.map_append, List.foldl_append, Hse.out, show (⟨#[40]⟩ : ByteArray) = ⟨([40] : List UInt8).toArray⟩ from rfl, show (⟨#[41]⟩ : ByteArray) = ⟨([41] : List UInt8).toArray⟩ from rfl]
            simp only [cat_mk, List.append_assoc, List.cons_append, List.nil_append, List.map_cons, List.map_nil, List.foldl_cons, List.foldl_nil, wrap1]
          · simp only [ByteArray.size_append, List.length_append, List.length_cons, List.length_nil]
            show (⟨x.2.toArray⟩ : ByteArray).size + 1 + sB.size + 1 ≤ _
            omega
      · obtain rfl : mm = 0 := by omega
        have HSX : Hid (jB = ⟨(innerT d).toArray⟩) := Lib.hid (by rw [HjB.out, innerT, if_neg (by rw [← Hmm.out]; omega)])
        have HSXz : Hid (jB.size ≤ 6500) := Lib.hid (by omega)
        have HBX := HB3
        have GX := GX3
        clear h0
        go_wp2_with fail
        refine (show w3 = _ from Hw3.out) ▸ ?_
        rw [← HG6.out]
        obtain ⟨Bs, hBs⟩ : ∃ Bs, Bs = (w3).heap.size := ⟨_, rfl⟩
        refine ((callsIn_wide (n := n0)).1 (bwdS_in Fence.wide hF hro n0 Av m cv (w3))).mono ?_
        rintro e w8 ⟨rfl, hw8⟩
        have b8 : Boxed w8 Bs 45 (.slice Av m cv) := by rw [hw8, hBs]; exact Boxed.new _ _ _
        have hb8 : Below (w3).heap.size (w3) w8 := by rw [hw8]; exact (Below.refl _ _).alloc (Nat.le_refl _) _
        have b6 : Boxed w8 G6 9 (.string jB) := (hb8.block G6 (Array.getElem?_eq_some_iff.1 GX.out).1).trans GX.out
        have hb8w : Below w.heap.size w w8 := HBX.out.trans (hb8.mono HBX.out.size)
        have hz8 : w8.heap.size = Bs + 1 := by rw [hw8, hBs]; simp
        have hBsW : w.heap.size ≤ Bs := by rw [hBs]; exact HBX.out.size
        obtain ⟨BW, hBW⟩ : ∃ BW, BW = w.heap.size := ⟨_, rfl⟩
        have hsW : Sl w8 BW Av (ST d.wraps) := by rw [hBW]; exact (HO.out.sl).below hb8w
        rw [← hBs]
        rw [← hBW] at hb8w hBsW
        have hGB : G6 < Bs := by rw [hBs]; exact (Array.getElem?_eq_some_iff.1 GX.out).1
        have h6W : BW ≤ G6 := by rw [hBW]; exact HG6w.out
        have hc8 : w8.cell? ⟨Bs, 0, none⟩ = some (.slice Av d.wraps.length cv) := by rw [← Hm.out]; exact b8.cell
        have hword : ∀ j (h : j < d.wraps.length), d.wraps[j].length ≤ 4 := fun j h => (word_fit _ (Hd.out.words _ (List.getElem_mem h))).1
        have HBW := Lib.hid hBW
        clear hBs hw8 hb8 hBW
        go_wp2_with fail
        refine (wpIn_wide (n := n0)).1 ?_
        refine wpIn_rangeFunc_ownG (a₁ := ?frA2) hro h1 (gf := 55) (lb := #[.pointer (some ⟨Bs, 0, none⟩)]) rfl (hF _) (enters_of Tryz.func55 (by kernel_rfl) rfl)
          (bwdS_stopsK Fence.wide hF hro (n0 - 1) (by omega) Bs BW (Keep BW Bs) (Keep.refl _ _) keepK_t (fun h => h.2) Av cv d.wraps (by have := Hm.out; omega) (α := {x : Nat × List UInt8 // x.2.length ≤ 4}) (·.1) (fun j h => ⟨⟨(j, d.wraps[j]), hword j h⟩, rfl⟩) w8 (fun W hW => ⟨hW.mono (by omega), hW.block Bs (by omega)⟩) hc8 (fun W' h => hsW.below h.1))
          keepK_t (keepK_b (by omega) (by omega)) (Below.refl _ _) (fun _ => rfl)
          (fun pre W => (∃ sB : ByteArray, Boxed W G6 9 (.string sB) ∧ sB = ⟨((pre.map (·.1.2)).foldl wrap1 (innerT d)).toArray⟩ ∧ sB.size ≤ 6500 + 6 * pre.length) ∧ Below BW w8 W)
          (fun _ _ _ => False)
          (OwnFrom.and (Go.Own.from (fun s A B row hs hg hr => let ⟨sB, h0, h1, h2⟩ := hs; ⟨sB, boxed_others h0 hg hr, h1, h2⟩) _) (ownFrom_below (by omega) (by omega)))
          (fun _ _ _ _ _ hs _ _ => hs)
          ⟨⟨jB, b6, HSX.out, by simp; have := HSXz.out; omega⟩, Below.refl _ _⟩
          ?assign ?body ?done ?stop
        case assign =>
          intro l x W K hK
          gi_wp2
          exact hK
        case stop =>
          rintro D c pre W _ _ h _
          exact h.elim
        case done =>
          rintro D ys W hD hys ⟨⟨sB, h6, hse, hsz⟩, hBW⟩ hK
          have hmap : ys.map (·.1.2) = d.wraps.reverse := by
            rw [← bwS_bytes d.wraps, ← hys]; simp [Function.comp_def]
          have hyl : ys.length ≤ 3 := by
            have := congrArg List.length hmap
            simp at this
            have := Hm.out
            omega
          rw [hmap, ← wrapT_rev] at hse
          have hsd : sB.data.toList = bodyT d := by rw [hse]; rfl
          have hck := checksum_full sB W (by omega)
          rw [hsd] at hck
          have hsz' : sB.size ≤ 6518 := by omega
          have HK := Lib.hid hK
          have HD := Lib.hid hD
          have HBWW := Lib.hid hBW
          have Hse := Lib.hid hse
          have Hck := Lib.hid hck
          have c6 := h6.cell
          have H6 := Lib.hid h6
          clear hsz hck hsd hse hmap hyl hys hK hD hBW h6 b6 b8
          go_wp2_with fail
          refine Hck.out.mono ?_
          rintro e w9 ⟨h9, hb9⟩
          rcases h9 with ⟨_, rfl⟩ | ⟨⟨c, hc, hn⟩, _⟩
          · have h69 := (hb9.block G6 (Array.getElem?_eq_some_iff.1 H6.out).1).trans H6.out
            have c69 : w9.cell? ⟨G6, 0, none⟩ = some (.string sB) := by rw [cell_of_row _ _ _ _ _ _ h69]; rfl
            obtain ⟨kB, hkB⟩ : ∃ kB : ByteArray, kB = ⟨(checksum (bodyT d)).toArray⟩ := ⟨_, rfl⟩
            have hkz : kB.size ≤ 8 := by rw [hkB, size_mk, checksum]; simp [lettersL]
            rw [← hkB]
            have Hb9 := Lib.hid hb9
            have HkB := Lib.hid hkB
            clear hkB hb9 c6
            go_wp2_with fail
            have hK9 : w9.heap[D]? = some (.deferred (some [])) := (Hb9.out.block D (Array.getElem?_eq_some_iff.1 HK.out).1).trans HK.out
            refine ⟨by simp, .inl ⟨_, _, rfl, run_takeDeferred hK9, ?_⟩⟩
            refine ⟨_, results_tmp rfl _ _ _, ?_, ?_⟩
            · have hdT : sB ++ ⟨#[35]⟩ ++ kB = ⟨(descT d).toArray⟩ := by
                rw [Hse.out, HkB.out, descT, bodyT, show (⟨#[35]⟩ : ByteArray) = ⟨([35] : List UInt8).toArray⟩ from rfl]
                simp only [cat_mk, List.append_assoc, List.cons_append, List.nil_append]
              rw [← hdT]
              rfl
            · rw [← HBW.out]
              exact ((hb8w.trans HBWW.out).trans (Hb9.out.mono (by have := HBWW.out.size; omega))).trans (belowK_b (w := w8) (by omega) _ D _ _ HD.out hK9 rfl rfl)
          · exact absurd (okD_spec ((bodyT_fit Hd.out).2 c hc)).1 hn
        case body =>
          rintro l pre ⟨x, hx⟩ W ⟨⟨sB, h6, hse, hsz⟩, hBW⟩ hpre
          have hpl : pre.length < 3 := by have := Hm.out; omega
          have hxz : (⟨x.2.toArray⟩ : ByteArray).size ≤ 4 := by rw [size_mk]; exact hx
          have hd : 1 ≤ n0 - 1 - 1 := by omega
          have c6 := h6.cell
          have f6 := h6.frozen
          have Hse := Lib.hid hse
          have H6 := Lib.hid h6
          have HBWW := Lib.hid hBW
          clear hse h6 hBW b6 b8 hsW hpre
          gi_wp2
          have bk : ∀ v, Below BW W (W.setCell ⟨G6, 0, none⟩ v) := fun v => (Below.refl _ _).mono (by have := HBWW.out.size; omega) |>.setCell (p := ⟨G6, 0, none⟩) h6W v
          refine ⟨(KeepsOthers.setCell _ _ _).from _, ⟨bk _, Below.heap_setCell _ _ _ _ (show Bs ≠ G6 by omega)⟩, ⟨_, H6.out.set _, ?_, ?_⟩, HBWW.out.trans (bk _)⟩
          · rw [List.map_append, List.foldl_append, Hse.out, show (⟨#[40]⟩ : ByteArray) = ⟨([40] : List UInt8).toArray⟩ from rfl, show (⟨#[41]⟩ : ByteArray) = ⟨([41] : List UInt8).toArray⟩ from rfl]
            simp only [cat_mk, List.append_assoc, List.cons_append, List.nil_append, List.map_cons, List.map_nil, List.foldl_cons, List.foldl_nil, wrap1]
          · simp only [ByteArray.size_append, List.length_append, List.length_cons, List.length_nil]
            show (⟨x.2.toArray⟩ : ByteArray).size + 1 + sB.size + 1 ≤ _
            omega
end Go.Proofs.YtcjioogololnoaaGreatDoor

/-! Desc.Form, Desc.Ranged. -/
namespace Go.Proofs.YtcjioogololnoaaGreatDoor
open Go Go.RowKit Go.Shelf

def formT (d : DDesc) : List UInt8 := Lib.join (d.wraps ++ if 0 < d.m then [manyW d.sorted] else []) [45]
def rangedD (d : DDesc) : Bool := d.keys.any (·.ranged)
theorem ow_of_owns {w : World} {base E n : Nat} {v : Value} {xs : List Value} (h : w.ownsRow base E 1 v n xs) : Ow w base E v xs := by
  obtain ⟨h1, h2⟩ := h
  rw [Nat.mul_one] at h1
  rcases h2 with ⟨rfl, rfl⟩ | ⟨g, cap, cur, rfl, hb, hg, hn, hm, hs, ht⟩
  · obtain rfl := List.eq_nil_of_length_eq_zero h1
    exact Ow.nil_ _ _ _ _
  · refine ⟨some ⟨g, 0, none⟩, cap, by rw [h1], by omega, hm, fun _ => ⟨g, cur, rfl, hb, hg, by omega, ?_⟩⟩
    rw [h1]
    rw [Nat.mul_one] at ht
    exact ht
theorem cloneS_any (A : Option Addr) (c : Nat) (l : List (List UInt8)) (w : World) (hs : Sl w w.heap.size A (ST l)) (hl : l.length ≤ 1000) :
    Calls Tryz.prog 28 #[.slice A l.length c] w fun e W' => ∃ v, e = .returned v ∧ Ow W' w.heap.size 9 v (ST l) ∧ Below w.heap.size w W' := by
  cases A with
  | none =>
    have h0 : l.length = 0 := by
      rcases Nat.eq_zero_or_pos l.length with h | h
      · exact h
      · obtain ⟨b, o, e, _⟩ := hs (by rw [ST_length]; exact h)
        cases e
    obtain rfl := List.eq_nil_of_length_eq_zero h0
    refine (Tryz.slices_Clone_string_nil _ c w).mono ?_
    rintro e W' ⟨rfl, rfl⟩
    exact ⟨_, rfl, Ow.nil_ _ _ _ _, Below.refl _ _⟩
  | some a =>
    by_cases h0 : l = []
    · subst h0
      refine (Tryz.slices_Clone_string_zero a c w).mono ?_
      rintro e W' ⟨v, rfl, ho, _, hb⟩
      exact ⟨v, rfl, ow_of_owns ho, hb⟩
    · obtain ⟨b, o, e, _, hc⟩ := hs (by rw [ST_length]; exact List.length_pos_iff.2 h0)
      injection e with e
      subst e
      refine (Tryz.slices_Clone_string b o l.length c (l.map fun p => ⟨p.toArray⟩) w (by simp) (by omega) (fun j hj => ?_)).mono ?_
      · have hj' : j < (ST l).length := by simpa using hj
        rw [hc j hj', ST_get]
        congr 2
        rw [List.getD_eq_getElem?_getD, List.getElem?_map, List.getElem?_eq_getElem (by simpa using hj)]
        rfl
      · rintro e W' ⟨v, rfl, ho, _, hb⟩
        have e1 : ((l.map fun p => (⟨p.toArray⟩ : ByteArray)).take l.length).map Value.string = ST l := by
          rw [List.take_of_length_le (by simp), List.map_map]; rfl
        rw [e1] at ho
        exact ⟨v, rfl, ow_of_owns ho, hb⟩

set_option maxRecDepth 100000 in
set_option maxHeartbeats 2000000 in
theorem form_any (d : DDesc) (hd : d.Fit) (base g : Nat) (w : World) (hD : DA w base g d) :
    Calls Tryz.prog 11 #[.pointer (some ⟨g, 0, none⟩)] w fun e W' => e = .returned (.string ⟨(formT d).toArray⟩) ∧ Below w.heap.size w W' := by
  obtain ⟨v, kv, hR, hO, hK⟩ := hD
  obtain ⟨Av, cv, rfl, hv1, hv2⟩ := hO.form
  rw [ST_length] at hR hv1 hO
  have hgl : g < w.heap.size := (Array.getElem?_eq_some_iff.1 hR).1
  have hw3 := hd.wraps
  have hlen : ∀ x ∈ d.wraps, x.length ≤ 11 := fun x hx => Nat.le_trans (word_fit x (hd.words x hx)).1 (by omega)
  have hml := (manyW_fit d.sorted).1
  have c0 := DC_0 hR
  have HR := Lib.hid hR
  have HC := Lib.hid (cloneS_any Av cv d.wraps w hO.sl (by omega))
  obtain ⟨m, hm⟩ : ∃ m, m = d.wraps.length := ⟨_, rfl⟩
  rw [← hm] at c0 HC hw3
  have Hm := Lib.hid hm
  have Hlen := Lib.hid hlen
  have Hml := Lib.hid hml
  clear hR hO hK hm hlen hml hd hv1
  go_enter Tryz.func11, Tryz.ntmps11
  go_wp2_with fail
  refine HC.out.mono ?_
  rintro e w1 ⟨v1, rfl, ho1, hb1⟩
  have hR1 := (hb1.block g hgl).trans HR.out
  have c1 := DC_1 hR1
  have c2 := DC_2 hR1
  have hz1 := hb1.size
  obtain ⟨A1, k1, rfl, hk1, hk2⟩ := ho1.form
  rw [ST_length, ← Hm.out] at ho1 hk1 ⊢
  have Ho1 := Lib.hid ho1
  have Hb1 := Lib.hid hb1
  clear HC hb1 ho1 hR1 c0
  obtain ⟨mm, hmm⟩ : ∃ mm, mm = d.m := ⟨_, rfl⟩
  rw [← hmm] at c1
  have Hmm := Lib.hid hmm
  clear hmm
  by_cases h0 : 0 < mm
  · have hd0 : decide ((0 : Int) < (mm : Int)) = true := decide_eq_true (by omega)
    have hf : formT d = Lib.join (d.wraps ++ [manyW d.sorted]) [45] := by rw [formT, if_pos (by rw [← Hmm.out]; exact h0)]
    have Hf := Lib.hid hf
    have HMa := Lib.hid (many_any g d.sorted w1 c2)
    obtain ⟨mw, hmw⟩ : ∃ mw, mw = manyW d.sorted := ⟨_, rfl⟩
    rw [← hmw] at HMa Hf Hml
    clear hf hmw c2
    go_wp2_with fail
    refine HMa.out.mono ?_
    rintro e w2 ⟨rfl, hww⟩
    rw [hww]
    clear hww HMa
    go_wp2_with (first | (at_builtin; go_loud (refine wpList_append_Ow (m := 1) (c := 1) (base := w.heap.size) (xs := ST d.wraps) (v := .slice A1 m k1) (A := some ⟨w1.heap.size, 0, none⟩) (B := w1.heap.size + 1) (news := [.string ⟨mw.toArray⟩]) elT rfl (.tmp 14) (.tmp 17) rfl rfl (Ho1.out.alloc _) rfl (Sl.one w1 _ _) rfl (by simp; rfl) (by rw [ST_length, ← Hm.out]; simp [maxLen]; omega) (by rw [ST_length, ← Hm.out]; omega) (by rw [World.size_alloc]; omega) ?_); intro v3 w3 ho3 hg3 hr3; rw [ST_snoc] at ho3; obtain ⟨A3, k3, rfl, hk31, hk32⟩ := ho3.form; have HO3 := Lib.hid ho3; have HG3 := Lib.hid hg3; clear hg3 ho3 hr3))
    have hjl : (d.wraps ++ [mw]).length = d.wraps.length + 1 := by simp
    have hjj := join_le 45 11 (d.wraps ++ [mw]) (fun x hx => by
      rcases List.mem_append.1 hx with hx | hx
      · exact Hlen.out x hx
      · rw [List.mem_singleton] at hx; subst hx; exact Hml.out)
    rw [hjl, ← Hm.out] at hjj
    have hj := join_any A3 k3 (d.wraps ++ [mw]) 45 w3 HO3.out.sl (by rw [ST_length] at hk31; exact hk31) (by omega) (by rw [hjl, ← Hm.out]; omega)
    rw [hjl] at hj
    refine hj.mono ?_
    rintro e w4 ⟨rfl, hb4⟩
    have hbw3 : Below w.heap.size w w3 := push_below Hb1.out (Nat.le_refl _) Ho1.out HG3.out
    have HB4 := Lib.hid (hbw3.trans (hb4.mono hbw3.size))
    clear hjl hjj hj hb4 hbw3
    go_wp2_with fail
    go_ret
    exact ⟨by rw [Hf.out]; rfl, HB4.out⟩
  · obtain rfl : mm = 0 := by omega
    have hf : formT d = Lib.join d.wraps [45] := by rw [formT, if_neg (by rw [← Hmm.out]; omega), List.append_nil]
    have Hf := Lib.hid hf
    have Hj := Lib.hid (join_any A1 k1 d.wraps 45 w1 (Ho1.out.sl) (by rw [← Hm.out]; exact hk1) (by have := join_le 45 11 d.wraps Hlen.out; rw [← Hm.out] at this; omega) (by rw [← Hm.out]; omega))
    rw [← Hm.out] at Hj
    rw [← hf] at Hj
    clear hf h0
    go_wp2_with fail
    refine Hj.out.mono ?_
    rintro e w2 ⟨rfl, hb2⟩
    go_wp2_with fail
    go_ret
    exact ⟨rfl, Hb1.out.trans (hb2.mono Hb1.out.size)⟩
theorem rangedf_any (k : DKey) (hk : k.top.Ok) (pv sv : Value) (w : World) :
    Calls Tryz.prog 30 #[.agg (dkC k pv sv).toArray] w fun e W' => e = .returned (.bool k.ranged) ∧ Below w.heap.size w W' := by
  obtain ⟨cs, hcs⟩ : ∃ cs, cs = (dkC k pv sv).toArray := ⟨_, rfl⟩
  have hrow := heap_alloc_new w (.cells cs 62)
  obtain ⟨W0, hW0⟩ : ∃ W0, W0 = w.alloc (.cells cs 62) := ⟨_, rfl⟩
  rw [← hW0] at hrow
  have hb0 : Below w.heap.size w W0 := by rw [hW0]; exact (Below.refl _ w).alloc (Nat.le_refl _) _
  rw [← hcs]
  have hc73 : cs[73]? = some (.bool k.ranged) := by rw [hcs, List.getElem?_toArray]; exact dkC_73 hk pv sv
  have HW0 := Lib.hid hW0
  have Hb0 := Lib.hid hb0
  clear hcs hrow hW0 hb0
  go_enter Tryz.func30, Tryz.ntmps30
  go_wp2_with fail
  go_ret
  exact ⟨rfl, by rw [← HW0.out]; exact Hb0.out⟩

set_option maxRecDepth 100000 in
set_option maxHeartbeats 2000000 in
theorem indexK_any (base lo : Nat) (kv : Value) (ks : List DKey) (hl : ks.length ≤ 4096) (w : World) (hK : KS w base lo kv ks) (hok : ∀ k ∈ ks, k.top.Ok) :
    Calls Tryz.prog 59 #[kv, .func (.func 30) #[] #[]] w fun e w' => (∃ i : Int, e = .returned (.int .i64 i) ∧ ((0 ≤ i ∧ ks.any (·.ranged) = true) ∨ (i = -1 ∧ ks.any (·.ranged) = false))) ∧ Below w.heap.size w w' := by
  obtain ⟨Ak, ck, rfl, hk1, hk2⟩ := hK.form
  obtain ⟨m, hm⟩ : ∃ m, m = ks.length := ⟨_, rfl⟩
  rw [← hm] at hl hk1 hK ⊢
  have Hm := Lib.hid hm
  have HK := Lib.hid hK
  have Hok := Lib.hid hok
  have IK := Lib.hid (show (Tryz.prog.info? 62).map (·.size) = some 75 by kernel_rfl)
  clear hm hK hok
  go_enter Tryz.func59, Tryz.ntmps59
  go_wp2
  go_loopw [4, 8] (fun r i wr => ∃ k : Nat, k ≤ m ∧ i = .int .i64 k ∧ r = .int .i64 0 ∧ Hid ((ks.take k).any (·.ranged) = false) ∧ Below w.heap.size w wr) (fun _ i _ => m - (intOf i).toNat)
  case atStart => exact ⟨0, Nat.zero_le _, rfl, rfl, Lib.hid rfl, Below.refl _ _⟩
  case round =>
    obtain ⟨k, hk, rfl, rfl, HN, hb⟩ := hrel
    by_cases hlt : k < m
    · have hkn : k < ks.length := by have := Hm.out; omega
      obtain ⟨ky, hky⟩ : ∃ ky, ky = ks[k] := ⟨_, rfl⟩
      obtain ⟨gk, ck', pv, sv, he, hgk, hKV, hrg⟩ := HK.out.at_ k hkn
      rw [← hky] at hKV hrg
      injection he with he1 he2 he3
      subst he1
      have hmem : ky ∈ ks := by rw [hky]; exact List.getElem_mem _
      have hfit : ky.top.Ok := Hok.out _ hmem
      have hrg' : wr.rangeAt gk (k * 75) (dkC ky pv sv) := fun j u hu => cell_below (hrg j u hu) hb
      have htk : (ks.take (k + 1)).any (·.ranged) = ky.ranged := by
        rw [List.take_succ_eq_append_getElem hkn, List.any_append, HN.out, hky]; simp
      have hrf := rangedf_any ky hfit pv sv wr
      obtain ⟨L, hL⟩ : ∃ L, L = dkC ky pv sv := ⟨_, rfl⟩
      have hcz : L.length = 75 := by rw [hL]; exact dkC_length hfit _ _
      rw [← hL] at hrf hrg'
      have Hrf := Lib.hid hrf
      have Hrg := Lib.hid hrg'
      have HIl : Hid ((Tryz.prog.info? 62).map (·.size) = some L.length) := Lib.hid (by rw [hcz]; exact IK.out)
      have Htk := Lib.hid htk
      have Hmem := Lib.hid hmem
      have Hb := Lib.hid hb
      obtain ⟨b, hbr⟩ : ∃ b, b = ky.ranged := ⟨_, rfl⟩
      rw [← hbr] at Hrf Htk
      have Hbr := Lib.hid hbr
      clear hky he2 he3 hgk hKV hrg hfit hrg' htk hrf hL hcz hmem hb hbr
      go_wp2_with (first | ((with_reducible refine wpList_load_mid ?s1 62 (.tmp 14) ?s2 gk (k * 75) ?s3 L _ Hrg.out Tryz.underlying62 ?s4 HIl.out ?_); (case s1 => rfl); (case s2 => rfl); (case s3 => rfl); (case s4 => rfl)))
      refine Hrf.out.mono ?_
      rintro e w2 ⟨rfl, hb2⟩
      have HB2 := Lib.hid (Hb.out.trans (hb2.mono Hb.out.size))
      clear hb2
      cases b with
      | true =>
        go_wp2_with fail
        go_ret
        exact ⟨⟨_, rfl, .inl ⟨by omega, List.any_eq_true.2 ⟨ky, Hmem.out, Hbr.out.symm⟩⟩⟩, HB2.out⟩
      | false =>
        go_wp2_with fail
        exact ⟨⟨k + 1, by omega, rfl, rfl, Htk, HB2.out⟩, by simp [intOf]; omega⟩
    · obtain rfl : k = m := by omega
      have hN : ks.any (·.ranged) = false := by rw [← HN.out, List.take_of_length_le (by have := Hm.out; omega)]
      have HNN := Lib.hid hN
      have Hb := Lib.hid hb
      clear hN hb
      go_wp2_with fail
      go_ret
      exact ⟨⟨_, rfl, .inr ⟨rfl, HNN.out⟩⟩, Hb.out⟩
set_option maxRecDepth 100000 in
set_option maxHeartbeats 2000000 in
theorem containsK_any (base lo : Nat) (kv : Value) (ks : List DKey) (hl : ks.length ≤ 4096) (w : World) (hK : KS w base lo kv ks) (hok : ∀ k ∈ ks, k.top.Ok) :
    Calls Tryz.prog 29 #[kv, .func (.func 30) #[] #[]] w fun e w' => e = .returned (.bool (ks.any (·.ranged))) ∧ Below w.heap.size w w' := by
  have HI := Lib.hid (indexK_any base lo kv ks hl w hK hok)
  obtain ⟨b, hb⟩ : ∃ b, b = ks.any (·.ranged) := ⟨_, rfl⟩
  rw [← hb] at HI ⊢
  clear hb hK hok hl
  go_enter Tryz.func29, Tryz.ntmps29
  go_wp2_with fail
  refine HI.out.mono ?_
  rintro e w2 ⟨⟨i, rfl, ⟨h0, rfl⟩ | ⟨rfl, rfl⟩⟩, hb2⟩
  · have hd : decide ((0 : Int) ≤ i) = true := decide_eq_true h0
    go_wp2_with fail
    go_ret
    exact ⟨by simp, hb2⟩
  · go_wp2_with fail
    go_ret
    exact ⟨by simp, hb2⟩
set_option maxRecDepth 100000 in
set_option maxHeartbeats 2000000 in
theorem ranged_any (d : DDesc) (hd : d.Fit) (base g : Nat) (w : World) (hD : DA w base g d) :
    Calls Tryz.prog 13 #[.pointer (some ⟨g, 0, none⟩)] w fun e W' => e = .returned (.bool (rangedD d)) ∧ Below w.heap.size w W' := by
  obtain ⟨v, kv, hR, hO, hK⟩ := hD
  have c3 := DC_3 hR
  have HC := Lib.hid (containsK_any base (g + 1) kv d.keys (by have := hd.num; omega) w hK (fun k hk => (hd.keys k hk).top))
  rw [rangedD]
  obtain ⟨b, hb⟩ : ∃ b, b = d.keys.any (·.ranged) := ⟨_, rfl⟩
  rw [← hb] at HC ⊢
  clear hb hR hO hK hd
  go_enter Tryz.func13, Tryz.ntmps13
  go_wp2_with fail
  refine HC.out.mono ?_
  rintro e w2 ⟨rfl, hb2⟩
  go_wp2_with fail
  go_ret
  exact ⟨rfl, hb2⟩
end Go.Proofs.YtcjioogololnoaaGreatDoor
