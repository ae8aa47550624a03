/- A region that draws its order, along a plan whose steps may turn the world and keep S, and whose quiet reads lean on S alone. | The reference's PayMulti, where it errs. | bytes.Clone of a slice that is there; script.between; script.small; script.PayScript; script.PayWitness. | script.multi of a script for m of some keys. -/
import Derived.Test.YtkiigonikeeikaaGreatDoorU11
import Derived.Test.YtkiigonikeeikaaGreatDoorU2
import Derived.Test.YtkiigonikeeikaaGreatDoorU5
import Derived.Test.YtkiigonikeeikaaGreatDoorShelf
import Derived.Test.YtkiigonikeeikaaGreatDoorV4

/-! A region that draws its order, along a plan whose steps may turn the world and keep S, and whose quiet reads lean on S alone. -/
namespace Go.Proofs.YtkiigonikeeikaaGreatDoor
open Go Go.RowKit
section
variable {P : Program} {ops : Array Oper} {md : Region.Mode}
variable {Q : Act → World → Prop} {st : Nat → (Act → World → Prop) → Act → World → Prop} {S : World → Prop}

def wpPlanS (P : Program) (ops : Array Oper) (Q : Act → World → Prop) (st : Nat → (Act → World → Prop) → Act → World → Prop) (S : World → Prop) : List (Nat × Nat) → Act → World → Prop
  | [], a, w => Q a w
  | (i, k) :: rest, a, w =>
    if k = 2 then st i (fun a' w' => S w' ∧ wpPlanS P ops Q st S rest a' w') a w
    else match ops[i]? with
      | none => False
      | some o => ∃ v, YieldsIf P ops S o v a ∧ wpPlanS P ops Q st S rest (a.put o.dst v) w
def planS (md : Region.Mode) (ops : Array Oper) : List (Nat × Nat) → Array Bool → Bool
  | [], listed => Region.ready md ops listed == []
  | (i, k) :: rest, listed =>
    (if k = 2 then Region.ready md ops listed == [i] else (Region.ready md ops listed).contains i && Region.free md ops listed i) && planS md ops rest (listed.setIfInBounds i true)
theorem no_tb {listed : Array Bool} (h : listed.size = ops.size) : ¬ tb ops.size listed := by
  rintro ⟨t, ht, hl⟩
  rw [show listed.getD t false = false by simp [Array.getElem?_eq_none (show listed.size ≤ t by omega)]] at hl
  cases hl
theorem planS_sound (L : StepLaws P ops Q st) (hsel : Region.noSelect ops = true) : ∀ (plan : List (Nat × Nat)) (listed : Array Bool) (a : Act) (w : World),
    planS md ops plan listed = true → Closed md ops listed → S w → wpPlanS P ops Q st S plan a w → wpAnyS md ops Q st ops.size S plan.length listed a w
  | [], listed, a, w, hB, _, _, h => ⟨by simpa [planS] using hB, h⟩
  | (i, k) :: rest, listed, a, w, hB, hcl, hS, h => by
    by_cases hk : k = 2
    · subst hk
      simp only [planS, if_true, Bool.and_eq_true] at hB
      obtain ⟨hr, hrest⟩ := hB
      have hr : Region.ready md ops listed = [i] := by simpa using hr
      have hr' : i ∈ Region.ready md ops listed := by rw [hr]; simp
      refine ⟨fun h0 => (by rw [h0] at hr; cases hr), fun j hj => ?_⟩
      rw [hr] at hj
      obtain rfl : j = i := by simpa using hj
      simp only [wpPlanS, if_true] at h
      exact L.mono (fun a' w' h' => ⟨.inr h'.1, planS_sound L hsel rest _ a' w' hrest (hcl.set hr') h'.1 h'.2⟩) h
    · simp only [planS, hk, if_false, Bool.and_eq_true] at hB
      obtain ⟨⟨hr, hf⟩, hrest⟩ := hB
      have hr' : i ∈ Region.ready md ops listed := by simpa using hr
      simp only [wpPlanS, hk, if_false] at h
      split at h
      · exact h.elim
      · rename_i o ho
        obtain ⟨v, hy, hK⟩ := h
        have hrec := planS_sound L hsel rest (listed.setIfInBounds i true) (a.put o.dst v) w hrest (hcl.set hr') hS hK
        exact wpAnyS_first L (S := S) (S1 := S) ho (Region.noSelect_spec hsel) (Array.getElem?_eq_some_iff.1 ho).1 (fun l w' hc _ ht => ht.resolve_left (no_tb hc.1)) rest.length listed a w hcl (Region.free_spec ho hf) hr' hy (.inr hS) hrec
end
section
variable {P : Program} {ops : Array Oper} {S : World → Prop}
theorem wp_region_planS {id : Nat} {Q : Exit → Act → World → Prop} {a : Act} {w : World} {l : List Oper} (S : World → Prop) (plan : List (Nat × Nat)) (hm : P.follows .mixedOrders = true)
    (hB : (Region.noSelect l.toArray && decide (plan.length = l.length) && planS .any l.toArray plan (Array.replicate l.length false)) = true) (hQ : ∀ c a d v w, Q (.panic c) (Act.put a d v) w → Q (.panic c) a w) (hS : S w.drew)
    (h : wpPlanS P l.toArray (Q .normal) (fun i K a w => wpOp P l.toArray Q i K a w) S plan a w.drew) : (Code.region id l.toArray true).wp P Q a w := by
  simp only [Bool.and_eq_true, decide_eq_true_eq] at hB
  refine wp_region_any hm ?_
  have := planS_sound (plainLaws Q hQ) hB.1.1 plan (Array.replicate l.length false) a w.drew hB.2 ⟨by simp, fun j oj hj hl => by
    rcases Nat.lt_or_ge j l.length with h | h
    · simp [h] at hl
    · simp [h] at hl⟩ hS h
  rw [hB.1.2] at this
  have := wpAny_of_S _ _ _ _ this
  simpa using this
theorem wpPlanS_pure {Q : Act → World → Prop} {st : Nat → (Act → World → Prop) → Act → World → Prop} {i k : Nat} {rest : List (Nat × Nat)} {o : Oper} {a : Act} {w : World} (hk : k ≠ 2) (ho : ops[i]? = some o)
    (h : ∀ K : Act → Prop, (∀ a, wpPlanS P ops Q st S rest a w → K a) → if Region.wanted o (yielded ops a.tmps) then pureOp P o a K else K (a.put o.dst undef)) :
    wpPlanS P ops Q st S ((i, k) :: rest) a w := by
  have h := h _ (fun _ h => h)
  simp only [wpPlanS, hk, if_false, ho]
  split at h
  · rename_i hw
    obtain ⟨v, hv, hK⟩ := h
    refine ⟨v, .inl ⟨hw, fun w' _ => ?_⟩, hK⟩
    have := hv w'
    generalize (execOp a.eval o).run P w' = r at *
    cases r with
    | ok n w' => cases n <;> simp only [stillUpon] at this
                 obtain ⟨rfl, rfl⟩ := this; rfl
    | halt x w' => simp only [stillUpon] at this
  · rename_i hw
    exact ⟨undef, .inr ⟨by simpa using hw, rfl⟩, h⟩
/-- A load of one cell, that S knows. -/
theorem wpPlanS_load {Q : Act → World → Prop} {st : Nat → (Act → World → Prop) → Act → World → Prop} {i k : Nat} {rest : List (Nat × Nat)} {o : Oper} {a : Act} {w : World} (v : Value) (hk : k ≠ 2) (ho : ops[i]? = some o) (hg : Region.wanted o (yielded ops a.tmps) = true)
    (hv : ∀ W, S W → (execOp a.eval o).run P W = .ok (.value v) W) (h : wpPlanS P ops Q st S rest (a.put o.dst v) w) : wpPlanS P ops Q st S ((i, k) :: rest) a w := by
  simp only [wpPlanS, hk, if_false, ho]
  exact ⟨v, .inl ⟨hg, fun w' hw => hv w' hw⟩, h⟩
theorem wpPlanS_loud {Q : Exit → Act → World → Prop} {i : Nat} {rest : List (Nat × Nat)} {o : Oper} {a : Act} {w : World} (ho : ops[i]? = some o) (hg : o.guard = none)
    (h : ∀ K : Act → World → Prop, (∀ a' w', (S w' ∧ wpPlanS P ops (Q .normal) (fun i K a w => wpOp P ops Q i K a w) S rest a' w') → K a' w') → o.wp P a w K Q) :
    wpPlanS P ops (Q .normal) (fun i K a w => wpOp P ops Q i K a w) S ((i, 2) :: rest) a w := by
  simp only [wpPlanS, if_true, wpOp, ho, Region.wanted, hg]
  exact .inl (h _ (fun _ _ h => h))
theorem wpPlanS_nil {Q : Act → World → Prop} {st : Nat → (Act → World → Prop) → Act → World → Prop} {a : Act} {w : World} (h : Q a w) : wpPlanS P ops Q st S [] a w := h
end
end Go.Proofs.YtkiigonikeeikaaGreatDoor

/-! The reference's PayMulti, where it errs. -/
namespace Go.Proofs.YtkiigonikeeikaaGreatDoor
open Go.RowKit

set_option maxRecDepth 100000 in
set_option maxHeartbeats 4000000 in
theorem rpay_any (m : Int) (A : Option Addr) (c : Nat) (ks : List (List UInt8)) (w : World) (hK : Keys w w.heap.size A ks) (hl : ks.length ≤ 16) (hne : (payR m ks).1 ≠ 0) :
    Calls Tryz.prog 6 #[.int .i64 m, .slice A ks.length c] w fun e W' => (∃ v, e = .returned (.tuple #[v, .int .i64 ((payR m ks).1 : Int)])) ∧ Below w.heap.size w W' := by
  obtain ⟨n, hn⟩ : ∃ n, n = ks.length := ⟨_, rfl⟩
  obtain ⟨F, hF⟩ : ∃ F, F = payR m ks := ⟨_, rfl⟩
  rw [← hF] at hne ⊢
  rw [← hn] at hl ⊢
  have Hn := Lib.hid hn
  have HF := Lib.hid hF
  clear hn hF
  by_cases h1 : n < 1 ∨ m < 1 ∨ (n : Int) < m
  · have hFv : F = (1, []) := by rw [HF.out, payR, ← Hn.out, if_pos (by omega)]
    have HFv := Lib.hid hFv
    clear hFv
    rcases h1 with h1 | h1
    · go_enter Tryz.func6, Tryz.ntmps6
      go_wp2_with fail
      go_ret2
      rw [HFv.out]
      exact ⟨⟨_, rfl⟩, Below.refl _ _⟩
    by_cases h2 : n < 1
    · go_enter Tryz.func6, Tryz.ntmps6
      go_wp2_with fail
      go_ret2
      rw [HFv.out]
      exact ⟨⟨_, rfl⟩, Below.refl _ _⟩
    by_cases h3 : m < 1
    · go_enter Tryz.func6, Tryz.ntmps6
      go_wp2_with fail
      go_ret2
      rw [HFv.out]
      exact ⟨⟨_, rfl⟩, Below.refl _ _⟩
    · have h4 : (n : Int) < m := by omega
      go_enter Tryz.func6, Tryz.ntmps6
      go_wp2_with fail
      go_ret2
      rw [HFv.out]
      exact ⟨⟨_, rfl⟩, Below.refl _ _⟩
  obtain ⟨q, rfl⟩ : ∃ q : Nat, m = (q : Int) := ⟨m.toNat, by omega⟩
  have hn1 : 1 ≤ n := by omega
  have hq1 : 1 ≤ q := by omega
  have hqn : q ≤ n := by omega
  clear h1
  have hFv : F = if ∀ k ∈ ks, k.length = 33 then (0, payL q ks) else (3, []) := by rw [HF.out, payR, ← Hn.out, if_neg (by omega)]; rfl
  have HFv := Lib.hid hFv
  clear hFv HF
  obtain ⟨c0, hc0⟩ : ∃ c0, c0 = UInt8.ofNat (80 + q) := ⟨_, rfl⟩
  have Hc0 := Lib.hid hc0
  have hc80 : (80 + (q : Int)) = (c0.toNat : Int) := by rw [hc0, UInt8.toNat_ofNat']; omega
  have Hne := Lib.hid hne
  have hqn' : ¬ (n < q) := by omega
  clear hc0 hne
  go_enter Tryz.func6, Tryz.ntmps6
  go_wp2_with fail
  clear hc80
  go_loopw [6, 7] (fun v i wr => ∃ k : Nat, k ≤ n ∧ i = .int .i64 k ∧ Ow wr w.heap.size 5 v (B8 (c0 :: keysL (ks.take k))) ∧ Hid (∀ x ∈ ks.take k, x.length = 33) ∧ Below w.heap.size w wr) (fun _ i _ => n - (intOf i).toNat)
  case atStart => exact ⟨0, Nat.zero_le _, rfl, Ow.new1 w _ _ _ (Nat.le_refl _), Lib.hid (by simp), (Below.refl _ _).alloc (Nat.le_refl _) _⟩
  case round =>
    obtain ⟨k, hk, rfl, ho, H33, hb⟩ := hrel
    obtain ⟨L, hL⟩ : ∃ L, L = c0 :: keysL (ks.take k) := ⟨_, rfl⟩
    obtain ⟨l, hl'⟩ : ∃ l, l = L.length := ⟨_, rfl⟩
    have hll : l ≤ 600 := by
      rw [hl', hL, List.length_cons, keysL_length _ H33.out, List.length_take]; omega
    rw [← hL] at ho
    obtain ⟨Al, cl, rfl, hcl, hcl'⟩ := own_form ho
    rw [← hl'] at ho hcl ⊢
    have HL := Lib.hid hL
    have Hl := Lib.hid hl'
    have hz := hb.size
    clear hL hl'
    by_cases hlt : k < n
    · have hkk : k < ks.length := by rw [← Hn.out]; exact hlt
      obtain ⟨b9, o9, rfl, hb9, Aj, cj, hcj, hSj, hlj, hmj⟩ := hK.at_ hkk
      obtain ⟨key, hkey⟩ : ∃ key, key = ks[k] := ⟨_, rfl⟩
      rw [← hkey] at hcj hSj hlj
      have hcell : wr.cell? ⟨b9, o9 + k, none⟩ = some (.slice Aj key.length cj) := by rw [hb.cell (p := ⟨b9, o9 + k, none⟩) hb9, hcj]
      obtain ⟨kl, hkl⟩ : ∃ kl, kl = key.length := ⟨_, rfl⟩
      rw [← hkl] at hcell hlj
      have Hkl := Lib.hid hkl
      have Hkey := Lib.hid hkey
      have hSr := (hSj.below hb).mono hz
      clear hkl hkey hcj
      by_cases h33 : kl = 33
      · subst h33
        have hmx : Tryz.prog.follows .mixedOrders = true := by kernel_rfl
        go_wp2_with fail
        have hcS : ∀ W, Below w.heap.size w W → W.cell? ⟨b9, o9 + k, none⟩ = some (.slice Aj 33 cj) := fun W hW => by
          rw [hW.cell (p := ⟨b9, o9 + k, none⟩) hb9]; rw [hb.cell (p := ⟨b9, o9 + k, none⟩) hb9] at hcell; exact hcell
        refine wp_region_planS (Below w.heap.size w) [(0, 0), (3, 0), (4, 0), (5, 0), (6, 1), (1, 2), (2, 2), (7, 2), (8, 0)] hmx (by kernel_rfl) (by intro c a d v w h; cases d <;> exact h) hb.drew ?_
        repeat (refine wpPlanS_pure (by decide) rfl (fun K hK => ?_); go_simp; (first | (refine hK _ ?_) | (simp only [IntWalk.iteOmega]; go_simp; refine hK _ ?_) | (go_bits; go_simp; refine hK _ ?_)); clear hK K; (try go_bits))
        refine wpPlanS_load (.slice Aj 33 cj) (by decide) rfl rfl (fun W hW => ?_) ?_
        · have hcW := hcS W hW
          clear hcell
          go_simp
        refine (show wpPlanS _ _ _ _ _ _ (Act.put _ (some 48) _) _ from ?_)
        conv in (Act.put _ (some 48) _) => simp [Act.put]
        refine wpPlanS_loud rfl rfl (fun K hK => ?_)
        go_wp2_with fail
        obtain ⟨w5, hw5⟩ : ∃ w5, w5 = (wr.alloc (.cells #[.int .u8 33] 5)).drew := ⟨_, rfl⟩
        rw [← hw5]
        have hb5 : Below w.heap.size w w5 := by rw [hw5]; exact (hb.alloc hz _).drew
        have ho5 : Ow w5 w.heap.size 5 (.slice Al l cl) (B8 L) := by rw [hw5]; exact (ho.alloc _).drew
        have hn5 : Sl w5 (wr.heap.size + 1) (some ⟨wr.heap.size, 0, none⟩) [.int .u8 33] := by rw [hw5]; exact (Sl.one wr _ _).drew
        have hz5 := hb5.size
        clear hw5
        refine ⟨hb5, ?_⟩
        refine wpPlanS_loud rfl rfl (fun K hK => ?_)
        refine wp_append_Ow (m := 1) (c := 1) (base := w.heap.size) (xs := B8 L) (v := .slice Al l cl) (A := some ⟨wr.heap.size, 0, none⟩) (B := wr.heap.size + 1) (news := [.int .u8 33]) elB (.tmp 42) (.tmp 43) rfl rfl ho5 rfl hn5 rfl (by simp; rfl) (by rw [B8_length, ← Hl.out]; simp [maxLen]; omega) (by rw [B8_length, ← Hl.out]; omega) hz5 ?_
        intro v3 w3 ho3 hg3 hr3
        rw [b8_snoc L (.int .u8 33) 33 rfl] at ho3
        have hb3 := hb5.grown hg3 hz5 (fun r hr => (ho5.row r hr).1)
        have hS3 := (hSj.below hb3).mono hb3.size
        refine (show K (Act.put _ (some 44) v3) w3 from ?_)
        conv in (Act.put _ (some 44) v3) => simp [Act.put]
        refine hK _ _ ⟨hb3, ?_⟩
        clear hK K
        refine wpPlanS_loud rfl rfl (fun K hK => ?_)
        refine wp_append_Ow (m := 33) (c := cj) (base := w.heap.size) (xs := B8 (L ++ [33])) (v := v3) (A := Aj) (B := w3.heap.size) (news := B8 key) elB (.tmp 44) (.tmp 48) rfl rfl ho3 rfl hS3 (by rw [B8_length]; exact Hkl.out.symm) (B8_oneCell _) (by rw [B8_length, List.length_append, ← Hl.out]; simp [maxLen]; omega) (by rw [B8_length, List.length_append, ← Hl.out, List.length_singleton]; omega) hb3.size ?_
        intro v4 w4 ho4 hg4 hr4
        have hb4 := hb3.grown hg4 hb3.size (fun r hr => (ho3.row r hr).1)
        refine (show K (Act.put _ (some 49) v4) w4 from ?_)
        conv in (Act.put _ (some 49) v4) => simp [Act.put]
        refine hK _ _ ⟨hb4, ?_⟩
        clear hK K
        repeat (refine wpPlanS_pure (by decide) rfl (fun K hK => ?_); go_simp; (first | (refine hK _ ?_) | (simp only [IntWalk.iteOmega]; go_simp; refine hK _ ?_) | (go_bits; go_simp; refine hK _ ?_)); clear hK K; (try go_bits))
        refine wpPlanS_nil ?_
        clear ho ho5 hg3 hr3 hn5 hb5 hcS hcell
        go_wp2_with fail
        rw [← B8_append] at ho4
        have hnew : L ++ [33] ++ key = c0 :: keysL (ks.take (k + 1)) := by
          rw [HL.out, List.take_succ_eq_append_getElem hkk, keysL_snoc, ← Hkey.out]; simp
        rw [hnew] at ho4
        exact ⟨⟨k + 1, by omega, rfl, ho4, Lib.hid (by
          rw [List.take_succ_eq_append_getElem hkk]
          intro x hx
          rcases List.mem_append.1 hx with hx | hx
          · exact H33.out x hx
          · rw [List.mem_singleton.1 hx, ← Hkey.out]; exact Hkl.out.symm), hb3.grown hg4 hb3.size (fun r hr => (ho3.row r hr).1)⟩, by simp [intOf]; omega⟩
      · have hFe : F = (3, []) := by
          rw [HFv.out, if_neg]
          intro hall
          exact h33 (by rw [Hkl.out]; exact hall key (by rw [Hkey.out]; exact List.getElem_mem _))
        have HFe := Lib.hid hFe
        clear hFe
        have h33' : ¬ ((kl : Int) = 33) := by omega
        go_wp2_with fail
        go_ret2
        rw [HFe.out]
        exact ⟨⟨_, rfl⟩, hb⟩
    · have htk : ks.take k = ks := List.take_of_length_le (by rw [← Hn.out]; omega)
      rw [htk] at H33
      exact absurd (by rw [HFv.out, if_pos H33.out]) Hne.out
end Go.Proofs.YtkiigonikeeikaaGreatDoor

/-! bytes.Clone of a slice that is there; script.between; script.small; script.PayScript; script.PayWitness. -/
namespace Go.Proofs.YtkiigonikeeikaaGreatDoor
open Go.RowKit Go.Shelf

set_option maxHeartbeats 2000000 in
theorem bclone_any (b o c : Nat) (bs : List UInt8) (w : World) (hs : Sl w w.heap.size (some ⟨b, o, none⟩) (B8 bs)) (hl : bs.length ≤ 1048576) :
    Calls Tryz.prog 29 #[.slice (some ⟨b, o, none⟩) bs.length c] w fun e W' => ∃ v, e = .returned v ∧ Ow W' w.heap.size 5 v (B8 bs) ∧ Below w.heap.size w W' := by
  have hnil := fun w => Lib.run_eql_slice_nil (P := Tryz.prog) w 23 5 (some ⟨b, o, none⟩) bs.length c 0 0 Tryz.underlying23
  go_enter Tryz.func29, Tryz.ntmps29
  go_wp2_with (at_builtin; go_loud (refine wpList_append_Ow (m := bs.length) (c := c) (base := w.heap.size) (xs := []) (v := .slice (some ⟨w.heap.size, 0, none⟩) 0 0) (A := some ⟨b, o, none⟩) (B := w.heap.size) (news := B8 bs) elB rfl (.tmp 5) (.tmp 6) rfl rfl (Ow.nil_ _ _ _ _) rfl (hs.alloc (Nat.le_refl _) _) (B8_length _) (B8_oneCell _) (by rw [List.length_nil]; simp [maxLen]; omega) (by rw [List.length_nil]; omega) (by simp) ?_); intro v1 w1 ho1 hg1 hr1)
  go_ret
  exact ⟨v1, rfl, by simpa using ho1, ((Below.refl _ w).alloc (Nat.le_refl _) _).grown hg1 (by simp) (by simp [rowOf])⟩

def nums (bs : List UInt8) : List Int := bs.map fun b => (b.toNat : Int)
theorem nums_length (bs : List UInt8) : (nums bs).length = bs.length := by simp [nums]
theorem nums_bytes (bs : List UInt8) : Lib.bytesOf (nums bs) = bs := by
  simp only [Lib.bytesOf, nums, List.map_map]
  conv => rhs; rw [← List.map_id bs]
  apply List.map_congr_left
  intro x _
  simp
theorem Sl.bytesIn {w : World} {B : Nat} {A : Option Addr} {bs : List UInt8} (h : Sl w B A (B8 bs)) : Lib.BytesIn w A bs.length (nums bs) := fun hn => by
  obtain ⟨b, o, e, _, hc⟩ := h (by simpa using hn)
  refine ⟨b, o, e, fun i hi => ?_⟩
  rw [hc i (by simpa using hi), B8_get]
  simp [nums, hi]

set_option maxHeartbeats 2000000 in
theorem between_miss (A Ah At : Option Addr) (c d t : Nat) (bs hs ts : List UInt8) (k : Nat) (w : World) (h1 : Sl w w.heap.size A (B8 bs)) (h2 : Sl w w.heap.size Ah (B8 hs)) (h3 : Sl w w.heap.size At (B8 ts)) (hbc : bs.length ≤ c) (hc : c ≤ maxLen) (hno : hs.isPrefixOf bs = false) :
    Calls Tryz.prog 30 #[.slice A bs.length c, .slice Ah hs.length d, .slice At ts.length t, .int .i64 k] w fun e w' => (∃ v, e = .returned (.tuple #[v, .bool false])) ∧ w' = w := by
  unfold maxLen at hc
  have hp := Tryz.bytes_CutPrefix_all A Ah bs.length c hs.length d (nums bs) (nums hs) w (nums_length _) (nums_length _) hbc h1.bytesIn h2.bytesIn
  have e1 : Lib.hasPrefix (Lib.bytesOf (nums bs)) (Lib.bytesOf (nums hs)) = false := by rw [nums_bytes, nums_bytes]; exact hno
  have e2 : Lib.trimPrefixV A bs.length c (nums bs) (nums hs) = .slice A bs.length c := by
    unfold Lib.trimPrefixV
    split
    · unfold Lib.bytesTrimPrefix; rw [e1]; rfl
    · rfl
  rw [e1, e2] at hp
  have hq := Tryz.bytes_CutSuffix_all A At bs.length c ts.length t (nums bs) (nums ts) w (nums_length _) (nums_length _) hbc (by omega) h1.bytesIn h3.bytesIn
  obtain ⟨V, hV⟩ : ∃ V, V = Lib.trimSuffixV A bs.length c (nums bs) (nums ts) := ⟨_, rfl⟩
  obtain ⟨β, hβ⟩ : ∃ β, β = Lib.hasSuffix (Lib.bytesOf (nums bs)) (Lib.bytesOf (nums ts)) := ⟨_, rfl⟩
  rw [← hV, ← hβ] at hq
  have Hp := Lib.hid hp
  have Hq := Lib.hid hq
  clear hp hq hV hβ e1 e2 hno h1 h2 h3
  go_enter Tryz.func30, Tryz.ntmps30
  go_wp2_with fail
  refine Hp.out.mono ?_
  rintro e w1 ⟨rfl, hw1⟩
  rw [hw1]
  clear hw1
  go_wp2_with fail
  refine Hq.out.mono ?_
  rintro e w1 ⟨rfl, hw1⟩
  rw [hw1]
  clear hw1
  go_wp2_with fail
  go_ret2
  exact ⟨⟨_, rfl⟩, rfl⟩

set_option maxHeartbeats 2000000 in
theorem between_hit (b o c d t : Nat) (Ah At : Option Addr) (hs mid ts : List UInt8) (k : Nat) (w : World) (h1 : Sl w w.heap.size (some ⟨b, o, none⟩) (B8 (hs ++ mid ++ ts))) (h2 : Sl w w.heap.size Ah (B8 hs)) (h3 : Sl w w.heap.size At (B8 ts)) (n : Nat) (hn : n = (hs ++ mid ++ ts).length) (hbc : n ≤ c) (hc : c ≤ maxLen)
    (hh0 : 0 < hs.length) (ht0 : 0 < ts.length) (hk : mid.length = k) :
    Calls Tryz.prog 30 #[.slice (some ⟨b, o, none⟩) n c, .slice Ah hs.length d, .slice At ts.length t, .int .i64 k] w fun e w' => e = .returned (.tuple #[.slice (some ⟨b, o + hs.length, none⟩) k (c - hs.length), .bool true]) ∧ w' = w := by
  unfold maxLen at hc
  have hn3 : n = hs.length + k + ts.length := by rw [hn]; simp; omega
  have hp := Tryz.bytes_CutPrefix_all (some ⟨b, o, none⟩) Ah (hs ++ mid ++ ts).length c hs.length d (nums (hs ++ mid ++ ts)) (nums hs) w (nums_length _) (nums_length _) (by omega) h1.bytesIn h2.bytesIn
  have e1 : Lib.hasPrefix (Lib.bytesOf (nums (hs ++ mid ++ ts))) (Lib.bytesOf (nums hs)) = true := by
    rw [nums_bytes, nums_bytes]
    unfold Lib.hasPrefix
    rw [List.isPrefixOf_iff_prefix]
    exact ⟨mid ++ ts, by simp⟩
  have e2 : Lib.trimPrefixV (some ⟨b, o, none⟩) (hs ++ mid ++ ts).length c (nums (hs ++ mid ++ ts)) (nums hs) = .slice (some ⟨b, o + hs.length, none⟩) (k + ts.length) (c - hs.length) := by
    obtain ⟨y, r, hy⟩ : ∃ y r, nums hs = y :: r := by
      cases hs with
      | nil => simp at hh0
      | cons x xs => exact ⟨_, _, rfl⟩
    have : Lib.trimPrefixV (some ⟨b, o, none⟩) (hs ++ mid ++ ts).length c (nums (hs ++ mid ++ ts)) (nums hs) = Lib.bytesTrimPrefix b o (hs ++ mid ++ ts).length c (nums (hs ++ mid ++ ts)) (nums hs) := by rw [hy]; rfl
    rw [this]
    unfold Lib.bytesTrimPrefix
    rw [e1, if_pos rfl, nums_length]
    unfold Lib.sliceFrom
    rw [if_neg (by omega), ← hn, hn3]
    congr 1
    omega
  rw [e1, e2, ← hn] at hp
  have h1' : Sl w w.heap.size (some ⟨b, o + hs.length, none⟩) (B8 (mid ++ ts)) := fun hn0 => by
    obtain ⟨b', o', e, hb, hcell⟩ := h1 (by simp at hn0 ⊢; omega)
    injection e with e; injection e with e3 e4; subst e3 e4
    refine ⟨b, o + hs.length, rfl, hb, fun j hj => ?_⟩
    rw [Nat.add_assoc, hcell (hs.length + j) (by simp at hj ⊢; omega), B8_get, B8_get]
    simp [List.getElem_append_right]
  have hmt : (mid ++ ts).length = k + ts.length := by simp [hk]
  have hq := Tryz.bytes_CutSuffix_all (some ⟨b, o + hs.length, none⟩) At (mid ++ ts).length (c - hs.length) ts.length t (nums (mid ++ ts)) (nums ts) w (nums_length _) (nums_length _) (by omega) (by omega) h1'.bytesIn h3.bytesIn
  have e3 : Lib.hasSuffix (Lib.bytesOf (nums (mid ++ ts))) (Lib.bytesOf (nums ts)) = true := by
    rw [nums_bytes, nums_bytes]
    unfold Lib.hasSuffix
    rw [List.isSuffixOf_iff_suffix]
    exact ⟨mid, rfl⟩
  have e4 : Lib.trimSuffixV (some ⟨b, o + hs.length, none⟩) (mid ++ ts).length (c - hs.length) (nums (mid ++ ts)) (nums ts) = .slice (some ⟨b, o + hs.length, none⟩) k (c - hs.length) := by
    obtain ⟨y, r, hy⟩ : ∃ y r, nums ts = y :: r := by
      cases ts with
      | nil => simp at ht0
      | cons x xs => exact ⟨_, _, rfl⟩
    have : Lib.trimSuffixV (some ⟨b, o + hs.length, none⟩) (mid ++ ts).length (c - hs.length) (nums (mid ++ ts)) (nums ts) = Lib.bytesTrimSuffix b (o + hs.length) (mid ++ ts).length (c - hs.length) (nums (mid ++ ts)) (nums ts) := by rw [hy]; rfl
    rw [this]
    unfold Lib.bytesTrimSuffix
    rw [e3, if_pos rfl, nums_length, hmt]
    unfold Lib.sliceTo
    congr 1
    omega
  rw [e3, e4, hmt] at hq
  obtain ⟨hl, hhl⟩ : ∃ hl, hl = hs.length := ⟨_, rfl⟩
  obtain ⟨tl, htl⟩ : ∃ tl, tl = ts.length := ⟨_, rfl⟩
  rw [← hhl, ← htl] at hq
  rw [← hhl, ← htl] at hp
  rw [← hhl, ← htl]
  have Hp := Lib.hid hp
  have Hq := Lib.hid hq
  clear hp hq e1 e2 e3 e4 hmt h1' h1 h2 h3 hhl htl hn hn3 hk
  go_enter Tryz.func30, Tryz.ntmps30
  go_wp2_with fail
  refine Hp.out.mono ?_
  rintro e w1 ⟨rfl, hw1⟩
  rw [hw1]
  clear hw1
  go_wp2_with fail
  refine Hq.out.mono ?_
  rintro e w1 ⟨rfl, hw1⟩
  rw [hw1]
  clear hw1
  go_wp2_with fail
  go_ret2
  exact ⟨rfl, rfl⟩

set_option maxHeartbeats 400000 in
theorem small_zero (w : World) : Calls Tryz.prog 57 #[.int .u8 0] w fun e w' => e = .returned (.int .i64 0) ∧ w' = w := by
  go_enter Tryz.func57, Tryz.ntmps57
  go_wp2
  go_ret
  exact ⟨rfl, rfl⟩
set_option maxHeartbeats 400000 in
theorem small_num (n : Nat) (h0 : 0 < n) (hn : n ≤ 16) (y : UInt8) (hy : y = UInt8.ofNat (80 + n)) (w : World) : Calls Tryz.prog 57 #[.int .u8 (y.toNat : Int)] w fun e w' => e = .returned (.int .i64 n) ∧ w' = w := by
  have he : y.toNat = 80 + n := by rw [hy, UInt8.toNat_ofNat']; omega
  have h1 : 81 ≤ y.toNat := by omega
  have h2 : y.toNat ≤ 96 := by omega
  have He := Lib.hid he
  clear he hy
  go_enter Tryz.func57, Tryz.ntmps57
  go_wp2
  go_ret
  refine ⟨?_, rfl⟩
  have := He.out
  have e : ((y.toNat : Int) - 81 + 1) = (n : Int) := by omega
  rw [← e]
  rfl
end Go.Proofs.YtkiigonikeeikaaGreatDoor

/-! script.multi of a script for m of some keys. -/
namespace Go.Proofs.YtkiigonikeeikaaGreatDoor
open Go.RowKit Go.Shelf
attribute [local go_sem] Oper.semAt_some

theorem keysL_at : ∀ (ks : List (List UInt8)) (h : ∀ k ∈ ks, k.length = 33) (j : Nat), j < ks.length → (keysL ks)[34 * j]? = some 33
  | k :: ks, _, 0, _ => rfl
  | k :: ks, h, j + 1, hj => by
    have h1 := keysL_at ks (fun x hx => h x (by simp [hx])) j (by simpa using hj)
    have h2 := h k (by simp)
    unfold keysL at h1 ⊢
    rw [List.flatMap_cons, List.getElem?_append_right (by simp [h2]; omega)]
    have e : 34 * (j + 1) - (33 :: k).length = 34 * j := by simp [h2]; omega
    rw [e, h1]
theorem payL_length (q : Nat) (ks : List (List UInt8)) (h : ∀ k ∈ ks, k.length = 33) : (payL q ks).length = 34 * ks.length + 3 := by
  have := keysL_length ks h
  unfold payL
  rw [List.length_append, List.length_cons, this]; simp
theorem payL_zero (q : Nat) (ks : List (List UInt8)) : (payL q ks)[0]? = some (UInt8.ofNat (80 + q)) := rfl
theorem payL_key (q : Nat) (ks : List (List UInt8)) (h : ∀ k ∈ ks, k.length = 33) (j : Nat) (hj : j < ks.length) : (payL q ks)[1 + 34 * j]? = some 33 := by
  unfold payL
  have := keysL_length ks h
  rw [List.getElem?_append_left (by rw [List.length_cons, this]; omega), show 1 + 34 * j = 34 * j + 1 by omega, List.getElem?_cons_succ]
  exact keysL_at ks h j hj
theorem payL_n (q : Nat) (ks : List (List UInt8)) (h : ∀ k ∈ ks, k.length = 33) : (payL q ks)[34 * ks.length + 1]? = some (UInt8.ofNat (80 + ks.length)) := by
  unfold payL
  have := keysL_length ks h
  rw [List.getElem?_append_right (by rw [List.length_cons, this]; omega), List.length_cons, this]
  simp
theorem payL_last (q : Nat) (ks : List (List UInt8)) (h : ∀ k ∈ ks, k.length = 33) : (payL q ks)[34 * ks.length + 2]? = some 174 := by
  unfold payL
  have := keysL_length ks h
  rw [List.getElem?_append_right (by rw [List.length_cons, this]; omega), List.length_cons, this]
  have e : 34 * ks.length + 2 - (34 * ks.length + 1) = 1 := by omega
  rw [e]; rfl

theorem s_info : (Tryz.prog.info? 23).map (fun i => (i.zero, i.size, i.bytes)) = some (some (.slice none 0 0), 1, 24) := by kernel_rfl
theorem elS : El Tryz.prog 22 23 (.slice none 0 0) 24 := ⟨Tryz.underlying22, by kernel_rfl, rfl⟩
theorem results_cell1 {P : Program} {fn : Func} {p : Tmp} {ty : TypeId} {E : TypeId} (h : fn.results = #[.cell p ty]) (hu : P.underlying ty = some (.slice E)) (tmps : Array Value) (w : World) (g : Nat) (v : Value) (hp : tmps.getD p undef = .pointer (some ⟨g, 0, none⟩)) (hc : w.cell? ⟨g, 0, none⟩ = some v) :
    (results fn tmps).run P w = .ok v w := by
  have hp' : tmps[p]?.getD undef = .pointer (some ⟨g, 0, none⟩) := by simpa using hp
  simp [results, h, hp', asAddr, loadVar, run_isAgg_plain hu rfl, hc]

def noPanic (Q : Exit → Act → World → Prop) : Exit → Act → World → Prop
  | .panic _, _, _ => False
  | e, a, w => Q e a w
theorem noPanic_le (Q : Exit → Act → World → Prop) : ∀ e a w, noPanic Q e a w → Q e a w := fun e _ _ h => by
  cases e <;> first | exact h | exact h.elim

set_option maxRecDepth 100000 in
set_option maxHeartbeats 8000000 in
theorem multi_in (n : Nat) (hn : 3 ≤ n) (b o c : Nat) (q N : Nat) (bs : List UInt8) (w : World) (hb : b < w.heap.size) (hcells : ∀ j (h : j < bs.length), w.cell? ⟨b, o + j, none⟩ = some (.int .u8 (bs[j].toNat : Int))) (hL : bs.length = 34 * N + 3) (hbc : bs.length ≤ c) (hc : c ≤ maxLen)
    (h0 : bs[0]? = some (UInt8.ofNat (80 + q))) (hkey : ∀ j, j < N → bs[1 + 34 * j]? = some 33) (hN : bs[34 * N + 1]? = some (UInt8.ofNat (80 + N))) (hlast : bs[34 * N + 2]? = some 174) (hq : 1 ≤ q) (hqN : q ≤ N) (hN16 : N ≤ 16) :
    CallsIn Fence.wide n Tryz.prog 32 #[.slice (some ⟨b, o, none⟩) bs.length c] w fun e W' => (∃ A c, e = .returned (.slice (some A) (N + 1) c)) ∧ Below w.heap.size w W' := by
  have h1 : 1 ≤ n := by omega
  have hF : ∀ k, Fence.wide.fn k := fun _ => trivial
  have hro : Fence.wide.round = none := rfl
  unfold maxLen at hc
  have cellAt : ∀ (j : Nat) (x : UInt8), bs[j]? = some x → w.cell? ⟨b, o + j, none⟩ = some (.int .u8 (x.toNat : Int)) := fun j x hx => by
    obtain ⟨hj, e⟩ := List.getElem?_eq_some_iff.1 hx
    rw [hcells j hj, e]
  obtain ⟨y0, hy0⟩ : ∃ y0, y0 = UInt8.ofNat (80 + q) := ⟨_, rfl⟩
  obtain ⟨yN, hyN⟩ : ∃ yN, yN = UInt8.ofNat (80 + N) := ⟨_, rfl⟩
  have c0 := cellAt 0 y0 (by rw [h0, hy0])
  have cN := cellAt (34 * N + 1) yN (by rw [hN, hyN])
  have cL := cellAt (34 * N + 2) 174 hlast
  have ck : ∀ j, j < N → w.cell? ⟨b, o + (1 + 34 * j), none⟩ = some (.int .u8 33) := fun j hj => cellAt _ _ (hkey j hj)
  have hs0 := small_num q hq (by omega) y0 hy0
  have hsN := small_num N (by omega) hN16 yN hyN
  have Ck := Lib.hid ck
  have Hs0 := Lib.hid hs0
  have HsN := Lib.hid hsN
  obtain ⟨L, hLL⟩ : ∃ L, L = bs.length := ⟨_, rfl⟩
  rw [← hLL] at hL hbc ⊢
  have e2 : (L : Int) - 1 = ((34 * N + 2 : Nat) : Int) := by omega
  have e3 : (L : Int) - 2 = ((34 * N + 1 : Nat) : Int) := by omega
  obtain ⟨pL, hpL⟩ : ∃ pL, pL = 34 * N + 2 := ⟨_, rfl⟩
  obtain ⟨pN, hpN⟩ : ∃ pN, pN = 34 * N + 1 := ⟨_, rfl⟩
  rw [← hpL] at e2 cL
  rw [← hpN] at e3 cN
  rw [Nat.add_zero] at c0
  have hy08 := y0.toNat_lt
  have hyN8 := yN.toNat_lt
  have hL1 : pL < L := by omega
  have hL2 : pN < L := by omega
  have HL := Lib.hid hL
  have HpL := Lib.hid hpL
  have HpN := Lib.hid hpN
  have hL3 : 3 ≤ L := by omega
  have hL600 : L ≤ 600 := by omega
  have Hcells := Lib.hid hcells
  have HLL := Lib.hid hLL
  clear hs0 hsN ck cellAt hcells hLL hL hkey hN hlast h0 hy0 hyN hpL hpN
  refine callsIn_of_wp_marks Tryz.func32 rfl (hF _) ?_ hro
  simp only [Tryz.ntmps32, List.size_toArray, List.length_cons, List.length_nil, Nat.reduceAdd, Nat.reduceSub, Array.replicate_succ, Array.replicate_zero, List.push_toArray, List.append_toArray, List.nil_append, List.cons_append]
  have hmx : Tryz.prog.follows .mixedOrders = true := by kernel_rfl
  gi_wp2
  refine wpIn_mono (wpIn_region_plan (Q := noPanic _) [(0, 0), (1, 0), (2, 1), (4, 0), (5, 0), (6, 0), (7, 0), (8, 0), (9, 1), (3, 2), (10, 2), (11, 0), (12, 0)] 13 (fun _ => hF _) hmx (by kernel_rfl) (fun _ _ _ _ _ h => h) ?_) (noPanic_le _)
  repeat ((first | (refine wpPlan_pure rfl (fun K hK => ?_)) | (refine wpPlan_quiet rfl (fun K hK => ?_))); go_simp; (first | (refine hK _ ?_) | (simp only [IntWalk.iteOmega]; go_simp; refine hK _ ?_) | (go_bits; go_simp; refine hK _ ?_)); clear hK K; (try go_bits))
  refine wpPlanIn_loud rfl rfl (fun K hK => ?_)
  gi_wp2
  refine callsIn_wide.2 ((Hs0.out _).mono ?_)
  rintro e w1 ⟨rfl, rfl⟩
  gi_wp2
  refine ⟨.inr (Ext.refl _), ?_⟩
  refine wpPlanIn_loud rfl rfl (fun K hK => ?_)
  gi_wp2
  refine callsIn_wide.2 ((HsN.out _).mono ?_)
  rintro e w1 ⟨rfl, rfl⟩
  gi_wp2
  refine ⟨.inr (Ext.refl _), ?_⟩
  repeat ((first | (refine wpPlan_pure rfl (fun K hK => ?_)) | (refine wpPlan_quiet rfl (fun K hK => ?_))); go_simp; (first | (refine hK _ ?_) | (simp only [IntWalk.iteOmega]; go_simp; refine hK _ ?_) | (go_bits; go_simp; refine hK _ ?_)); clear hK K; (try go_bits))
  refine wpPlan_nil ?_
  simp only [noPanic]
  obtain ⟨R, hR⟩ : ∃ R, R = w.heap.size := ⟨_, rfl⟩
  obtain ⟨W0, hW0⟩ : ∃ W0, W0 = (w.alloc (Obj.cells #[Value.slice none 0 0] 22)).drew := ⟨_, rfl⟩
  rw [← hW0, ← hR]
  have b0 : Boxed W0 R 22 (.slice none 0 0) := by rw [hW0, hR]; exact boxed_drew (Boxed.new w _ _)
  have hB0 : Below w.heap.size w W0 := by rw [hW0]; exact ((Below.refl _ w).alloc (Nat.le_refl _) _).drew
  have hsz0 : W0.heap.size = R + 1 := by rw [hW0, hR]; simp
  have hRw := hR
  have HR := Lib.hid hR
  obtain ⟨p34, hp34⟩ : ∃ p34, p34 = 34 * N := ⟨_, rfl⟩
  have e5 : pN - 1 = p34 := by have := HpN.out; omega
  have e6 : (N : Int) * 34 = (p34 : Int) := by omega
  have hpn1 : 1 ≤ pN := by have := HpN.out; omega
  have hpnc : pN ≤ c := by omega
  have H34 := Lib.hid hp34
  clear hW0 hR hRw c0 cN cL e2 hp34
  gi_wp2_with (gi_at_call 58; refine (chunk_in Fence.wide hF hro _ _ _ _ 34 (by omega) _).mono ?_; rintro e w' ⟨rfl, rfl⟩)
  obtain ⟨W1, hW1⟩ : ∃ W1, W1 = (((((W0.alloc (Obj.cells #[Value.int IntKind.u8 (q : Int)] 5)).alloc (Obj.cells #[Value.slice (some { block := R + 1, off := 0 }) 1 1] 23)).alloc (Obj.cells #[Value.slice (some { block := R + 1 + 1, off := 0 }) 1 1] 22)).alloc (Obj.cells #[Value.slice (some { block := b, off := o + 1 }) p34 (c - 1)] 23)).alloc (Obj.cells #[Value.int IntKind.i64 34] 3)) := ⟨_, rfl⟩
  rw [← hW1]
  have d0 : Boxed W1 R 22 (.slice none 0 0) := by rw [hW1]; exact ((((b0.alloc _).alloc _).alloc _).alloc _).alloc _
  have d2 : Ow W1 R 23 (.slice (some ⟨R + 1 + 1, 0, none⟩) 1 1) [.slice (some ⟨R + 1, 0, none⟩) 1 1] := by
    rw [hW1]
    have := (((Ow.new1 (W0.alloc (Obj.cells #[Value.int IntKind.u8 (q : Int)] 5)) (Value.slice (some { block := R + 1, off := 0 }) 1 1) 23 R (by simp; omega)).alloc (Obj.cells #[Value.slice (some { block := R + 1 + 1, off := 0 }) 1 1] 22)).alloc (Obj.cells #[Value.slice (some { block := b, off := o + 1 }) p34 (c - 1)] 23)).alloc (Obj.cells #[Value.int IntKind.i64 34] 3)
    simpa [hsz0] using this
  have d3 : Boxed W1 (R + 1 + 1 + 1) 22 (.slice (some ⟨R + 1 + 1, 0, none⟩) 1 1) := by
    rw [hW1]
    have := ((Boxed.new ((W0.alloc (Obj.cells #[Value.int IntKind.u8 (q : Int)] 5)).alloc (Obj.cells #[Value.slice (some { block := R + 1, off := 0 }) 1 1] 23)) 22 (Value.slice (some { block := R + 1 + 1, off := 0 }) 1 1)).alloc (Obj.cells #[Value.slice (some { block := b, off := o + 1 }) p34 (c - 1)] 23)).alloc (Obj.cells #[Value.int IntKind.i64 34] 3)
    simpa [hsz0] using this
  have d4 : Boxed W1 (R + 4) 23 (.slice (some ⟨b, o + 1, none⟩) p34 (c - 1)) := by
    rw [hW1]
    have := (Boxed.new (((W0.alloc (Obj.cells #[Value.int IntKind.u8 (q : Int)] 5)).alloc (Obj.cells #[Value.slice (some { block := R + 1, off := 0 }) 1 1] 23)).alloc (Obj.cells #[Value.slice (some { block := R + 1 + 1, off := 0 }) 1 1] 22)) 23 (Value.slice (some { block := b, off := o + 1 }) p34 (c - 1))).alloc (Obj.cells #[Value.int IntKind.i64 34] 3)
    simpa [hsz0] using this
  have d5 : Boxed W1 (R + 5) 3 (.int .i64 34) := by
    rw [hW1]
    have := Boxed.new ((((W0.alloc (Obj.cells #[Value.int IntKind.u8 (q : Int)] 5)).alloc (Obj.cells #[Value.slice (some { block := R + 1, off := 0 }) 1 1] 23)).alloc (Obj.cells #[Value.slice (some { block := R + 1 + 1, off := 0 }) 1 1] 22)).alloc (Obj.cells #[Value.slice (some { block := b, off := o + 1 }) p34 (c - 1)] 23)) 3 (.int .i64 34)
    simpa [hsz0] using this
  have hsz1 : W1.heap.size = R + 6 := by rw [hW1]; simp [hsz0]
  have hRw := HR.out
  have hB1 : Below R w W1 := by
    rw [hW1, hRw]
    exact (((((hB0.alloc (by omega) _).alloc (by simp; omega) _).alloc (by simp; omega) _).alloc (by simp; omega) _).alloc (by simp; omega) _)
  have hbR : b < R := by omega
  have h34c : p34 ≤ 4096 := by have := H34.out; omega
  have h34d : p34 ≤ c - 1 := by have := H34.out; omega
  have hRle : w.heap.size ≤ R := by omega
  have hRge : R ≤ w.heap.size := by omega
  clear hW1 b0 hB0 hsz0 hRw
  have hneb : (R + 1 + 1) ≠ R + 4 := by omega
  have hrow2 : ∀ g, rowOf (.slice (some ⟨R + 1 + 1, 0, none⟩) 1 1) = some g → g ≠ R + 4 ∧ g ≠ R + 5 := fun g hg => by simp [rowOf] at hg; omega
  refine wpIn_rangeFunc_ownG (a₁ := ?frA) hro h1 (gf := 79) (lb := #[.pointer (some ⟨R + 4, 0, none⟩), .pointer (some ⟨R + 5, 0, none⟩)]) rfl (hF _) (enters_of Tryz.func79 (by kernel_rfl) rfl)
    (chunk_stops Fence.wide hF hro (n - 1) (by omega) (R + 4) R b b (o + 1) (c - 1) 34 N (by omega) (by rw [← H34.out]; exact h34d) (by rw [← H34.out]; exact h34c) (α := {x : Nat // ∃ j, j < N ∧ x = 34 * j}) (·.1) (fun j h => ⟨⟨34 * j, j, h, rfl⟩, rfl⟩) W1 (by omega) (by omega) (by omega) (by rw [← H34.out]; exact d4.cell) d5.cell)
    KeepC.trans (KeepC.b (by omega) (by omega) (by omega)) (Below.refl _ _) (fun _ => rfl)
    (fun pre W => (∃ v xs, Boxed W (R + 1 + 1 + 1) 22 v ∧ Ow W R 23 v xs ∧ xs.length = pre.length + 1 ∧ (∀ g, rowOf v = some g → g ≠ R + 4 ∧ g ≠ R + 5) ∧ Boxed W R 22 (.slice none 0 0) ∧ Boxed W (R + 4) 23 (.slice (some ⟨b, o + 1, none⟩) p34 (c - 1)) ∧ Boxed W (R + 5) 3 (.int .i64 34)) ∧ Below R W1 W)
    (fun _ _ _ => False)
    (OwnFrom.and (Go.Own.from (fun s A B row hs hg hr => let ⟨v, xs, hv, ho, hl, hne, h0, h4, h5⟩ := hs; ⟨v, xs, boxed_others hv hg hr, ho.others hg hr, hl, hne, boxed_others h0 hg hr, boxed_others h4 hg hr, boxed_others h5 hg hr⟩) _) (ownFrom_below (by omega) (by omega)))
    (fun _ _ _ _ _ hs _ _ => hs)
    ⟨⟨_, _, d3, d2, rfl, hrow2, d0, d4, d5⟩, Below.refl _ _⟩
    ?assign ?body ?done ?stop
  case assign =>
    intro l x W K hK
    gi_wp2
    exact hK
  case stop =>
    rintro D c pre W _ _ h _
    exact h.elim
  case done =>
    rintro D ys W hD hys ⟨⟨v, xs, h3, ho, hxl, hne, h0, h4, h5⟩, hB⟩ hK
    have c3 := h3.cell
    have c0 := h0.cell
    have f0 := h0.frozen
    have Hxn : Hid (xs.length = N + 1) := by
      have := congrArg List.length hys
      simp [chunks] at this
      show _ = _
      omega
    clear hxl hys
    obtain ⟨Ay, cy, rfl⟩ : ∃ Ay cy, v = .slice Ay xs.length cy := by obtain ⟨Ay, cy, e, _⟩ := ho; exact ⟨Ay, cy, e⟩
    gi_wp2
    obtain ⟨W3, hW3⟩ : ∃ W3, W3 = W.setCell ⟨R, 0, none⟩ (.slice Ay xs.length cy) := ⟨_, rfl⟩
    rw [← hW3]
    have hB3 : Below R W W3 := by rw [hW3]; exact (Below.refl _ _).setCell (p := ⟨R, 0, none⟩) (Nat.le_refl R) _
    have h03 : Boxed W3 R 22 (.slice Ay xs.length cy) := by rw [hW3]; exact h0.set _
    have hK3 : W3.heap[D]? = some (.deferred (some [])) := by rw [hW3]; exact (Below.heap_setCell W ⟨R, 0, none⟩ _ D (by show D ≠ R; omega)).trans hK
    have c03 := h03.cell
    obtain ⟨A, rfl⟩ : ∃ A, Ay = some A := by
      obtain ⟨A', c', e, h1, h2, h3⟩ := ho
      cases e
      have := Hxn.out
      obtain ⟨g, cur, e, _⟩ := h3 (by omega)
      exact ⟨_, e⟩
    have hDR : R ≠ D := by omega
    refine ⟨by simp, .inl ⟨_, _, rfl, run_takeDeferred hK3, ?_⟩⟩
    refine ⟨_, results_cell1 rfl Tryz.underlying22 _ _ R (.slice (some A) xs.length cy) rfl ?_, ⟨A, cy, by rw [← Hxn.out]⟩, ?_⟩
    · exact (World.cell?_of_block (a := ⟨R, 0, none⟩) (World.putObj_heap_other hDR)).trans c03
    · exact ((hB1.trans hB).trans (hB3.trans (belowK_b (w := W1) (by omega) W3 D _ _ hD hK3 rfl rfl))).mono hRle
  case body =>
    clear d0 d2 d3 d4 d5 hrow2
    rintro l pre ⟨x, hx⟩ W ⟨⟨v, xs, h3, ho, hxl, hne, h0, h4, h5⟩, hBW⟩ hpre
    have hd : 1 ≤ n - 1 - 1 := by omega
    have c3 := h3.cell
    have f3 := h3.frozen
    have hp0 : W.cell? ⟨b, o + 1 + x, none⟩ = some (.int .u8 33) := by
      obtain ⟨j, hj, rfl⟩ := hx
      have := Ck.out j hj
      rw [← this, Nat.add_assoc]
      exact World.cell?_of_block (a := ⟨b, _, none⟩) ((hBW.block b hbR).trans (hB1.block b hbR))
    have hx34 : x + 34 ≤ p34 := by
      obtain ⟨j, hj, rfl⟩ := hx
      have := H34.out
      omega
    have hxl16 : xs.length ≤ 16 := by omega
    obtain ⟨Ay, cy, rfl⟩ : ∃ Ay cy, v = .slice Ay xs.length cy := by obtain ⟨Ay, cy, e, _⟩ := ho; exact ⟨Ay, cy, e⟩
    have Hxl := Lib.hid hxl
    clear hxl
    have hmx : Tryz.prog.follows .mixedOrders = true := by kernel_rfl
    have hneB := ho.row_ne_box h3 (by decide)
    have hrow := ho.row
    gi_wp2
    refine wpIn_region_plan [(0, 1), (1, 0), (2, 0), (3, 2), (4, 2), (5, 2), (6, 2)] 5 (fun _ => trivial) hmx (by kernel_rfl) (by intro c a d v w h; cases d <;> exact h) ?_
    repeat ((first | (refine wpPlan_pure rfl (fun K hK => ?_)) | (refine wpPlan_quiet rfl (fun K hK => ?_))); go_simp; (first | (refine hK _ ?_) | (simp only [IntWalk.iteOmega]; go_simp; refine hK _ ?_) | (go_bits; go_simp; refine hK _ ?_)); clear hK K; (try go_bits))
    refine wpPlanIn_loud rfl rfl (fun K hK => ?_)
    gi_wp2
    obtain ⟨kb, Hkb⟩ : ∃ kb, Hid (kb = (bs.drop (x + 2)).take 33) := ⟨_, rfl⟩
    have Hkl : Hid (kb.length = 33) := by
      have := H34.out; have := HLL.out; have := HL.out
      show kb.length = 33
      rw [Hkb.out, List.length_take, List.length_drop]; omega
    have hsK : Sl W.drew W.drew.heap.size (some ⟨b, o + 1 + x + 1, none⟩) (B8 kb) := fun _ => by
      have hkb := Hkb.out
      have hkl := Hkl.out
      refine ⟨b, _, rfl, by have := hBW.size; show b < W.heap.size; omega, fun j hj => ?_⟩
      rw [B8_length] at hj
      have hjb : x + 2 + j < bs.length := by have := H34.out; have := HLL.out; have := HL.out; omega
      have hc1 := Hcells.out (x + 2 + j) hjb
      have e1 : o + 1 + x + 1 + j = o + (x + 2 + j) := by omega
      rw [B8_get, e1]
      refine (World.cell?_of_block (a := ⟨b, _, none⟩) ((hBW.block b hbR).trans (hB1.block b hbR))).trans (hc1.trans ?_)
      subst hkb
      simp
    have hclone := bclone_any b (o + 1 + x + 1) 33 kb W.drew hsK (by rw [Hkl.out]; omega)
    rw [Hkl.out] at hclone
    refine (CallsIn.inRound l (callsIn_wide.2 hclone)).mono ?_
    rintro e w1 ⟨vc, rfl, hoc, hbc1⟩
    gi_wp2
    obtain ⟨Ac, cc, rfl⟩ : ∃ Ac cc, vc = .slice Ac (B8 kb).length cc := by obtain ⟨A', c', e, _⟩ := hoc; exact ⟨A', c', e⟩
    have hs1 : W.heap.size ≤ w1.heap.size := hbc1.size
    have ho1 : Ow w1 R 23 (.slice Ay xs.length cy) xs := ho.drew.below hbc1 (Nat.le_refl _)
    have h31 : Boxed w1 (R + 1 + 1 + 1) 22 (.slice Ay xs.length cy) := (hbc1.block _ h3.lt).trans h3
    have h01 : Boxed w1 R 22 (.slice none 0 0) := (hbc1.block _ h0.lt).trans h0
    have h41 : Boxed w1 (R + 4) 23 (.slice (some ⟨b, o + 1, none⟩) p34 (c - 1)) := (hbc1.block _ h4.lt).trans h4
    have h51 : Boxed w1 (R + 5) 3 (.int .i64 34) := (hbc1.block _ h5.lt).trans h5
    have kq : KeepsOthers W w1 := ⟨hbc1.size, fun k o hk _ => (hbc1.block k (Array.getElem?_eq_some_iff.1 hk).1).trans hk⟩
    clear hclone hsK hoc
    refine ⟨.inr (ext_of_below hbc1), ?_⟩
    refine wpPlanIn_loud rfl rfl (fun K hK => ?_)
    gi_wp2
    refine ⟨.inr (ext_alloc _ _), ?_⟩
    refine wpPlanIn_loud rfl rfl (fun K hK => ?_)
    refine wpIn_append_Ow (F := Fence.wide.inRound l) (v := .slice Ay xs.length cy) (m := 1) (c := 1) (fun _ => trivial) elS (.tmp 61) (.tmp 65) rfl rfl (ho1.alloc _) rfl (Sl.one w1 _ _) rfl ?_ ?_ ?_ ?_ ?_
    · intro u hu; simp at hu; subst hu; rfl
    · simp [maxLen]; omega
    · omega
    · have := hBW.size; show R ≤ (w1.alloc _).heap.size; simp; omega
    intro v' w2 ho2 hg2 hr2
    have hwsz := hBW.size
    have hneS : ∀ k, (∀ g, rowOf (.slice Ay xs.length cy) = some g → g ≠ k) → some k ≠ rowOf (.slice Ay xs.length cy) := fun k h e => h k e.symm rfl
    have hneb : some b ≠ rowOf (.slice Ay xs.length cy) := fun e => by have := hrow b e.symm; omega
    have hne0 := hneS R (ho.row_ne_box h0 (by decide))
    have hne3 := hneS (R + 1 + 1 + 1) hneB
    have hne4 := hneS (R + 4) (fun g hg => (hne g hg).1)
    have hne5 := hneS (R + 5) (fun g hg => (hne g hg).2)
    have h02 : Boxed w2 R 22 (.slice none 0 0) := Boxed.kept (h01.alloc _) hg2 hne0
    have h32 : Boxed w2 (R + 1 + 1 + 1) 22 (.slice Ay xs.length cy) := Boxed.kept (h31.alloc _) hg2 hne3
    have h42 : Boxed w2 (R + 4) 23 (.slice (some ⟨b, o + 1, none⟩) p34 (c - 1)) := Boxed.kept (h41.alloc _) hg2 hne4
    have h52 : Boxed w2 (R + 5) 3 (.int .i64 34) := Boxed.kept (h51.alloc _) hg2 hne5
    have hrlt : ∀ g, rowOf (.slice Ay xs.length cy) = some g → R ≤ g := fun g hg => (hrow g hg).1
    have k1 : KeepsOthers W w2 := kq.trans ((KeepsOthers.alloc w1 _).trans ((ho1.alloc _).keepsOthers hg2 rfl))
    have hbw : Below W.heap.size W w1 := ⟨hbc1.os, hbc1.tape, hbc1.output, hbc1.size, hbc1.block⟩
    have bl : Below R W w2 := ((hbw.mono (by omega)).alloc (by omega) _).grown hg2 (by simp; omega) hrlt
    have c32 := h32.cell
    have f32 := h32.frozen
    obtain ⟨Av', cv', rfl⟩ : ∃ Av' cv', v' = .slice Av' (xs.length + 1) cv' := by obtain ⟨A', c', e, _⟩ := ho2; exact ⟨A', c', by simpa using e⟩
    refine hK _ _ ⟨.inl (by decide), ?_⟩
    clear hK K
    refine wpPlanIn_loud rfl rfl (fun K hK => ?_)
    gi_wp2
    refine ⟨.inl (by decide), wpPlan_nil ?_⟩
    have hnew : ∀ k, some k ≠ rowOf (.slice Ay xs.length cy) → k < W.heap.size → ∀ g, rowOf (.slice Av' (xs.length + 1) cv') = some g → k ≠ g := fun k hk hlt g hg e => by
      subst e
      rcases hr2 with e | e
      · exact hk (e ▸ hg).symm
      · rw [e] at hg; simp at hg; omega
    gi_wp2
    have hbk : Below R W (w2.setCell ⟨R + 1 + 1 + 1, 0, none⟩ (.slice Av' (xs.length + 1) cv')) := bl.setCell (p := ⟨R + 1 + 1 + 1, 0, none⟩) (by show R ≤ R + 1 + 1 + 1; omega) _
    have hsetn : ∀ k, k ≠ R + 1 + 1 + 1 → (w2.setCell ⟨R + 1 + 1 + 1, 0, none⟩ (.slice Av' (xs.length + 1) cv')).heap[k]? = w2.heap[k]? := fun k hk => Below.heap_setCell w2 ⟨R + 1 + 1 + 1, 0, none⟩ _ k hk
    have hkeep : ∀ k, k < W.heap.size → k ≠ R + 1 + 1 + 1 → some k ≠ rowOf (.slice Ay xs.length cy) → (w2.setCell ⟨R + 1 + 1 + 1, 0, none⟩ (.slice Av' (xs.length + 1) cv')).heap[k]? = W.heap[k]? := fun k hlt hk hn =>
      (hsetn k hk).trans ((hg2.block k (by simp; omega) hn).trans ((Below.heap_alloc w1 _ k (by omega)).trans (hbc1.block k hlt)))
    refine ⟨(k1.trans (KeepsOthers.setCell _ _ _)).from _, ⟨hbk, hkeep _ (by omega) (by omega) hne4, hkeep _ (by omega) (by omega) hne5, hkeep _ (by omega) (by omega) hneb⟩, ⟨_, _, h32.set _, ho2.setCell (fun g hg => hnew _ hne3 (by omega) g hg) _, ?_, fun g hg => ⟨(hnew _ hne4 (by omega) g hg).symm, (hnew _ hne5 (by omega) g hg).symm⟩, h02.other (by omega) _, h42.other (by omega) _, h52.other (by omega) _⟩, hBW.trans hbk⟩
    have := Hxl.out
    simp [this]

/-- **script.multi** of a script for some of N keys: N + 1 parts, whatever they are. -/
theorem multi_any (b o c : Nat) (q : Nat) (ks : List (List UInt8)) (w : World) (hk : ∀ k ∈ ks, k.length = 33) (hs : Sl w w.heap.size (some ⟨b, o, none⟩) (B8 (payL q ks))) (hbc : (payL q ks).length ≤ c) (hc : c ≤ maxLen) (hq : 1 ≤ q) (hqN : q ≤ ks.length) (hN16 : ks.length ≤ 16) :
    Calls Tryz.prog 32 #[.slice (some ⟨b, o, none⟩) (payL q ks).length c] w fun e W' => (∃ A c, e = .returned (.slice (some A) (ks.length + 1) c)) ∧ Below w.heap.size w W' := by
  have hL := payL_length q ks hk
  obtain ⟨b', o', e, hb, hcells⟩ := hs (by rw [B8_length]; omega)
  cases e
  refine (callsIn_wide (n := 3)).1 (multi_in 3 (Nat.le_refl _) b o c q ks.length (payL q ks) w hb (fun j h => ?_) hL hbc hc (payL_zero q ks) (fun j hj => payL_key q ks hk j hj) (payL_n q ks hk) (payL_last q ks hk) hq hqN hN16)
  rw [hcells j (by rw [B8_length]; exact h), B8_get]
end Go.Proofs.YtkiigonikeeikaaGreatDoor
