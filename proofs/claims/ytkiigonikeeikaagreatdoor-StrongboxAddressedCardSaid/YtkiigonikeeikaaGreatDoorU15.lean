/- A region that draws its order and reads no memory quietly: a tree whose steps may turn the world as they like. | text.spread. | A slice that may be appended to and lies in the row of a conversion ([]byte of a text): the row's mark stands behind its cells. | text.Bech32. -/
import Derived.Test.YtkiigonikeeikaaGreatDoorU11
import Derived.Test.YtkiigonikeeikaaGreatDoorU14
import Derived.Test.YtkiigonikeeikaaGreatDoorU12
import Derived.ArgAppend
import Derived.Lib.BufferMore

/-! A region that draws its order and reads no memory quietly: a tree whose steps may turn the world as they like. -/
namespace Go.Proofs.YtkiigonikeeikaaGreatDoor
open Go Go.RowKit
section
variable {P : Program} {ops : Array Oper} {md : Region.Mode}
variable {Q : Act → World → Prop} {st : Nat → (Act → World → Prop) → Act → World → Prop}

def SndT (md : Region.Mode) (ops : Array Oper) (Q : Act → World → Prop) (st : Nat → (Act → World → Prop) → Act → World → Prop) (listed : Array Bool) (n : Nat) (C : Act → World → Prop) : Prop :=
  ∀ a w, C a w → wpAnyS md ops Q st ops.size (fun _ => True) n listed a w
def forkT (st : Nat → (Act → World → Prop) → Act → World → Prop) (i : Nat) (Ci : Act → World → Prop) (j : Nat) (Cj : Act → World → Prop) (a : Act) (w : World) : Prop := st i Ci a w ∧ st j Cj a w
def preT (md : Region.Mode) (ops : Array Oper) : List (Nat × Nat) → Array Bool → Bool
  | [], _ => true
  | (i, k) :: rest, listed =>
    (if k = 0 then (Region.ready md ops listed).contains i && Region.free md ops listed i
     else k == 2 && (Region.ready md ops listed == [i])) && preT md ops rest (listed.setIfInBounds i true)
theorem snd_doneT (listed : Array Bool) (h : (Region.ready md ops listed == []) = true) : SndT md ops Q st listed 0 Q := fun _ _ hq => ⟨by simpa using h, hq⟩
theorem snd_forkT (L : StepLaws P ops Q st) (i j n : Nat) (listed : Array Bool) (hr : (Region.ready md ops listed == [i, j]) = true) {Ci Cj : Act → World → Prop}
    (hi : SndT md ops Q st (listed.setIfInBounds i true) n Ci) (hj : SndT md ops Q st (listed.setIfInBounds j true) n Cj) : SndT md ops Q st listed (n + 1) (forkT st i Ci j Cj) := by
  intro a w h
  have hr : Region.ready md ops listed = [i, j] := by simpa using hr
  refine ⟨fun h0 => (by rw [hr] at h0; cases h0), fun k hk => ?_⟩
  rw [hr] at hk
  simp only [List.mem_cons, List.not_mem_nil, or_false] at hk
  rcases hk with rfl | rfl
  · exact L.mono (fun a' w' h' => ⟨.inr trivial, hi a' w' h'⟩) h.1
  · exact L.mono (fun a' w' h' => ⟨.inr trivial, hj a' w' h'⟩) h.2
theorem snd_preT (L : StepLaws P ops Q st) (hsel : Region.noSelect ops = true) (n : Nat) {C : Act → World → Prop} : ∀ (pre : List (Nat × Nat)) (listed : Array Bool),
    preT md ops pre listed = true → Closed md ops listed → SndT md ops Q st (listAll pre listed) n C → SndT md ops Q st listed (pre.length + n) (wpPlan P ops C st 0 pre)
  | [], listed, _, _, hS => by
    intro a w h
    rw [List.length_nil, Nat.zero_add]
    exact hS a w h
  | (i, k) :: rest, listed, hB, hcl, hS => by
    intro a w h
    have hlen : ((i, k) :: rest).length + n = (rest.length + n) + 1 := by simp; omega
    rw [hlen]
    by_cases hk0 : k = 0
    · simp only [preT, hk0, if_true, Bool.and_eq_true] at hB
      obtain ⟨⟨hr, hf⟩, hrest⟩ := hB
      have hr' : i ∈ Region.ready md ops listed := by simpa using hr
      simp only [wpPlan, hk0, if_true] at h
      split at h
      · exact h.elim
      · rename_i o ho
        obtain ⟨v, hy, hK⟩ := h
        have hrec := snd_preT L hsel n rest (listed.setIfInBounds i true) hrest (hcl.set hr') hS (a.put o.dst v) w hK
        exact wpAnyS_first L (S := fun _ => True) (S1 := fun _ => True) ho (Region.noSelect_spec hsel) (Array.getElem?_eq_some_iff.1 ho).1 (fun _ _ _ _ _ => trivial) (rest.length + n) listed a w hcl (Region.free_spec ho hf) hr' hy (.inr trivial) hrec
    · simp only [preT, hk0, if_false, Bool.and_eq_true, beq_iff_eq] at hB
      obtain ⟨⟨rfl, hr⟩, hrest⟩ := hB
      have hr' : i ∈ Region.ready md ops listed := by rw [hr]; simp
      refine ⟨fun h0 => (by rw [h0] at hr; cases hr), fun j hj => ?_⟩
      rw [hr] at hj
      obtain rfl : j = i := by simpa using hj
      simp only [wpPlan, show ¬ (2 = 0) by decide, show ¬ (2 = 1) by decide, if_false] at h
      exact L.mono (fun a' w' h' => ⟨.inr trivial, snd_preT L hsel n rest _ hrest (hcl.set hr') hS a' w' h'.2⟩) h
theorem snd_preT' (L : StepLaws P ops Q st) (hsel : Region.noSelect ops = true) (n : Nat) {C : Act → World → Prop} (pre : List (Nat × Nat)) (listed : Array Bool) (hB : (preT md ops pre listed && closedB md ops listed) = true)
    (h : SndT md ops Q st (listAll pre listed) n C) : SndT md ops Q st listed (pre.length + n) (wpPlan P ops C st 0 pre) := by
  simp only [Bool.and_eq_true] at hB
  exact snd_preT L hsel n pre listed hB.1 (closedB_spec hB.2) h
end
section
variable {P : Program} {ops : Array Oper} {N : Nat}
theorem wp_region_treeT {id : Nat} {Q : Exit → Act → World → Prop} {a : Act} {w : World} {l : List Oper} (C : Act → World → Prop) (n : Nat) (hm : P.follows .mixedOrders = true) (hn : (n == l.length) = true) (hQ : ∀ c a d v w, Q (.panic c) (Act.put a d v) w → Q (.panic c) a w)
    (hS : (∀ c a d v w, Q (.panic c) (Act.put a d v) w → Q (.panic c) a w) → SndT .any l.toArray (Q .normal) (fun i K a w => wpOp P l.toArray Q i K a w) (Array.replicate l.length false) n C) (h : C a w.drew) : (Code.region id l.toArray true).wp P Q a w := by
  refine wp_region_any hm ?_
  have hn : n = l.length := by simpa using hn
  subst hn
  have := hS hQ a w.drew h
  have := wpAny_of_S _ _ _ _ this
  simpa using this
theorem forkT_mk {Q : Exit → Act → World → Prop} {i j : Nat} {Ci Cj : Act → World → Prop} {oi oj : Oper} {a : Act} {w : World} (hoi : ops[i]? = some oi) (hoj : ops[j]? = some oj) (hgi : oi.guard = none) (hgj : oj.guard = none)
    (h1 : ∀ K : Act → World → Prop, (∀ a' w', Ci a' w' → K a' w') → oi.wp P a w K Q)
    (h2 : ∀ K : Act → World → Prop, (∀ a' w', Cj a' w' → K a' w') → oj.wp P a w K Q) :
    forkT (fun i K a w => wpOp P ops Q i K a w) i Ci j Cj a w := by
  constructor
  · simp only [wpOp, hoi, Region.wanted, hgi, if_true]
    exact .inl (h1 _ (fun _ _ h => h))
  · simp only [wpOp, hoj, Region.wanted, hgj, if_true]
    exact .inl (h2 _ (fun _ _ h => h))
end
end Go.Proofs.YtkiigonikeeikaaGreatDoor

/-! text.spread. -/
namespace Go.Proofs.YtkiigonikeeikaaGreatDoor
open Go.RowKit Go.Shelf

def spreadL (s : List UInt8) : List UInt8 := s.map (fun c => UInt8.ofNat (c.toNat / 32)) ++ [0] ++ s.map (fun c => UInt8.ofNat (c.toNat % 32))
theorem spreadL_length (s : List UInt8) : (spreadL s).length = 2 * s.length + 1 := by simp [spreadL]; omega
set_option maxRecDepth 20000 in
theorem and31u8 (y : UInt8) : bits .and .u8 (y.toNat : Int) 31 = ((y.toNat % 32 : Nat) : Int) := by
  have : ∀ p : Fin 256, bits .and .u8 (p.val : Int) 31 = ((p.val % 32 : Nat) : Int) := by decide
  exact this ⟨y.toNat, y.toNat_lt⟩

/-- Two slices that are appended to, in rows of their own. -/
def Two (w X : World) (v g : Value) (V G : List UInt8) : Prop :=
  Ow X w.heap.size 5 v (B8 V) ∧ Ow X w.heap.size 5 g (B8 G) ∧ (∀ r, rowOf v = some r → rowOf g ≠ some r) ∧ Below w.heap.size w X
theorem Two.alloc {w X : World} {v g : Value} {V G : List UInt8} (h : Two w X v g V G) (o : Obj) : Two w (X.alloc o) v g V G := ⟨h.1.alloc o, h.2.1.alloc o, h.2.2.1, h.2.2.2.alloc h.2.2.2.size o⟩
theorem Two.drew {w X : World} {v g : Value} {V G : List UInt8} (h : Two w X v g V G) : Two w X.drew v g V G := ⟨h.1.drew, h.2.1.drew, h.2.2.1, h.2.2.2.drew⟩
theorem Two.symm {w X : World} {v g : Value} {V G : List UInt8} (h : Two w X v g V G) : Two w X g v G V := ⟨h.2.1, h.1, apart_symm h.2.2.1, h.2.2.2⟩
theorem Two.grown {w X X' : World} {v g v' : Value} {V G V' : List UInt8} (h : Two w X v g V G) (hg : X.grownBy X' (rowOf v)) (ho : Ow X' w.heap.size 5 v' (B8 V')) (hr : rowOf v' = rowOf v ∨ rowOf v' = some X.heap.size) : Two w X' v' g V' G :=
  ⟨ho, h.2.1.kept hg (apart_symm h.2.2.1), apart_grown h.2.2.1 hr h.2.1.row_lt, h.2.2.2.grown hg h.2.2.2.size (fun r hr => (h.1.row r hr).1)⟩
/-- A row of one byte. -/
def Row1 (X : World) (r d : Nat) : Prop := X.heap[r]? = some (.cells #[.int .u8 (d : Int)] 5 (0, 0))
theorem Row1.lt {X : World} {r d : Nat} (h : Row1 X r d) : r < X.heap.size := by
  rcases Nat.lt_or_ge r X.heap.size with h' | h'
  · exact h'
  · rw [Row1, Array.getElem?_eq_none h'] at h; cases h
theorem Row1.new (X : World) (d : Nat) : Row1 (X.alloc (.cells #[.int .u8 (d : Int)] 5)) X.heap.size d := heap_alloc_new X _
theorem Row1.alloc {X : World} {r d : Nat} (h : Row1 X r d) (o : Obj) : Row1 (X.alloc o) r d := (Below.heap_alloc X o r h.lt).trans h
theorem Row1.grown {X X' : World} {r d : Nat} {row : Option Nat} (h : Row1 X r d) (hg : X.grownBy X' row) (hr : row ≠ some r) : Row1 X' r d := (hg.block r h.lt (fun e => hr e.symm)).trans h
theorem Row1.sl {X : World} {r d : Nat} (h : Row1 X r d) : Sl X (r + 1) (some ⟨r, 0, none⟩) [.int .u8 (d : Int)] := fun _ =>
  ⟨r, 0, rfl, by omega, fun j hj => by
    have : j = 0 := by simp at hj; omega
    subst this
    rw [cell_of_row X _ _ _ _ (0, 0) h]; rfl⟩
theorem Row1.ne {w X : World} {v g : Value} {V G : List UInt8} {r : Nat} (h : Two w X v g V G) (hr : X.heap.size ≤ r) : rowOf v ≠ some r ∧ rowOf g ≠ some r :=
  ⟨fun e => by have := (h.1.row r e).2; omega, fun e => by have := (h.2.1.row r e).2; omega⟩

set_option maxRecDepth 100000 in
set_option maxHeartbeats 4000000 in
theorem spread_any (s : ByteArray) (w : World) (hsz : s.size ≤ 2000) :
    Calls Tryz.prog 48 #[.string s] w fun e W' => ∃ v, e = .returned v ∧ Ow W' w.heap.size 5 v (B8 (spreadL s.data.toList)) ∧ Below w.heap.size w W' := by
  have hS : s.data.toList.length = s.size := by simp
  obtain ⟨S, hSS⟩ : ∃ S, S = s.data.toList := ⟨_, rfl⟩
  rw [← hSS] at hS ⊢
  have HSS := Lib.hid hSS
  have HS := Lib.hid hS
  clear hSS hS
  go_enter Tryz.func48, Tryz.ntmps48
  go_wp2_with fail
  go_loopw [3, 4, 8] (fun v g i wr => ∃ k : Nat, k ≤ s.size ∧ i = .int .i64 k ∧ Ow wr w.heap.size 5 v (B8 ((S.take k).map (fun c => UInt8.ofNat (c.toNat / 32)))) ∧ Ow wr w.heap.size 5 g (B8 ((S.take k).map (fun c => UInt8.ofNat (c.toNat % 32)))) ∧ Hid (∀ r, rowOf v = some r → rowOf g ≠ some r) ∧ Below w.heap.size w wr) (fun _ _ i _ => s.size - (intOf i).toNat)
  case atStart => exact ⟨0, Nat.zero_le _, rfl, Ow.nil_ _ _ _ _, Ow.nil_ _ _ _ _, Lib.hid (by simp [rowOf]), Below.refl _ _⟩
  case round =>
    obtain ⟨k, hk, rfl, hov, hog, Hap, hb⟩ := hrel
    obtain ⟨V, hV⟩ : ∃ V, V = (S.take k).map (fun c => UInt8.ofNat (c.toNat / 32)) := ⟨_, rfl⟩
    obtain ⟨G, hG⟩ : ∃ G, G = (S.take k).map (fun c => UInt8.ofNat (c.toNat % 32)) := ⟨_, rfl⟩
    have hVl : V.length = k := by rw [hV]; have := HS.out; simp; omega
    have hGl : G.length = k := by rw [hG]; have := HS.out; simp; omega
    rw [← hV] at hov
    rw [← hG] at hog
    obtain ⟨Av, cv, rfl, hcv, hcv'⟩ := own_form hov
    obtain ⟨Ag, cg, rfl, hcg, hcg'⟩ := own_form hog
    rw [hVl] at hov hcv Hap ⊢
    rw [hGl] at hog hcg Hap ⊢
    have HV := Lib.hid hV
    have HG := Lib.hid hG
    have HVl := Lib.hid hVl
    have HGl := Lib.hid hGl
    have hz := hb.size
    have hS0 : Two w wr (.slice Av k cv) (.slice Ag k cg) V G := ⟨hov, hog, Hap.out, hb⟩
    by_cases hlt : k < s.size
    · obtain ⟨y, hy⟩ : ∃ y, y = s[k] := ⟨_, rfl⟩
      have hyS : S[k]? = some y := by rw [HSS.out, hy]; simp [hlt]; rfl
      obtain ⟨d1, hd1⟩ : ∃ d1, d1 = y.toNat / 32 := ⟨_, rfl⟩
      obtain ⟨d2, hd2⟩ : ∃ d2, d2 = y.toNat % 32 := ⟨_, rfl⟩
      have hy8 := y.toNat_lt
      have e1 : (y.toNat : Int) / 32 = (d1 : Int) := by omega
      have e2 : bits .and .u8 (y.toNat : Int) 31 = (d2 : Int) := by rw [hd2]; exact and31u8 y
      have hd8 : d1 < 8 := by omega
      have hd32 : d2 < 32 := by omega
      have hs1 : ∀ h, s[k]'h = y := fun h => hy.symm
      have hnV : V ++ [UInt8.ofNat d1] = (S.take (k + 1)).map (fun c => UInt8.ofNat (c.toNat / 32)) := by rw [hV, List.take_add_one, hyS, List.map_append, hd1]; rfl
      have hnG : G ++ [UInt8.ofNat d2] = (S.take (k + 1)).map (fun c => UInt8.ofNat (c.toNat % 32)) := by rw [hG, List.take_add_one, hyS, List.map_append, hd2]; rfl
      have HnV := Lib.hid hnV
      have HnG := Lib.hid hnG
      have hmx : Tryz.prog.follows .mixedOrders = true := by kernel_rfl
      clear hnV hnG hd1 hd2 hyS hy hV hG hVl hGl
      go_wp2_with fail
      refine wp_region_treeT _ _ hmx (by kernel_rfl) (by intro c a d v w h; cases d <;> exact h) (fun hQ => snd_preT' (plainLaws _ hQ) (by kernel_rfl) 6 [(0, 0), (1, 0), (2, 0), (3, 0), (4, 0), (7, 0), (8, 0), (9, 0), (10, 0), (11, 0)] _ (by kernel_rfl) (snd_forkT (plainLaws _ hQ) 5 12 5 _ (by kernel_rfl) (snd_preT' (plainLaws _ hQ) (by kernel_rfl) 5 [] _ (by kernel_rfl) (snd_forkT (plainLaws _ hQ) 6 12 4 _ (by kernel_rfl) (snd_preT' (plainLaws _ hQ) (by kernel_rfl) 0 [(12, 2), (13, 2), (14, 0), (15, 0)] _ (by kernel_rfl) (snd_doneT _ (by kernel_rfl))) (snd_preT' (plainLaws _ hQ) (by kernel_rfl) 0 [(6, 2), (13, 2), (14, 0), (15, 0)] _ (by kernel_rfl) (snd_doneT _ (by kernel_rfl))))) (snd_preT' (plainLaws _ hQ) (by kernel_rfl) 0 [(5, 2), (6, 2), (13, 2), (14, 0), (15, 0)] _ (by kernel_rfl) (snd_doneT _ (by kernel_rfl))))) ?_
      repeat ((first | (refine wpPlan_pure rfl (fun K hK => ?_)) | (refine wpPlan_quiet rfl (fun K hK => ?_))); go_simp; (first | (refine hK _ ?_) | (simp only [IntWalk.iteOmega]; go_simp; refine hK _ ?_) | (go_bits; go_simp; refine hK _ ?_)); clear hK K; (try go_bits))
      refine forkT_mk rfl rfl rfl rfl (fun K hK => ?_) (fun K hK => ?_)
      · go_wp2_with fail
        obtain ⟨X, hX⟩ : ∃ X, X = (wr.alloc (.cells #[.int .u8 (d1 : Int)] 5)).drew := ⟨_, rfl⟩
        rw [← hX]
        have hSX : Two w X (.slice Av k cv) (.slice Ag k cg) V G := by rw [hX]; exact (hS0.alloc _).drew
        have hRX : Row1 X wr.heap.size d1 := by rw [hX]; exact Row1.new wr d1
        have hn0 := Row1.ne hS0 (Nat.le_refl wr.heap.size)
        clear hX hov hog hb Hap
        refine forkT_mk rfl rfl rfl rfl (fun K hK => ?_) (fun K hK => ?_)
        ·
          refine wp_append_Ow (m := 1) (c := 1) (base := w.heap.size) (xs := B8 V) (v := .slice Av k cv) (A := some ⟨wr.heap.size, 0, none⟩) (B := wr.heap.size + 1) (news := [.int .u8 (d1 : Int)]) elB (.tmp 11) (.tmp 16) rfl rfl (hSX).1 rfl (hRX).sl rfl (by simp; rfl) (by rw [B8_length, HVl.out]; simp [maxLen]; omega) (by rw [B8_length, HVl.out]; omega) (hSX).2.2.2.size ?_
          intro v6 w6 ho6 hg6 hr6
          rw [b8_snoc V _ (UInt8.ofNat d1) (by simp; omega)] at ho6
          have hS6 := (hSX).grown hg6 ho6 hr6
          refine (show K (Act.put _ (some 17) v6) w6 from ?_)
          conv in (Act.put _ (some 17) v6) => simp [Act.put]
          refine hK _ _ ?_
          clear hK K
          refine wpPlan_loud rfl rfl (fun K hK => ?_)
          go_wp2_with fail
          refine ⟨.inl (by decide), ?_⟩
          refine wpPlan_loud rfl rfl (fun K hK => ?_)
          have hS8 : Two w (w6.alloc (.cells #[.int .u8 (d2 : Int)] 5)) _ _ _ _ := hS6.alloc _
          have hR8 := Row1.new w6 d2
          refine wp_append_Ow (m := 1) (c := 1) (base := w.heap.size) (xs := B8 G) (v := .slice Ag k cg) (A := some ⟨w6.heap.size, 0, none⟩) (B := w6.heap.size + 1) (news := [.int .u8 (d2 : Int)]) elB (.tmp 18) (.tmp 23) rfl rfl (hS8).2.1 rfl (hR8).sl rfl (by simp; rfl) (by rw [B8_length, HGl.out]; simp [maxLen]; omega) (by rw [B8_length, HGl.out]; omega) (hS8).2.2.2.size ?_
          intro v7 w7 ho7 hg7 hr7
          rw [b8_snoc G _ (UInt8.ofNat d2) (by simp; omega)] at ho7
          have hS7 := ((hS8).symm.grown hg7 ho7 hr7).symm
          refine (show K (Act.put _ (some 24) v7) w7 from ?_)
          conv in (Act.put _ (some 24) v7) => simp [Act.put]
          refine hK _ _ ⟨.inl (by decide), ?_⟩
          clear hK K
          repeat ((first | (refine wpPlan_pure rfl (fun K hK => ?_)) | (refine wpPlan_quiet rfl (fun K hK => ?_))); go_simp; (first | (refine hK _ ?_) | (simp only [IntWalk.iteOmega]; go_simp; refine hK _ ?_) | (go_bits; go_simp; refine hK _ ?_)); clear hK K; (try go_bits))
          refine wpPlan_nil ?_
          rw [HnV.out, HnG.out] at hS7
          have HS7 := Lib.hid hS7
          clear hS7 ho7 hg7 hr7 ho6 hg6 hr6 hS6
          go_wp2_with fail
          exact ⟨⟨k + 1, by omega, rfl, HS7.out.1, HS7.out.2.1, Lib.hid HS7.out.2.2.1, HS7.out.2.2.2⟩, by simp [intOf]; omega⟩
        · go_wp2_with fail
          obtain ⟨Y, hY⟩ : ∃ Y, Y = X.alloc (.cells #[.int .u8 (d2 : Int)] 5) := ⟨_, rfl⟩
          rw [← hY]
          have hSY : Two w Y (.slice Av k cv) (.slice Ag k cg) V G := by rw [hY]; exact hSX.alloc _
          have hR1 : Row1 Y wr.heap.size d1 := by rw [hY]; exact hRX.alloc _
          have hR2 : Row1 Y X.heap.size d2 := by rw [hY]; exact Row1.new X d2
          have hn1 := Row1.ne hSX (Nat.le_refl X.heap.size)
          clear hY
          refine wpPlan_loud rfl rfl (fun K hK => ?_)
          refine wp_append_Ow (m := 1) (c := 1) (base := w.heap.size) (xs := B8 V) (v := .slice Av k cv) (A := some ⟨wr.heap.size, 0, none⟩) (B := wr.heap.size + 1) (news := [.int .u8 (d1 : Int)]) elB (.tmp 11) (.tmp 16) rfl rfl (hSY).1 rfl (hR1).sl rfl (by simp; rfl) (by rw [B8_length, HVl.out]; simp [maxLen]; omega) (by rw [B8_length, HVl.out]; omega) (hSY).2.2.2.size ?_
          intro v6 w6 ho6 hg6 hr6
          rw [b8_snoc V _ (UInt8.ofNat d1) (by simp; omega)] at ho6
          have hS6 := (hSY).grown hg6 ho6 hr6
          refine (show K (Act.put _ (some 17) v6) w6 from ?_)
          conv in (Act.put _ (some 17) v6) => simp [Act.put]
          refine hK _ _ ⟨.inl (by decide), ?_⟩
          clear hK K
          have hR8 := hR2.grown hg6 hn1.1
          refine wpPlan_loud rfl rfl (fun K hK => ?_)
          refine wp_append_Ow (m := 1) (c := 1) (base := w.heap.size) (xs := B8 G) (v := .slice Ag k cg) (A := some ⟨X.heap.size, 0, none⟩) (B := X.heap.size + 1) (news := [.int .u8 (d2 : Int)]) elB (.tmp 18) (.tmp 23) rfl rfl (hS6).2.1 rfl (hR8).sl rfl (by simp; rfl) (by rw [B8_length, HGl.out]; simp [maxLen]; omega) (by rw [B8_length, HGl.out]; omega) (hS6).2.2.2.size ?_
          intro v7 w7 ho7 hg7 hr7
          rw [b8_snoc G _ (UInt8.ofNat d2) (by simp; omega)] at ho7
          have hS7 := ((hS6).symm.grown hg7 ho7 hr7).symm
          refine (show K (Act.put _ (some 24) v7) w7 from ?_)
          conv in (Act.put _ (some 24) v7) => simp [Act.put]
          refine hK _ _ ⟨.inl (by decide), ?_⟩
          clear hK K
          repeat ((first | (refine wpPlan_pure rfl (fun K hK => ?_)) | (refine wpPlan_quiet rfl (fun K hK => ?_))); go_simp; (first | (refine hK _ ?_) | (simp only [IntWalk.iteOmega]; go_simp; refine hK _ ?_) | (go_bits; go_simp; refine hK _ ?_)); clear hK K; (try go_bits))
          refine wpPlan_nil ?_
          rw [HnV.out, HnG.out] at hS7
          have HS7 := Lib.hid hS7
          clear hS7 ho7 hg7 hr7 ho6 hg6 hr6 hS6
          go_wp2_with fail
          exact ⟨⟨k + 1, by omega, rfl, HS7.out.1, HS7.out.2.1, Lib.hid HS7.out.2.2.1, HS7.out.2.2.2⟩, by simp [intOf]; omega⟩
      · go_wp2_with fail
        obtain ⟨X, hX⟩ : ∃ X, X = (wr.alloc (.cells #[.int .u8 (d2 : Int)] 5)).drew := ⟨_, rfl⟩
        rw [← hX]
        have hSX : Two w X (.slice Av k cv) (.slice Ag k cg) V G := by rw [hX]; exact (hS0.alloc _).drew
        have hRX : Row1 X wr.heap.size d2 := by rw [hX]; exact Row1.new wr d2
        have hn0 := Row1.ne hS0 (Nat.le_refl wr.heap.size)
        clear hX hov hog hb Hap
        refine wpPlan_loud rfl rfl (fun K hK => ?_)
        go_wp2_with fail
        refine ⟨.inl (by decide), ?_⟩
        obtain ⟨Y, hY⟩ : ∃ Y, Y = X.alloc (.cells #[.int .u8 (d1 : Int)] 5) := ⟨_, rfl⟩
        rw [← hY]
        have hSY : Two w Y (.slice Av k cv) (.slice Ag k cg) V G := by rw [hY]; exact hSX.alloc _
        have hR2 : Row1 Y wr.heap.size d2 := by rw [hY]; exact hRX.alloc _
        have hR1 : Row1 Y X.heap.size d1 := by rw [hY]; exact Row1.new X d1
        clear hY
        refine wpPlan_loud rfl rfl (fun K hK => ?_)
        refine wp_append_Ow (m := 1) (c := 1) (base := w.heap.size) (xs := B8 V) (v := .slice Av k cv) (A := some ⟨X.heap.size, 0, none⟩) (B := X.heap.size + 1) (news := [.int .u8 (d1 : Int)]) elB (.tmp 11) (.tmp 16) rfl rfl (hSY).1 rfl (hR1).sl rfl (by simp; rfl) (by rw [B8_length, HVl.out]; simp [maxLen]; omega) (by rw [B8_length, HVl.out]; omega) (hSY).2.2.2.size ?_
        intro v6 w6 ho6 hg6 hr6
        rw [b8_snoc V _ (UInt8.ofNat d1) (by simp; omega)] at ho6
        have hS6 := (hSY).grown hg6 ho6 hr6
        refine (show K (Act.put _ (some 17) v6) w6 from ?_)
        conv in (Act.put _ (some 17) v6) => simp [Act.put]
        refine hK _ _ ⟨.inl (by decide), ?_⟩
        clear hK K
        have hR8 := hR2.grown hg6 hn0.1
        refine wpPlan_loud rfl rfl (fun K hK => ?_)
        refine wp_append_Ow (m := 1) (c := 1) (base := w.heap.size) (xs := B8 G) (v := .slice Ag k cg) (A := some ⟨wr.heap.size, 0, none⟩) (B := wr.heap.size + 1) (news := [.int .u8 (d2 : Int)]) elB (.tmp 18) (.tmp 23) rfl rfl (hS6).2.1 rfl (hR8).sl rfl (by simp; rfl) (by rw [B8_length, HGl.out]; simp [maxLen]; omega) (by rw [B8_length, HGl.out]; omega) (hS6).2.2.2.size ?_
        intro v7 w7 ho7 hg7 hr7
        rw [b8_snoc G _ (UInt8.ofNat d2) (by simp; omega)] at ho7
        have hS7 := ((hS6).symm.grown hg7 ho7 hr7).symm
        refine (show K (Act.put _ (some 24) v7) w7 from ?_)
        conv in (Act.put _ (some 24) v7) => simp [Act.put]
        refine hK _ _ ⟨.inl (by decide), ?_⟩
        clear hK K
        repeat ((first | (refine wpPlan_pure rfl (fun K hK => ?_)) | (refine wpPlan_quiet rfl (fun K hK => ?_))); go_simp; (first | (refine hK _ ?_) | (simp only [IntWalk.iteOmega]; go_simp; refine hK _ ?_) | (go_bits; go_simp; refine hK _ ?_)); clear hK K; (try go_bits))
        refine wpPlan_nil ?_
        rw [HnV.out, HnG.out] at hS7
        have HS7 := Lib.hid hS7
        clear hS7 ho7 hg7 hr7 ho6 hg6 hr6 hS6
        go_wp2_with fail
        exact ⟨⟨k + 1, by omega, rfl, HS7.out.1, HS7.out.2.1, Lib.hid HS7.out.2.2.1, HS7.out.2.2.2⟩, by simp [intOf]; omega⟩
    · obtain rfl : k = s.size := by omega
      have hfin : V ++ [0] ++ G = spreadL S := by rw [hV, hG, List.take_of_length_le (by have := HS.out; omega)]; rfl
      have Hfin := Lib.hid hfin
      clear hfin hV hG hVl hGl
      go_wp2_with (first | (at_builtin; go_loud (refine wpList_append_Ow (m := 1) (c := 1) (base := w.heap.size) (xs := B8 V) (v := .slice Av s.size cv) (A := some ⟨wr.heap.size, 0, none⟩) (B := wr.heap.size + 1) (news := [.int .u8 0]) elB rfl (.tmp 26) (.tmp 27) rfl rfl (hS0.1.alloc _) rfl (Sl.one wr _ _) rfl (by simp; rfl) (by rw [B8_length, HVl.out]; simp [maxLen]; omega) (by rw [B8_length, HVl.out]; omega) (by simp; omega) ?_); intro v6 w6 ho6 hg6 hr6; rw [b8_snoc V (.int .u8 0) 0 rfl] at ho6; have hS6 := (hS0.alloc (.cells #[.int .u8 0] 5)).grown hg6 ho6 hr6; clear ho6 hg6 hr6) | (at_builtin; go_loud (refine wpList_append_Ow (m := s.size) (c := cg) (base := w.heap.size) (xs := B8 (V ++ [0])) (v := v6) (A := Ag) (B := w6.heap.size) (news := B8 G) elB rfl (.tmp 28) (.tmp 29) rfl rfl hS6.1 rfl hS6.2.1.sl (by rw [B8_length]; exact HGl.out) (B8_oneCell _) (by rw [B8_length, List.length_append, HVl.out]; simp [maxLen]; omega) (by rw [B8_length, List.length_append, HVl.out, List.length_singleton]; omega) hS6.2.2.2.size ?_); intro v7 w7 ho7 hg7 hr7))
      go_ret
      rw [← B8_append, Hfin.out] at ho7
      exact ⟨_, rfl, ho7, hS6.2.2.2.grown hg7 hS6.2.2.2.size (fun r hr => (hS6.1.row r hr).1)⟩
end Go.Proofs.YtkiigonikeeikaaGreatDoor

/-! A slice that may be appended to and lies in the row of a conversion ([]byte of a text): the row's mark stands behind its cells. -/
namespace Go.Proofs.YtkiigonikeeikaaGreatDoor
open Go.RowKit

def OwF (w : World) (base : Nat) (E : TypeId) (v : Value) (xs : List Value) : Prop :=
  ∃ A c, v = .slice A xs.length c ∧ xs.length ≤ c ∧ c ≤ maxLen ∧
    (0 < c → ∃ g cur fz, A = some ⟨g, 0, none⟩ ∧ base ≤ g ∧ w.heap[g]? = some (.cells cur E fz) ∧ c ≤ cur.size ∧ cur.toList.take xs.length = xs ∧ ∀ j, j < cur.size → j < fz.1 ∨ fz.2 ≤ j)

section
variable {w w' : World} {base E : Nat} {v : Value} {xs : List Value} {A : Option Addr} {n c : Nat}
theorem OwF.of (h : Ow w base E v xs) : OwF w base E v xs := by
  obtain ⟨A, c, e, h1, h2, h3⟩ := h
  refine ⟨A, c, e, h1, h2, fun hc => ?_⟩
  obtain ⟨g, cur, e1, e2, e3, e4, e5⟩ := h3 hc
  exact ⟨g, cur, (0, 0), e1, e2, e3, e4, e5, fun j _ => .inr (Nat.zero_le _)⟩
theorem OwF.row (h : OwF w base E v xs) : ∀ g, rowOf v = some g → base ≤ g ∧ g < w.heap.size := by
  obtain ⟨A, c, rfl, h1, h2, h3⟩ := h
  intro g hg
  by_cases hc : c = 0
  · subst hc; cases A <;> simp [rowOf] at hg
  · obtain ⟨g', cur, fz, rfl, e2, e3, _⟩ := h3 (by omega)
    simp [rowOf, hc] at hg
    subst hg
    refine ⟨e2, ?_⟩
    rcases Nat.lt_or_ge g' w.heap.size with h | h
    · exact h
    · rw [Array.getElem?_eq_none h] at e3; cases e3
theorem OwF.kept {row : Option Nat} (h : OwF w base E v xs) (hg : w.grownBy w' row) (hne : ∀ g, rowOf v = some g → row ≠ some g) : OwF w' base E v xs := by
  have hrow := h.row
  obtain ⟨A, c, rfl, h1, h2, h3⟩ := h
  refine ⟨A, c, rfl, h1, h2, fun hc => ?_⟩
  obtain ⟨g, cur, fz, rfl, e2, e3, e4, e5, e6⟩ := h3 hc
  have hr : rowOf (.slice (some ⟨g, 0, none⟩) xs.length c) = some g := by simp [rowOf, show ¬ c = 0 by omega]
  exact ⟨g, cur, fz, rfl, e2, (hg.block g (hrow g hr).2 (fun e => hne g hr e.symm)).trans e3, e4, e5, e6⟩
theorem OwF.below {B : Nat} (h : OwF w base E v xs) (hb : Below B w w') (hB : w.heap.size ≤ B) : OwF w' base E v xs :=
  h.kept (row := none) ⟨hb.os, hb.tape, hb.output, hb.size, fun k hk _ => hb.block k (by omega)⟩ (by simp)
theorem OwF.alloc (h : OwF w base E v xs) (o : Obj) : OwF (w.alloc o) base E v xs := h.kept (World.grownBy_alloc w o none) (by simp)
theorem OwF.drew (h : OwF w base E v xs) : OwF w.drew base E v xs := h
theorem OwF.sl (h : OwF w base E (.slice A n c) xs) : Sl w w.heap.size A xs := fun hn => by
  have hrow := h.row
  obtain ⟨A', c', e, h1, h2, h3⟩ := h
  injection e with e1 e2 e3; subst e1 e2 e3
  obtain ⟨g, cur, fz, rfl, e2, e3, e4, e5, e6⟩ := h3 (by omega)
  have hr : rowOf (.slice (some ⟨g, 0, none⟩) xs.length c) = some g := by simp [rowOf, show ¬ c = 0 by omega]
  refine ⟨g, 0, rfl, (hrow g hr).2, fun j hj => ?_⟩
  rw [Nat.zero_add, cell_of_row w g j cur E fz e3]
  have hjc : j < cur.size := by omega
  rw [Array.getElem?_eq_getElem hjc]
  congr 1
  have : xs[j]? = (cur.toList.take xs.length)[j]? := by rw [e5]
  rw [List.getElem?_take, if_pos hj, List.getElem?_eq_getElem hj] at this
  rw [show cur.toList[j]? = cur[j]? by simp, Array.getElem?_eq_getElem hjc] at this
  injection this with this; exact this.symm
theorem OwF.formB {v : Value} {T : List UInt8} (h : OwF w base E v (B8 T)) : ∃ A1 c1, v = .slice A1 T.length c1 ∧ T.length ≤ c1 ∧ c1 ≤ maxLen := by
  obtain ⟨A1, c1, e, h1, h2, _⟩ := h
  exact ⟨A1, c1, by simpa using e, by simpa using h1, h2⟩
end

section
variable {P : Program} {w : World} {base t E : Nat} {z : Value} {bytes : Nat} {v : Value} {xs : List Value} {B : Nat} {A : Option Addr} {c : Nat} {u : Value}
theorem El.append1F (hE : El P t E z bytes) (ty : TypeId) (hown : OwF w base E v xs) (hr : Sl w B A [u]) (h1 : u.oneCell' = true)
    (h63 : xs.length + 1 ≤ maxLen) (hbytes : (xs.length + 1) * bytes ≤ 140737488355328) (hbase : base ≤ w.heap.size) :
    ∃ v' w', (Builtin.append_ #[t, t] ty #[v, .slice A 1 c]).run P w = .ok v' w' ∧ OwF w' base E v' (xs ++ [u]) ∧ w.grownBy w' (rowOf v) ∧ (∀ g, rowOf v' = some g → rowOf v = some g ∨ w.heap.size ≤ g) := by
  have h0 := hown
  have hrowv := hown.row
  obtain ⟨Av, cap, rfl, hxc, hcm, hrow⟩ := hown
  by_cases hc0 : cap = 0
  · subst hc0
    have ho : Ow w base E (.slice Av xs.length 0) xs := ⟨Av, 0, rfl, hxc, hcm, fun h => absurd h (by omega)⟩
    obtain ⟨v', w', e1, e2, e3, e4⟩ := hE.append (c := c) ty ho hr rfl (by simpa using h1) h63 hbytes hbase
    refine ⟨v', w', e1, OwF.of e2, e3, fun g hg => ?_⟩
    rcases e4 with e4 | e4
    · exact .inl (e4 ▸ hg)
    · rw [e4] at hg; injection hg with hg; exact .inr (by omega)
  · obtain ⟨i0, hi, hz0, hz1, hz2⟩ := info_parts hE.info
    obtain ⟨g, cur, fz, rfl, hbg, hg, hcs, htake, hfz⟩ := hrow (by omega)
    obtain ⟨b, o, rfl, _, hcell⟩ := hr (by simp)
    have hrw : rowOf (.slice (some ⟨g, 0, none⟩) xs.length cap) = some g := by simp [rowOf, hc0]
    have hnews : ∀ j u', [u][j]? = some u' → w.cell? ((⟨b, o, none⟩ : Addr).add j) = some u' := by
      intro j u' hu
      obtain ⟨hj, e⟩ := List.getElem?_eq_some_iff.1 hu
      rw [add_lit', hcell j hj, e]
    have hcm1 := hcm
    unfold maxLen at hcm1
    by_cases hroom : xs.length + 1 ≤ cap
    · have hlt : xs.length < cur.size := by omega
      have hr := run_append_room_cells (P := P) w t ty E i0 hE.und hi g 0 xs.length cap ⟨b, o, none⟩ 1 c [u] (by simp [hz1]) hnews (by simpa using h1) hroom
        (by
          intro j hj
          have hj0 : j = 0 := by simpa using hj
          subst hj0
          rw [hz1, Nat.mul_one, Nat.zero_add, Nat.add_zero, cell_of_row w g xs.length cur E fz hg, Array.getElem?_eq_getElem hlt]; rfl)
        (by
          intro j hj
          have hj0 : j = 0 := by simpa using hj
          subst hj0
          rw [hz1, Nat.mul_one, Nat.zero_add, Nat.add_zero]
          obtain ⟨lo, hi'⟩ := fz
          simp only [World.frozen?, hg, Bool.and_eq_false_iff, decide_eq_false_iff_not]
          have := hfz xs.length hlt
          simp only at this
          omega)
      rw [hz1, Nat.mul_one, Nat.zero_add] at hr
      simp only [World.setCells] at hr
      refine ⟨_, _, hr, ⟨_, cap, by simp, by simpa using hroom, hcm, fun _ => ⟨g, _, fz, rfl, hbg, Lib.heap_setCell_same hg u, by simpa using hcs, ?_, by simpa using hfz⟩⟩, ?_, fun g' hg' => .inl ?_⟩
      · rw [List.length_append, List.length_singleton, List.take_succ_eq_append_getElem (by simp; omega)]
        simp
        rw [List.take_set_of_le (Nat.le_refl _), htake]
      · rw [hrw]
        exact ⟨rfl, rfl, rfl, by simp [World.setCell], fun j hj hne => Below.heap_setCell w ⟨g, xs.length, none⟩ u j (fun e => hne (by rw [e]))⟩
      · rw [hrw]
        simpa [rowOf, hc0] using hg'
    · have holds : ∀ j u', xs[j]? = some u' → w.cell? ((⟨g, 0, none⟩ : Addr).add j) = some u' := by
        intro j u' hu
        obtain ⟨hj, e⟩ := List.getElem?_eq_some_iff.1 hu
        rw [add_lit', Nat.zero_add, cell_of_row w g j cur E fz hg]
        rw [← htake, List.getElem?_take, if_pos hj] at hu
        simpa using hu
      obtain ⟨v', w', e1, e2, e3⟩ := run_append_arg_grows (P := P) w t ty E i0 z 1 bytes hE.und hi hz0 hz1 hz2 (by rw [hE.zc]; rfl) (by omega) ⟨g, 0, none⟩ xs.length cap xs (by simp) holds ⟨b, o, none⟩ 1 c [u] (by simp) hnews (by omega) h63 hbytes
      obtain ⟨_, e2⟩ := e2
      rcases e2 with ⟨_, e2⟩ | ⟨g', cap', cur', rfl, hbg', hg', hn', hm', hs', ht'⟩
      · omega
      refine ⟨_, w', e1, ⟨_, cap', by simp, by simpa using hn', hm', fun _ => ⟨g', cur', (0, 0), rfl, by omega, hg', by omega, by simpa using ht', fun j _ => .inr (Nat.zero_le _)⟩⟩, ?_, fun g2 hg2 => .inr ?_⟩
      · exact ⟨e3.os, e3.tape, e3.output, e3.size, fun j hj _ => e3.block j hj (by simp)⟩
      · have hc' : ¬ cap' = 0 := by omega
        simp [rowOf, hc'] at hg2
        omega
theorem wpList_append1_OwF {ops : Array Oper} {rest : List Oper} {o : Oper} {a : Act} {Q : Exit → Act → World → Prop} (hE : El P t E z bytes) (hgd : o.guard = none) (s x : Operand)
    (ho : o.op = .call { callee := .builtin .append, args := #[s, x], argTypes := #[t, t] }) (hs : a.eval s = v) (hown : OwF w base E v xs) (hx : a.eval x = .slice A 1 c) (hr : Sl w B A [u]) (h1 : u.oneCell' = true)
    (h63 : xs.length + 1 ≤ maxLen) (hbytes : (xs.length + 1) * bytes ≤ 140737488355328) (hbase : base ≤ w.heap.size)
    (h : ∀ v' w', OwF w' base E v' (xs ++ [u]) → w.grownBy w' (rowOf v) → (∀ g, rowOf v' = some g → rowOf v = some g ∨ w.heap.size ≤ g) → wpList P ops Q rest (a.put o.dst v') w') : wpList P ops Q (o :: rest) a w :=
  wpList_plain hgd fun _ hK => by
    obtain ⟨v', w', hrun, h2, h3, h4⟩ := hE.append1F (c := c) o.type hown hr h1 h63 hbytes hbase
    unfold Oper.wp execOp
    simp only [ho, resolve, invoke, builtin, Sem.run_bind, Sem.run_pure, Result.andThen_ok, List.map_toArray, List.map_cons, List.map_nil, hs, hx, hrun]
    exact hK _ _ (h v' w' h2 h3 h4)
end

/-- []byte(s), to be appended to. -/
theorem str_bytesF (s : ByteArray) (w : World) (hs : s.size ≤ maxLen) : ∃ wB cB, (convert 9 23 (.string s)).run Tryz.prog w = .ok (.slice (some ⟨w.heap.size, 0, none⟩) s.size cB) wB ∧ Below w.heap.size w wB ∧
    OwF wB w.heap.size 5 (.slice (some ⟨w.heap.size, 0, none⟩) s.size cB) (B8 s.data.toList) ∧ wB.heap.size = w.heap.size + 1 := by
  have hge := grownCap_ge w s.size 0 5
  refine ⟨_, _, Lib.run_convert_string_bytes (P := Tryz.prog) w 9 23 5 s (u := .string) (by kernel_rfl) (by kernel_rfl) (by kernel_rfl), ⟨rfl, rfl, rfl, ?_, fun k hk => Lib.bytesWorld_at_old w _ s k hk⟩, ?_, Lib.bytesWorld_size w _ s⟩
  · rw [Lib.bytesWorld_size]; omega
  · refine ⟨_, _, by simp; rfl, by simpa using hge, grownCap_le_maxLen w s.size 0 _ hs, fun _ => ⟨_, _, _, rfl, Nat.le_refl _, Lib.bytesWorld_at_new w _ s, ?_, ?_, fun j hj => .inl hj⟩⟩
    · simp [Lib.bytesCells]; omega
    · simp [Lib.bytesCells, B8, List.take_append, List.take_of_length_le]
end Go.Proofs.YtkiigonikeeikaaGreatDoor

/-! text.Bech32. -/
namespace Go.Proofs.YtkiigonikeeikaaGreatDoor
open Go.RowKit Go.Shelf

def okc (c : UInt8) : Bool := decide (33 ≤ c.toNat) && decide (c.toNat ≤ 126) && (decide (c.toNat < 65) || decide (90 < c.toNat))
def goodH (s : List UInt8) : Bool := !s.isEmpty && s.all okc
/-- What Bech32 says: an error's number, and a text. -/
def b32 (s data : List UInt8) (K : BitVec 64) : Nat × List UInt8 :=
  if 83 < s.length ∨ 90 < s.length + data.length + 7 then (2, [])
  else if goodH s then (0, s ++ [49] ++ (data ++ lets6 (bech (spreadL s ++ data ++ List.replicate 6 0) ^^^ K) 6).map let32)
  else (3, [])

def badK (s : List UInt8) (k : Nat) : Bool := s.isEmpty || !((s.take k).all okc)
theorem badK_succ (s : List UInt8) (k : Nat) (y : UInt8) (h : s[k]? = some y) : badK s (k + 1) = (badK s k || !okc y) := by
  unfold badK
  rw [List.take_add_one, h, List.all_append]
  simp [Bool.or_assoc]
theorem badK_all (s : List UInt8) (k : Nat) (h : s.length ≤ k) : badK s k = !goodH s := by
  unfold badK goodH
  rw [List.take_of_length_le h]
  simp

set_option maxRecDepth 100000 in
set_option maxHeartbeats 4000000 in
theorem bech32_any (s : ByteArray) (A : Option Addr) (c : Nat) (D : List UInt8) (m : Bool) (w : World) (hs : Sl w w.heap.size A (B8 D)) (h32 : ∀ x ∈ D, x.toNat < 32) (hl : D.length ≤ 4096) (hsz : s.size ≤ maxLen) :
    Calls Tryz.prog 27 #[.string s, .slice A D.length c, .bool m] w fun e W' => e = .returned (.tuple #[.string ⟨(b32 s.data.toList D (conK m)).2.toArray⟩, .int .i64 ((b32 s.data.toList D (conK m)).1 : Int)]) ∧ Below w.heap.size w W' := by
  unfold maxLen at hsz
  have hS : s.data.toList.length = s.size := by simp
  obtain ⟨S, hSS⟩ : ∃ S, S = s.data.toList := ⟨_, rfl⟩
  rw [← hSS] at hS ⊢
  obtain ⟨F, hF⟩ : ∃ F, F = b32 S D (conK m) := ⟨_, rfl⟩
  rw [← hF]
  have HSS := Lib.hid hSS
  have HS := Lib.hid hS
  have HF := Lib.hid hF
  have H32 := Lib.hid h32
  clear hSS hS hF h32
  by_cases h83 : 83 < s.size
  · have hFv : F = (2, []) := by rw [HF.out, b32, if_pos (.inl (by rw [HS.out]; exact h83))]
    have HFv := Lib.hid hFv
    clear hFv
    go_enter Tryz.func27, Tryz.ntmps27
    go_wp2_with fail
    go_ret2
    rw [HFv.out]
    exact ⟨rfl, Below.refl _ _⟩
  by_cases h90 : 90 < s.size + D.length + 7
  · have hFv : F = (2, []) := by rw [HF.out, b32, if_pos (.inr (by rw [HS.out]; exact h90))]
    have HFv := Lib.hid hFv
    clear hFv
    go_enter Tryz.func27, Tryz.ntmps27
    go_wp2_with fail
    go_ret2
    rw [HFv.out]
    exact ⟨rfl, Below.refl _ _⟩
  have hFv : F = if goodH S then (0, S ++ [49] ++ (D ++ lets6 (bech (spreadL S ++ D ++ List.replicate 6 0) ^^^ conK m) 6).map let32) else (3, []) := by rw [HF.out, b32, if_neg (by rw [HS.out]; omega)]
  have HF := Lib.hid hFv
  clear hFv
  go_enter Tryz.func27, Tryz.ntmps27
  go_wp2_with fail
  rw [ByteArray.toList_eq, ← HSS.out]
  obtain ⟨b0, hb0⟩ : ∃ b0, b0 = S.isEmpty := ⟨_, rfl⟩
  rw [← hb0]
  have Hb0 := Lib.hid hb0
  clear hb0
  go_loopw [8, 34] (fun bv i wr => ∃ k : Nat, wr = w ∧ k ≤ s.size ∧ i = .int .i64 k ∧ bv = .bool (badK S k)) (fun _ i _ => s.size - (intOf i).toNat)
  case atStart => exact ⟨0, rfl, Nat.zero_le _, rfl, by rw [Hb0.out]; simp [badK]⟩
  case round =>
    obtain ⟨k, rfl, hk, rfl, rfl⟩ := hrel
    obtain ⟨bv, hbv⟩ : ∃ bv, bv = badK S k := ⟨_, rfl⟩
    rw [← hbv]
    have Hbv := Lib.hid hbv
    clear hbv
    by_cases hlt : k < s.size
    · obtain ⟨y, hy⟩ : ∃ y, y = s[k] := ⟨_, rfl⟩
      have hyS : S[k]? = some y := by rw [HSS.out, hy]; simp [hlt]; rfl
      have hnx := badK_succ S k y hyS
      rw [← Hbv.out] at hnx
      have Hnx := Lib.hid hnx
      have hs1 : ∀ h, s[k]'h = y := fun h => hy.symm
      have hy8 := y.toNat_lt
      clear hnx hyS hy
      cases bv with
      | true =>
        go_wp2_with fail
        exact ⟨⟨k + 1, trivial, by omega, rfl, by rw [Hnx.out]; rfl⟩, by simp [intOf]; omega⟩
      | false =>
        by_cases h1 : y.toNat < 33
        · go_wp2_with fail
          exact ⟨⟨k + 1, trivial, by omega, rfl, by rw [Hnx.out]; simp [okc]; omega⟩, by simp [intOf]; omega⟩
        by_cases h2 : 126 < y.toNat
        · go_wp2_with fail
          exact ⟨⟨k + 1, trivial, by omega, rfl, by rw [Hnx.out]; simp [okc]; omega⟩, by simp [intOf]; omega⟩
        by_cases h3 : 65 ≤ y.toNat
        · by_cases h4 : y.toNat ≤ 90
          · have hok : okc y = false := by simp [okc]; omega
            rw [hok] at Hnx
            clear hok
            go_wp2_with fail
            exact ⟨⟨k + 1, trivial, by omega, rfl, by rw [Hnx.out]; simp; omega⟩, by simp [intOf]; omega⟩
          · have hok : okc y = true := by simp [okc]; omega
            rw [hok] at Hnx
            clear hok
            go_wp2_with fail
            exact ⟨⟨k + 1, trivial, by omega, rfl, by rw [Hnx.out]; simp; omega⟩, by simp [intOf]; omega⟩
        · have hok : okc y = true := by simp [okc]; omega
          rw [hok] at Hnx
          clear hok
          go_wp2_with fail
          exact ⟨⟨k + 1, trivial, by omega, rfl, by rw [Hnx.out]; simp; omega⟩, by simp [intOf]; omega⟩
    · obtain rfl : k = s.size := by omega
      have hgd : bv = !goodH S := by rw [Hbv.out]; exact badK_all S _ (by rw [HS.out]; exact Nat.le_refl _)
      have Hgd := Lib.hid hgd
      clear hgd
      go_wp2_with fail
      obtain ⟨wS, rfl⟩ : ∃ wS, wS = wr := ⟨_, rfl⟩
      go_loopw [8, 65] (fun bv' i wr => ∃ k : Nat, wr = wS ∧ k ≤ D.length ∧ i = .int .i64 k ∧ bv' = .bool bv) (fun _ i _ => D.length - (intOf i).toNat)
      case atStart => exact ⟨0, rfl, Nat.zero_le _, rfl, rfl⟩
      case round =>
        obtain ⟨k, rfl, hk, rfl, rfl⟩ := hrel
        by_cases hlt : k < D.length
        · obtain ⟨y, hy⟩ : ∃ y, y = D[k] := ⟨_, rfl⟩
          have hy32 : y.toNat < 32 := H32.out y (by rw [hy]; exact List.getElem_mem _)
          obtain ⟨b9, o9, rfl, hb9, hcl9⟩ := hs.at_ hlt
          have hcell : wr.cell? ⟨b9, o9 + k, none⟩ = some (.int .u8 (y.toNat : Int)) := by rw [hcl9 k hlt, hy]
          clear hcl9 hy
          cases bv with
          | true =>
            go_wp2_with fail
            exact ⟨⟨k + 1, trivial, by omega, rfl, rfl⟩, by simp [intOf]; omega⟩
          | false =>
            go_wp2_with fail
            exact ⟨⟨k + 1, trivial, by omega, rfl, by congr 1; simp; omega⟩, by simp [intOf]; omega⟩
        · cases bv with
          | true =>
            have hFv : F = (3, []) := by rw [HF.out, if_neg (by have := Hgd.out; simp at this; simp [← this])]
            have HFv := Lib.hid hFv
            clear hFv
            go_wp2_with fail
            go_ret2
            rw [HFv.out]
            exact ⟨rfl, Below.refl _ _⟩
          | false =>
            have hgt : goodH S = true := by have := Hgd.out; simpa using this.symm
            have hFv : F = (0, S ++ [49] ++ (D ++ lets6 (bech (spreadL S ++ D ++ List.replicate 6 0) ^^^ conK m) 6).map let32) := by rw [HF.out, if_pos hgt]
            have HFv := Lib.hid hFv
            clear hFv hgt HF Hgd
            obtain rfl : k = D.length := by omega
            go_wp2_with fail
            refine (spread_any s _ (by omega)).mono ?_
            rintro e w1 ⟨v1, rfl, ho1, hb1⟩
            rw [← HSS.out] at ho1
            obtain ⟨A1, c1, rfl, hc1, hc1'⟩ := own_form ho1
            have hspl : (spreadL S).length = 2 * s.size + 1 := by rw [spreadL_length, HS.out]
            obtain ⟨n1, hn1⟩ : ∃ n1, n1 = (spreadL S).length := ⟨_, rfl⟩
            rw [← hn1] at ho1 hc1 ⊢
            rw [← hn1] at hspl
            have hn1l : n1 ≤ 200 := by omega
            have Hn1 := Lib.hid hn1
            have Hspl := Lib.hid hspl
            have hs1 := (hs.below hb1).mono hb1.size
            have hz1 := hb1.size
            clear hn1 hspl
            go_wp2_with (at_builtin; go_loud (refine wpList_append_Ow (m := D.length) (c := c) (base := wr.heap.size) (xs := B8 (spreadL S)) (v := .slice A1 n1 c1) (A := A) (B := w1.heap.size) (news := B8 D) elB rfl (.tmp 77) (.tmp 78) rfl rfl ho1 rfl hs1 (B8_length _) (B8_oneCell _) (by rw [B8_length, ← Hn1.out]; simp [maxLen]; omega) (by rw [B8_length, ← Hn1.out]; omega) hz1 ?_); intro v2 w2 ho2 hg2 hr2)
            rw [← B8_append] at ho2
            obtain ⟨ALL, hALL⟩ : ∃ X, X = spreadL S ++ D := ⟨_, rfl⟩
            rw [← hALL] at ho2
            obtain ⟨A2, c2, rfl, hc2, hc2'⟩ := own_form ho2
            have hb2 : Below wr.heap.size wr w2 := hb1.grown hg2 hz1 (fun r hr => (ho1.row r hr).1)
            obtain ⟨n2, hn2⟩ : ∃ n2, n2 = ALL.length := ⟨_, rfl⟩
            have hn2l : n2 ≤ 400 := by rw [hn2, hALL, List.length_append, ← Hn1.out]; omega
            have hn20 : 0 < n2 := by rw [hn2, hALL, List.length_append, ← Hn1.out, Hspl.out]; omega
            rw [← hn2] at ho2 hc2 ⊢
            have Hn2 := Lib.hid hn2
            have HALL := Lib.hid hALL
            have hz2 := hb2.size
            clear hn2 hALL ho1 hg2 hr2 hs1 hb1 hc1 hc1' hn1l Hspl Hn1 hz1
            refine (bech_any _).mono ?_
            rintro e w3 ⟨rfl, hb3⟩
            have ho3 := ho2.below hb3 (Nat.le_refl _)
            have hb3' := hb2.trans (hb3.mono hz2)
            have hz3 := hb3'.size
            clear ho2 hb2 hb3 hz2
            go_wp2_with fail
            have hrun := brun6_any A2 c2 ALL w3 ho3.sl (by rw [← Hn2.out]; omega) (by rw [← Hn2.out]; omega)
            rw [← Hn2.out] at hrun
            refine hrun.mono ?_
            clear hrun
            rintro e w4 ⟨rfl, hb4⟩
            obtain ⟨P0, hP0⟩ : ∃ P0, P0 = bech (ALL ++ List.replicate 6 0) := ⟨_, rfl⟩
            rw [← hP0]
            have HP0 := Lib.hid hP0
            have hP64 := P0.isLt
            have hb4' := hb3'.trans (hb4.mono hz3)
            have hz4 := hb4'.size
            clear hP0 hb4 hb3' ho3 hz3
            go_wp2_with fail
            refine (constant_any m _).mono ?_
            rintro e w5 ⟨rfl, rfl⟩
            have hK64 := (conK m).isLt
            obtain ⟨K0, hK0⟩ : ∃ K0, K0 = conK m := ⟨_, rfl⟩
            rw [← hK0] at hK64 ⊢
            have HK0 := Lib.hid hK0
            clear hK0
            have hx1 : bits .xor .u64 (P0.toNat : Int) (K0.toNat : Int) = ((P0 ^^^ K0).toNat : Int) := sp_x P0 K0
            obtain ⟨Q0, hQ0⟩ : ∃ Q0, Q0 = P0 ^^^ K0 := ⟨_, rfl⟩
            rw [← hQ0] at hx1
            have HQ0 := Lib.hid hQ0
            clear hQ0
            go_wp2_with fail
            refine (letters6_any Q0 _).mono ?_
            rintro e w6 ⟨v6, rfl, ho6, hb6⟩
            obtain ⟨L6, hL6⟩ : ∃ L6, L6 = lets6 Q0 6 := ⟨_, rfl⟩
            rw [← hL6] at ho6
            obtain ⟨A6, c6, rfl, hc6, hc6'⟩ := own_form ho6
            have hl6 : L6.length = 6 := by rw [hL6, lets6_length]
            rw [hl6] at ho6 hc6 ⊢
            have HL6 := Lib.hid hL6
            have Hl6 := Lib.hid hl6
            have hb6' := hb4'.trans (hb6.mono hz4)
            have hz6 := hb6'.size
            clear hx1 hl6 hL6 hb6 hb4'
            have hs49 : (s ++ (⟨#[49]⟩ : ByteArray)).size = s.size + 1 := by rw [ByteArray.size_append]; rfl
            have hd49 : (s ++ (⟨#[49]⟩ : ByteArray)).data.toList = S ++ [49] := by rw [ByteArray.data_append, HSS.out]; simp
            obtain ⟨wB, cB, hconv, hBB, hFB, hzB⟩ := str_bytesF (s ++ ⟨#[49]⟩) w6 (by rw [hs49]; simp [maxLen]; omega)
            rw [hs49, hd49] at hFB
            have HFB := Lib.hid hFB
            have hbB' := hb6'.trans (hBB.mono hz6)
            have hzB' := hbB'.size
            have hzB2 : w6.heap.size < wB.heap.size := by omega
            have hsB := (hs.below hbB').mono hzB'
            have hS6 := (ho6.sl.below hBB).mono hBB.size
            obtain ⟨gB, hgB⟩ : ∃ gB, gB = w6.heap.size := ⟨_, rfl⟩
            rw [← hgB] at HFB hzB2 hconv
            have HgB := Lib.hid hgB
            clear hs49 hd49 hFB hzB hgB
            go_wp2_with fail
            refine (clone_any A c D wB hsB (by omega)).mono ?_
            rintro e w7 ⟨v7, rfl, ho7, hb7⟩
            obtain ⟨A7, c7, rfl, hc7, hc7'⟩ := own_form ho7
            have hS7 := (hS6.below hb7).mono hb7.size
            have hF7 := HFB.out.below hb7 (Nat.le_refl _)
            have hb7' := hbB'.trans (hb7.mono hzB')
            have hz7 := hb7.size
            obtain ⟨M, hM⟩ : ∃ M, M = D ++ L6 := ⟨_, rfl⟩
            obtain ⟨N, hN⟩ : ∃ N, N = M.length := ⟨_, rfl⟩
            have hND : N = D.length + 6 := by rw [hN, hM, List.length_append, Hl6.out]
            have hM32 : ∀ y ∈ M, y.toNat < 32 := by
              intro y hy
              rw [hM] at hy
              rcases List.mem_append.1 hy with h | h
              · exact H32.out y h
              · rw [HL6.out] at h; exact lets6_lt _ _ y h
            have hMB : B8 D ++ B8 L6 = B8 M := by rw [hM, B8_append]
            have hNl : N ≤ 200 := by omega
            have hN0 : 0 < N := by omega
            have hFM : F = (0, S ++ [49] ++ M.map let32) := by rw [HFv.out, hM, HL6.out, HQ0.out, HP0.out, HK0.out, HALL.out]
            have HM := Lib.hid hM
            have HN := Lib.hid hN
            have HND := Lib.hid hND
            have HM32 := Lib.hid hM32
            have HMB := Lib.hid hMB
            have HFM := Lib.hid hFM
            have HF7 := Lib.hid hF7
            clear hM hN hND hM32 hMB hFM hF7 hS6 hbB' hsB HFv hconv
            go_wp2_with (at_builtin; go_loud (refine wpList_append_Ow (m := 6) (c := c6) (base := wB.heap.size) (xs := B8 D) (v := .slice A7 D.length c7) (A := A6) (B := w7.heap.size) (news := B8 L6) elB rfl (.tmp 91) (.tmp 92) rfl rfl ho7 rfl hS7 (by rw [B8_length]; exact Hl6.out) (B8_oneCell _) (by rw [B8_length]; simp [maxLen]; omega) (by rw [B8_length]; omega) hz7 ?_); intro v8 w8 ho8 hg8 hr8; rw [HMB.out] at ho8; obtain ⟨A8, c8, rfl, hc8, hc8'⟩ := own_form ho8; rw [← HN.out] at ho8 hc8 ⊢)
            have hF8 := HF7.out.kept hg8 (fun g hg e => by
              have h1 := (ho7.row g e).1
              have h2 := (HFB.out.row g hg).2
              omega)
            have hb8' : Below wr.heap.size wr w8 := hb7'.grown hg8 hb7'.size (fun r hr => by have := (ho7.row r hr).1; omega)
            have hz8 := hb8'.size
            have ho8' := ho8
            obtain ⟨A', c', e', hx1, hx2, hx3⟩ := ho8
            injection e' with ea eb ec
            subst ea ec
            obtain ⟨g8, cur8, rfl, hg81, hg82, hg83, hg84⟩ := hx3 (by omega)
            have hcells : ∀ (X : World), X.heap[g8]? = some (.cells cur8 5 (0, 0)) → ∀ j (hj : j < M.length), X.cell? ⟨g8, j, none⟩ = some (.int .u8 (M[j].toNat : Int)) := fun X hX j hj => by
              have h1 : (B8 M)[j]? = (cur8.toList.take (B8 M).length)[j]? := by rw [hg84]
              rw [cell_of_row X g8 j cur8 _ _ hX]
              rw [List.getElem?_take, if_pos (by simpa using hj)] at h1
              rw [show cur8[j]? = cur8.toList[j]? by simp, ← h1]
              simp [B8, hj]
            have hF8n : ∀ r, rowOf (.slice (some ⟨gB, 0, none⟩) (s.size + 1) cB) = some r → r ≠ g8 := fun r hr e => by
              have h2 := (HFB.out.row r hr).2
              omega
            have Hcells := Lib.hid hcells
            have Hg8 := Lib.hid hg82
            have HF8n := Lib.hid hF8n
            clear hcells hg82 hg83 hg84 hF8n hx1 hx2 hx3 eb ho8' hg8 hr8 ho7 ho6 hS7 hb7' hb6' hs
            obtain ⟨w0, rfl⟩ : ∃ w0, w0 = wr := ⟨_, rfl⟩
            go_loopw [14, 95] (fun v i wr => ∃ q : Nat, q ≤ N ∧ i = .int .i64 q ∧ OwF wr gB 5 v (B8 (S ++ [49] ++ (M.take q).map let32)) ∧ Hid ((∀ r, rowOf v = some r → r ≠ g8) ∧ wr.heap[g8]? = some (.cells cur8 5 (0, 0))) ∧ Below w0.heap.size w0 wr) (fun _ i _ => N - (intOf i).toNat)
            case atStart => exact ⟨0, Nat.zero_le _, rfl, by simpa using hF8, Lib.hid ⟨HF8n.out, Hg8.out⟩, hb8'⟩
            case round =>
              clear hF8 HF8n Hg8 hb8'
              obtain ⟨q, hq, rfl, hoq, Hq, hbq⟩ := hrel
              obtain ⟨R, hR⟩ : ∃ R, R = S ++ [49] ++ (M.take q).map let32 := ⟨_, rfl⟩
              have hRl : R.length = s.size + 1 + q := by rw [hR]; simp [HS.out]; have := HN.out; omega
              rw [← hR] at hoq
              obtain ⟨Ar, cr, rfl, hcr, hcr'⟩ := hoq.formB
              obtain ⟨nr, hnr⟩ : ∃ nr, nr = R.length := ⟨_, rfl⟩
              have hnrl : nr ≤ 500 := by omega
              rw [← hnr] at hoq hcr Hq ⊢
              have Hnr := Lib.hid hnr
              have HR := Lib.hid hR
              have hzq := hbq.size
              have hlt8 : g8 < wr.heap.size := by
                rcases Nat.lt_or_ge g8 wr.heap.size with h' | h'
                · exact h'
                · have := Hq.out.2; rw [Array.getElem?_eq_none h'] at this; cases this
              have hgBq : gB ≤ wr.heap.size := by omega
              clear hnr hR hRl
              by_cases hlt : q < N
              · have hqM : q < M.length := by rw [← HN.out]; exact hlt
                obtain ⟨y, hy⟩ : ∃ y, y = M[q] := ⟨_, rfl⟩
                have hy32 : y.toNat < 32 := HM32.out y (by rw [hy]; exact List.getElem_mem _)
                have hcell := Hcells.out wr Hq.out.2 q hqM
                rw [← hy] at hcell
                have hlet : ∀ h, (⟨letters32.toArray⟩ : ByteArray)[y.toNat]'h = let32 y := fun h => letters32_at y h
                obtain ⟨l, hl'⟩ : ∃ l, l = let32 y := ⟨_, rfl⟩
                rw [← hl'] at hlet
                simp only [letters32] at hlet
                have hnew : R ++ [l] = S ++ [49] ++ (M.take (q + 1)).map let32 := by
                  rw [HR.out, hl', hy, List.take_succ_eq_append_getElem hqM, List.map_append, List.append_assoc (S ++ [49])]; rfl
                have Hnew := Lib.hid hnew
                clear hnew hl' hy
                go_wp2_with (at_builtin; go_loud (refine wpList_append1_OwF (c := 1) (base := gB) (xs := B8 R) (v := .slice Ar nr cr) (A := some ⟨wr.heap.size, 0, none⟩) (B := wr.heap.size + 1) (u := .int .u8 (l.toNat : Int)) elB rfl (.tmp 99) (.tmp 102) rfl rfl (hoq.alloc _) rfl (Sl.one wr _ _) rfl (by rw [B8_length, ← Hnr.out]; simp [maxLen]; omega) (by rw [B8_length, ← Hnr.out]; omega) (by simp; omega) ?_); intro v3 w3 ho3 hg3 hr3)
                rw [b8_snoc R _ l rfl, Hnew.out] at ho3
                refine ⟨⟨q + 1, by omega, rfl, ho3, Lib.hid ⟨?_, ?_⟩, ?_⟩, by simp [intOf]; omega⟩
                · intro r hr
                  rcases hr3 r hr with h | h
                  · exact Hq.out.1 r h
                  · simp at h
                    omega
                · rw [hg3.block g8 (by simp; omega) (fun e => Hq.out.1 g8 e.symm rfl)]
                  exact (Below.heap_alloc wr _ g8 hlt8).trans Hq.out.2
                · exact (hbq.alloc hzq _).grown hg3 (by simp; omega) (fun r hr => by have := (hoq.row r hr).1; have := HgB.out; omega)
              · obtain rfl : q = N := by omega
                have hfin : R = S ++ [49] ++ M.map let32 := by rw [HR.out, List.take_of_length_le (by rw [← HN.out]; exact Nat.le_refl _)]
                have hstr := run_str_Sl (P := Tryz.prog) wr 23 9 5 (by kernel_rfl) (by kernel_rfl) (by kernel_rfl) wr.heap.size Ar cr R (by have := hoq; rw [Hnr.out] at this; exact this.sl)
                rw [← Hnr.out] at hstr
                have Hfin := Lib.hid hfin
                clear hfin
                go_wp2_with fail
                go_ret2
                rw [HFM.out, ← Hfin.out]
                exact ⟨rfl, hbq⟩
end Go.Proofs.YtkiigonikeeikaaGreatDoor
