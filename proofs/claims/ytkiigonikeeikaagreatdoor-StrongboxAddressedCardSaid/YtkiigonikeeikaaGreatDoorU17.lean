/- text.Checksum. | A region that draws its order and reads no memory quietly: a tree whose steps may turn the world as they like. | text.spread. | A slice that may be appended to and lies in the row of a conversion ([]byte of a text): the row's mark stands behind its cells. -/
import Derived.Test.YtkiigonikeeikaaGreatDoorU15
import Derived.Test.YtkiigonikeeikaaGreatDoorU7
import Derived.Test.YtkiigonikeeikaaGreatDoorU16
import Derived.Test.YtkiigonikeeikaaGreatDoorU14
import Derived.ArgAppend
import Derived.Lib.BufferMore

/-! text.Checksum. -/
namespace Go.Proofs.YtkiigonikeeikaaGreatDoor
open Go.RowKit Go.Shelf

theorem keep_two {w w' : World} {base E : Nat} {v u : Value} {xs ys : List Value} (hv : Ow w base E v xs) (hne : ∀ r, rowOf v = some r → rowOf u ≠ some r) (hg : w.grownBy w' (rowOf u)) : Ow w' base E v xs :=
  hv.kept hg hne
theorem apart_new {w : World} {base E : Nat} {v u u' : Value} {xs : List Value} (hv : Ow w base E v xs) (hne : ∀ r, rowOf v = some r → rowOf u ≠ some r) (hu : rowOf u' = rowOf u ∨ rowOf u' = some w.heap.size) : ∀ r, rowOf v = some r → rowOf u' ≠ some r := by
  intro r hr e
  rcases hu with h | h
  · exact hne r hr (h ▸ e)
  · rw [h] at e; injection e with e
    have := (hv.row r hr).2; omega
theorem apart_grown {v u v' : Value} {r0 : Nat} (h : ∀ r, rowOf v = some r → rowOf u ≠ some r) (hv : rowOf v' = rowOf v ∨ rowOf v' = some r0) (hu : ∀ r, rowOf u = some r → r < r0) : ∀ r, rowOf v' = some r → rowOf u ≠ some r := by
  intro r hr e
  rcases hv with h1 | h1
  · exact h r (h1 ▸ hr) e
  · rw [h1] at hr; injection hr with hr
    have := hu r e; omega
theorem Ow.row_lt {w : World} {base E : Nat} {v : Value} {xs : List Value} (h : Ow w base E v xs) : ∀ r, rowOf v = some r → r < w.heap.size := fun r hr => (h.row r hr).2
theorem apart_symm {v u : Value} (h : ∀ r, rowOf v = some r → rowOf u ≠ some r) : ∀ r, rowOf u = some r → rowOf v ≠ some r := fun r hu hv => h r hv hu

theorem csVals_snoc (s : List UInt8) (c : UInt8) : csVals (s ++ [c]) = csStep (csVals s) c := by simp [csVals]
theorem csStep_short (V G : List UInt8) (c : UInt8) (h : G.length < 2) : csStep (V, G) c = (V ++ [UInt8.ofNat (posD c % 32)], G ++ [UInt8.ofNat (posD c / 32)]) := by
  unfold csStep
  match G, h with
  | [], _ => rfl
  | [g], _ => rfl
theorem csStep_full (V : List UInt8) (g0 g1 : UInt8) (c : UInt8) : csStep (V, [g0, g1]) c = (V ++ [UInt8.ofNat (posD c % 32)] ++ [UInt8.ofNat (9 * g0.toNat + 3 * g1.toNat + posD c / 32)], []) := rfl
theorem and31 (p : Nat) (h : p < 95) : bits .and .i64 (p : Int) 31 = ((p % 32 : Nat) : Int) := by
  have : ∀ p : Fin 95, bits .and .i64 (p.val : Int) 31 = ((p.val % 32 : Nat) : Int) := by decide
  exact this ⟨p, h⟩

theorem lettersL_lt (c : BitVec 64) (k : Nat) : ∀ d ∈ lettersL c k, d.toNat < 32 := by
  intro d hd
  obtain ⟨i, _, rfl⟩ := List.mem_map.1 hd
  rw [UInt8.toNat_ofNat']; omega
theorem letters32_at (d : UInt8) (h : d.toNat < (⟨letters32.toArray⟩ : ByteArray).size) : (⟨letters32.toArray⟩ : ByteArray)[d.toNat] = let32 d := by
  have h' : d.toNat < letters32.length := h
  show letters32.toArray[d.toNat]'(by simpa using h') = _
  simp [let32, h']

end Go.Proofs.YtkiigonikeeikaaGreatDoor

/-! A region that draws its order and reads no memory quietly: a tree whose steps may turn the world as they like. -/
namespace Go.Proofs.YtkiigonikeeikaaGreatDoor
open Go Go.RowKit
section
variable {P : Program} {ops : Array Oper} {md : Region.Mode}
variable {Q : Act → World → Prop} {st : Nat → (Act → World → Prop) → Act → World → Prop}

def SndT (md : Region.Mode) (ops : Array Oper) (Q : Act → World → Prop) (st : Nat → (Act → World → Prop) → Act → World → Prop) (listed : Array Bool) (n : Nat) (C : Act → World → Prop) : Prop :=
  ∀ a w, C a w → wpAnyS md ops Q st ops.size (fun _ => True) n listed a w
def forkT (st : Nat → (Act → World → Prop) → Act → World → Prop) (i : Nat) (Ci : Act → World → Prop) (j : Nat) (Cj : Act → World → Prop) (a : Act) (w : World) : Prop := st i Ci a w ∧ st j Cj a w
def preT (md : Region.Mode) (ops : Array Oper) : List (Nat × Nat) → Array Bool → Bool
  | [], _ => true
  | (i, k) :: rest, listed =>
    (if k = 0 then (Region.ready md ops listed).contains i && Region.free md ops listed i
     else k == 2 && (Region.ready md ops listed == [i])) && preT md ops rest (listed.setIfInBounds i true)
theorem snd_doneT (listed : Array Bool) (h : (Region.ready md ops listed == []) = true) : SndT md ops Q st listed 0 Q := fun _ _ hq => ⟨by simpa using h, hq⟩
theorem snd_forkT (L : StepLaws P ops Q st) (i j n : Nat) (listed : Array Bool) (hr : (Region.ready md ops listed == [i, j]) = true) {Ci Cj : Act → World → Prop}
    (hi : SndT md ops Q st (listed.setIfInBounds i true) n Ci) (hj : SndT md ops Q st (listed.setIfInBounds j true) n Cj) : SndT md ops Q st listed (n + 1) (forkT st i Ci j Cj) := by
  intro a w h
  have hr : Region.ready md ops listed = [i, j] := by simpa using hr
  refine ⟨fun h0 => (by rw [hr] at h0; cases h0), fun k hk => ?_⟩
  rw [hr] at hk
  simp only [List.mem_cons, List.not_mem_nil, or_false] at hk
  rcases hk with rfl | rfl
  · exact L.mono (fun a' w' h' => ⟨.inr trivial, hi a' w' h'⟩) h.1
  · exact L.mono (fun a' w' h' => ⟨.inr trivial, hj a' w' h'⟩) h.2
theorem snd_preT (L : StepLaws P ops Q st) (hsel : Region.noSelect ops = true) (n : Nat) {C : Act → World → Prop} : ∀ (pre : List (Nat × Nat)) (listed : Array Bool),
    preT md ops pre listed = true → Closed md ops listed → SndT md ops Q st (listAll pre listed) n C → SndT md ops Q st listed (pre.length + n) (wpPlan P ops C st 0 pre)
  | [], listed, _, _, hS => by
    intro a w h
    rw [List.length_nil, Nat.zero_add]
    exact hS a w h
  | (i, k) :: rest, listed, hB, hcl, hS => by
    intro a w h
    have hlen : ((i, k) :: rest).length + n = (rest.length + n) + 1 := by simp; omega
    rw [hlen]
    by_cases hk0 : k = 0
    · simp only [preT, hk0, if_true, Bool.and_eq_true] at hB
      obtain ⟨⟨hr, hf⟩, hrest⟩ := hB
      have hr' : i ∈ Region.ready md ops listed := by simpa using hr
      simp only [wpPlan, hk0, if_true] at h
      split at h
      · exact h.elim
      · rename_i o ho
        obtain ⟨v, hy, hK⟩ := h
        have hrec := snd_preT L hsel n rest (listed.setIfInBounds i true) hrest (hcl.set hr') hS (a.put o.dst v) w hK
        exact wpAnyS_first L (S := fun _ => True) (S1 := fun _ => True) ho (Region.noSelect_spec hsel) (Array.getElem?_eq_some_iff.1 ho).1 (fun _ _ _ _ _ => trivial) (rest.length + n) listed a w hcl (Region.free_spec ho hf) hr' hy (.inr trivial) hrec
    · simp only [preT, hk0, if_false, Bool.and_eq_true, beq_iff_eq] at hB
      obtain ⟨⟨rfl, hr⟩, hrest⟩ := hB
      have hr' : i ∈ Region.ready md ops listed := by rw [hr]; simp
      refine ⟨fun h0 => (by rw [h0] at hr; cases hr), fun j hj => ?_⟩
      rw [hr] at hj
      obtain rfl : j = i := by simpa using hj
      simp only [wpPlan, show ¬ (2 = 0) by decide, show ¬ (2 = 1) by decide, if_false] at h
      exact L.mono (fun a' w' h' => ⟨.inr trivial, snd_preT L hsel n rest _ hrest (hcl.set hr') hS a' w' h'.2⟩) h
theorem snd_preT' (L : StepLaws P ops Q st) (hsel : Region.noSelect ops = true) (n : Nat) {C : Act → World → Prop} (pre : List (Nat × Nat)) (listed : Array Bool) (hB : (preT md ops pre listed && closedB md ops listed) = true)
    (h : SndT md ops Q st (listAll pre listed) n C) : SndT md ops Q st listed (pre.length + n) (wpPlan P ops C st 0 pre) := by
  simp only [Bool.and_eq_true] at hB
  exact snd_preT L hsel n pre listed hB.1 (closedB_spec hB.2) h
end
section
variable {P : Program} {ops : Array Oper} {N : Nat}
theorem wp_region_treeT {id : Nat} {Q : Exit → Act → World → Prop} {a : Act} {w : World} {l : List Oper} (C : Act → World → Prop) (n : Nat) (hm : P.follows .mixedOrders = true) (hn : (n == l.length) = true) (hQ : ∀ c a d v w, Q (.panic c) (Act.put a d v) w → Q (.panic c) a w)
    (hS : (∀ c a d v w, Q (.panic c) (Act.put a d v) w → Q (.panic c) a w) → SndT .any l.toArray (Q .normal) (fun i K a w => wpOp P l.toArray Q i K a w) (Array.replicate l.length false) n C) (h : C a w.drew) : (Code.region id l.toArray true).wp P Q a w := by
  refine wp_region_any hm ?_
  have hn : n = l.length := by simpa using hn
  subst hn
  have := hS hQ a w.drew h
  have := wpAny_of_S _ _ _ _ this
  simpa using this
theorem forkT_mk {Q : Exit → Act → World → Prop} {i j : Nat} {Ci Cj : Act → World → Prop} {oi oj : Oper} {a : Act} {w : World} (hoi : ops[i]? = some oi) (hoj : ops[j]? = some oj) (hgi : oi.guard = none) (hgj : oj.guard = none)
    (h1 : ∀ K : Act → World → Prop, (∀ a' w', Ci a' w' → K a' w') → oi.wp P a w K Q)
    (h2 : ∀ K : Act → World → Prop, (∀ a' w', Cj a' w' → K a' w') → oj.wp P a w K Q) :
    forkT (fun i K a w => wpOp P ops Q i K a w) i Ci j Cj a w := by
  constructor
  · simp only [wpOp, hoi, Region.wanted, hgi, if_true]
    exact .inl (h1 _ (fun _ _ h => h))
  · simp only [wpOp, hoj, Region.wanted, hgj, if_true]
    exact .inl (h2 _ (fun _ _ h => h))
end
end Go.Proofs.YtkiigonikeeikaaGreatDoor

/-! text.spread. -/
namespace Go.Proofs.YtkiigonikeeikaaGreatDoor
open Go.RowKit Go.Shelf

def spreadL (s : List UInt8) : List UInt8 := s.map (fun c => UInt8.ofNat (c.toNat / 32)) ++ [0] ++ s.map (fun c => UInt8.ofNat (c.toNat % 32))
theorem spreadL_length (s : List UInt8) : (spreadL s).length = 2 * s.length + 1 := by simp [spreadL]; omega
set_option maxRecDepth 20000 in
theorem and31u8 (y : UInt8) : bits .and .u8 (y.toNat : Int) 31 = ((y.toNat % 32 : Nat) : Int) := by
  have : ∀ p : Fin 256, bits .and .u8 (p.val : Int) 31 = ((p.val % 32 : Nat) : Int) := by decide
  exact this ⟨y.toNat, y.toNat_lt⟩

/-- Two slices that are appended to, in rows of their own. -/
def Two (w X : World) (v g : Value) (V G : List UInt8) : Prop :=
  Ow X w.heap.size 5 v (B8 V) ∧ Ow X w.heap.size 5 g (B8 G) ∧ (∀ r, rowOf v = some r → rowOf g ≠ some r) ∧ Below w.heap.size w X
theorem Two.alloc {w X : World} {v g : Value} {V G : List UInt8} (h : Two w X v g V G) (o : Obj) : Two w (X.alloc o) v g V G := ⟨h.1.alloc o, h.2.1.alloc o, h.2.2.1, h.2.2.2.alloc h.2.2.2.size o⟩
theorem Two.drew {w X : World} {v g : Value} {V G : List UInt8} (h : Two w X v g V G) : Two w X.drew v g V G := ⟨h.1.drew, h.2.1.drew, h.2.2.1, h.2.2.2.drew⟩
theorem Two.symm {w X : World} {v g : Value} {V G : List UInt8} (h : Two w X v g V G) : Two w X g v G V := ⟨h.2.1, h.1, apart_symm h.2.2.1, h.2.2.2⟩
theorem Two.grown {w X X' : World} {v g v' : Value} {V G V' : List UInt8} (h : Two w X v g V G) (hg : X.grownBy X' (rowOf v)) (ho : Ow X' w.heap.size 5 v' (B8 V')) (hr : rowOf v' = rowOf v ∨ rowOf v' = some X.heap.size) : Two w X' v' g V' G :=
  ⟨ho, h.2.1.kept hg (apart_symm h.2.2.1), apart_grown h.2.2.1 hr h.2.1.row_lt, h.2.2.2.grown hg h.2.2.2.size (fun r hr => (h.1.row r hr).1)⟩
/-- A row of one byte. -/
def Row1 (X : World) (r d : Nat) : Prop := X.heap[r]? = some (.cells #[.int .u8 (d : Int)] 5 (0, 0))
theorem Row1.lt {X : World} {r d : Nat} (h : Row1 X r d) : r < X.heap.size := by
  rcases Nat.lt_or_ge r X.heap.size with h' | h'
  · exact h'
  · rw [Row1, Array.getElem?_eq_none h'] at h; cases h
theorem Row1.new (X : World) (d : Nat) : Row1 (X.alloc (.cells #[.int .u8 (d : Int)] 5)) X.heap.size d := heap_alloc_new X _
theorem Row1.alloc {X : World} {r d : Nat} (h : Row1 X r d) (o : Obj) : Row1 (X.alloc o) r d := (Below.heap_alloc X o r h.lt).trans h
theorem Row1.grown {X X' : World} {r d : Nat} {row : Option Nat} (h : Row1 X r d) (hg : X.grownBy X' row) (hr : row ≠ some r) : Row1 X' r d := (hg.block r h.lt (fun e => hr e.symm)).trans h
theorem Row1.sl {X : World} {r d : Nat} (h : Row1 X r d) : Sl X (r + 1) (some ⟨r, 0, none⟩) [.int .u8 (d : Int)] := fun _ =>
  ⟨r, 0, rfl, by omega, fun j hj => by
    have : j = 0 := by simp at hj; omega
    subst this
    rw [cell_of_row X _ _ _ _ (0, 0) h]; rfl⟩
theorem Row1.ne {w X : World} {v g : Value} {V G : List UInt8} {r : Nat} (h : Two w X v g V G) (hr : X.heap.size ≤ r) : rowOf v ≠ some r ∧ rowOf g ≠ some r :=
  ⟨fun e => by have := (h.1.row r e).2; omega, fun e => by have := (h.2.1.row r e).2; omega⟩

set_option maxRecDepth 100000 in
set_option maxHeartbeats 4000000 in
theorem spread_any (s : ByteArray) (w : World) (hsz : s.size ≤ 2000) :
    Calls Tryz.prog 48 #[.string s] w fun e W' => ∃ v, e = .returned v ∧ Ow W' w.heap.size 5 v (B8 (spreadL s.data.toList)) ∧ Below w.heap.size w W' := by
  have hS : s.data.toList.length = s.size := by simp
  obtain ⟨S, hSS⟩ : ∃ S, S = s.data.toList := ⟨_, rfl⟩
  rw [← hSS] at hS ⊢
  have HSS := Lib.hid hSS
  have HS := Lib.hid hS
  clear hSS hS
  go_enter Tryz.func48, Tryz.ntmps48
  go_wp2_with fail
  go_loopw [3, 4, 8] (fun v g i wr => ∃ k : Nat, k ≤ s.size ∧ i = .int .i64 k ∧ Ow wr w.heap.size 5 v (B8 ((S.take k).map (fun c => UInt8.ofNat (c.toNat / 32)))) ∧ Ow wr w.heap.size 5 g (B8 ((S.take k).map (fun c => UInt8.ofNat (c.toNat % 32)))) ∧ Hid (∀ r, rowOf v = some r → rowOf g ≠ some r) ∧ Below w.heap.size w wr) (fun _ _ i _ => s.size - (intOf i).toNat)
  case atStart => exact ⟨0, Nat.zero_le _, rfl, Ow.nil_ _ _ _ _, Ow.nil_ _ _ _ _, Lib.hid (by simp [rowOf]), Below.refl _ _⟩
  case round =>
    obtain ⟨k, hk, rfl, hov, hog, Hap, hb⟩ := hrel
    obtain ⟨V, hV⟩ : ∃ V, V = (S.take k).map (fun c => UInt8.ofNat (c.toNat / 32)) := ⟨_, rfl⟩
    obtain ⟨G, hG⟩ : ∃ G, G = (S.take k).map (fun c => UInt8.ofNat (c.toNat % 32)) := ⟨_, rfl⟩
    have hVl : V.length = k := by rw [hV]; have := HS.out; simp; omega
    have hGl : G.length = k := by rw [hG]; have := HS.out; simp; omega
    rw [← hV] at hov
    rw [← hG] at hog
    obtain ⟨Av, cv, rfl, hcv, hcv'⟩ := own_form hov
    obtain ⟨Ag, cg, rfl, hcg, hcg'⟩ := own_form hog
    rw [hVl] at hov hcv Hap ⊢
    rw [hGl] at hog hcg Hap ⊢
    have HV := Lib.hid hV
    have HG := Lib.hid hG
    have HVl := Lib.hid hVl
    have HGl := Lib.hid hGl
    have hz := hb.size
    have hS0 : Two w wr (.slice Av k cv) (.slice Ag k cg) V G := ⟨hov, hog, Hap.out, hb⟩
    by_cases hlt : k < s.size
    · obtain ⟨y, hy⟩ : ∃ y, y = s[k] := ⟨_, rfl⟩
      have hyS : S[k]? = some y := by rw [HSS.out, hy]; simp [hlt]; rfl
      obtain ⟨d1, hd1⟩ : ∃ d1, d1 = y.toNat / 32 := ⟨_, rfl⟩
      obtain ⟨d2, hd2⟩ : ∃ d2, d2 = y.toNat % 32 := ⟨_, rfl⟩
      have hy8 := y.toNat_lt
      have e1 : (y.toNat : Int) / 32 = (d1 : Int) := by omega
      have e2 : bits .and .u8 (y.toNat : Int) 31 = (d2 : Int) := by rw [hd2]; exact and31u8 y
      have hd8 : d1 < 8 := by omega
      have hd32 : d2 < 32 := by omega
      have hs1 : ∀ h, s[k]'h = y := fun h => hy.symm
      have hnV : V ++ [UInt8.ofNat d1] = (S.take (k + 1)).map (fun c => UInt8.ofNat (c.toNat / 32)) := by rw [hV, List.take_add_one, hyS, List.map_append, hd1]; rfl
      have hnG : G ++ [UInt8.ofNat d2] = (S.take (k + 1)).map (fun c => UInt8.ofNat (c.toNat % 32)) := by rw [hG, List.take_add_one, hyS, List.map_append, hd2]; rfl
      have HnV := Lib.hid hnV
      have HnG := Lib.hid hnG
      have hmx : Tryz.prog.follows .mixedOrders = true := by kernel_rfl
      clear hnV hnG hd1 hd2 hyS hy hV hG hVl hGl
      go_wp2_with fail
      refine wp_region_treeT _ _ hmx (by kernel_rfl) (by intro c a d v w h; cases d <;> exact h) (fun hQ => snd_preT' (plainLaws _ hQ) (by kernel_rfl) 6 [(0, 0), (1, 0), (2, 0), (3, 0), (4, 0), (7, 0), (8, 0), (9, 0), (10, 0), (11, 0)] _ (by kernel_rfl) (snd_forkT (plainLaws _ hQ) 5 12 5 _ (by kernel_rfl) (snd_preT' (plainLaws _ hQ) (by kernel_rfl) 5 [] _ (by kernel_rfl) (snd_forkT (plainLaws _ hQ) 6 12 4 _ (by kernel_rfl) (snd_preT' (plainLaws _ hQ) (by kernel_rfl) 0 [(12, 2), (13, 2), (14, 0), (15, 0)] _ (by kernel_rfl) (snd_doneT _ (by kernel_rfl))) (snd_preT' (plainLaws _ hQ) (by kernel_rfl) 0 [(6, 2), (13, 2), (14, 0), (15, 0)] _ (by kernel_rfl) (snd_doneT _ (by kernel_rfl))))) (snd_preT' (plainLaws _ hQ) (by kernel_rfl) 0 [(5, 2), (6, 2), (13, 2), (14, 0), (15, 0)] _ (by kernel_rfl) (snd_doneT _ (by kernel_rfl))))) ?_
      repeat ((first | (refine wpPlan_pure rfl (fun K hK => ?_)) | (refine wpPlan_quiet rfl (fun K hK => ?_))); go_simp; (first | (refine hK _ ?_) | (simp only [IntWalk.iteOmega]; go_simp; refine hK _ ?_) | (go_bits; go_simp; refine hK _ ?_)); clear hK K; (try go_bits))
      refine forkT_mk rfl rfl rfl rfl (fun K hK => ?_) (fun K hK => ?_)
      · go_wp2_with fail
        obtain ⟨X, hX⟩ : ∃ X, X = (wr.alloc (.cells #[.int .u8 (d1 : Int)] 5)).drew := ⟨_, rfl⟩
        rw [← hX]
        have hSX : Two w X (.slice Av k cv) (.slice Ag k cg) V G := by rw [hX]; exact (hS0.alloc _).drew
        have hRX : Row1 X wr.heap.size d1 := by rw [hX]; exact Row1.new wr d1
        have hn0 := Row1.ne hS0 (Nat.le_refl wr.heap.size)
        clear hX hov hog hb Hap
        refine forkT_mk rfl rfl rfl rfl (fun K hK => ?_) (fun K hK => ?_)
        ·
          refine wp_append_Ow (m := 1) (c := 1) (base := w.heap.size) (xs := B8 V) (v := .slice Av k cv) (A := some ⟨wr.heap.size, 0, none⟩) (B := wr.heap.size + 1) (news := [.int .u8 (d1 : Int)]) elB (.tmp 11) (.tmp 16) rfl rfl (hSX).1 rfl (hRX).sl rfl (by simp; rfl) (by rw [B8_length, HVl.out]; simp [maxLen]; omega) (by rw [B8_length, HVl.out]; omega) (hSX).2.2.2.size ?_
          intro v6 w6 ho6 hg6 hr6
          rw [b8_snoc V _ (UInt8.ofNat d1) (by simp; omega)] at ho6
          have hS6 := (hSX).grown hg6 ho6 hr6
          refine (show K (Act.put _ (some 17) v6) w6 from ?_)
          conv in (Act.put _ (some 17) v6) => simp [Act.put]
          refine hK _ _ ?_
          clear hK K
          refine wpPlan_loud rfl rfl (fun K hK => ?_)
          go_wp2_with fail
          refine ⟨.inl (by decide), ?_⟩
          refine wpPlan_loud rfl rfl (fun K hK => ?_)
          have hS8 : Two w (w6.alloc (.cells #[.int .u8 (d2 : Int)] 5)) _ _ _ _ := hS6.alloc _
          have hR8 := Row1.new w6 d2
          refine wp_append_Ow (m := 1) (c := 1) (base := w.heap.size) (xs := B8 G) (v := .slice Ag k cg) (A := some ⟨w6.heap.size, 0, none⟩) (B := w6.heap.size + 1) (news := [.int .u8 (d2 : Int)]) elB (.tmp 18) (.tmp 23) rfl rfl (hS8).2.1 rfl (hR8).sl rfl (by simp; rfl) (by rw [B8_length, HGl.out]; simp [maxLen]; omega) (by rw [B8_length, HGl.out]; omega) (hS8).2.2.2.size ?_
          intro v7 w7 ho7 hg7 hr7
          rw [b8_snoc G _ (UInt8.ofNat d2) (by simp; omega)] at ho7
          have hS7 := ((hS8).symm.grown hg7 ho7 hr7).symm
          refine (show K (Act.put _ (some 24) v7) w7 from ?_)
          conv in (Act.put _ (some 24) v7) => simp [Act.put]
          refine hK _ _ ⟨.inl (by decide), ?_⟩
          clear hK K
          repeat ((first | (refine wpPlan_pure rfl (fun K hK => ?_)) | (refine wpPlan_quiet rfl (fun K hK => ?_))); go_simp; (first | (refine hK _ ?_) | (simp only [IntWalk.iteOmega]; go_simp; refine hK _ ?_) | (go_bits; go_simp; refine hK _ ?_)); clear hK K; (try go_bits))
          refine wpPlan_nil ?_
          rw [HnV.out, HnG.out] at hS7
          have HS7 := Lib.hid hS7
          clear hS7 ho7 hg7 hr7 ho6 hg6 hr6 hS6
          go_wp2_with fail
          exact ⟨⟨k + 1, by omega, rfl, HS7.out.1, HS7.out.2.1, Lib.hid HS7.out.2.2.1, HS7.out.2.2.2⟩, by simp [intOf]; omega⟩
        · go_wp2_with fail
          obtain ⟨Y, hY⟩ : ∃ Y, Y = X.alloc (.cells #[.int .u8 (d2 : Int)] 5) := ⟨_, rfl⟩
          rw [← hY]
          have hSY : Two w Y (.slice Av k cv) (.slice Ag k cg) V G := by rw [hY]; exact hSX.alloc _
          have hR1 : Row1 Y wr.heap.size d1 := by rw [hY]; exact hRX.alloc _
          have hR2 : Row1 Y X.heap.size d2 := by rw [hY]; exact Row1.new X d2
          have hn1 := Row1.ne hSX (Nat.le_refl X.heap.size)
          clear hY
          refine wpPlan_loud rfl rfl (fun K hK => ?_)
          refine wp_append_Ow (m := 1) (c := 1) (base := w.heap.size) (xs := B8 V) (v := .slice Av k cv) (A := some ⟨wr.heap.size, 0, none⟩) (B := wr.heap.size + 1) (news := [.int .u8 (d1 : Int)]) elB (.tmp 11) (.tmp 16) rfl rfl (hSY).1 rfl (hR1).sl rfl (by simp; rfl) (by rw [B8_length, HVl.out]; simp [maxLen]; omega) (by rw [B8_length, HVl.out]; omega) (hSY).2.2.2.size ?_
          intro v6 w6 ho6 hg6 hr6
          rw [b8_snoc V _ (UInt8.ofNat d1) (by simp; omega)] at ho6
          have hS6 := (hSY).grown hg6 ho6 hr6
          refine (show K (Act.put _ (some 17) v6) w6 from ?_)
          conv in (Act.put _ (some 17) v6) => simp [Act.put]
          refine hK _ _ ⟨.inl (by decide), ?_⟩
          clear hK K
          have hR8 := hR2.grown hg6 hn1.1
          refine wpPlan_loud rfl rfl (fun K hK => ?_)
          refine wp_append_Ow (m := 1) (c := 1) (base := w.heap.size) (xs := B8 G) (v := .slice Ag k cg) (A := some ⟨X.heap.size, 0, none⟩) (B := X.heap.size + 1) (news := [.int .u8 (d2 : Int)]) elB (.tmp 18) (.tmp 23) rfl rfl (hS6).2.1 rfl (hR8).sl rfl (by simp; rfl) (by rw [B8_length, HGl.out]; simp [maxLen]; omega) (by rw [B8_length, HGl.out]; omega) (hS6).2.2.2.size ?_
          intro v7 w7 ho7 hg7 hr7
          rw [b8_snoc G _ (UInt8.ofNat d2) (by simp; omega)] at ho7
          have hS7 := ((hS6).symm.grown hg7 ho7 hr7).symm
          refine (show K (Act.put _ (some 24) v7) w7 from ?_)
          conv in (Act.put _ (some 24) v7) => simp [Act.put]
          refine hK _ _ ⟨.inl (by decide), ?_⟩
          clear hK K
          repeat ((first | (refine wpPlan_pure rfl (fun K hK => ?_)) | (refine wpPlan_quiet rfl (fun K hK => ?_))); go_simp; (first | (refine hK _ ?_) | (simp only [IntWalk.iteOmega]; go_simp; refine hK _ ?_) | (go_bits; go_simp; refine hK _ ?_)); clear hK K; (try go_bits))
          refine wpPlan_nil ?_
          rw [HnV.out, HnG.out] at hS7
          have HS7 := Lib.hid hS7
          clear hS7 ho7 hg7 hr7 ho6 hg6 hr6 hS6
          go_wp2_with fail
          exact ⟨⟨k + 1, by omega, rfl, HS7.out.1, HS7.out.2.1, Lib.hid HS7.out.2.2.1, HS7.out.2.2.2⟩, by simp [intOf]; omega⟩
      · go_wp2_with fail
        obtain ⟨X, hX⟩ : ∃ X, X = (wr.alloc (.cells #[.int .u8 (d2 : Int)] 5)).drew := ⟨_, rfl⟩
        rw [← hX]
        have hSX : Two w X (.slice Av k cv) (.slice Ag k cg) V G := by rw [hX]; exact (hS0.alloc _).drew
        have hRX : Row1 X wr.heap.size d2 := by rw [hX]; exact Row1.new wr d2
        have hn0 := Row1.ne hS0 (Nat.le_refl wr.heap.size)
        clear hX hov hog hb Hap
        refine wpPlan_loud rfl rfl (fun K hK => ?_)
        go_wp2_with fail
        refine ⟨.inl (by decide), ?_⟩
        obtain ⟨Y, hY⟩ : ∃ Y, Y = X.alloc (.cells #[.int .u8 (d1 : Int)] 5) := ⟨_, rfl⟩
        rw [← hY]
        have hSY : Two w Y (.slice Av k cv) (.slice Ag k cg) V G := by rw [hY]; exact hSX.alloc _
        have hR2 : Row1 Y wr.heap.size d2 := by rw [hY]; exact hRX.alloc _
        have hR1 : Row1 Y X.heap.size d1 := by rw [hY]; exact Row1.new X d1
        clear hY
        refine wpPlan_loud rfl rfl (fun K hK => ?_)
        refine wp_append_Ow (m := 1) (c := 1) (base := w.heap.size) (xs := B8 V) (v := .slice Av k cv) (A := some ⟨X.heap.size, 0, none⟩) (B := X.heap.size + 1) (news := [.int .u8 (d1 : Int)]) elB (.tmp 11) (.tmp 16) rfl rfl (hSY).1 rfl (hR1).sl rfl (by simp; rfl) (by rw [B8_length, HVl.out]; simp [maxLen]; omega) (by rw [B8_length, HVl.out]; omega) (hSY).2.2.2.size ?_
        intro v6 w6 ho6 hg6 hr6
        rw [b8_snoc V _ (UInt8.ofNat d1) (by simp; omega)] at ho6
        have hS6 := (hSY).grown hg6 ho6 hr6
        refine (show K (Act.put _ (some 17) v6) w6 from ?_)
        conv in (Act.put _ (some 17) v6) => simp [Act.put]
        refine hK _ _ ⟨.inl (by decide), ?_⟩
        clear hK K
        have hR8 := hR2.grown hg6 hn0.1
        refine wpPlan_loud rfl rfl (fun K hK => ?_)
        refine wp_append_Ow (m := 1) (c := 1) (base := w.heap.size) (xs := B8 G) (v := .slice Ag k cg) (A := some ⟨wr.heap.size, 0, none⟩) (B := wr.heap.size + 1) (news := [.int .u8 (d2 : Int)]) elB (.tmp 18) (.tmp 23) rfl rfl (hS6).2.1 rfl (hR8).sl rfl (by simp; rfl) (by rw [B8_length, HGl.out]; simp [maxLen]; omega) (by rw [B8_length, HGl.out]; omega) (hS6).2.2.2.size ?_
        intro v7 w7 ho7 hg7 hr7
        rw [b8_snoc G _ (UInt8.ofNat d2) (by simp; omega)] at ho7
        have hS7 := ((hS6).symm.grown hg7 ho7 hr7).symm
        refine (show K (Act.put _ (some 24) v7) w7 from ?_)
        conv in (Act.put _ (some 24) v7) => simp [Act.put]
        refine hK _ _ ⟨.inl (by decide), ?_⟩
        clear hK K
        repeat ((first | (refine wpPlan_pure rfl (fun K hK => ?_)) | (refine wpPlan_quiet rfl (fun K hK => ?_))); go_simp; (first | (refine hK _ ?_) | (simp only [IntWalk.iteOmega]; go_simp; refine hK _ ?_) | (go_bits; go_simp; refine hK _ ?_)); clear hK K; (try go_bits))
        refine wpPlan_nil ?_
        rw [HnV.out, HnG.out] at hS7
        have HS7 := Lib.hid hS7
        clear hS7 ho7 hg7 hr7 ho6 hg6 hr6 hS6
        go_wp2_with fail
        exact ⟨⟨k + 1, by omega, rfl, HS7.out.1, HS7.out.2.1, Lib.hid HS7.out.2.2.1, HS7.out.2.2.2⟩, by simp [intOf]; omega⟩
    · obtain rfl : k = s.size := by omega
      have hfin : V ++ [0] ++ G = spreadL S := by rw [hV, hG, List.take_of_length_le (by have := HS.out; omega)]; rfl
      have Hfin := Lib.hid hfin
      clear hfin hV hG hVl hGl
      go_wp2_with (first | (at_builtin; go_loud (refine wpList_append_Ow (m := 1) (c := 1) (base := w.heap.size) (xs := B8 V) (v := .slice Av s.size cv) (A := some ⟨wr.heap.size, 0, none⟩) (B := wr.heap.size + 1) (news := [.int .u8 0]) elB rfl (.tmp 26) (.tmp 27) rfl rfl (hS0.1.alloc _) rfl (Sl.one wr _ _) rfl (by simp; rfl) (by rw [B8_length, HVl.out]; simp [maxLen]; omega) (by rw [B8_length, HVl.out]; omega) (by simp; omega) ?_); intro v6 w6 ho6 hg6 hr6; rw [b8_snoc V (.int .u8 0) 0 rfl] at ho6; have hS6 := (hS0.alloc (.cells #[.int .u8 0] 5)).grown hg6 ho6 hr6; clear ho6 hg6 hr6) | (at_builtin; go_loud (refine wpList_append_Ow (m := s.size) (c := cg) (base := w.heap.size) (xs := B8 (V ++ [0])) (v := v6) (A := Ag) (B := w6.heap.size) (news := B8 G) elB rfl (.tmp 28) (.tmp 29) rfl rfl hS6.1 rfl hS6.2.1.sl (by rw [B8_length]; exact HGl.out) (B8_oneCell _) (by rw [B8_length, List.length_append, HVl.out]; simp [maxLen]; omega) (by rw [B8_length, List.length_append, HVl.out, List.length_singleton]; omega) hS6.2.2.2.size ?_); intro v7 w7 ho7 hg7 hr7))
      go_ret
      rw [← B8_append, Hfin.out] at ho7
      exact ⟨_, rfl, ho7, hS6.2.2.2.grown hg7 hS6.2.2.2.size (fun r hr => (hS6.1.row r hr).1)⟩
end Go.Proofs.YtkiigonikeeikaaGreatDoor

/-! A slice that may be appended to and lies in the row of a conversion ([]byte of a text): the row's mark stands behind its cells. -/
namespace Go.Proofs.YtkiigonikeeikaaGreatDoor
open Go.RowKit

def OwF (w : World) (base : Nat) (E : TypeId) (v : Value) (xs : List Value) : Prop :=
  ∃ A c, v = .slice A xs.length c ∧ xs.length ≤ c ∧ c ≤ maxLen ∧
    (0 < c → ∃ g cur fz, A = some ⟨g, 0, none⟩ ∧ base ≤ g ∧ w.heap[g]? = some (.cells cur E fz) ∧ c ≤ cur.size ∧ cur.toList.take xs.length = xs ∧ ∀ j, j < cur.size → j < fz.1 ∨ fz.2 ≤ j)

section
variable {w w' : World} {base E : Nat} {v : Value} {xs : List Value} {A : Option Addr} {n c : Nat}
theorem OwF.of (h : Ow w base E v xs) : OwF w base E v xs := by
  obtain ⟨A, c, e, h1, h2, h3⟩ := h
  refine ⟨A, c, e, h1, h2, fun hc => ?_⟩
  obtain ⟨g, cur, e1, e2, e3, e4, e5⟩ := h3 hc
  exact ⟨g, cur, (0, 0), e1, e2, e3, e4, e5, fun j _ => .inr (Nat.zero_le _)⟩
theorem OwF.row (h : OwF w base E v xs) : ∀ g, rowOf v = some g → base ≤ g ∧ g < w.heap.size := by
  obtain ⟨A, c, rfl, h1, h2, h3⟩ := h
  intro g hg
  by_cases hc : c = 0
  · subst hc; cases A <;> simp [rowOf] at hg
  · obtain ⟨g', cur, fz, rfl, e2, e3, _⟩ := h3 (by omega)
    simp [rowOf, hc] at hg
    subst hg
    refine ⟨e2, ?_⟩
    rcases Nat.lt_or_ge g' w.heap.size with h | h
    · exact h
    · rw [Array.getElem?_eq_none h] at e3; cases e3
theorem OwF.kept {row : Option Nat} (h : OwF w base E v xs) (hg : w.grownBy w' row) (hne : ∀ g, rowOf v = some g → row ≠ some g) : OwF w' base E v xs := by
  have hrow := h.row
  obtain ⟨A, c, rfl, h1, h2, h3⟩ := h
  refine ⟨A, c, rfl, h1, h2, fun hc => ?_⟩
  obtain ⟨g, cur, fz, rfl, e2, e3, e4, e5, e6⟩ := h3 hc
  have hr : rowOf (.slice (some ⟨g, 0, none⟩) xs.length c) = some g := by simp [rowOf, show ¬ c = 0 by omega]
  exact ⟨g, cur, fz, rfl, e2, (hg.block g (hrow g hr).2 (fun e => hne g hr e.symm)).trans e3, e4, e5, e6⟩
theorem OwF.below {B : Nat} (h : OwF w base E v xs) (hb : Below B w w') (hB : w.heap.size ≤ B) : OwF w' base E v xs :=
  h.kept (row := none) ⟨hb.os, hb.tape, hb.output, hb.size, fun k hk _ => hb.block k (by omega)⟩ (by simp)
theorem OwF.alloc (h : OwF w base E v xs) (o : Obj) : OwF (w.alloc o) base E v xs := h.kept (World.grownBy_alloc w o none) (by simp)
theorem OwF.drew (h : OwF w base E v xs) : OwF w.drew base E v xs := h
theorem OwF.sl (h : OwF w base E (.slice A n c) xs) : Sl w w.heap.size A xs := fun hn => by
  have hrow := h.row
  obtain ⟨A', c', e, h1, h2, h3⟩ := h
  injection e with e1 e2 e3; subst e1 e2 e3
  obtain ⟨g, cur, fz, rfl, e2, e3, e4, e5, e6⟩ := h3 (by omega)
  have hr : rowOf (.slice (some ⟨g, 0, none⟩) xs.length c) = some g := by simp [rowOf, show ¬ c = 0 by omega]
  refine ⟨g, 0, rfl, (hrow g hr).2, fun j hj => ?_⟩
  rw [Nat.zero_add, cell_of_row w g j cur E fz e3]
  have hjc : j < cur.size := by omega
  rw [Array.getElem?_eq_getElem hjc]
  congr 1
  have : xs[j]? = (cur.toList.take xs.length)[j]? := by rw [e5]
  rw [List.getElem?_take, if_pos hj, List.getElem?_eq_getElem hj] at this
  rw [show cur.toList[j]? = cur[j]? by simp, Array.getElem?_eq_getElem hjc] at this
  injection this with this; exact this.symm
theorem OwF.formB {v : Value} {T : List UInt8} (h : OwF w base E v (B8 T)) : ∃ A1 c1, v = .slice A1 T.length c1 ∧ T.length ≤ c1 ∧ c1 ≤ maxLen := by
  obtain ⟨A1, c1, e, h1, h2, _⟩ := h
  exact ⟨A1, c1, by simpa using e, by simpa using h1, h2⟩
end

section
variable {P : Program} {w : World} {base t E : Nat} {z : Value} {bytes : Nat} {v : Value} {xs : List Value} {B : Nat} {A : Option Addr} {c : Nat} {u : Value}
theorem El.append1F (hE : El P t E z bytes) (ty : TypeId) (hown : OwF w base E v xs) (hr : Sl w B A [u]) (h1 : u.oneCell' = true)
    (h63 : xs.length + 1 ≤ maxLen) (hbytes : (xs.length + 1) * bytes ≤ 140737488355328) (hbase : base ≤ w.heap.size) :
    ∃ v' w', (Builtin.append_ #[t, t] ty #[v, .slice A 1 c]).run P w = .ok v' w' ∧ OwF w' base E v' (xs ++ [u]) ∧ w.grownBy w' (rowOf v) ∧ (∀ g, rowOf v' = some g → rowOf v = some g ∨ w.heap.size ≤ g) := by
  have h0 := hown
  have hrowv := hown.row
  obtain ⟨Av, cap, rfl, hxc, hcm, hrow⟩ := hown
  by_cases hc0 : cap = 0
  · subst hc0
    have ho : Ow w base E (.slice Av xs.length 0) xs := ⟨Av, 0, rfl, hxc, hcm, fun h => absurd h (by omega)⟩
    obtain ⟨v', w', e1, e2, e3, e4⟩ := hE.append (c := c) ty ho hr rfl (by simpa using h1) h63 hbytes hbase
    refine ⟨v', w', e1, OwF.of e2, e3, fun g hg => ?_⟩
    rcases e4 with e4 | e4
    · exact .inl (e4 ▸ hg)
    · rw [e4] at hg; injection hg with hg; exact .inr (by omega)
  · obtain ⟨i0, hi, hz0, hz1, hz2⟩ := info_parts hE.info
    obtain ⟨g, cur, fz, rfl, hbg, hg, hcs, htake, hfz⟩ := hrow (by omega)
    obtain ⟨b, o, rfl, _, hcell⟩ := hr (by simp)
    have hrw : rowOf (.slice (some ⟨g, 0, none⟩) xs.length cap) = some g := by simp [rowOf, hc0]
    have hnews : ∀ j u', [u][j]? = some u' → w.cell? ((⟨b, o, none⟩ : Addr).add j) = some u' := by
      intro j u' hu
      obtain ⟨hj, e⟩ := List.getElem?_eq_some_iff.1 hu
      rw [add_lit', hcell j hj, e]
    have hcm1 := hcm
    unfold maxLen at hcm1
    by_cases hroom : xs.length + 1 ≤ cap
    · have hlt : xs.length < cur.size := by omega
      have hr := run_append_room_cells (P := P) w t ty E i0 hE.und hi g 0 xs.length cap ⟨b, o, none⟩ 1 c [u] (by simp [hz1]) hnews (by simpa using h1) hroom
        (by
          intro j hj
          have hj0 : j = 0 := by simpa using hj
          subst hj0
          rw [hz1, Nat.mul_one, Nat.zero_add, Nat.add_zero, cell_of_row w g xs.length cur E fz hg, Array.getElem?_eq_getElem hlt]; rfl)
        (by
          intro j hj
          have hj0 : j = 0 := by simpa using hj
          subst hj0
          rw [hz1, Nat.mul_one, Nat.zero_add, Nat.add_zero]
          obtain ⟨lo, hi'⟩ := fz
          simp only [World.frozen?, hg, Bool.and_eq_false_iff, decide_eq_false_iff_not]
          have := hfz xs.length hlt
          simp only at this
          omega)
      rw [hz1, Nat.mul_one, Nat.zero_add] at hr
      simp only [World.setCells] at hr
      refine ⟨_, _, hr, ⟨_, cap, by simp, by simpa using hroom, hcm, fun _ => ⟨g, _, fz, rfl, hbg, Lib.heap_setCell_same hg u, by simpa using hcs, ?_, by simpa using hfz⟩⟩, ?_, fun g' hg' => .inl ?_⟩
      · rw [List.length_append, List.length_singleton, List.take_succ_eq_append_getElem (by simp; omega)]
        simp
        rw [List.take_set_of_le (Nat.le_refl _), htake]
      · rw [hrw]
        exact ⟨rfl, rfl, rfl, by simp [World.setCell], fun j hj hne => Below.heap_setCell w ⟨g, xs.length, none⟩ u j (fun e => hne (by rw [e]))⟩
      · rw [hrw]
        simpa [rowOf, hc0] using hg'
    · have holds : ∀ j u', xs[j]? = some u' → w.cell? ((⟨g, 0, none⟩ : Addr).add j) = some u' := by
        intro j u' hu
        obtain ⟨hj, e⟩ := List.getElem?_eq_some_iff.1 hu
        rw [add_lit', Nat.zero_add, cell_of_row w g j cur E fz hg]
        rw [← htake, List.getElem?_take, if_pos hj] at hu
        simpa using hu
      obtain ⟨v', w', e1, e2, e3⟩ := run_append_arg_grows (P := P) w t ty E i0 z 1 bytes hE.und hi hz0 hz1 hz2 (by rw [hE.zc]; rfl) (by omega) ⟨g, 0, none⟩ xs.length cap xs (by simp) holds ⟨b, o, none⟩ 1 c [u] (by simp) hnews (by omega) h63 hbytes
      obtain ⟨_, e2⟩ := e2
      rcases e2 with ⟨_, e2⟩ | ⟨g', cap', cur', rfl, hbg', hg', hn', hm', hs', ht'⟩
      · omega
      refine ⟨_, w', e1, ⟨_, cap', by simp, by simpa using hn', hm', fun _ => ⟨g', cur', (0, 0), rfl, by omega, hg', by omega, by simpa using ht', fun j _ => .inr (Nat.zero_le _)⟩⟩, ?_, fun g2 hg2 => .inr ?_⟩
      · exact ⟨e3.os, e3.tape, e3.output, e3.size, fun j hj _ => e3.block j hj (by simp)⟩
      · have hc' : ¬ cap' = 0 := by omega
        simp [rowOf, hc'] at hg2
        omega
theorem wpList_append1_OwF {ops : Array Oper} {rest : List Oper} {o : Oper} {a : Act} {Q : Exit → Act → World → Prop} (hE : El P t E z bytes) (hgd : o.guard = none) (s x : Operand)
    (ho : o.op = .call { callee := .builtin .append, args := #[s, x], argTypes := #[t, t] }) (hs : a.eval s = v) (hown : OwF w base E v xs) (hx : a.eval x = .slice A 1 c) (hr : Sl w B A [u]) (h1 : u.oneCell' = true)
    (h63 : xs.length + 1 ≤ maxLen) (hbytes : (xs.length + 1) * bytes ≤ 140737488355328) (hbase : base ≤ w.heap.size)
    (h : ∀ v' w', OwF w' base E v' (xs ++ [u]) → w.grownBy w' (rowOf v) → (∀ g, rowOf v' = some g → rowOf v = some g ∨ w.heap.size ≤ g) → wpList P ops Q rest (a.put o.dst v') w') : wpList P ops Q (o :: rest) a w :=
  wpList_plain hgd fun _ hK => by
    obtain ⟨v', w', hrun, h2, h3, h4⟩ := hE.append1F (c := c) o.type hown hr h1 h63 hbytes hbase
    unfold Oper.wp execOp
    simp only [ho, resolve, invoke, builtin, Sem.run_bind, Sem.run_pure, Result.andThen_ok, List.map_toArray, List.map_cons, List.map_nil, hs, hx, hrun]
    exact hK _ _ (h v' w' h2 h3 h4)
end

/-- []byte(s), to be appended to. -/
theorem str_bytesF (s : ByteArray) (w : World) (hs : s.size ≤ maxLen) : ∃ wB cB, (convert 9 23 (.string s)).run Tryz.prog w = .ok (.slice (some ⟨w.heap.size, 0, none⟩) s.size cB) wB ∧ Below w.heap.size w wB ∧
    OwF wB w.heap.size 5 (.slice (some ⟨w.heap.size, 0, none⟩) s.size cB) (B8 s.data.toList) ∧ wB.heap.size = w.heap.size + 1 := by
  have hge := grownCap_ge w s.size 0 5
  refine ⟨_, _, Lib.run_convert_string_bytes (P := Tryz.prog) w 9 23 5 s (u := .string) (by kernel_rfl) (by kernel_rfl) (by kernel_rfl), ⟨rfl, rfl, rfl, ?_, fun k hk => Lib.bytesWorld_at_old w _ s k hk⟩, ?_, Lib.bytesWorld_size w _ s⟩
  · rw [Lib.bytesWorld_size]; omega
  · refine ⟨_, _, by simp; rfl, by simpa using hge, grownCap_le_maxLen w s.size 0 _ hs, fun _ => ⟨_, _, _, rfl, Nat.le_refl _, Lib.bytesWorld_at_new w _ s, ?_, ?_, fun j hj => .inl hj⟩⟩
    · simp [Lib.bytesCells]; omega
    · simp [Lib.bytesCells, B8, List.take_append, List.take_of_length_le]
end Go.Proofs.YtkiigonikeeikaaGreatDoor
