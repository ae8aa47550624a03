/- Descriptors, plain: what is read fits: sizes, and the letters of what is written. | desc.key.text. | The iterator that slices.Backward of a []string hands back: its contract, for whatever loop body keeps what the iterator reads. -/
import Derived.Test.YtcjioogololnoaaGreatDoorU26
import Derived.Test.YtcjioogololnoaaGreatDoorU28
import Derived.Test.YtcjioogololnoaaGreatDoorU29
import Derived.Test.YtcjioogololnoaaGreatDoorU9
import Derived.Test.YtcjioogololnoaaGreatDoorU2
import Derived.Test.YtcjioogololnoaaGreatDoorU19

/-! Descriptors, plain: what is read fits: sizes, and the letters of what is written. -/
namespace Go.Proofs.YtcjioogololnoaaGreatDoor
open Go

/-- A letter that a descriptor's body may hold. -/
def okD (c : UInt8) : Bool := decide (c ∈ inD) && decide (c ≠ 35)
def AllD (l : List UInt8) : Prop := ∀ c ∈ l, okD c = true
theorem AllD.nil : AllD [] := fun c h => by cases h
theorem AllD.cons {c : UInt8} {l : List UInt8} (h : okD c = true) (hl : AllD l) : AllD (c :: l) := fun x hx => by
  rcases List.mem_cons.1 hx with rfl | hx
  · exact h
  · exact hl x hx
theorem AllD.append {a b : List UInt8} (ha : AllD a) (hb : AllD b) : AllD (a ++ b) := fun x hx => by
  rcases List.mem_append.1 hx with hx | hx
  · exact ha x hx
  · exact hb x hx
theorem okD_spec {c : UInt8} (h : okD c = true) : c ∈ inD ∧ c ≠ 35 := by simpa [okD] using h
theorem okD_digit {c : UInt8} (h : 48 ≤ c.toNat ∧ c.toNat ≤ 57) : okD c = true := by
  have : ∀ n : Fin 256, 48 ≤ n.val → n.val ≤ 57 → okD (UInt8.ofNat n.val) = true := by decide +kernel
  simpa using this ⟨c.toNat, c.toNat_lt⟩ h.1 h.2
theorem dec_digit (u : Nat) : ∀ c ∈ Lib.decDigits u, 48 ≤ c.toNat ∧ c.toNat ≤ 57 := by
  induction u using Nat.strongRecOn with
  | _ u ih =>
    intro c hc
    rw [Lib.decDigits] at hc
    split at hc
    · rw [List.mem_singleton] at hc
      subst hc
      rw [UInt8.toNat_ofNat']; omega
    · rw [List.mem_append, List.mem_singleton] at hc
      rcases hc with hc | rfl
      · exact ih _ (by omega) c hc
      · rw [UInt8.toNat_ofNat']; omega
theorem dec_all (u : Nat) : AllD (Lib.decDigits u) := fun c hc => okD_digit (dec_digit u c hc)
theorem itoa_all (n : Nat) : AllD (Lib.itoa n) := by
  rw [Lib.itoa, if_neg (by omega)]
  exact dec_all _
theorem itoa_len (n : Nat) (h : n ≤ 99) : (Lib.itoa n).length ≤ 2 := by
  rw [Lib.itoa, if_neg (by omega), Lib.decDigits_length]
  exact nDig_le 1 _ (by rw [Int.toNat_natCast]; omega)
theorem hexd_all : ∀ n : Fin 256, (okD (hexd (n.val / 16)) && okD (hexd (n.val % 16))) = true := by decide +kernel
theorem hexL_all : ∀ b : List UInt8, AllD (hexL b)
  | [] => AllD.nil
  | c :: b => by
    have h := hexd_all ⟨c.toNat, c.toNat_lt⟩
    rw [Bool.and_eq_true] at h
    exact AllD.cons h.1 (AllD.cons h.2 (hexL_all b))
theorem pathT_all : ∀ ns : List Nat, AllD (pathT ns)
  | [] => AllD.nil
  | n :: ns => by
    rw [pathT]
    refine AllD.cons (by decide) (AllD.append (dec_all _) (AllD.append ?_ (pathT_all ns)))
    split
    · exact AllD.cons (by decide) AllD.nil
    · exact AllD.nil
theorem b58L_fit (b : List UInt8) : 2 * (b58L b).length ≤ 3 * b.length + 3 ∧ ∀ c ∈ b58L b, c ∈ letters58 := by
  obtain ⟨r, h1, h2⟩ := lz_split b
  obtain ⟨z, hz⟩ : ∃ z, z = lz b := ⟨_, rfl⟩
  rw [← hz] at h1
  obtain ⟨V, hV⟩ : ∃ V, V = horner 256 r := ⟨_, rfl⟩
  have hVb : horner 256 b = V := by rw [h1, horner_front, hV]
  have hbl : z + r.length = b.length := by rw [h1]; simp
  have hD : baseL 256 58 b = pushes 58 V V := by rw [baseL_pushes 256 58 (by omega) (by omega) (by omega), hVb]
  obtain ⟨D, hDD⟩ : ∃ D, D = pushes 58 V V := ⟨_, rfl⟩
  have hdig : ∀ d ∈ D, d.toNat < 58 := by rw [hDD]; exact pushes_digits 58 (by omega) (by omega) V
  have hlen : D.length ≤ 3 * ((r.length + 1) / 2) := by
    rw [hDD]
    exact pushes_lenT 58 (by omega) _ _ (Nat.lt_of_lt_of_le (by rw [hV]; exact horner_lt 256 (by omega) r (byte_lt r)) (pow_256_58 _))
  have hs : b58L b = List.replicate z 49 ++ D.reverse.map let58 := by rw [b58L, ← hz, hD, hDD]
  have hsl : (b58L b).length = z + D.length := by rw [hs]; simp
  refine ⟨by omega, ?_⟩
  intro c hc
  rw [hs, List.mem_append] at hc
  rcases hc with hc | hc
  · rw [(List.mem_replicate.1 hc).2]; decide
  · obtain ⟨d, hd, rfl⟩ := List.mem_map.1 hc
    exact let_mem d (hdig d (List.mem_reverse.1 hd))
theorem letters58_ok : ∀ c ∈ letters58, okD c = true := by decide +kernel
theorem textH_fit {k : HKey} (h : k.Ok) : (textH k).length ≤ 124 ∧ AllD (textH k) := by
  have hf := b58L_fit (checked (bytesH k))
  rw [checked_length, bytesH_length h] at hf
  exact ⟨by rw [textH]; omega, fun c hc => letters58_ok c (hf.2 c hc)⟩
theorem joinTail_all (c : UInt8) (hc : okD c = true) : ∀ l : List (List UInt8), (∀ x ∈ l, AllD x) → AllD (Lib.joinTail [c] l)
  | [], _ => AllD.nil
  | x :: l, h => by
    rw [Lib.joinTail, List.map_cons, List.flatten_cons]
    exact AllD.append (AllD.cons hc (h x (by simp))) (joinTail_all c hc l (fun y hy => h y (by simp [hy])))
theorem join_all (c : UInt8) (hc : okD c = true) (l : List (List UInt8)) (h : ∀ x ∈ l, AllD x) : AllD (Lib.join l [c]) := by
  cases l with
  | nil => exact AllD.nil
  | cons x l =>
    rw [Lib.join_cons]
    exact AllD.append (h x (by simp)) (joinTail_all c hc l (fun y hy => h y (by simp [hy])))
theorem lens_le (b : Nat) : ∀ l : List (List UInt8), (∀ x ∈ l, x.length ≤ b) → Lib.lens l ≤ b * l.length
  | [], _ => by simp [Lib.lens]
  | x :: l, h => by
    have h1 := lens_le b l (fun y hy => h y (by simp [hy]))
    have h2 := h x (by simp)
    have e : Lib.lens (x :: l) = x.length + Lib.lens l := by simp [Lib.lens]
    rw [e, List.length_cons, Nat.mul_succ]
    omega
theorem join_le (c : UInt8) (b : Nat) (l : List (List UInt8)) (h : ∀ x ∈ l, x.length ≤ b) : (Lib.join l [c]).length ≤ (b + 1) * l.length := by
  by_cases h0 : l = []
  · subst h0; simp [Lib.join_nil]
  · have h1 := join_len c l h0
    have h2 := lens_le b l h
    rw [Nat.add_mul]
    omega
/-- What a key is like that was read. -/
structure DKey.Fit (k : DKey) : Prop where
  top : k.top.Ok
  plain : k.plain.length ≤ 33
  steps : k.steps.length ≤ 20
  small : ∀ n ∈ k.steps, n < 4294967296
structure DDesc.Fit (d : DDesc) : Prop where
  wraps : d.wraps.length ≤ 3
  words : ∀ x ∈ d.wraps, x ∈ [wSh, wWsh, wPkh, wWpkh]
  m : d.m ≤ 16
  num : d.keys.length ≤ 16
  keys : ∀ k ∈ d.keys, k.Fit
theorem keyT_fit {k : DKey} (h : k.Fit) : (keyT k).length ≤ 400 ∧ AllD (keyT k) := by
  have h1 := textH_fit h.top
  have h2 := pathT_len k.steps h.small
  have h3 := h.steps
  have h4 := h.plain
  unfold keyT
  split
  · rw [hexL_length]
    exact ⟨by omega, hexL_all _⟩
  · refine ⟨?_, AllD.append h1.2 (AllD.append (pathT_all _) ?_)⟩
    · split
      · simp; omega
      · split
        · simp; omega
        · simp; omega
    · split
      · exact AllD.cons (by decide) (AllD.cons (by decide) (AllD.cons (by decide) AllD.nil))
      · split
        · exact AllD.cons (by decide) (AllD.cons (by decide) AllD.nil)
        · exact AllD.nil
theorem keysT_fit {d : DDesc} (h : d.Fit) : (Lib.join (d.keys.map keyT) [44]).length ≤ 6416 ∧ AllD (Lib.join (d.keys.map keyT) [44]) := by
  have h1 := join_le 44 400 (d.keys.map keyT) (fun x hx => by
    obtain ⟨k, hk, rfl⟩ := List.mem_map.1 hx
    exact (keyT_fit (h.keys k hk)).1)
  rw [List.length_map] at h1
  have h2 := h.num
  refine ⟨by omega, join_all 44 (by decide) _ (fun x hx => ?_)⟩
  obtain ⟨k, hk, rfl⟩ := List.mem_map.1 hx
  exact (keyT_fit (h.keys k hk)).2
theorem manyW_fit (s : Bool) : (manyW s).length ≤ 11 ∧ AllD (manyW s) := by
  cases s
  · exact ⟨by decide, show ∀ c ∈ wMulti, okD c = true by decide⟩
  · exact ⟨by decide, show ∀ c ∈ wSorted, okD c = true by decide⟩
theorem innerT_fit {d : DDesc} (h : d.Fit) : (innerT d).length ≤ 6500 ∧ AllD (innerT d) := by
  have h1 := keysT_fit h
  have h2 := manyW_fit d.sorted
  have h3 := itoa_len d.m (by have := h.m; omega)
  unfold innerT
  simp only []
  split
  · refine ⟨by simp only [List.length_append, List.length_cons, List.length_nil]; omega, AllD.append h2.2 (AllD.cons (by decide) (AllD.append (itoa_all _) (AllD.cons (by decide) (AllD.append h1.2 (AllD.cons (by decide) AllD.nil)))))⟩
  · exact ⟨by omega, h1.2⟩
theorem word_fit : ∀ x ∈ [wSh, wWsh, wPkh, wWpkh], x.length ≤ 4 ∧ ∀ c ∈ x, okD c = true := by decide +kernel
theorem wrapT_fit : ∀ (ws : List (List UInt8)) (s : List UInt8), (∀ x ∈ ws, x ∈ [wSh, wWsh, wPkh, wWpkh]) → AllD s → (wrapT ws s).length ≤ s.length + 6 * ws.length ∧ AllD (wrapT ws s)
  | [], s, _, h => ⟨by simp [wrapT], h⟩
  | w :: ws, s, hw, h => by
    have ih := wrapT_fit ws s (fun x hx => hw x (by simp [hx])) h
    have h1 := word_fit w (hw w (by simp))
    rw [wrapT]
    refine ⟨by simp only [List.length_append, List.length_cons, List.length_nil]; omega, AllD.append h1.2 (AllD.cons (by decide) (AllD.append ih.2 (AllD.cons (by decide) AllD.nil)))⟩
theorem bodyT_fit {d : DDesc} (h : d.Fit) : (bodyT d).length ≤ 6600 ∧ AllD (bodyT d) := by
  have h1 := innerT_fit h
  have h2 := wrapT_fit d.wraps (innerT d) h.words h1.2
  have h3 := h.wraps
  exact ⟨by rw [bodyT]; omega, h2.2⟩
/-- What is read fits. -/
theorem stepsOf_fit : ∀ (ps : List (List UInt8)) (ns : List Nat), stepsOf ps = some ns → ns.length = ps.length ∧ ∀ n ∈ ns, n < 4294967296
  | [], ns, h => by
    obtain rfl : [] = ns := by simpa [stepsOf] using h
    exact ⟨rfl, fun n hn => by cases hn⟩
  | p :: ps, ns, h => by
    rw [stepsOf] at h
    split at h
    · cases hr : stepsOf ps with
      | none => rw [hr] at h; simp at h
      | some v =>
        rw [hr] at h
        obtain rfl : (stepS p).2 :: v = ns := by simpa using h
        have ih := stepsOf_fit ps v hr
        refine ⟨by simp [ih.1], fun n hn => ?_⟩
        rcases List.mem_cons.1 hn with rfl | hn
        · exact stepS_lt p
        · exact ih.2 n hn
    · simp at h
theorem tailOf_fit (priv : Bool) (ps : List (List UInt8)) (ns : List Nat) (r h : Bool) (ht : tailOf priv ps = some (ns, r, h)) : ns.length ≤ 20 ∧ ∀ n ∈ ns, n < 4294967296 := by
  unfold tailOf at ht
  split at ht
  · cases ht
  · next r' h' hl =>
    simp only [] at ht
    obtain ⟨qs, hqs⟩ : ∃ qs, qs = (if r' = true then ps.dropLast else ps) := ⟨_, rfl⟩
    rw [← hqs] at ht
    split at ht
    · cases ht
    · next h20 =>
      cases hst : stepsOf qs with
      | none => rw [hst] at ht; cases ht
      | some v =>
        rw [hst] at ht
        simp only [] at ht
        split at ht
        · cases ht
        · injection ht with ht
          injection ht with h1 h2
          subst h1
          have := stepsOf_fit qs v hst
          exact ⟨by omega, this.2⟩
theorem treeK_fit {s : List UInt8} {k : DKey} (h : treeK s = some k) : k.Fit := by
  unfold treeK at h
  simp only [] at h
  split at h
  · split at h
    · cases ht : tailOf (parseH (Lib.cut s [47]).1).2.priv (pieces 47 (Lib.cut s [47]).2.1) with
      | none => rw [ht] at h; cases h
      | some t =>
        rw [ht] at h
        simp only [Option.map_some, Option.some.injEq] at h
        subst h
        obtain ⟨ns, r, hd⟩ := t
        have hf := tailOf_fit _ _ _ _ _ ht
        exact ⟨parseH_ok _, by simp, hf.1, hf.2⟩
    · simp only [Option.some.injEq] at h
      subst h
      exact ⟨parseH_ok _, by simp, by simp, fun n hn => by cases hn⟩
  · cases h
theorem readK_fit {s : List UInt8} {k : DKey} (h : readK s = some k) : k.Fit := by
  unfold readK at h
  split at h
  · next h66 =>
    split at h
    · next b hb =>
      split at h
      · simp only [Option.some.injEq] at h
        subst h
        have := unhex_len _ _ hb
        exact ⟨hkZero_ok, by show b.length ≤ 33; omega, by simp, fun n hn => by cases hn⟩
      · cases h
    · exact treeK_fit h
  · exact treeK_fit h
theorem keysOf_fit : ∀ (l : List (List UInt8)) (ks : List DKey), keysOf l = some ks → ks.length = l.length ∧ ∀ k ∈ ks, k.Fit
  | [], ks, h => by
    obtain rfl : [] = ks := by simpa [keysOf] using h
    exact ⟨rfl, fun n hn => by cases hn⟩
  | p :: ps, ks, h => by
    rw [keysOf] at h
    cases hk : readK p with
    | none => rw [hk] at h; cases h
    | some k =>
      rw [hk] at h
      simp only [] at h
      cases hr : keysOf ps with
      | none => rw [hr] at h; cases h
      | some v =>
        rw [hr] at h
        obtain rfl : k :: v = ks := by simpa using h
        have ih := keysOf_fit ps v hr
        refine ⟨by simp [ih.1], fun n hn => ?_⟩
        rcases List.mem_cons.1 hn with rfl | hn
        · exact readK_fit hk
        · exact ih.2 n hn
theorem manyD_fit {ws : List (List UInt8)} {s : Bool} {t : List UInt8} {d : DDesc} (hw : ws.length ≤ 2) (hx : ∀ x ∈ ws, x ∈ [wSh, wWsh, wPkh, wWpkh]) (h : manyD ws s t = some d) : d.Fit := by
  unfold manyD at h
  split at h
  · cases h
  · next p ps _ =>
    split at h
    · next h16 =>
      split at h
      · cases h
      · next n _ =>
        split at h
        · next hn =>
          cases hk : keysOf ps with
          | none => rw [hk] at h; cases h
          | some ks =>
            rw [hk] at h
            simp only [Option.map_some, Option.some.injEq] at h
            subst h
            have hf := keysOf_fit _ _ hk
            exact ⟨by show ws.length ≤ 3; omega, hx, by show n ≤ 16; omega, by show ks.length ≤ 16; omega, hf.2⟩
        · cases h
    · cases h
theorem oneD_fit {ws : List (List UInt8)} {wd t : List UInt8} {d : DDesc} (hw : ws.length ≤ 2) (hx : ∀ x ∈ ws, x ∈ [wSh, wWsh, wPkh, wWpkh]) (hwd : wd ∈ [wSh, wWsh, wPkh, wWpkh]) (h : (readK t).map (fun k => (⟨ws ++ [wd], 0, false, [k]⟩ : DDesc)) = some d) : d.Fit := by
  cases hk : readK t with
  | none => rw [hk] at h; cases h
  | some k =>
    rw [hk] at h
    simp only [Option.map_some, Option.some.injEq] at h
    subst h
    refine ⟨by simp; omega, fun x hm => ?_, by simp, by simp, fun k' hk' => ?_⟩
    · rcases List.mem_append.1 hm with hm | hm
      · exact hx x hm
      · rw [List.mem_singleton] at hm; subst hm; exact hwd
    · rw [List.mem_singleton] at hk'; subst hk'; exact readK_fit hk
theorem innerD_fit {ws : List (List UInt8)} {W : Bool} {t : List UInt8} {d : DDesc} (hw : ws.length ≤ 2) (hx : ∀ x ∈ ws, x ∈ [wSh, wWsh, wPkh, wWpkh]) (h : innerD ws W t = some d) : d.Fit := by
  unfold innerD at h
  split at h
  · split at h
    · exact oneD_fit hw hx (by simp) h
    · cases h
  · split at h
    · split at h
      · exact oneD_fit hw hx (by simp) h
      · cases h
    · split at h
      · exact manyD_fit hw hx h
      · split at h
        · exact manyD_fit hw hx h
        · cases h
theorem readD_fit {s : List UInt8} {d : DDesc} (h : readD s = some d) : d.Fit := by
  unfold readD at h
  split at h
  · split at h
    · exact innerD_fit (by simp) (by simp) h
    · exact innerD_fit (by simp) (by simp) h
  · split at h
    · exact innerD_fit (by simp) (by simp) h
    · exact innerD_fit (by simp) (by simp) h
theorem parseD_fit {s : List UInt8} {n : Nat} {d : DDesc} (h : parseD s = (n, some d)) : d.Fit := by
  unfold parseD at h
  simp only [] at h
  split at h
  · cases h
  · split at h
    · split at h
      · cases h
      · split at h
        · cases h
        · next d' hd =>
          injection h with h1 h2
          injection h2 with h2
          subst h2
          exact readD_fit hd
    · cases h
end Go.Proofs.YtcjioogololnoaaGreatDoor

/-! desc.key.text. -/
namespace Go.Proofs.YtcjioogololnoaaGreatDoor
open Go Go.RowKit Go.Shelf

theorem cat_mk (a b : List UInt8) : (⟨a.toArray⟩ : ByteArray) ++ ⟨b.toArray⟩ = ⟨(a ++ b).toArray⟩ := by
  apply ByteArray.ext
  rw [ByteArray.data_append]
  simp
theorem size_mk (a : List UInt8) : (⟨a.toArray⟩ : ByteArray).size = a.length := by show a.toArray.size = _; simp
theorem trim_m (l : List UInt8) (w : World) :
    Calls Tryz.prog 49 #[.string ⟨(109 :: l).toArray⟩, .string ⟨#[109]⟩] w fun e w' => e = .returned (.string ⟨l.toArray⟩) ∧ w' = w := by
  refine (Tryz.strings_TrimPrefix ⟨(109 :: l).toArray⟩ ⟨#[109]⟩ w).mono ?_
  rintro e w' ⟨rfl, rfl⟩
  refine ⟨?_, rfl⟩
  show Ending.returned (.string ⟨(Lib.trimPrefix (109 :: l) [109]).toArray⟩) = _
  have : Lib.trimPrefix (109 :: l) [109] = l := by simp [Lib.trimPrefix, Lib.hasPrefix]
  rw [this]

set_option maxRecDepth 100000 in
set_option maxHeartbeats 4000000 in
theorem keytext_any (k : DKey) (hk : k.Fit) (pv sv : Value) (lo : Nat) (w : World) (hKV : KV w lo k pv sv) (hE : Env w) :
    Calls Tryz.prog 21 #[.agg (dkC k pv sv).toArray] w fun e W' => e = .returned (.string ⟨(keyT k).toArray⟩) ∧ Below w.heap.size w W' := by
  have hmx : Tryz.prog.follows .mixedOrders = true := by kernel_rfl
  obtain ⟨cs, hcs⟩ : ∃ cs, cs = (dkC k pv sv).toArray := ⟨_, rfl⟩
  have hcz : cs.size = 75 := by rw [hcs]; simp [dkC_length hk.top]
  have hrow := heap_alloc_new w (.cells cs 62)
  obtain ⟨W0, hW0⟩ : ∃ W0, W0 = w.alloc (.cells cs 62) := ⟨_, rfl⟩
  rw [← hW0] at hrow
  have hb0 : Below w.heap.size w W0 := by rw [hW0]; exact (Below.refl _ w).alloc (Nat.le_refl _) _
  have hz0 : W0.heap.size = w.heap.size + 1 := by rw [hW0]; simp
  have hfit := keyT_fit hk
  have hKV0 := hKV.below hb0
  obtain ⟨B, hB⟩ : ∃ B, B = w.heap.size := ⟨_, rfl⟩
  rw [← hcs]
  rw [hcs] at hrow
  rw [← hB] at hrow hz0
  have R0 := range_dk hk.top hrow
  have r0 : W0.cell? ⟨B, 0, none⟩ = some pv := by rw [row_dk hrow]; rfl
  have r72 : W0.cell? ⟨B, 72, none⟩ = some sv := by rw [row_dk hrow]; exact dkC_72 hk.top pv sv
  have r73 : W0.cell? ⟨B, 73, none⟩ = some (.bool k.ranged) := by rw [row_dk hrow]; exact dkC_73 hk.top pv sv
  have r74 : W0.cell? ⟨B, 74, none⟩ = some (.bool k.hard) := by rw [row_dk hrow]; exact dkC_74 hk.top pv sv
  obtain ⟨⟨A, c, rfl, hsA, hnil, _⟩, A', c', rfl, hsB, _⟩ := hKV0
  have HB := Lib.hid hB
  have HW0 := Lib.hid hW0
  have Hcz := Lib.hid hcz
  have Hfit := Lib.hid hfit
  have HE0 := Lib.hid (hE.below hb0)
  have Hb0 := Lib.hid hb0
  have Hrow := Lib.hid hrow
  have Hcs := Lib.hid hcs
  by_cases hp : k.plain = []
  · have hT : keyT k = textH k.top ++ (pathT k.steps ++ (if k.hard then [47, 42, 39] else if k.ranged then [47, 42] else [])) := by rw [keyT, if_neg (by simp [hp])]
    have hpv := hnil hp
    rw [nilS] at hpv
    obtain ⟨t1, ht1⟩ : ∃ t1 : ByteArray, t1 = ⟨(textH k.top).toArray⟩ := ⟨_, rfl⟩
    obtain ⟨t2, ht2⟩ : ∃ t2 : ByteArray, t2 = ⟨(109 :: pathT k.steps).toArray⟩ := ⟨_, rfl⟩
    obtain ⟨t3, ht3⟩ : ∃ t3 : ByteArray, t3 = ⟨(pathT k.steps).toArray⟩ := ⟨_, rfl⟩
    have hs1 : t1.size ≤ 124 := by rw [ht1, size_mk]; exact (textH_fit hk.top).1
    have hs3 : t3.size ≤ 240 := by rw [ht3, size_mk]; have := pathT_len k.steps hk.small; have := hk.steps; omega
    have HX := Lib.hid (htext_any k.top hk.top)
    rw [← ht1] at HX
    have HP : Hid (∀ W1, Below W0.heap.size W0 W1 → Calls Tryz.prog 50 #[.slice A' k.steps.length c'] W1 fun e W' => e = .returned (.string t2) ∧ Below W1.heap.size W1 W') := Lib.hid (fun W1 hb1 => by
      rw [ht2]
      exact hpath_any A' c' k.steps hk.small (by have := hk.steps; omega) W1 ((hsB.below hb1).mono hb1.size) (HE0.out.below hb1))
    have HTr : Hid (∀ W1, Calls Tryz.prog 49 #[.string t2, .string ⟨#[109]⟩] W1 fun e w' => e = .returned (.string t3) ∧ w' = W1) := Lib.hid (fun W1 => by rw [ht2, ht3]; exact trim_m _ W1)
    obtain ⟨n2, hn2⟩ : ∃ n2, n2 = k.steps.length := ⟨_, rfl⟩
    rw [← hn2] at r72 HP
    obtain ⟨bh, hbh⟩ : ∃ bh, bh = k.hard := ⟨_, rfl⟩
    obtain ⟨br, hbr⟩ : ∃ br, br = k.ranged := ⟨_, rfl⟩
    rw [← hbh] at r74 hT
    rw [← hbr] at r73 hT
    have HT : Hid ((⟨(keyT k).toArray⟩ : ByteArray) = (t1 ++ t3) ++ ⟨(if bh then [47, 42, 39] else if br then [47, 42] else [] : List UInt8).toArray⟩) := Lib.hid (by rw [ht1, ht3, cat_mk, cat_mk, hT, List.append_assoc])
    have IK := Lib.hid (show (Tryz.prog.info? 59).map (·.size) = some (keyC k.top).length by rw [keyC_length hk.top]; kernel_rfl)
    have Hcell : Hid (∀ W1, Below W0.heap.size W0 W1 → W1.cell? ⟨B, 73, none⟩ = some (.bool br) ∧ W1.cell? ⟨B, 74, none⟩ = some (.bool bh)) := Lib.hid (fun W1 hb1 => ⟨cell_below r73 hb1, cell_below r74 hb1⟩)
    obtain ⟨KT, hKT⟩ : ∃ KT : ByteArray, KT = ⟨(keyT k).toArray⟩ := ⟨_, rfl⟩
    rw [← hKT] at HT ⊢
    obtain ⟨kc, hkc⟩ : ∃ kc, kc = keyC k.top := ⟨_, rfl⟩
    rw [← hkc] at R0 IK HX
    have HR0 := Lib.hid R0
    have hc0 : cs[0]? = some (.slice none 0 0) := by rw [hcs, List.getElem?_toArray, dkC, hpv]; rfl
    clear hT hpv ht1 ht2 ht3 hn2 hbh hbr hKT hkc R0 hsA hsB hnil hp hb0 hz0 hrow hW0 hcz hcs hB hfit hKV
    go_enter Tryz.func21, Tryz.ntmps21
    go_wp2_with fail
    refine (show W0 = _ from HW0.out) ▸ ?_
    rw [← HB.out]
    refine wp_region_plan [(0, 0), (1, 1), (3, 0), (4, 1), (2, 2), (5, 2), (6, 2), (7, 0), (8, 0)] 9 hmx (by kernel_rfl) (by intro c a d v w h; cases d <;> exact h) ?_
    repeat ((first | (refine wpPlan_pure rfl (fun K hK => ?_)) | (refine wpPlan_quiet rfl (fun K hK => ?_))); go_simp; (first | (refine hK _ ?_) | (simp only [IntWalk.iteOmega]; go_simp; refine hK _ ?_) | (go_bits; go_simp; refine hK _ ?_)); clear hK K; (try go_bits))
    refine wpPlan_load_mid rfl rfl 59 (.tmp 10) rfl B 1 rfl kc _ HR0.out Tryz.underlying59 rfl IK.out ?_
    refine (show wpPlan _ _ _ _ _ _ (Act.put _ (some 11) _) _ from ?_)
    conv in (Act.put _ (some 11) _) => simp [Act.put]
    repeat ((first | (refine wpPlan_pure rfl (fun K hK => ?_)) | (refine wpPlan_quiet rfl (fun K hK => ?_))); go_simp; (first | (refine hK _ ?_) | (simp only [IntWalk.iteOmega]; go_simp; refine hK _ ?_) | (go_bits; go_simp; refine hK _ ?_)); clear hK K; (try go_bits))
    refine wpPlan_loud rfl rfl (fun K hK => ?_)
    go_wp2_with fail
    refine (HX.out W0.drew).mono ?_
    rintro e w1 ⟨rfl, hb1⟩
    have hB1 : Below W0.heap.size W0 w1 := (Below.refl _ W0).drew.trans hb1
    have HB1 := Lib.hid hB1
    have HX1 := Lib.hid (ext_of_below hb1)
    clear hb1 hB1 HX
    go_wp2_with fail
    refine ⟨.inr HX1.out, ?_⟩
    refine wpPlan_loud rfl rfl (fun K hK => ?_)
    go_wp2_with fail
    refine (HP.out w1 HB1.out).mono ?_
    rintro e w2 ⟨rfl, hb2⟩
    have HB2 := Lib.hid (HB1.out.trans (hb2.mono HB1.out.size))
    have HX2 := Lib.hid (ext_of_below hb2)
    clear hb2 HP
    go_wp2_with fail
    refine ⟨.inr HX2.out, ?_⟩
    refine wpPlan_loud rfl rfl (fun K hK => ?_)
    go_wp2_with fail
    refine (HTr.out w2).mono ?_
    rintro e w3 ⟨rfl, hww⟩
    rw [hww]
    clear hww HTr
    go_wp2_with fail
    refine ⟨.inr (Ext.refl _), ?_⟩
    repeat ((first | (refine wpPlan_pure rfl (fun K hK => ?_)) | (refine wpPlan_quiet rfl (fun K hK => ?_))); go_simp; (first | (refine hK _ ?_) | (simp only [IntWalk.iteOmega]; go_simp; refine hK _ ?_) | (go_bits; go_simp; refine hK _ ?_)); clear hK K; (try go_bits))
    refine wpPlan_nil ?_
    have hc2 := Hcell.out w2 HB2.out
    obtain ⟨q73, q74⟩ := hc2
    have HBz := Lib.hid (Hb0.out.trans (HB2.out.mono Hb0.out.size))
    cases bh with
    | true =>
      go_wp2_with fail
      go_ret
      exact ⟨by rw [HT.out]; rfl, HBz.out⟩
    | false =>
      cases br with
      | true =>
        go_wp2_with fail
        go_ret
        exact ⟨by rw [HT.out]; rfl, HBz.out⟩
      | false =>
        have hKT2 : KT = t1 ++ t3 := by
          rw [HT.out]
          apply ByteArray.ext
          simp
        have HKT2 := Lib.hid hKT2
        clear hKT2
        go_wp2_with fail
        go_ret
        exact ⟨by rw [HKT2.out]; rfl, HBz.out⟩
  · have hT : keyT k = hexL k.plain := by rw [keyT, if_pos hp]
    obtain ⟨b, o, hA, hbl, hcl⟩ := hsA (by rw [B8_length]; exact List.length_pos_iff.2 hp)
    subst hA
    have HX := Lib.hid (hex_any (some ⟨b, o, none⟩) c k.plain W0 (hsA) (by have := hk.plain; omega))
    rw [← hT] at HX
    obtain ⟨n1, hn1⟩ : ∃ n1, n1 = k.plain.length := ⟨_, rfl⟩
    rw [← hn1] at HX
    have hc0 : cs[0]? = some (.slice (some ⟨b, o, none⟩) n1 c) := by rw [hcs, List.getElem?_toArray, dkC, hn1]; rfl
    obtain ⟨KT, hKT⟩ : ∃ KT, KT = keyT k := ⟨_, rfl⟩
    rw [← hKT] at HX ⊢
    clear hT hn1 hKT hcl hbl hsA hsB hnil hp hb0 hz0 hrow hW0 hcz hcs hB hfit hKV R0 r0 r72 r73 r74
    go_enter Tryz.func21, Tryz.ntmps21
    go_wp2_with fail
    refine (show W0 = _ from HW0.out) ▸ ?_
    refine HX.out.mono ?_
    rintro e w1 ⟨rfl, hb1⟩
    have HB1 := Lib.hid (Hb0.out.trans (hb1.mono Hb0.out.size))
    clear hb1 HX
    go_wp2_with fail
    go_ret
    exact ⟨rfl, HB1.out⟩
end Go.Proofs.YtcjioogololnoaaGreatDoor

/-! The iterator that slices.Backward of a []string hands back: its contract, for whatever loop body keeps what the iterator reads. -/
namespace Go.Proofs.YtcjioogololnoaaGreatDoor
open Go Go.RowKit Go.Shelf

/-- What comes of bs in k rounds from the end: places and bytes. -/
def bwS (bs : List (List UInt8)) (k : Nat) : List (Nat × List UInt8) := (List.range k).map fun j => (bs.length - 1 - j, bs[bs.length - 1 - j]?.getD [])
theorem bwS_succ (bs : List (List UInt8)) (k : Nat) : bwS bs (k + 1) = bwS bs k ++ [(bs.length - 1 - k, bs[bs.length - 1 - k]?.getD [])] := by simp [bwS, List.range_succ]
theorem bwS_length (bs : List (List UInt8)) (k : Nat) : (bwS bs k).length = k := by simp [bwS]
theorem bwS_bytes (bs : List (List UInt8)) : (bwS bs bs.length).map (·.2) = bs.reverse := by
  apply List.ext_getElem
  · simp [bwS]
  · intro i h1 h2
    have : bs.length - 1 - i < bs.length := by simp [bwS] at h1; omega
    simp [bwS, this]

attribute [local go_sem] Oper.semAt_some
set_option maxRecDepth 100000 in
set_option maxHeartbeats 2000000 in
theorem bwdS1_in (F : Fence) (hF : ∀ k, F.fn k) (hro : F.round = none) (n : Nat) (hn : 1 ≤ n) (l Bs N : Nat) (K : World → World → Prop) (hKr : ∀ W, K W W) (hKt : ∀ {A B C : World}, K A B → K B C → K A C) (hKc : ∀ {W W' : World}, K W W' → W'.heap[Bs]? = W.heap[Bs]?) (A : Option Addr) (cap : Nat) (bs : List (List UInt8)) (hreach : bs.length ≤ 140737488351232) {α : Type} (enc : α → Nat × List UInt8) (hen : ∀ j (h : j < bs.length), ∃ x, enc x = (j, bs[j])) (J Jx : List α → World → Prop)
    (hY : ∀ pre x W, J pre W → pre.length < bs.length → YieldAt F (n - 1) Tryz.prog l #[Value.int .i64 ((enc x).1 : Int), .string ⟨(enc x).2.toArray⟩] W fun e W' =>
      (e = .returned (.bool true) ∧ J (pre ++ [x]) W' ∧ K W W') ∨ (e = .returned (.bool false) ∧ Jx (pre ++ [x]) W'))
    (W : World) (hBs : W.cell? ⟨Bs, 0, none⟩ = some (.slice A bs.length cap)) (hs : ∀ W', K W W' → Sl W' N A (ST bs)) (h0 : J [] W) :
    CallsIn F n Tryz.prog 55 #[.func (.yield l) #[] #[], .pointer (some ⟨Bs, 0, none⟩)] W fun e W' => (∃ v, e = .returned v) ∧
      ((∃ ys, ys.map enc = bwS bs bs.length ∧ J ys W') ∨ (∃ pre, (∃ k, k ≤ bs.length ∧ pre.map enc = bwS bs k) ∧ Jx pre W')) := by
  refine callsIn_of_wp Tryz.func55 rfl (hF _) ?_ hro
  simp only [Tryz.ntmps55, List.size_toArray, List.length_cons, List.length_nil, Nat.reduceAdd, Nat.reduceSub, Array.replicate_succ, Array.replicate_zero, List.push_toArray, List.append_toArray, List.nil_append, List.cons_append]
  gi_wp2
  gi_loopw [3] (fun i wr => ∃ k : Nat, k ≤ bs.length ∧ i = .int .i64 ((bs.length : Int) - 1 - (k : Int)) ∧ (∃ pre, pre.map enc = bwS bs k ∧ J pre wr) ∧ K W wr)
    (fun i _ => (intOf i + 1).toNat)
  case atStart => exact ⟨0, Nat.zero_le _, by go_num, ⟨[], rfl, h0⟩, hKr _⟩
  case round =>
    obtain ⟨k, hk, rfl, ⟨pre, hpre, hJs⟩, hnx⟩ := hrel
    have Hpre := Lib.hid hpre
    have hpl : pre.length = k := by have := congrArg List.length hpre; simpa [bwS_length] using this
    clear hpre
    by_cases hlt : k < bs.length
    · obtain ⟨m, hm⟩ : ∃ m, m = bs.length - 1 - k := ⟨_, rfl⟩
      have hm1 : m < bs.length := by omega
      have hmI : (bs.length : Int) - 1 - (k : Int) = (m : Int) := by omega
      obtain ⟨b, o, rfl, hb, hc⟩ := hs wr hnx (by rw [ST_length]; omega)
      have hcm := hc m (by rw [ST_length]; exact hm1)
      rw [ST_get] at hcm
      have hcx := (World.cell?_of_block (a := ⟨Bs, 0, none⟩) (hKc hnx)).trans hBs
      obtain ⟨x, hx⟩ := hen m hm1
      obtain ⟨fn, tmps, assign, body, hy, hR⟩ := hY _ x wr hJs (by rw [hpl]; exact hlt)
      simp only [hx] at hy hR
      have Hx := Lib.hid hx
      clear hx hpl
      rw [hmI]
      have hnx' := hnx
      have Hm := Lib.hid hm
      clear hmI hc hs hBs hnx hm
      gi_wp2
      refine hR.mono ?_
      rintro e W3 (⟨rfl, hJ3, hk3⟩ | ⟨rfl, hJx3⟩)
      · gi_wp2
        go_roundw
        case rel => 
          have hm := Hm.out
          exact ⟨k + 1, by omega, by go_num, ⟨_, by rw [List.map_append, Hpre.out, bwS_succ, ← hm, List.getElem?_eq_getElem hm1, List.map_cons, List.map_nil, Hx.out]; rfl, hJ3⟩, hKt hnx' hk3⟩
        case measure => simp [intOf]
      · gi_wp2
        refine bodyPost_ret (results_none rfl _ _ _) rfl ?_
        have hm := Hm.out
        exact ⟨⟨_, rfl⟩, .inr ⟨_, ⟨k + 1, by omega, by rw [List.map_append, Hpre.out, bwS_succ, ← hm, List.getElem?_eq_getElem hm1, List.map_cons, List.map_nil, Hx.out]; rfl⟩, hJx3⟩⟩
    · obtain rfl : k = bs.length := by omega
      have e1 : (bs.length : Int) - 1 - (bs.length : Int) = -1 := by omega
      rw [e1]
      gi_wp2
      go_end0
      exact ⟨⟨_, rfl⟩, .inl ⟨_, Hpre.out, hJs⟩⟩

set_option maxHeartbeats 1000000 in
theorem bwdS_in (F : Fence) (hF : ∀ k, F.fn k) (hro : F.round = none) (n : Nat) (a : Option Addr) (len cap : Nat) (w : World) :
    CallsIn F n Tryz.prog 25 #[.slice a len cap] w fun e w' => e = .returned (.func (.func 55) #[] #[.pointer (some ⟨w.heap.size, 0, none⟩)]) ∧ w' = w.alloc (.cells #[.slice a len cap] 45) := by
  refine callsIn_of_wp Tryz.func25 rfl (hF _) ?_ hro
  simp only [Tryz.ntmps25, List.size_toArray, List.length_cons, List.length_nil, Nat.reduceAdd, Nat.reduceSub, Array.replicate_succ, Array.replicate_zero, List.push_toArray, List.append_toArray, List.nil_append, List.cons_append]
  gi_wp2
  go_ret
  exact ⟨rfl, rfl⟩

theorem bwdS_stopsK (F : Fence) (hF : ∀ k, F.fn k) (hro : F.round = none) (n : Nat) (hn : 1 ≤ n) (Bs N : Nat) (K : World → World → Prop) (hKr : ∀ W, K W W) (hKt : ∀ {A B C : World}, K A B → K B C → K A C) (hKc : ∀ {W W' : World}, K W W' → W'.heap[Bs]? = W.heap[Bs]?)
    (A : Option Addr) (cap : Nat) (bs : List (List UInt8)) (hreach : bs.length ≤ 140737488351232) {α : Type} (enc : α → Nat × List UInt8) (hen : ∀ j (h : j < bs.length), ∃ x, enc x = (j, bs[j])) (w : World)
    (hwK : ∀ W, Below w.heap.size w W → K w W) (hc : w.cell? ⟨Bs, 0, none⟩ = some (.slice A bs.length cap)) (hs : ∀ W', K w W' → Sl W' N A (ST bs)) :
    SeqStopsK F n Tryz.prog 55 #[.pointer (some ⟨Bs, 0, none⟩)] (fun x : α => #[Value.int .i64 ((enc x).1 : Int), Value.string ⟨(enc x).2.toArray⟩]) K (fun ys => ys.map enc = bwS bs bs.length)
      (fun pre => ∃ k, k ≤ bs.length ∧ pre.map enc = bwS bs k) bs.length w := fun l J Jx W hW _ _ hY h0 =>
  bwdS1_in F hF hro n hn l Bs N K hKr hKt hKc A cap bs hreach enc hen J Jx hY W ((World.cell?_of_block (a := ⟨Bs, 0, none⟩) (hKc (hwK W hW))).trans hc) (fun W' h => hs W' (hKt (hwK W hW) h)) h0

end Go.Proofs.YtcjioogololnoaaGreatDoor
