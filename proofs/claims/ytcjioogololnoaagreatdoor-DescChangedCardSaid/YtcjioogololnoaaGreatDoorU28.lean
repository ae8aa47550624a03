/- hdkey.Path. | Base conversion, by values. | Base 58, plain: sizes and letters. -/
import Derived.Test.YtcjioogololnoaaGreatDoorU27
import Derived.Test.YtcjioogololnoaaGreatDoorU20
import Derived.Test.YtcjioogololnoaaGreatDoorU11

/-! hdkey.Path. -/
namespace Go.Proofs.YtcjioogololnoaaGreatDoor
open Go.RowKit Go.Shelf

theorem andNot31 (a : Nat) (ha : a < 4294967296) : bits .andNot .u32 (a : Int) 2147483648 = ((a % 2147483648 : Nat) : Int) := by
  show IntKind.u32.wrap ((BitVec.ofInt 32 (a : Int) &&& ~~~ (BitVec.ofInt 32 2147483648)).toNat : Int) = _
  rw [show ~~~ (BitVec.ofInt 32 2147483648) = 0x7fffffff#32 by decide, BitVec.toNat_and, ofInt_u32 a ha, IntKind.wrap_u32']
  rw [show (0x7fffffff#32).toNat = 2 ^ 31 - 1 by decide, Nat.and_two_pow_sub_one_eq_mod]
  omega
theorem pathT_append : ∀ (a b : List Nat), pathT (a ++ b) = pathT a ++ pathT b
  | [], _ => rfl
  | n :: a, b => by simp [pathT, pathT_append a b]
def stepT (n : Nat) : List UInt8 := 47 :: (Lib.decDigits (n % 2147483648) ++ (if 2147483648 ≤ n then [39] else []))
theorem pathT_snoc (a : List Nat) (n : Nat) : pathT (a ++ [n]) = pathT a ++ stepT n := by rw [pathT_append]; simp [pathT, stepT]
theorem nDig_le : ∀ (k u : Nat), u < 10 ^ (k + 1) → Lib.nDigits u ≤ k + 1
  | 0, u, h => by rw [Lib.nDigits_small (by simpa using h)]; exact Nat.le_refl _
  | k + 1, u, h => by
    by_cases h10 : u < 10
    · rw [Lib.nDigits_small h10]; omega
    · rw [Lib.nDigits_big h10]
      have := nDig_le k (u / 10) (by rw [Nat.div_lt_iff_lt_mul (by omega), ← Nat.pow_succ]; exact h)
      omega
theorem stepT_len (n : Nat) (h : n < 4294967296) : (stepT n).length ≤ 12 := by
  have : (Lib.decDigits (n % 2147483648)).length ≤ 10 := by rw [Lib.decDigits_length]; exact nDig_le 9 _ (by omega)
  unfold stepT
  split <;> simp <;> omega
theorem pathT_len : ∀ (ns : List Nat), (∀ n ∈ ns, n < 4294967296) → (pathT ns).length ≤ 12 * ns.length
  | [], _ => by simp [pathT]
  | n :: ns, h => by
    have h1 := stepT_len n (h n (by simp))
    have h2 := pathT_len ns (fun m hm => h m (by simp [hm]))
    have e : pathT (n :: ns) = stepT n ++ pathT ns := by simp [pathT, stepT]
    rw [e, List.length_append, List.length_cons]
    omega

set_option maxRecDepth 100000 in
set_option maxHeartbeats 4000000 in
theorem hpath_any (A : Option Addr) (c : Nat) (ns : List Nat) (hall : ∀ n ∈ ns, n < 4294967296) (hl : ns.length ≤ 300) (w : World) (hs : Sl w w.heap.size A (U32 ns)) (hE : Env w) :
    Calls Tryz.prog 50 #[.slice A ns.length c] w fun e W' => e = .returned (.string ⟨(109 :: pathT ns).toArray⟩) ∧ Below w.heap.size w W' := by
  obtain ⟨m, hm⟩ : ∃ m, m = ns.length := ⟨_, rfl⟩
  rw [← hm] at hl ⊢
  have Hm := Lib.hid hm
  have Hall := Lib.hid hall
  have hbig := pathT_len ns hall
  have hb8 : (pathT ns).length ≤ 3600 := by omega
  have HT8 : Hid (∀ k, (pathT (ns.take k)).length ≤ 3600) := Lib.hid fun k => by
    have := pathT_len (ns.take k) (fun n hn => hall n (List.mem_of_mem_take hn))
    rw [List.length_take] at this; omega
  clear hm hall hbig hb8
  go_enter Tryz.func50, Tryz.ntmps50
  go_wp2_with fail
  have hf := Lib.fresh_isBuilder 102 5 w
  obtain ⟨W0, hW0⟩ : ∃ W0, W0 = w.alloc (.cells #[.pointer none, .slice none 0 0] 102) := ⟨_, rfl⟩
  rw [← hW0] at hf
  have hb0 : Below w.heap.size w W0 := by rw [hW0]; exact (Below.refl _ w).alloc (Nat.le_refl _) _
  refine (show W0 = _ from hW0) ▸ ?_
  clear hW0
  refine (writeByte_any w.heap.size w.heap.size [] 109 W0 hf (by simp) hb0.size).mono ?_
  rintro e w1 ⟨rfl, hB1, hb1⟩
  have hbw1 := hb0.trans hb1
  clear hf hb0 hb1
  have hEs : Env w1 := hE.below hbw1
  have HEs := Lib.hid hEs
  clear hEs
  go_wp2_with fail
  go_loopw [9] (fun i wr => ∃ k : Nat, k ≤ m ∧ i = .int .i64 k ∧ Lib.IsBuilder 102 5 w.heap.size w.heap.size (Lib.byteCells (109 :: pathT (ns.take k))) wr ∧ Below w.heap.size w wr) (fun i _ => m - (intOf i).toNat)
  case atStart => exact ⟨0, Nat.zero_le _, rfl, Or.inr hB1, hbw1⟩
  case round =>
    obtain ⟨k, hk, rfl, hB, hb⟩ := hrel
    have hz := hb.size
    by_cases hlt : k < m
    · have hkn : k < ns.length := by have := Hm.out; omega
      obtain ⟨n, hn⟩ : ∃ n, n = ns[k] := ⟨_, rfl⟩
      obtain ⟨bA, oA, rfl, hbA, hcl⟩ := hs (by rw [U32_length]; have := Hm.out; omega)
      have hcell : wr.cell? ⟨bA, oA + k, none⟩ = some (.int .u32 (n : Int)) := by
        rw [hb.cell (p := ⟨bA, oA + k, none⟩) hbA, hcl k (by simpa using hkn), U32_get, hn]
      have hn32 : n < 4294967296 := by rw [hn]; exact Hall.out _ (List.getElem_mem _)
      have htk : pathT (ns.take (k + 1)) = pathT (ns.take k) ++ stepT n := by rw [List.take_succ_eq_append_getElem hkn, pathT_snoc, hn]
      obtain ⟨r, hr⟩ : ∃ r, r = n % 2147483648 := ⟨_, rfl⟩
      have han := andNot31 n hn32
      rw [← hr] at han
      have hr31 : r < 2147483648 := by omega
      obtain ⟨T, hT⟩ : ∃ T, T = pathT (ns.take k) := ⟨_, rfl⟩
      rw [← hT] at hB htk
      have hTl : T.length ≤ 3600 := by rw [hT]; exact HT8.out k
      have hdl : (Lib.decDigits r).length ≤ 10 := by rw [Lib.decDigits_length]; exact nDig_le 9 _ (by omega)
      have HF := Lib.hid (formatUint_any r (by omega))
      obtain ⟨D, hD⟩ : ∃ D, D = Lib.decDigits r := ⟨_, rfl⟩
      rw [← hD] at hdl HF
      have Hst : Hid (stepT n = 47 :: (D ++ (if 2147483648 ≤ n then [39] else []))) := Lib.hid (by rw [stepT, ← hr, hD])
      have HEr := Lib.hid (hE.below hb)
      have Htk := Lib.hid htk
      have HcA := Lib.hid hcell
      clear hn htk hr hT hD hcl hs
      go_wp2_with fail
      refine (HF.out wr HEr.out).mono ?_
      rintro e w2 ⟨rfl, hb2⟩
      have hB2 := isBuilder_below hB hb2
      have hbz2 : Below w.heap.size w w2 := hb.trans (hb2.mono hz)
      clear hB hb hb2 HF
      have hDm : (⟨D.toArray⟩ : ByteArray).size ≤ 10 := by show D.toArray.size ≤ 10; simpa using hdl
      go_wp2_with fail
      have hcat : Lib.byteCells (109 :: T) ++ Lib.strCells ((⟨#[47]⟩ : ByteArray) ++ ⟨D.toArray⟩) = Lib.byteCells (109 :: (T ++ 47 :: D)) := by
        rw [Lib.strCells_eq, ← Lib.byteCells_append]
        simp
      have Hws := Lib.hid (writeString_any w.heap.size w.heap.size (Lib.byteCells (109 :: T)) ((⟨#[47]⟩ : ByteArray) ++ ⟨D.toArray⟩) w2 hB2 (by
        rw [Lib.byteCells_length, ByteArray.size_append]
        show _ + (1 + D.toArray.size) ≤ _
        simp; omega) hbz2.size)
      rw [hcat] at Hws
      clear hcat hB2 hDm
      refine Hws.out.mono ?_
      rintro e w3 ⟨rfl, hB3, hb3⟩
      have hbz3 : Below w.heap.size w w3 := hbz2.trans hb3
      have hz3 := hbz3.size
      clear Hws hb3
      by_cases h31 : 2147483648 ≤ n
      · have hvI : decide ((2147483648 : Int) ≤ (n : Int)) = true := decide_eq_true (by omega)
        have hst : 109 :: (T ++ 47 :: D) ++ [39] = 109 :: (T ++ stepT n) := by rw [Hst.out, if_pos h31]; simp
        have Hwb := Lib.hid (writeByte_any w.heap.size w.heap.size (Lib.byteCells (109 :: (T ++ 47 :: D))) 39 w3 (Or.inr hB3) (by rw [Lib.byteCells_length]; simp; omega) hz3)
        rw [show Lib.byteCells (109 :: (T ++ 47 :: D)) ++ [Value.int .u8 39] = Lib.byteCells (109 :: (T ++ stepT n)) by rw [← hst, Lib.byteCells_append]; rfl] at Hwb
        clear hst h31 hB3
        go_wp2_with fail
        refine Hwb.out.mono ?_
        rintro e w4 ⟨rfl, hB4, hb4⟩
        have hbz4 : Below w.heap.size w w4 := hbz3.trans hb4
        clear Hwb hb4
        go_wp2_with fail
        exact ⟨⟨k + 1, by omega, rfl, by rw [Htk.out]; exact Or.inr hB4, hbz4⟩, by simp [intOf]; omega⟩
      · have hvI : decide ((2147483648 : Int) ≤ (n : Int)) = false := decide_eq_false (by omega)
        have hst : 109 :: (T ++ 47 :: D) = 109 :: (T ++ stepT n) := by rw [Hst.out, if_neg h31]; simp
        rw [hst] at hB3
        clear hst h31
        go_wp2_with fail
        exact ⟨⟨k + 1, by omega, rfl, by rw [Htk.out]; exact Or.inr hB3, hbz3⟩, by simp [intOf]; omega⟩
    · obtain rfl : k = m := by omega
      have hT : ns.take k = ns := List.take_of_length_le (by have := Hm.out; omega)
      rw [hT] at hB
      have Hs := Lib.hid (Tryz.Builder_String_any w.heap.size w.heap.size (109 :: pathT ns) wr hB hz)
      clear hT hB hlt
      go_wp2_with fail
      refine Hs.out.mono ?_
      rintro e w2 ⟨rfl, hb2⟩
      go_wp2_with fail
      go_ret
      exact ⟨rfl, hb.trans hb2⟩
end Go.Proofs.YtcjioogololnoaaGreatDoor

/-! Base conversion, by values. -/
namespace Go.Proofs.YtcjioogololnoaaGreatDoor

/-- The value of digits, the highest first. -/
def horner (f : Nat) (l : List UInt8) : Nat := l.foldl (fun v d => v * f + d.toNat) 0
theorem horner_nil (f : Nat) : horner f [] = 0 := rfl
theorem horner_snoc (f : Nat) (l : List UInt8) (d : UInt8) : horner f (l ++ [d]) = horner f l * f + d.toNat := by simp [horner]
theorem mul_div_step (f t V c : Nat) (ht : 0 < t) : (V * f + c) % t = (c + V % t * f) % t ∧ (V * f + c) / t = V / t * f + (c + V % t * f) / t := by
  have h : V * f + c = t * (V / t * f) + (c + V % t * f) := by
    have h1 := Nat.div_add_mod V t
    have h2 : (t * (V / t) + V % t) * f = V * f := by rw [h1]
    rw [Nat.add_mul, Nat.mul_assoc] at h2
    omega
  rw [h]
  exact ⟨by rw [Nat.mul_add_mod], by rw [Nat.mul_add_div ht]⟩
theorem step_pushes (f t : Nat) (hf : 1 ≤ f) (ht : 2 ≤ t) (ht2 : t ≤ 256) : ∀ (n V c : Nat), V ≤ n → baseStep f t (pushes t V V) c = pushes t (V * f + c) (V * f + c) := by
  intro n
  induction n with
  | zero =>
    intro V c hV
    obtain rfl : V = 0 := by omega
    simp [baseStep, pushes, mid]
  | succ n ih =>
    intro V c hV
    by_cases h0 : V = 0
    · subst h0; simp [baseStep, pushes, mid]
    · have hp : 0 < V * f + c := by have : 0 < V * f := Nat.mul_pos (by omega) (by omega); omega
      rw [pushes_pos t V ht (by omega), pushes_pos t (V * f + c) ht hp]
      have hlt : V / t < V := Nat.div_lt_self (by omega) (by omega)
      have hm := Nat.mod_lt V (show 0 < t by omega)
      have hx : (UInt8.ofNat (V % t)).toNat = V % t := by rw [UInt8.toNat_ofNat', Nat.mod_eq_of_lt (by omega)]
      obtain ⟨h1, h2⟩ := mul_div_step f t V c (by omega)
      have := ih (V / t) ((c + V % t * f) / t) (by omega)
      unfold baseStep at this ⊢
      simp only [mid, hx, List.cons_append]
      rw [this, ← h2, ← h1]
theorem baseL_pushes (f t : Nat) (hf : 1 ≤ f) (ht : 2 ≤ t) (ht2 : t ≤ 256) (l : List UInt8) : baseL f t l = pushes t (horner f l) (horner f l) := by
  induction hn : l.length generalizing l with
  | zero => rw [List.length_eq_zero_iff.1 hn]; simp [baseL, horner, pushes]
  | succ n ih =>
    rcases List.eq_nil_or_concat l with rfl | ⟨l', d0, rfl⟩
    · simp at hn
    · rw [List.concat_eq_append] at hn ⊢
      rw [baseL_snoc, horner_snoc, ih l' (by simpa using hn), step_pushes f t hf ht ht2 _ _ _ (Nat.le_refl _)]
theorem pushes_horner (t : Nat) (ht : 2 ≤ t) (l : List UInt8) (hl : ∀ d ∈ l, d.toNat < t) (h0 : ∀ d, l.head? = some d → d.toNat ≠ 0) : pushes t (horner t l) (horner t l) = l.reverse ∧ (l ≠ [] → 0 < horner t l) := by
  induction hn : l.length generalizing l with
  | zero => rw [List.length_eq_zero_iff.1 hn]; simp [horner, pushes]
  | succ n ih =>
    rcases List.eq_nil_or_concat l with rfl | ⟨l', d0, rfl⟩
    · simp at hn
    · rw [List.concat_eq_append] at hn hl h0 ⊢
      have hd := hl d0 (by simp)
      by_cases he : l' = []
      · subst he
        have hd0 := h0 d0 (by simp)
        have hv : horner t ([] ++ [d0]) = d0.toNat := by simp [horner]
        refine ⟨?_, fun _ => by rw [hv]; omega⟩
        rw [hv, pushes_pos t _ ht (by omega), Nat.div_eq_of_lt hd, Nat.mod_eq_of_lt hd]
        simp [pushes]
      · have hp := ih l' (fun d h => hl d (by simp [h])) (fun d h => h0 d (by cases l' with | nil => simp at he | cons x xs => simpa using h)) (by simpa using hn)
        have hpos := hp.2 he
        have hm : 0 < horner t l' * t := Nat.mul_pos hpos (by omega)
        rw [horner_snoc]
        refine ⟨?_, fun _ => by omega⟩
        rw [pushes_pos t _ ht (by omega), show (horner t l' * t + d0.toNat) % t = d0.toNat by rw [Nat.mul_add_mod_self_right, Nat.mod_eq_of_lt hd],
          show (horner t l' * t + d0.toNat) / t = horner t l' by rw [Nat.mul_comm, Nat.mul_add_div (by omega), Nat.div_eq_of_lt hd]; rfl, hp.1]
        simp
theorem horner_pushes (t : Nat) (ht : 2 ≤ t) (ht2 : t ≤ 256) : ∀ (n V : Nat), V ≤ n → horner t (pushes t V V).reverse = V := by
  intro n
  induction n with
  | zero =>
    intro V hV
    obtain rfl : V = 0 := by omega
    rfl
  | succ n ih =>
    intro V hV
    by_cases h0 : V = 0
    · subst h0; rfl
    · have hlt : V / t < V := Nat.div_lt_self (by omega) (by omega)
      have hm := Nat.mod_lt V (show 0 < t by omega)
      rw [pushes_pos t V ht (by omega), List.reverse_cons, horner_snoc, ih (V / t) (by omega), UInt8.toNat_ofNat', Nat.mod_eq_of_lt (show V % t < 2 ^ 8 by omega)]
      have := Nat.div_add_mod V t
      rw [Nat.mul_comm]; exact this
theorem pushes_top (t : Nat) (ht : 2 ≤ t) (ht2 : t ≤ 256) : ∀ (n V : Nat), V ≤ n → ∀ d, (pushes t V V).reverse.head? = some d → d.toNat ≠ 0 := by
  intro n
  induction n with
  | zero =>
    intro V hV d hd
    obtain rfl : V = 0 := by omega
    simp [pushes] at hd
  | succ n ih =>
    intro V hV d hd
    by_cases h0 : V = 0
    · subst h0; simp [pushes] at hd
    · have hlt : V / t < V := Nat.div_lt_self (by omega) (by omega)
      have hm := Nat.mod_lt V (show 0 < t by omega)
      rw [pushes_pos t V ht (by omega), List.reverse_cons] at hd
      by_cases hq : V / t = 0
      · rw [hq] at hd
        simp only [pushes, List.reverse_nil, List.nil_append, List.head?_cons, Option.some.injEq] at hd
        have hVm : V % t = V := Nat.mod_eq_of_lt ((Nat.div_eq_zero_iff_lt (by omega)).1 hq)
        rw [← hd, UInt8.toNat_ofNat', Nat.mod_eq_of_lt (by omega)]; omega
      · refine ih (V / t) (by omega) d ?_
        cases hrev : (pushes t (V / t) (V / t)).reverse with
        | nil =>
          have := congrArg List.length hrev
          rw [pushes_pos t _ ht (Nat.pos_of_ne_zero hq)] at this
          simp at this
        | cons x xs => rw [hrev] at hd; simpa using hd
theorem pushes_digits (t : Nat) (ht : 2 ≤ t) (ht2 : t ≤ 256) (V : Nat) : ∀ d ∈ pushes t V V, d.toNat < t := pushes_lt t (by omega) ht2 V V
end Go.Proofs.YtcjioogololnoaaGreatDoor

/-! Base 58, plain: sizes and letters. -/
namespace Go.Proofs.YtcjioogololnoaaGreatDoor
open Go.RowKit

theorem horner_front (f : Nat) (l : List UInt8) : ∀ z : Nat, horner f (List.replicate z 0 ++ l) = horner f l
  | 0 => rfl
  | z + 1 => by
    rw [List.replicate_succ, List.cons_append]
    have h := horner_front f l z
    unfold horner at h ⊢
    rw [List.foldl_cons]
    simpa using h
theorem horner_lt (f : Nat) (hf : 1 ≤ f) (l : List UInt8) (hl : ∀ d ∈ l, d.toNat < f) : horner f l < f ^ l.length := by
  induction hn : l.length generalizing l with
  | zero => rw [List.length_eq_zero_iff.1 hn]; simp [horner]
  | succ n ih =>
    rcases List.eq_nil_or_concat l with rfl | ⟨l', d0, rfl⟩
    · simp at hn
    · rw [List.concat_eq_append] at hn hl ⊢
      rw [horner_snoc, Nat.pow_succ]
      have h1 := ih l' (fun d hd => hl d (by simp [hd])) (by simpa using hn)
      have h2 := hl d0 (by simp)
      have h3 : (horner f l' + 1) * f ≤ f ^ n * f := Nat.mul_le_mul_right f h1
      rw [Nat.add_mul] at h3
      omega
theorem pushes_lenT (t : Nat) (ht : 2 ≤ t) : ∀ (k c : Nat), c < t ^ k → (pushes t c c).length ≤ k
  | 0, c, h => by
    obtain rfl : c = 0 := by simpa using h
    simp [pushes]
  | k + 1, c, h => by
    by_cases h0 : c = 0
    · subst h0; simp [pushes]
    · rw [pushes_pos t c ht (by omega), List.length_cons]
      have := pushes_lenT t ht k (c / t) (by rw [Nat.div_lt_iff_lt_mul (by omega)]; rwa [← Nat.pow_succ])
      omega
theorem pow_256_58 (m : Nat) : 256 ^ m ≤ 58 ^ (3 * ((m + 1) / 2)) := by
  have h1 : 256 ^ m ≤ 256 ^ (2 * ((m + 1) / 2)) := Nat.pow_le_pow_right (by omega) (by omega)
  have h2 : 256 ^ (2 * ((m + 1) / 2)) ≤ 58 ^ (3 * ((m + 1) / 2)) := by
    rw [Nat.pow_mul, Nat.pow_mul]
    exact Nat.pow_le_pow_left (by decide) _
  omega
/-- The noughts in front, and the rest. -/
theorem lz_split : ∀ b : List UInt8, ∃ r, b = List.replicate (lz b) 0 ++ r ∧ ∀ d, r.head? = some d → d.toNat ≠ 0
  | [] => ⟨[], rfl, by simp⟩
  | x :: b => by
    by_cases hx : x = 0
    · obtain ⟨r, h1, h2⟩ := lz_split b
      refine ⟨r, ?_, h2⟩
      simp only [lz, if_pos hx, List.replicate_succ, List.cons_append]
      rw [← h1, hx]
    · refine ⟨x :: b, by simp [lz, hx], ?_⟩
      intro d hd e
      simp at hd
      subst hd
      exact hx (UInt8.toNat_inj.1 (by simpa using e))
theorem lz_replicate (z : Nat) (r : List UInt8) (h : ∀ d, r.head? = some d → d.toNat ≠ 0) : lz (List.replicate z 0 ++ r) = z := by
  induction z with
  | zero =>
    match r, h with
    | [], _ => rfl
    | x :: r, h =>
      have := h x rfl
      have hx : x ≠ 0 := fun e => this (by simp [e])
      simp [lz, hx]
  | succ z ih => simp [List.replicate_succ, lz, ih]

theorem dig_let (d : UInt8) (hd : d.toNat < 58) : dig58 (let58 d) = d := by
  have h : ∀ k : Fin 58, dig58 (let58 (UInt8.ofNat k.val)) = UInt8.ofNat k.val := by decide
  have := h ⟨d.toNat, hd⟩
  simpa using this
theorem let_mem (d : UInt8) (hd : d.toNat < 58) : let58 d ∈ letters58 := by
  have h : ∀ k : Fin 58, let58 (UInt8.ofNat k.val) ∈ letters58 := by decide
  have := h ⟨d.toNat, hd⟩
  simpa using this
theorem let_dig (c : UInt8) (hc : c ∈ letters58) : let58 (dig58 c) = c := by
  have h : ∀ c ∈ letters58, let58 (dig58 c) = c := by decide
  exact h c hc
theorem dig_zero (c : UInt8) (hc : c ∈ letters58) (h0 : (dig58 c).toNat = 0) : c = 49 := by
  have h : ∀ c ∈ letters58, (dig58 c).toNat = 0 → c = 49 := by decide
  exact h c hc h0
theorem let_one (d : UInt8) (hd : d.toNat < 58) (h : let58 d = 49) : d.toNat = 0 := by
  have hh : ∀ k : Fin 58, let58 (UInt8.ofNat k.val) = 49 → k.val = 0 := by decide
  have := hh ⟨d.toNat, hd⟩ (by simpa using h)
  exact this
theorem drop_ones (z : Nat) (r : List UInt8) (h : ∀ d, r.head? = some d → d ≠ 49) : (List.replicate z 49 ++ r).dropWhile (· == 49) = r := by
  induction z with
  | zero =>
    match r, h with
    | [], _ => rfl
    | x :: r, h =>
      have := h x rfl
      simp [this]
  | succ z ih => simp [List.replicate_succ, ih]
theorem byte_lt (l : List UInt8) : ∀ d ∈ l, d.toNat < 256 := fun d _ => d.toNat_lt

end Go.Proofs.YtcjioogololnoaaGreatDoor
