/- Base conversion, by values. -/
import Derived.Test.YtmfligfcejhjaaaDoorP4
namespace Go.Proofs.YtmfligfcejhjaaaDoor

/-- The value of digits, the highest first. -/
def horner (f : Nat) (l : List UInt8) : Nat := l.foldl (fun v d => v * f + d.toNat) 0
theorem horner_nil (f : Nat) : horner f [] = 0 := rfl
theorem horner_snoc (f : Nat) (l : List UInt8) (d : UInt8) : horner f (l ++ [d]) = horner f l * f + d.toNat := by simp [horner]
theorem mul_div_step (f t V c : Nat) (ht : 0 < t) : (V * f + c) % t = (c + V % t * f) % t ∧ (V * f + c) / t = V / t * f + (c + V % t * f) / t := by
  have h : V * f + c = t * (V / t * f) + (c + V % t * f) := by
    have h1 := Nat.div_add_mod V t
    have h2 : (t * (V / t) + V % t) * f = V * f := by rw [h1]
    rw [Nat.add_mul, Nat.mul_assoc] at h2
    omega
  rw [h]
  exact ⟨by rw [Nat.mul_add_mod], by rw [Nat.mul_add_div ht]⟩
theorem step_pushes (f t : Nat) (hf : 1 ≤ f) (ht : 2 ≤ t) (ht2 : t ≤ 256) : ∀ (n V c : Nat), V ≤ n → baseStep f t (pushes t V V) c = pushes t (V * f + c) (V * f + c) := by
  intro n
  induction n with
  | zero =>
    intro V c hV
    obtain rfl : V = 0 := by omega
    simp [baseStep, pushes, mid]
  | succ n ih =>
    intro V c hV
    by_cases h0 : V = 0
    · subst h0; simp [baseStep, pushes, mid]
    · have hp : 0 < V * f + c := by have : 0 < V * f := Nat.mul_pos (by omega) (by omega); omega
      rw [pushes_pos t V ht (by omega), pushes_pos t (V * f + c) ht hp]
      have hlt : V / t < V := Nat.div_lt_self (by omega) (by omega)
      have hm := Nat.mod_lt V (show 0 < t by omega)
      have hx : (UInt8.ofNat (V % t)).toNat = V % t := by rw [UInt8.toNat_ofNat', Nat.mod_eq_of_lt (by omega)]
      obtain ⟨h1, h2⟩ := mul_div_step f t V c (by omega)
      have := ih (V / t) ((c + V % t * f) / t) (by omega)
      unfold baseStep at this ⊢
      simp only [mid, hx, List.cons_append]
      rw [this, ← h2, ← h1]
theorem baseL_pushes (f t : Nat) (hf : 1 ≤ f) (ht : 2 ≤ t) (ht2 : t ≤ 256) (l : List UInt8) : baseL f t l = pushes t (horner f l) (horner f l) := by
  induction hn : l.length generalizing l with
  | zero => rw [List.length_eq_zero_iff.1 hn]; simp [baseL, horner, pushes]
  | succ n ih =>
    rcases List.eq_nil_or_concat l with rfl | ⟨l', d0, rfl⟩
    · simp at hn
    · rw [List.concat_eq_append] at hn ⊢
      rw [baseL_snoc, horner_snoc, ih l' (by simpa using hn), step_pushes f t hf ht ht2 _ _ _ (Nat.le_refl _)]
theorem pushes_horner (t : Nat) (ht : 2 ≤ t) (l : List UInt8) (hl : ∀ d ∈ l, d.toNat < t) (h0 : ∀ d, l.head? = some d → d.toNat ≠ 0) : pushes t (horner t l) (horner t l) = l.reverse ∧ (l ≠ [] → 0 < horner t l) := by
  induction hn : l.length generalizing l with
  | zero => rw [List.length_eq_zero_iff.1 hn]; simp [horner, pushes]
  | succ n ih =>
    rcases List.eq_nil_or_concat l with rfl | ⟨l', d0, rfl⟩
    · simp at hn
    · rw [List.concat_eq_append] at hn hl h0 ⊢
      have hd := hl d0 (by simp)
      by_cases he : l' = []
      · subst he
        have hd0 := h0 d0 (by simp)
        have hv : horner t ([] ++ [d0]) = d0.toNat := by simp [horner]
        refine ⟨?_, fun _ => by rw [hv]; omega⟩
        rw [hv, pushes_pos t _ ht (by omega), Nat.div_eq_of_lt hd, Nat.mod_eq_of_lt hd]
        simp [pushes]
      · have hp := ih l' (fun d h => hl d (by simp [h])) (fun d h => h0 d (by cases l' with | nil => simp at he | cons x xs => simpa using h)) (by simpa using hn)
        have hpos := hp.2 he
        have hm : 0 < horner t l' * t := Nat.mul_pos hpos (by omega)
        rw [horner_snoc]
        refine ⟨?_, fun _ => by omega⟩
        rw [pushes_pos t _ ht (by omega), show (horner t l' * t + d0.toNat) % t = d0.toNat by rw [Nat.mul_add_mod_self_right, Nat.mod_eq_of_lt hd],
          show (horner t l' * t + d0.toNat) / t = horner t l' by rw [Nat.mul_comm, Nat.mul_add_div (by omega), Nat.div_eq_of_lt hd]; rfl, hp.1]
        simp
theorem horner_pushes (t : Nat) (ht : 2 ≤ t) (ht2 : t ≤ 256) : ∀ (n V : Nat), V ≤ n → horner t (pushes t V V).reverse = V := by
  intro n
  induction n with
  | zero =>
    intro V hV
    obtain rfl : V = 0 := by omega
    rfl
  | succ n ih =>
    intro V hV
    by_cases h0 : V = 0
    · subst h0; rfl
    · have hlt : V / t < V := Nat.div_lt_self (by omega) (by omega)
      have hm := Nat.mod_lt V (show 0 < t by omega)
      rw [pushes_pos t V ht (by omega), List.reverse_cons, horner_snoc, ih (V / t) (by omega), UInt8.toNat_ofNat', Nat.mod_eq_of_lt (show V % t < 2 ^ 8 by omega)]
      have := Nat.div_add_mod V t
      rw [Nat.mul_comm]; exact this
theorem pushes_top (t : Nat) (ht : 2 ≤ t) (ht2 : t ≤ 256) : ∀ (n V : Nat), V ≤ n → ∀ d, (pushes t V V).reverse.head? = some d → d.toNat ≠ 0 := by
  intro n
  induction n with
  | zero =>
    intro V hV d hd
    obtain rfl : V = 0 := by omega
    simp [pushes] at hd
  | succ n ih =>
    intro V hV d hd
    by_cases h0 : V = 0
    · subst h0; simp [pushes] at hd
    · have hlt : V / t < V := Nat.div_lt_self (by omega) (by omega)
      have hm := Nat.mod_lt V (show 0 < t by omega)
      rw [pushes_pos t V ht (by omega), List.reverse_cons] at hd
      by_cases hq : V / t = 0
      · rw [hq] at hd
        simp only [pushes, List.reverse_nil, List.nil_append, List.head?_cons, Option.some.injEq] at hd
        have hVm : V % t = V := Nat.mod_eq_of_lt ((Nat.div_eq_zero_iff_lt (by omega)).1 hq)
        rw [← hd, UInt8.toNat_ofNat', Nat.mod_eq_of_lt (by omega)]; omega
      · refine ih (V / t) (by omega) d ?_
        cases hrev : (pushes t (V / t) (V / t)).reverse with
        | nil =>
          have := congrArg List.length hrev
          rw [pushes_pos t _ ht (Nat.pos_of_ne_zero hq)] at this
          simp at this
        | cons x xs => rw [hrev] at hd; simpa using hd
theorem pushes_digits (t : Nat) (ht : 2 ≤ t) (ht2 : t ≤ 256) (V : Nat) : ∀ d ∈ pushes t V V, d.toNat < t := pushes_lt t (by omega) ht2 V V
end Go.Proofs.YtmfligfcejhjaaaDoor
