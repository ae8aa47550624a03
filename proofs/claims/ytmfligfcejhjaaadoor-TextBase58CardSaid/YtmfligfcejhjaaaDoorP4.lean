/- Base conversion to a greater base: no more digits than there were. -/
import Derived.Test.YtmfligfcejhjaaaDoorP3
namespace Go.Proofs.YtmfligfcejhjaaaDoor

theorem carry_lt (f t c x : Nat) (hf : 1 ≤ f) (ht : 1 ≤ t) (hc : c < f) (hx : x < t) : (c + x * f) / t < f := by
  rw [Nat.div_lt_iff_lt_mul (by omega)]
  have h1 : x * f ≤ (t - 1) * f := Nat.mul_le_mul_right f (by omega)
  have h2 : (t - 1) * f + f = t * f := by rw [← Nat.succ_mul]; congr 1; omega
  have h3 : f * t = t * f := Nat.mul_comm _ _
  omega
theorem mid_carry (f t : Nat) (hf : 1 ≤ f) (ht : 1 ≤ t) : ∀ (xs : List UInt8) (c : Nat), (∀ x ∈ xs, x.toNat < t) → c < f → (mid f t xs c).2 < f
  | [], c, _, h => h
  | x :: xs, c, hx, h => by
    simp only [mid]
    exact mid_carry f t hf ht xs _ (fun y hy => hx y (by simp [hy])) (carry_lt f t c x.toNat hf ht h (hx x (by simp)))
theorem pushes_one (t : Nat) (ht : 2 ≤ t) (c : Nat) (hc : c < t) : (pushes t c c).length ≤ 1 := by
  by_cases h : c = 0
  · subst h; simp [pushes]
  · rw [pushes_pos t c ht (by omega), Nat.div_eq_of_lt hc]; simp [pushes]
theorem baseL_len1 (f t : Nat) (hf : 1 ≤ f) (hft : f ≤ t) (ht : 2 ≤ t) (ht2 : t ≤ 256) (l : List UInt8) (hl : ∀ d ∈ l, d.toNat < f) : (baseL f t l).length ≤ l.length := by
  induction hn : l.length generalizing l with
  | zero => rw [List.length_eq_zero_iff.1 hn]; simp [baseL]
  | succ n ih =>
    rcases List.eq_nil_or_concat l with rfl | ⟨l', d0, rfl⟩
    · simp [baseL]
    · rw [List.concat_eq_append] at hl hn ⊢
      have ih := ih l' (fun d hd => hl d (by simp [hd])) (by simpa using hn)
      rw [baseL_snoc, baseStep, List.length_append, mid_len]
      have h1 := mid_carry f t hf (by omega) (baseL f t l') d0.toNat (baseL_lt f t (by omega) ht2 l') (hl d0 (by simp))
      have h2 := pushes_one t ht _ (show (mid f t (baseL f t l') d0.toNat).2 < t by omega)
      omega
end Go.Proofs.YtmfligfcejhjaaaDoor
