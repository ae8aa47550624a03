/- Base conversion, digit by digit: plain facts. -/
namespace Go.Proofs.YtmfligfcejhjaaaDoor

/-- What is left of a carry, its digits from the lowest on. -/
def pushes (t : Nat) : Nat → Nat → List UInt8
  | 0, _ => []
  | fuel + 1, c => if c = 0 then [] else UInt8.ofNat (c % t) :: pushes t fuel (c / t)
/-- The digits of xs times f plus a carry, as many as there were; what is left. -/
def mid (f t : Nat) : List UInt8 → Nat → List UInt8 × Nat
  | [], c => ([], c)
  | x :: xs, c => (UInt8.ofNat ((c + x.toNat * f) % t) :: (mid f t xs ((c + x.toNat * f) / t)).1, (mid f t xs ((c + x.toNat * f) / t)).2)
def baseStep (f t : Nat) (xs : List UInt8) (c : Nat) : List UInt8 := (mid f t xs c).1 ++ pushes t (mid f t xs c).2 (mid f t xs c).2
def baseL (f t : Nat) (l : List UInt8) : List UInt8 := l.foldl (fun out d => baseStep f t out d.toNat) []
theorem baseL_snoc (f t : Nat) (l : List UInt8) (d : UInt8) : baseL f t (l ++ [d]) = baseStep f t (baseL f t l) d.toNat := by simp [baseL]

theorem pushes_fuel (t : Nat) (ht : 2 ≤ t) : ∀ (m n c : Nat), c ≤ m → c ≤ n → pushes t m c = pushes t n c := by
  intro m
  induction m with
  | zero => intro n c h1 h2; cases n with
    | zero => rfl
    | succ n => simp [pushes, show c = 0 by omega]
  | succ m ih =>
    intro n c h1 h2
    by_cases hc : c = 0
    · subst hc; cases n <;> simp [pushes]
    · cases n with
      | zero => omega
      | succ n =>
        simp only [pushes, hc, if_false]
        have : c / t < c := Nat.div_lt_self (by omega) (by omega)
        rw [ih n (c / t) (by omega) (by omega)]
theorem pushes_pos (t c : Nat) (ht : 2 ≤ t) (hc : 0 < c) : pushes t c c = UInt8.ofNat (c % t) :: pushes t (c / t) (c / t) := by
  obtain ⟨m, rfl⟩ : ∃ m, c = m + 1 := ⟨c - 1, by omega⟩
  simp only [pushes, Nat.add_eq_zero_iff, Nat.one_ne_zero, and_false, if_false]
  have : (m + 1) / t < m + 1 := Nat.div_lt_self (by omega) (by omega)
  rw [pushes_fuel t ht m ((m + 1) / t) _ (by omega) (Nat.le_refl _)]
theorem pushes_zero (t : Nat) : pushes t 0 0 = [] := rfl
theorem pushes_len (t : Nat) (ht : 2 ≤ t) : ∀ (k c : Nat), c < 2 ^ k → (pushes t c c).length ≤ k := by
  intro k
  induction k with
  | zero => intro c hc; simp at hc; subst hc; simp [pushes]
  | succ k ih =>
    intro c hc
    by_cases h0 : c = 0
    · subst h0; simp [pushes]
    · rw [pushes_pos t c ht (by omega)]
      have h1 : c / t ≤ c / 2 := Nat.div_le_div_left ht (by omega)
      have h2 : c / 2 < 2 ^ k := by rw [Nat.pow_succ] at hc; omega
      have := ih (c / t) (by omega)
      simp; omega
theorem mid_snoc (f t : Nat) : ∀ (xs : List UInt8) (y : UInt8) (c : Nat),
    mid f t (xs ++ [y]) c = ((mid f t xs c).1 ++ [UInt8.ofNat (((mid f t xs c).2 + y.toNat * f) % t)], ((mid f t xs c).2 + y.toNat * f) / t)
  | [], y, c => by simp [mid]
  | x :: xs, y, c => by simp only [List.cons_append, mid, mid_snoc f t xs y]
theorem mid_len (f t : Nat) : ∀ (xs : List UInt8) (c : Nat), (mid f t xs c).1.length = xs.length
  | [], c => rfl
  | x :: xs, c => by simp [mid, mid_len f t xs]
theorem mid_le (f t : Nat) (hf : f ≤ 256) (ht : 2 ≤ t) : ∀ (xs : List UInt8) (c : Nat), c ≤ 65536 → (mid f t xs c).2 ≤ 65536
  | [], c, h => h
  | x :: xs, c, h => by
    simp only [mid]
    refine mid_le f t hf ht xs _ ?_
    have hx := x.toNat_lt
    have h1 : x.toNat * f ≤ 255 * 256 := Nat.mul_le_mul (by omega) hf
    have h2 : (c + x.toNat * f) / t ≤ (c + x.toNat * f) / 2 := Nat.div_le_div_left ht (by omega)
    omega
theorem baseStep_len (f t : Nat) (hf : f ≤ 256) (ht : 2 ≤ t) (xs : List UInt8) (c : Nat) (hc : c ≤ 65536) : (baseStep f t xs c).length ≤ xs.length + 17 := by
  unfold baseStep
  have h1 := mid_le f t hf ht xs c hc
  have h2 := pushes_len t ht 17 (mid f t xs c).2 (by omega)
  rw [List.length_append, mid_len]; omega
theorem baseL_len (f t : Nat) (hf : f ≤ 256) (ht : 2 ≤ t) (l : List UInt8) : (baseL f t l).length ≤ 17 * l.length := by
  have : ∀ (l : List UInt8) (xs : List UInt8), (l.foldl (fun out d => baseStep f t out d.toNat) xs).length ≤ xs.length + 17 * l.length := by
    intro l
    induction l with
    | nil => intro xs; simp
    | cons d l ih =>
      intro xs
      have h1 := ih (baseStep f t xs d.toNat)
      have h2 := baseStep_len f t hf ht xs d.toNat (by have := d.toNat_lt; omega)
      simp only [List.foldl_cons, List.length_cons]; omega
  unfold baseL
  simpa using this l []
end Go.Proofs.YtmfligfcejhjaaaDoor
