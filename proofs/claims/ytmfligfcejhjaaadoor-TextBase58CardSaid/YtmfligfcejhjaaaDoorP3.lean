/- Base 58: plain facts. -/
import Derived.Test.YtmfligfcejhjaaaDoorP2
namespace Go.Proofs.YtmfligfcejhjaaaDoor

def letters58 : List UInt8 := [49, 50, 51, 52, 53, 54, 55, 56, 57, 65, 66, 67, 68, 69, 70, 71, 72, 74, 75, 76, 77, 78, 80, 81, 82, 83, 84, 85, 86, 87, 88, 89, 90, 97, 98, 99, 100, 101, 102, 103, 104, 105, 106, 107, 109, 110, 111, 112, 113, 114, 115, 116, 117, 118, 119, 120, 121, 122]
def let58 (d : UInt8) : UInt8 := letters58.getD d.toNat 0
theorem letters58_at (d : UInt8) (h : d.toNat < (⟨letters58.toArray⟩ : ByteArray).size) : (⟨letters58.toArray⟩ : ByteArray)[d.toNat] = let58 d := by
  have h' : d.toNat < letters58.length := h
  show letters58.toArray[d.toNat]'(by simpa using h') = _
  simp [let58, h']
/-- How many noughts at the beginning. -/
def lz : List UInt8 → Nat
  | [] => 0
  | b :: bs => if b = 0 then lz bs + 1 else 0
theorem lz_le : ∀ bs : List UInt8, lz bs ≤ bs.length
  | [] => by simp [lz]
  | b :: bs => by have := lz_le bs; simp only [lz]; split <;> simp <;> omega
theorem lz_of : ∀ (bs : List UInt8) (k : Nat) (_ : k ≤ bs.length) (_ : ∀ j (h : j < bs.length), j < k → bs[j] = 0) (_ : ∀ h : k < bs.length, bs[k] ≠ 0), lz bs = k
  | [], k, hk, _, _ => by simp at hk; subst hk; rfl
  | b :: bs, 0, _, _, hn => by have := hn (by simp); simp at this; simp [lz, this]
  | b :: bs, k + 1, hk, hz, hn => by
    have h0 : b = 0 := hz 0 (by simp) (by omega)
    have := lz_of bs k (by simpa using hk) (fun j h hj => by have := hz (j + 1) (by simpa using h) (by omega); simpa using this) (fun h => by have := hn (by simpa using h); simpa using this)
    simp [lz, h0, this]
theorem pushes_lt (t : Nat) (ht : 0 < t) (ht2 : t ≤ 256) : ∀ (n c : Nat), ∀ d ∈ pushes t n c, d.toNat < t
  | 0, c => by simp [pushes]
  | n + 1, c => by
    intro d hd
    unfold pushes at hd
    split at hd
    · simp at hd
    · simp only [List.mem_cons] at hd
      rcases hd with rfl | hd
      · have := Nat.mod_lt c ht
        simp; rw [Nat.mod_eq_of_lt (by omega)]; omega
      · exact pushes_lt t ht ht2 n _ d hd
theorem mid_lt (f t : Nat) (ht : 0 < t) (ht2 : t ≤ 256) : ∀ (xs : List UInt8) (c : Nat), ∀ d ∈ (mid f t xs c).1, d.toNat < t
  | [], c => by simp [mid]
  | x :: xs, c => by
    intro d hd
    simp only [mid, List.mem_cons] at hd
    rcases hd with rfl | hd
    · have := Nat.mod_lt (c + x.toNat * f) ht
      simp; rw [Nat.mod_eq_of_lt (by omega)]; omega
    · exact mid_lt f t ht ht2 xs _ d hd
theorem baseStep_lt (f t : Nat) (ht : 0 < t) (ht2 : t ≤ 256) (xs : List UInt8) (c : Nat) : ∀ d ∈ baseStep f t xs c, d.toNat < t := by
  intro d hd
  simp only [baseStep, List.mem_append] at hd
  rcases hd with hd | hd
  · exact mid_lt f t ht ht2 _ _ d hd
  · exact pushes_lt t ht ht2 _ _ d hd
theorem baseL_lt (f t : Nat) (ht : 0 < t) (ht2 : t ≤ 256) (l : List UInt8) : ∀ d ∈ baseL f t l, d.toNat < t := by
  rcases List.eq_nil_or_concat l with rfl | ⟨l', d0, rfl⟩
  · simp [baseL]
  · rw [List.concat_eq_append, baseL_snoc]
    exact baseStep_lt f t ht ht2 _ _
def b58L (bs : List UInt8) : List UInt8 := List.replicate (lz bs) 49 ++ (baseL 256 58 bs).reverse.map let58
end Go.Proofs.YtmfligfcejhjaaaDoor
