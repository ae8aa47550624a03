/- Numbers of words of 64 bits: plain facts. | The curve's field, plain: what its functions are to come to. | Words in memory; the fold's and the power's plain facts. -/

/-! Numbers of words of 64 bits: plain facts. -/
namespace Go.Proofs.YtcjioogololnoaaGreatDoor

/-- Words as a number, the lowest first. -/
def wv : List Nat → Nat
  | [] => 0
  | a :: l => a + 18446744073709551616 * wv l
theorem p64 (j : Nat) : 2 ^ (64 * (j + 1)) = 18446744073709551616 * 2 ^ (64 * j) := by
  rw [Nat.mul_add, Nat.pow_add, Nat.mul_comm]
theorem wv_append (a b : List Nat) : wv (a ++ b) = wv a + 2 ^ (64 * a.length) * wv b := by
  induction a with
  | nil => simp [wv]
  | cons x a ih => rw [List.cons_append, wv, ih, wv, List.length_cons, p64, Nat.mul_add, Nat.mul_assoc, Nat.add_assoc]
theorem wv_zeros (n : Nat) : wv (List.replicate n 0) = 0 := by
  induction n with
  | zero => rfl
  | succ n ih => rw [List.replicate_succ, wv, ih]
theorem wv_set : ∀ (T : List Nat) (j : Nat) (h : j < T.length) (v : Nat), wv (T.set j v) + T[j] * 2 ^ (64 * j) = wv T + v * 2 ^ (64 * j)
  | x :: T, 0, _, v => by simp [wv]; omega
  | x :: T, j + 1, h, v => by
    have hj : j < T.length := by simpa using h
    have ih := wv_set T j hj v
    simp only [List.set_cons_succ, wv, List.getElem_cons_succ, p64]
    have e1 : T[j] * (18446744073709551616 * 2 ^ (64 * j)) = 18446744073709551616 * (T[j] * 2 ^ (64 * j)) := by rw [Nat.mul_left_comm]
    have e2 : v * (18446744073709551616 * 2 ^ (64 * j)) = 18446744073709551616 * (v * 2 ^ (64 * j)) := by rw [Nat.mul_left_comm]
    rw [e1, e2]
    omega
theorem wv_lt : ∀ (T : List Nat), (∀ x ∈ T, x < 18446744073709551616) → wv T < 2 ^ (64 * T.length)
  | [], _ => by simp [wv]
  | x :: T, h => by
    have ih := wv_lt T (fun y hy => h y (by simp [hy]))
    have hx := h x (by simp)
    rw [wv, List.length_cons, p64]
    omega
theorem wv_take (T : List Nat) (k : Nat) (h : k < T.length) : wv (T.take (k + 1)) = wv (T.take k) + T[k] * 2 ^ (64 * k) := by
  rw [List.take_succ_eq_append_getElem h, wv_append, List.length_take, Nat.min_eq_left (by omega), wv, wv]
  simp [Nat.mul_comm]
theorem wv_at (T : List Nat) (j : Nat) (h : j < T.length) : T[j] * 2 ^ (64 * j) ≤ wv T := by
  have h1 := wv_set T j h 0
  omega
theorem wv_drop (T : List Nat) (j : Nat) : wv T = wv (T.take j) + 2 ^ (64 * (T.take j).length) * wv (T.drop j) := by
  rw [← wv_append, List.take_append_drop]
def dw (n i : Nat) : Nat := n / 2 ^ (64 * i) % 18446744073709551616
def num4 (n : Nat) : List Nat := [dw n 0, dw n 1, dw n 2, dw n 3]
theorem dw_lt (n i : Nat) : dw n i < 18446744073709551616 := Nat.mod_lt _ (by decide)
theorem num4_lt (n : Nat) : ∀ x ∈ num4 n, x < 18446744073709551616 := by
  simp only [num4, List.mem_cons, List.not_mem_nil, or_false]
  rintro x (rfl | rfl | rfl | rfl) <;> exact dw_lt _ _
theorem num4_length (n : Nat) : (num4 n).length = 4 := rfl
theorem wv_num4 (n : Nat) (h : n < 2 ^ 256) : wv (num4 n) = n := by
  simp only [num4, wv, dw, show 64 * 0 = 0 from rfl, show 64 * 1 = 64 from rfl, show 64 * 2 = 128 from rfl, show 64 * 3 = 192 from rfl]
  omega
theorem num4_wv (T : List Nat) (hl : T.length = 4) (h : ∀ x ∈ T, x < 18446744073709551616) : num4 (wv T) = T := by
  match T, hl with
  | [a, b, c, d], _ =>
    have ha := h a (by simp)
    have hb := h b (by simp)
    have hc := h c (by simp)
    have hd := h d (by simp)
    simp only [num4, wv, dw, show 64 * 0 = 0 from rfl, show 64 * 1 = 64 from rfl, show 64 * 2 = 128 from rfl, show 64 * 3 = 192 from rfl, List.cons.injEq, and_true]
    refine ⟨by omega, by omega, by omega, by omega⟩
/-- One step of the school method: what is written, and what is carried on. -/
theorem mac (a b c t : Nat) (ha : a < 18446744073709551616) (hb : b < 18446744073709551616) (hc : c < 18446744073709551616) (ht : t < 18446744073709551616) :
    a * b / 18446744073709551616 + (a * b % 18446744073709551616 + c) / 18446744073709551616 < 18446744073709551616 ∧
    a * b / 18446744073709551616 + (a * b % 18446744073709551616 + c) / 18446744073709551616 + (t + (a * b % 18446744073709551616 + c) % 18446744073709551616) / 18446744073709551616 < 18446744073709551616 ∧
    (t + (a * b % 18446744073709551616 + c) % 18446744073709551616) % 18446744073709551616 + 18446744073709551616 * (a * b / 18446744073709551616 + (a * b % 18446744073709551616 + c) / 18446744073709551616 + (t + (a * b % 18446744073709551616 + c) % 18446744073709551616) / 18446744073709551616) = t + a * b + c := by
  have h1 : a * b ≤ 18446744073709551615 * 18446744073709551615 := Nat.mul_le_mul (by omega) (by omega)
  generalize a * b = p at *
  refine ⟨by omega, by omega, by omega⟩
/-- Its sum in the row of words: word i + k takes it up. -/
theorem mac_row (T : List Nat) (j : Nat) (h : j < T.length) (p c c' t' : Nat) (he : t' + 18446744073709551616 * c' = T[j] + p + c) : wv (T.set j t') + c' * 2 ^ (64 * (j + 1)) = wv T + p * 2 ^ (64 * j) + c * 2 ^ (64 * j) := by
  have h1 := wv_set T j h t'
  rw [p64]
  have h2 : (t' + 18446744073709551616 * c') * 2 ^ (64 * j) = (T[j] + p + c) * 2 ^ (64 * j) := by rw [he]
  rw [Nat.add_mul, Nat.add_mul, Nat.add_mul] at h2
  have e1 : c' * (18446744073709551616 * 2 ^ (64 * j)) = 18446744073709551616 * c' * 2 ^ (64 * j) := by rw [← Nat.mul_assoc, Nat.mul_comm c']
  rw [e1]
  omega
end Go.Proofs.YtcjioogololnoaaGreatDoor

/-! The curve's field, plain: what its functions are to come to. -/
namespace Go.Proofs.YtcjioogololnoaaGreatDoor

def fieldP : Nat := 115792089237316195423570985008687907853269984665640564039457584007908834671663
def fieldN : Nat := 115792089237316195423570985008687907852837564279074904382605163141518161494337
/-- Square and multiply, from the top bit on: behind j bits. -/
def pwB (m x e : Nat) : Nat → Nat
  | 0 => 1
  | j + 1 => if e / 2 ^ (255 - j) % 2 = 1 then pwB m x e j * pwB m x e j % m * x % m else pwB m x e j * pwB m x e j % m
def pw (m x e : Nat) : Nat := pwB m x e 256
/-- Bytes as a number, the greatest first. -/
def beN (b : List UInt8) : Nat := b.foldl (fun a c => a * 256 + c.toNat) 0
def isKey (b : List UInt8) : Bool := decide (beN b ≠ 0) && decide (beN b < fieldN)
def square7 (x : Nat) : Nat := (x * x % fieldP * x % fieldP + 7) % fieldP
def rootP (x : Nat) : Nat := pw fieldP (square7 x) ((fieldP + 1) / 4)
def onCurve (x : Nat) : Bool := decide (rootP x * rootP x % fieldP = square7 x)
def isPub (b : List UInt8) : Bool :=
  match b with
  | [] => false
  | h :: t => decide (t.length = 32) && (decide (h = 2) || decide (h = 3)) && decide (beN t < fieldP) && onCurve (beN t)
theorem beN_run (b : List UInt8) : ∀ v, b.foldl (fun a c => a * 256 + c.toNat) v = v * 256 ^ b.length + beN b := by
  induction b with
  | nil => intro v; simp [beN]
  | cons c b ih =>
    intro v
    have h0 : beN (c :: b) = c.toNat * 256 ^ b.length + beN b := by
      rw [beN, List.foldl_cons, ih]; simp
    rw [List.foldl_cons, ih, h0, List.length_cons, Nat.pow_succ, Nat.add_mul, Nat.mul_assoc, Nat.mul_comm 256, Nat.add_assoc]
theorem beN_append (a b : List UInt8) : beN (a ++ b) = beN a * 256 ^ b.length + beN b := by
  rw [beN, List.foldl_append, beN_run]; rfl
theorem beN_snoc (a : List UInt8) (c : UInt8) : beN (a ++ [c]) = beN a * 256 + c.toNat := by simp [beN]
theorem beN_cons (c : UInt8) (b : List UInt8) : beN (c :: b) = c.toNat * 256 ^ b.length + beN b := by
  have := beN_append [c] b
  simpa [beN] using this
theorem beN_lt (b : List UInt8) : beN b < 256 ^ b.length := by
  induction b with
  | nil => simp [beN]
  | cons c b ih =>
    rw [beN_cons, List.length_cons, Nat.pow_succ]
    have := c.toNat_lt
    have h2 : c.toNat * 256 ^ b.length ≤ 255 * 256 ^ b.length := Nat.mul_le_mul_right _ (by omega)
    omega
theorem pw_awake : isPub [2, 198, 4, 127, 148, 65, 237, 125, 109, 48, 69, 64, 110, 149, 192, 124, 216, 92, 119, 142, 75, 140, 239, 60, 167, 171, 172, 9, 185, 92, 112, 158, 229] = true := by decide +kernel
end Go.Proofs.YtcjioogololnoaaGreatDoor

/-! Words in memory; the fold's and the power's plain facts. -/
namespace Go.Proofs.YtcjioogololnoaaGreatDoor
theorem bit_word (e i : Nat) (h : i < 256) : dw e (i / 64) / 2 ^ (i % 64) % 2 = e / 2 ^ i % 2 := by
  have h1 : e / 2 ^ i = e / 2 ^ (64 * (i / 64)) / 2 ^ (i % 64) := by
    rw [Nat.div_div_eq_div_mul, ← Nat.pow_add, Nat.div_add_mod]
  rw [h1, dw]
  generalize e / 2 ^ (64 * (i / 64)) = x
  have hr : i % 64 < 64 := Nat.mod_lt _ (by decide)
  generalize i % 64 = r at hr ⊢
  have e1 : (18446744073709551616 : Nat) = 2 ^ r * 2 ^ (64 - r) := by rw [← Nat.pow_add, show r + (64 - r) = 64 by omega]
  rw [e1, Nat.mod_mul_right_div_self]
  have e2 : (2 : Nat) ^ (64 - r) = 2 * 2 ^ (63 - r) := by rw [show 64 - r = (63 - r) + 1 by omega, Nat.pow_succ, Nat.mul_comm]
  rw [e2, Nat.mod_mul_right_mod]
/-- What lies above 2^256 counts d times: the same number modulo m. -/
theorem fold_mod (m d L H : Nat) (h : m + d = 2 ^ 256) : (L + H * d) % m = (L + 2 ^ 256 * H) % m := by
  rw [← h, show L + (m + d) * H = L + H * d + m * H by rw [Nat.add_mul, Nat.mul_comm d H]; omega, Nat.add_mul_mod_self_left]
theorem fold_less (d L H : Nat) (hd : d < 2 ^ 256) (h : 0 < H) : L + H * d < L + 2 ^ 256 * H := by
  have : H * d < H * 2 ^ 256 := Nat.mul_lt_mul_of_pos_left hd h
  rw [Nat.mul_comm (2 ^ 256)]
  omega
theorem once_mod (m d x : Nat) (h : m + d = 2 ^ 256) (hd : d < m) (hx : x < 2 ^ 256) : (if x < m then x else x - m) = x % m := by
  by_cases hlt : x < m
  · rw [if_pos hlt, Nat.mod_eq_of_lt hlt]
  · rw [if_neg hlt, Nat.mod_eq_sub_mod (by omega), Nat.mod_eq_of_lt (by omega)]
end Go.Proofs.YtcjioogololnoaaGreatDoor
