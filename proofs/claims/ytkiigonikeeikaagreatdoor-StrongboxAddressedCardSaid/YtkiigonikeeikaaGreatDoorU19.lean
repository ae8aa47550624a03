/- ref02.Sum256. | ref02.Double. | ref03.Check58, FromCheck58. | Base 58: there and back, plain. -/
import Derived.Test.YtkiigonikeeikaaGreatDoorU11
import Derived.Test.YtkiigonikeeikaaGreatDoorU18

/-! ref02.Sum256. -/
namespace Go.Proofs.YtkiigonikeeikaaGreatDoor
open Go.RowKit Go.Shelf

/-- A word, byte by byte. -/
def wpart (b : List UInt8) (t : Nat) : Nat → BitVec 32
  | 0 => 0
  | i + 1 => wpart b t i * 256 + (b.getD (4 * t + i) 0).toBitVec.setWidth 32
theorem or_add (a c n : Nat) (h : c < 2 ^ n) : a * 2 ^ n ||| c = a * 2 ^ n + c := by
  rw [Nat.mul_comm, ← Nat.two_pow_add_eq_or_of_lt h]
theorem wpart_word (b : List UInt8) (t : Nat) : wpart b t 4 = word b t := by
  simp only [wpart, word]
  obtain ⟨x0, e0⟩ : ∃ x, x = b.getD (4 * t) 0 := ⟨_, rfl⟩
  obtain ⟨x1, e1⟩ : ∃ x, x = b.getD (4 * t + 1) 0 := ⟨_, rfl⟩
  obtain ⟨x2, e2⟩ : ∃ x, x = b.getD (4 * t + 2) 0 := ⟨_, rfl⟩
  obtain ⟨x3, e3⟩ : ∃ x, x = b.getD (4 * t + 3) 0 := ⟨_, rfl⟩
  rw [Nat.add_zero, ← e0, ← e1, ← e2, ← e3]
  have h0 := x0.toNat_lt
  have h1 := x1.toNat_lt
  have h2 := x2.toNat_lt
  have h3 := x3.toNat_lt
  apply BitVec.eq_of_toNat_eq
  simp only [BitVec.toNat_or, BitVec.toNat_shiftLeft, BitVec.toNat_setWidth, BitVec.toNat_add, BitVec.toNat_mul, UInt8.toNat_toBitVec, Nat.shiftLeft_eq, BitVec.toNat_ofNat]
  rw [Nat.mod_eq_of_lt (show x0.toNat < 2 ^ 32 by omega), Nat.mod_eq_of_lt (show x1.toNat < 2 ^ 32 by omega), Nat.mod_eq_of_lt (show x2.toNat < 2 ^ 32 by omega), Nat.mod_eq_of_lt (show x3.toNat < 2 ^ 32 by omega)]
  rw [Nat.mod_eq_of_lt (show x0.toNat * 2 ^ 24 < 2 ^ 32 by omega), Nat.mod_eq_of_lt (show x1.toNat * 2 ^ 16 < 2 ^ 32 by omega), Nat.mod_eq_of_lt (show x2.toNat * 2 ^ 8 < 2 ^ 32 by omega)]
  rw [or_add x0.toNat _ 24 (by omega), show x0.toNat * 2 ^ 24 + x1.toNat * 2 ^ 16 = (x0.toNat * 2 ^ 8 + x1.toNat) * 2 ^ 16 by omega, or_add _ _ 16 (by omega),
    show (x0.toNat * 2 ^ 8 + x1.toNat) * 2 ^ 16 + x2.toNat * 2 ^ 8 = ((x0.toNat * 2 ^ 8 + x1.toNat) * 2 ^ 8 + x2.toNat) * 2 ^ 8 by omega, or_add _ _ 8 (by omega)]
  rw [show BitVec.toNat (0 : BitVec 32) = 0 from rfl, show BitVec.toNat (256 : BitVec 32) = 256 from rfl]
  omega
theorem sp_mac (x : BitVec 32) (y : UInt8) : ((x.toNat : Int) * 256 % 4294967296 + (y.toNat : Int)) % 4294967296 = ((x * 256 + y.toBitVec.setWidth 32).toNat : Int) := by
  have h := y.toNat_lt
  rw [BitVec.toNat_add, BitVec.toNat_mul, BitVec.toNat_setWidth, UInt8.toNat_toBitVec, show BitVec.toNat (256 : BitVec 32) = 256 from rfl]
  omega
theorem sp_mac2 (x : BitVec 32) (y : UInt8) : (x.toNat : Int) * 256 % 4294967296 + (y.toNat : Int) = ((x * 256 + y.toBitVec.setWidth 32).toNat : Int) := by
  have h := y.toNat_lt
  rw [← sp_mac]; omega
theorem w32_one (xs : List (BitVec 32)) : (W32 xs).toArray.all (·.oneCell') = true := all_oneCell_toArray fun v hv => by
  obtain ⟨x, _, rfl⟩ := List.mem_map.1 hv; rfl
theorem one8 (a b c d e f g h : Int) : (#[.int .u32 a, .int .u32 b, .int .u32 c, .int .u32 d, .int .u32 e, .int .u32 f, .int .u32 g, .int .u32 h] : Array Value).all (·.oneCell') = true :=
  all_oneCell_toArray (cs := [.int .u32 a, .int .u32 b, .int .u32 c, .int .u32 d, .int .u32 e, .int .u32 f, .int .u32 g, .int .u32 h]) fun v hv => by
    simp at hv; rcases hv with rfl | rfl | rfl | rfl | rfl | rfl | rfl | rfl <;> rfl
theorem grown_below {w a c : World} {g B : Nat} (h : w.grownBy a (some g)) (k : Below B a c) (hB : w.heap.size ≤ B) : w.grownBy c (some g) :=
  ⟨k.os.trans h.os, k.tape.trans h.tape, k.output.trans h.output, Nat.le_trans h.size k.size, fun j hj hne => (k.block j (by omega)).trans (h.block j hj hne)⟩
theorem msg_mod (b : List UInt8) : (msg b).length % 64 = 0 := by
  rw [msg, List.length_append, tailL_length _ _ (Nat.le_refl _)]; omega
theorem msg_len (b : List UInt8) : (msg b).length ≤ b.length + 72 := by
  rw [msg, List.length_append, tailL_length _ _ (Nat.le_refl _)]; omega
/-- The words' row while its head is being read. -/
def rowW (b : List UInt8) (t : Nat) : List Value := W32 ((wds b).take t) ++ List.replicate (64 - t) (.int .u32 0)
theorem rowW_length (b : List UInt8) (t : Nat) (h : t ≤ 64) : (rowW b t).length = 64 := by simp [rowW, wds_length]; omega
theorem rowW_at (b : List UInt8) (t : Nat) (h : t < 64) : (rowW b t)[t]? = some (.int .u32 0) := by
  rw [rowW, List.getElem?_append_right (by simp [wds_length]; omega)]
  have hl : (W32 ((wds b).take t)).length = t := by simp [wds_length]; omega
  rw [hl, Nat.sub_self, show 64 - t = (64 - (t + 1)) + 1 by omega, List.replicate_succ]; rfl
theorem rowW_set (b : List UInt8) (t : Nat) (h : t < 64) : (rowW b t).set t (.int .u32 ((wd b t).toNat : Int)) = rowW b (t + 1) := by
  have hl : (W32 ((wds b).take t)).length = t := by simp [wds_length]; omega
  rw [rowW, List.set_append_right _ _ (by omega), hl, Nat.sub_self, show 64 - t = (64 - (t + 1)) + 1 by omega, List.replicate_succ, List.set_cons_zero, rowW]
  have hw : (wds b)[t]? = some (wd b t) := by simp [wds, h]
  rw [List.take_add_one, hw]
  simp [W32]
theorem rowW_known (b : List UInt8) (t j : Nat) (h : t ≤ 64) (hj : j < t) : (rowW b t)[j]? = (W32 (wds b))[j]? := by
  rw [rowW, List.getElem?_append_left (by simp [wds_length]; omega)]
  simp [W32, List.getElem?_take, hj]
theorem be32_at (st : List (BitVec 32)) (k : Nat) (h : k < 4 * st.length) : (be32 st)[k]? = some (UInt8.ofNat ((st[k / 4]'(by omega)).toNat / 2 ^ (24 - 8 * (k % 4)))) := by
  obtain ⟨g0, g1, g2, g3⟩ := be32_get st (k / 4) (by omega)
  have : k % 4 = 0 ∨ k % 4 = 1 ∨ k % 4 = 2 ∨ k % 4 = 3 := by omega
  rcases this with e | e | e | e
  · rw [e]; rw [show 4 * (k / 4) = k by omega] at g0; exact g0
  · rw [e]; rw [show 4 * (k / 4) + 1 = k by omega] at g1; exact g1
  · rw [e]; rw [show 4 * (k / 4) + 2 = k by omega] at g2; exact g2
  · rw [e]; rw [show 4 * (k / 4) + 3 = k by omega] at g3; simpa using g3

end Go.Proofs.YtkiigonikeeikaaGreatDoor

/-! ref02.Double. -/
namespace Go.Proofs.YtkiigonikeeikaaGreatDoor
open Go.RowKit Go.Shelf

end Go.Proofs.YtkiigonikeeikaaGreatDoor

/-! ref03.Check58, FromCheck58. -/
namespace Go.Proofs.YtkiigonikeeikaaGreatDoor
open Go.RowKit Go.Shelf

section
variable {P : Program} {ops : Array Oper} {Q : Act → World → Prop} {st : Nat → (Act → World → Prop) → Act → World → Prop} {N : Nat}
theorem wpPlan_str {i : Nat} {rest : List (Nat × Nat)} {o : Oper} {a : Act} {w : World} (ho : ops[i]? = some o) (hg : o.guard = none) (src dst E : TypeId) (x : Operand) (hop : o.op = .convert src dst x)
    (hs : P.underlying src = some (.slice E)) (he : P.underlying E = some (.int .u8)) (hd : P.underlying dst = some .string)
    (A : Option Addr) (n c : Nat) (bs : List UInt8) (hx : a.eval x = .slice A n c) (hn : bs.length = n) (hsl : Sl w w.heap.size A (B8 bs))
    (h : wpPlan P ops Q st N rest (a.put o.dst (.string ⟨bs.toArray⟩)) w) : wpPlan P ops Q st N ((i, 1) :: rest) a w := by
  simp only [wpPlan, if_true, ho, Nat.one_ne_zero, if_false]
  refine ⟨_, .inl ⟨by simp [Region.wanted, hg], fun w' hw' => ?_⟩, h⟩
  have hstr := run_str_Sl (P := P) w' src dst E hs he hd _ A c bs (hsl.below hw'.below)
  rw [hn] at hstr
  unfold execOp
  simp only [hop, hx, Sem.run_bind, hstr, Result.andThen_ok]
  rfl
end
end Go.Proofs.YtkiigonikeeikaaGreatDoor

/-! Base 58: there and back, plain. -/
namespace Go.Proofs.YtkiigonikeeikaaGreatDoor
open Go.RowKit

theorem horner_front (f : Nat) (l : List UInt8) : ∀ z : Nat, horner f (List.replicate z 0 ++ l) = horner f l
  | 0 => rfl
  | z + 1 => by
    rw [List.replicate_succ, List.cons_append]
    have h := horner_front f l z
    unfold horner at h ⊢
    rw [List.foldl_cons]
    simpa using h
theorem horner_lt (f : Nat) (hf : 1 ≤ f) (l : List UInt8) (hl : ∀ d ∈ l, d.toNat < f) : horner f l < f ^ l.length := by
  induction hn : l.length generalizing l with
  | zero => rw [List.length_eq_zero_iff.1 hn]; simp [horner]
  | succ n ih =>
    rcases List.eq_nil_or_concat l with rfl | ⟨l', d0, rfl⟩
    · simp at hn
    · rw [List.concat_eq_append] at hn hl ⊢
      rw [horner_snoc, Nat.pow_succ]
      have h1 := ih l' (fun d hd => hl d (by simp [hd])) (by simpa using hn)
      have h2 := hl d0 (by simp)
      have h3 : (horner f l' + 1) * f ≤ f ^ n * f := Nat.mul_le_mul_right f h1
      rw [Nat.add_mul] at h3
      omega
theorem pushes_lenT (t : Nat) (ht : 2 ≤ t) : ∀ (k c : Nat), c < t ^ k → (pushes t c c).length ≤ k
  | 0, c, h => by
    obtain rfl : c = 0 := by simpa using h
    simp [pushes]
  | k + 1, c, h => by
    by_cases h0 : c = 0
    · subst h0; simp [pushes]
    · rw [pushes_pos t c ht (by omega), List.length_cons]
      have := pushes_lenT t ht k (c / t) (by rw [Nat.div_lt_iff_lt_mul (by omega)]; rwa [← Nat.pow_succ])
      omega
theorem pow_256_58 (m : Nat) : 256 ^ m ≤ 58 ^ (3 * ((m + 1) / 2)) := by
  have h1 : 256 ^ m ≤ 256 ^ (2 * ((m + 1) / 2)) := Nat.pow_le_pow_right (by omega) (by omega)
  have h2 : 256 ^ (2 * ((m + 1) / 2)) ≤ 58 ^ (3 * ((m + 1) / 2)) := by
    rw [Nat.pow_mul, Nat.pow_mul]
    exact Nat.pow_le_pow_left (by decide) _
  omega
/-- The noughts in front, and the rest. -/
theorem lz_split : ∀ b : List UInt8, ∃ r, b = List.replicate (lz b) 0 ++ r ∧ ∀ d, r.head? = some d → d.toNat ≠ 0
  | [] => ⟨[], rfl, by simp⟩
  | x :: b => by
    by_cases hx : x = 0
    · obtain ⟨r, h1, h2⟩ := lz_split b
      refine ⟨r, ?_, h2⟩
      simp only [lz, if_pos hx, List.replicate_succ, List.cons_append]
      rw [← h1, hx]
    · refine ⟨x :: b, by simp [lz, hx], ?_⟩
      intro d hd e
      simp at hd
      subst hd
      exact hx (UInt8.toNat_inj.1 (by simpa using e))
theorem lz_replicate (z : Nat) (r : List UInt8) (h : ∀ d, r.head? = some d → d.toNat ≠ 0) : lz (List.replicate z 0 ++ r) = z := by
  induction z with
  | zero =>
    match r, h with
    | [], _ => rfl
    | x :: r, h =>
      have := h x rfl
      have hx : x ≠ 0 := fun e => this (by simp [e])
      simp [lz, hx]
  | succ z ih => simp [List.replicate_succ, lz, ih]

theorem dig_let (d : UInt8) (hd : d.toNat < 58) : dig58 (let58 d) = d := by
  have h : ∀ k : Fin 58, dig58 (let58 (UInt8.ofNat k.val)) = UInt8.ofNat k.val := by decide
  have := h ⟨d.toNat, hd⟩
  simpa using this
theorem let_mem (d : UInt8) (hd : d.toNat < 58) : let58 d ∈ letters58 := by
  have h : ∀ k : Fin 58, let58 (UInt8.ofNat k.val) ∈ letters58 := by decide
  have := h ⟨d.toNat, hd⟩
  simpa using this
theorem let_dig (c : UInt8) (hc : c ∈ letters58) : let58 (dig58 c) = c := by
  have h : ∀ c ∈ letters58, let58 (dig58 c) = c := by decide
  exact h c hc
theorem dig_zero (c : UInt8) (hc : c ∈ letters58) (h0 : (dig58 c).toNat = 0) : c = 49 := by
  have h : ∀ c ∈ letters58, (dig58 c).toNat = 0 → c = 49 := by decide
  exact h c hc h0
theorem let_one (d : UInt8) (hd : d.toNat < 58) (h : let58 d = 49) : d.toNat = 0 := by
  have hh : ∀ k : Fin 58, let58 (UInt8.ofNat k.val) = 49 → k.val = 0 := by decide
  have := hh ⟨d.toNat, hd⟩ (by simpa using h)
  exact this
theorem drop_ones (z : Nat) (r : List UInt8) (h : ∀ d, r.head? = some d → d ≠ 49) : (List.replicate z 49 ++ r).dropWhile (· == 49) = r := by
  induction z with
  | zero =>
    match r, h with
    | [], _ => rfl
    | x :: r, h =>
      have := h x rfl
      simp [this]
  | succ z ih => simp [List.replicate_succ, ih]
theorem byte_lt (l : List UInt8) : ∀ d ∈ l, d.toNat < 256 := fun d _ => d.toNat_lt

/-- WRITTEN AND READ BACK. -/
theorem from_to (b : List UInt8) (hb : b.length ≤ 124) : fromS (b58L b) = (0, b) := by
  obtain ⟨r, h1, h2⟩ := lz_split b
  obtain ⟨z, hz⟩ : ∃ z, z = lz b := ⟨_, rfl⟩
  rw [← hz] at h1
  obtain ⟨V, hV⟩ : ∃ V, V = horner 256 r := ⟨_, rfl⟩
  have hVb : horner 256 b = V := by rw [h1, horner_front, hV]
  have hbl : z + r.length = b.length := by rw [h1]; simp
  have hD : baseL 256 58 b = pushes 58 V V := by rw [baseL_pushes 256 58 (by omega) (by omega) (by omega), hVb]
  obtain ⟨D, hDD⟩ : ∃ D, D = pushes 58 V V := ⟨_, rfl⟩
  have hdig : ∀ d ∈ D, d.toNat < 58 := by rw [hDD]; exact pushes_digits 58 (by omega) (by omega) V
  have htop : ∀ d, D.reverse.head? = some d → d.toNat ≠ 0 := by rw [hDD]; exact pushes_top 58 (by omega) (by omega) V V (Nat.le_refl _)
  have hlen : D.length ≤ 3 * ((r.length + 1) / 2) := by
    rw [hDD]
    exact pushes_lenT 58 (by omega) _ _ (Nat.lt_of_lt_of_le (by rw [hV]; exact horner_lt 256 (by omega) r (byte_lt r)) (pow_256_58 _))
  have hs : b58L b = List.replicate z 49 ++ D.reverse.map let58 := by rw [b58L, ← hz, hD, hDD]
  have hsl : (b58L b).length = z + D.length := by rw [hs]; simp
  have hall : ∀ c ∈ b58L b, c ∈ letters58 := by
    intro c hc
    rw [hs, List.mem_append] at hc
    rcases hc with hc | hc
    · rw [(List.mem_replicate.1 hc).2]; decide
    · obtain ⟨d, hd, rfl⟩ := List.mem_map.1 hc
      exact let_mem d (hdig d (List.mem_reverse.1 hd))
  have hdrop : (b58L b).dropWhile (· == 49) = D.reverse.map let58 := by
    rw [hs]
    refine drop_ones z _ ?_
    intro d hd e
    rw [List.head?_map] at hd
    obtain ⟨x, hx, hxd⟩ := Option.map_eq_some_iff.1 hd
    exact htop x hx (let_one x (hdig x (List.mem_reverse.1 (List.mem_of_mem_head? hx))) (by rw [hxd, e]))
  have hmap : (b58L b).map dig58 = List.replicate z 0 ++ D.reverse := by
    rw [hs, List.map_append, List.map_replicate, List.map_map]
    congr 1
    conv => rhs; rw [← List.map_id D.reverse]
    exact List.map_congr_left fun d hd => dig_let d (hdig d (List.mem_reverse.1 hd))
  have hback : baseL 58 256 ((b58L b).map dig58) = r.reverse := by
    rw [baseL_pushes 58 256 (by omega) (by omega) (by omega), hmap, horner_front, hDD, horner_pushes 58 (by omega) (by omega) V V (Nat.le_refl _), hV]
    exact (pushes_horner 256 (by omega) r (byte_lt r) h2).1
  rw [fromS, if_neg (by omega), if_pos hall, hback, hdrop, hsl, List.reverse_reverse]
  rw [show z + D.length - (D.reverse.map let58).length = z from by simp, ← h1]
theorem fromC_to (b : List UInt8) (hb : b.length ≤ 120) : fromC (b58L (checked b)) = (0, b) := by
  have h := from_to (checked b) (by rw [checked_length]; omega)
  have hl := checked_length b
  unfold fromC
  rw [h]
  simp only [ne_eq, not_true_eq_false, if_false, hl]
  rw [if_neg (by omega), show b.length + 4 - 4 = b.length from by omega]
  have ht : (checked b).take b.length = b := by rw [checked]; simp
  have hd : (checked b).drop b.length = (sha (sha b)).take 4 := by rw [checked]; simp
  rw [ht, hd, if_pos rfl]
/-- READ AND WRITTEN AGAIN. -/
theorem to_from (s : List UInt8) (h : (fromS s).1 = 0) : b58L (fromS s).2 = s := by
  unfold fromS at h ⊢
  split at h
  · simp at h
  rename_i h250
  split at h
  case isFalse => simp at h
  rename_i hall
  rw [if_neg h250, if_pos hall]
  clear h
  obtain ⟨t, ht⟩ : ∃ t, t = s.dropWhile (· == 49) := ⟨_, rfl⟩
  obtain ⟨z, hz⟩ : ∃ z, z = s.length - t.length := ⟨_, rfl⟩
  have hs : s = List.replicate z 49 ++ t := by rw [hz, ht]; exact dropWhile_split s
  have hthead : ∀ d, t.head? = some d → d ≠ 49 := by
    intro d hd
    have := List.head?_dropWhile_not (· == 49) s
    rw [← ht, hd] at this
    simpa using this
  have htall : ∀ c ∈ t, c ∈ letters58 := fun c hc => hall c (by rw [hs]; simp [hc])
  have hmap : s.map dig58 = List.replicate z 0 ++ t.map dig58 := by
    rw [hs, List.map_append, List.map_replicate]; rfl
  obtain ⟨W, hW⟩ : ∃ W, W = horner 58 (t.map dig58) := ⟨_, rfl⟩
  have hbase : baseL 58 256 (s.map dig58) = pushes 256 W W := by
    rw [baseL_pushes 58 256 (by omega) (by omega) (by omega), hmap, horner_front, hW]
  show b58L (List.replicate (s.length - (s.dropWhile (· == 49)).length) 0 ++ (baseL 58 256 (s.map dig58)).reverse) = s
  rw [hbase, ← ht, ← hz, b58L, lz_replicate z _ (pushes_top 256 (by omega) (by omega) W W (Nat.le_refl _))]
  rw [baseL_pushes 256 58 (by omega) (by omega) (by omega), horner_front, horner_pushes 256 (by omega) (by omega) W W (Nat.le_refl _), hW]
  rw [(pushes_horner 58 (by omega) (t.map dig58) (fun d hd => by obtain ⟨c, hc, rfl⟩ := List.mem_map.1 hd; exact dig58_lt c (htall c hc)) (fun d hd e => by
    rw [List.head?_map] at hd
    obtain ⟨c, hc, rfl⟩ := Option.map_eq_some_iff.1 hd
    exact hthead c hc (dig_zero c (htall c (List.mem_of_mem_head? hc)) e))).1]
  rw [List.reverse_reverse, List.map_map]
  conv => rhs; rw [hs]
  congr 1
  conv => rhs; rw [← List.map_id t]
  exact List.map_congr_left fun c hc => let_dig c (htall c hc)
end Go.Proofs.YtkiigonikeeikaaGreatDoor
