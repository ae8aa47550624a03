/- ref03.Base58. | ref02.Sum256. | ref02.Double. | ref03.Check58, FromCheck58. -/
import Derived.Test.YtjbknfjcdmafaaaDoorU11
import Derived.Test.YtjbknfjcdmafaaaDoorU8

/-! ref03.Base58. -/
namespace Go.Proofs.YtjbknfjcdmafaaaDoor
open Go.RowKit Go.Shelf

/-- Long division by 58. -/
def divL : Nat → List UInt8 → List UInt8 × Nat
  | r, [] => ([], r)
  | r, d :: l => (UInt8.ofNat ((r * 256 + d.toNat) / 58) :: (divL ((r * 256 + d.toNat) % 58) l).1, (divL ((r * 256 + d.toNat) % 58) l).2)
theorem divL_append : ∀ (a b : List UInt8) (r : Nat), divL r (a ++ b) = ((divL r a).1 ++ (divL (divL r a).2 b).1, (divL (divL r a).2 b).2)
  | [], b, r => rfl
  | x :: a, b, r => by simp only [List.cons_append, divL, divL_append a b]
theorem divL_length : ∀ (l : List UInt8) (r : Nat), (divL r l).1.length = l.length
  | [], _ => rfl
  | x :: l, r => by simp [divL, divL_length l]
theorem divL_snoc (l : List UInt8) (d : UInt8) (r : Nat) : divL r (l ++ [d]) = ((divL r l).1 ++ [UInt8.ofNat (((divL r l).2 * 256 + d.toNat) / 58)], ((divL r l).2 * 256 + d.toNat) % 58) := by rw [divL_append]; rfl
theorem divL_value (l : List UInt8) : (divL 0 l).2 = horner 256 l % 58 ∧ horner 256 (divL 0 l).1 = horner 256 l / 58 := by
  induction hn : l.length generalizing l with
  | zero => rw [List.length_eq_zero_iff.1 hn]; exact ⟨rfl, rfl⟩
  | succ n ih =>
    rcases List.eq_nil_or_concat l with rfl | ⟨l', d, rfl⟩
    · simp at hn
    · rw [List.concat_eq_append] at hn ⊢
      obtain ⟨h1, h2⟩ := ih l' (by simpa using hn)
      obtain ⟨V, hV⟩ : ∃ V, V = horner 256 l' := ⟨_, rfl⟩
      rw [← hV] at h1 h2
      have hd := d.toNat_lt
      rw [divL_snoc, horner_snoc, ← hV]
      constructor
      · show ((divL 0 l').2 * 256 + d.toNat) % 58 = _
        rw [h1]; omega
      · show horner 256 ((divL 0 l').1 ++ [UInt8.ofNat (((divL 0 l').2 * 256 + d.toNat) / 58)]) = _
        rw [horner_snoc, h1, h2, UInt8.toNat_ofNat', Nat.mod_eq_of_lt (by omega)]; omega
theorem divL_rem (l : List UInt8) : (divL 0 l).2 < 58 := by rw [(divL_value l).1]; exact Nat.mod_lt _ (by omega)
theorem divL_zeros : ∀ (l : List UInt8), (∀ x ∈ l, x = 0) → divL 0 l = (l, 0)
  | [], _ => rfl
  | x :: l, h => by
    have hx : x = 0 := h x (by simp)
    subst hx
    have := divL_zeros l (fun y hy => h y (by simp [hy]))
    simp [divL, this]
theorem horner_zeros (l : List UInt8) (h : ∀ x ∈ l, x = 0) : horner 256 l = 0 := by
  have h1 := (divL_value l).2
  have h2 : l = List.replicate l.length 0 := List.eq_replicate_iff.2 ⟨rfl, h⟩
  rw [h2]
  generalize l.length = n
  induction n with
  | zero => rfl
  | succ n ih => rw [List.replicate_succ', horner_snoc, ih]; rfl
theorem horner_pos (l : List UInt8) (x : UInt8) (hx : x ∈ l) (h0 : x ≠ 0) : 0 < horner 256 l := by
  induction hn : l.length generalizing l with
  | zero => rw [List.length_eq_zero_iff.1 hn] at hx; simp at hx
  | succ n ih =>
    rcases List.eq_nil_or_concat l with rfl | ⟨l', d, rfl⟩
    · simp at hn
    · rw [List.concat_eq_append] at hn hx ⊢
      rw [horner_snoc]
      simp only [List.mem_append, List.mem_singleton] at hx
      rcases hx with hx | rfl
      · have := ih l' hx (by simpa using hn); omega
      · have : x.toNat ≠ 0 := fun e => h0 (UInt8.toNat_inj.1 (by simpa using e))
        omega
/-- The bytes in the midst of a division. -/
def rowD (L : List UInt8) (i : Nat) : List UInt8 := (divL 0 (L.take i)).1 ++ L.drop i
def remD (L : List UInt8) (i : Nat) : Nat := (divL 0 (L.take i)).2
theorem rowD_length (L : List UInt8) (i : Nat) (h : i ≤ L.length) : (rowD L i).length = L.length := by rw [rowD, List.length_append, divL_length]; simp; omega
theorem rowD_at (L : List UInt8) (i : Nat) (h : i < L.length) : (rowD L i)[i]? = some L[i] := by
  rw [rowD, List.getElem?_append_right (by rw [divL_length]; simp; omega), divL_length]
  simp [show min i L.length = i by omega, h]
theorem rowD_set (L : List UInt8) (i : Nat) (h : i < L.length) : (rowD L i).set i (UInt8.ofNat ((remD L i * 256 + L[i].toNat) / 58)) = rowD L (i + 1) := by
  have hl : ((divL 0 (L.take i)).1).length = i := by rw [divL_length]; simp; omega
  rw [rowD, List.set_append_right _ _ (by omega), hl, Nat.sub_self, rowD, take_snoc L i h, divL_snoc]
  rw [show L.drop i = L[i] :: L.drop (i + 1) from List.drop_eq_getElem_cons h, List.set_cons_zero]
  simp [remD]
theorem remD_succ (L : List UInt8) (i : Nat) (h : i < L.length) : remD L (i + 1) = (remD L i * 256 + L[i].toNat) % 58 := by rw [remD, take_snoc L i h, divL_snoc]; rfl
theorem rowD_begin (L : List UInt8) (k : Nat) (h : ∀ x ∈ L.take k, x = 0) : rowD L k = L ∧ remD L k = 0 := by
  rw [rowD, remD, divL_zeros _ h]; exact ⟨List.take_append_drop k L, rfl⟩
theorem rowD_end (L : List UInt8) : rowD L L.length = (divL 0 L).1 ∧ remD L L.length = (divL 0 L).2 := by simp [rowD, remD]
theorem rowD_zeros (L : List UInt8) (k : Nat) (hk : k ≤ L.length) (h : ∀ x ∈ L.take k, x = 0) : ∀ x ∈ (divL 0 L).1.take k, x = 0 := by
  have h1 : divL 0 L = divL 0 (L.take k ++ L.drop k) := by rw [List.take_append_drop]
  rw [h1, divL_append, divL_zeros _ h]
  simp only
  rw [List.take_append_of_le_length (by simp; omega), List.take_of_length_le (by simp; omega)]
  exact h
theorem digit_step (V : Nat) (h : 0 < V) : pushes 58 V V = UInt8.ofNat (V % 58) :: pushes 58 (V / 58) (V / 58) := pushes_pos 58 V (by omega) h
theorem letters58_nat (r : Nat) (hr : r < 58) (h : r < (⟨letters58.toArray⟩ : ByteArray).size) : (⟨letters58.toArray⟩ : ByteArray)[r] = let58 (UInt8.ofNat r) := by
  have e : (UInt8.ofNat r).toNat = r := by rw [UInt8.toNat_ofNat', Nat.mod_eq_of_lt (by omega)]
  have h' : r < letters58.length := h
  show letters58.toArray[r]'(by simpa using h') = _
  simp [let58, e, h']
theorem lz_lt : ∀ (b : List UInt8) (j : Nat), j < lz b → b[j]? = some 0
  | [], j, h => by simp [lz] at h
  | x :: b, j, h => by
    unfold lz at h
    split at h
    · rename_i hx
      cases j with
      | zero => simp [hx]
      | succ j => simpa using lz_lt b j (by omega)
    · omega
theorem lz_end : ∀ (b : List UInt8) (y : UInt8), b[lz b]? = some y → y ≠ 0
  | [], y, h => by simp at h
  | x :: b, y, h => by
    unfold lz at h
    split at h
    · exact lz_end b y (by simpa using h)
    · rename_i hx
      simp at h; rw [← h]; exact hx
def rowVal (g N : Nat) (w : World) : Nat := match w.heap[g]? with
  | some (.cells cur _ _) => (cur.toList.take N).foldl (fun v x => v * 256 + (intOf x).toNat) 0
  | _ => 0
theorem rowVal_ow {w : World} {base E g N c : Nat} {L : List UInt8} (h : Ow w base E (.slice (some ⟨g, 0, none⟩) N c) (B8 L)) (hN : 0 < N) : rowVal g N w = horner 256 L := by
  obtain ⟨A', c', e, h1, h2, h3⟩ := h
  injection e with e1 e2 e3
  obtain ⟨g', cur, e4, _, hh, _, ht⟩ := h3 (by omega)
  rw [← e1] at e4; injection e4 with e4; injection e4 with e4
  subst e4
  rw [rowVal, hh]
  simp only
  rw [e2, ht, B8, List.foldl_map]
  rfl

end Go.Proofs.YtjbknfjcdmafaaaDoor

/-! ref02.Sum256. -/
namespace Go.Proofs.YtjbknfjcdmafaaaDoor
open Go.RowKit Go.Shelf

/-- A word, byte by byte. -/
def wpart (b : List UInt8) (t : Nat) : Nat → BitVec 32
  | 0 => 0
  | i + 1 => wpart b t i * 256 + (b.getD (4 * t + i) 0).toBitVec.setWidth 32
theorem or_add (a c n : Nat) (h : c < 2 ^ n) : a * 2 ^ n ||| c = a * 2 ^ n + c := by
  rw [Nat.mul_comm, ← Nat.two_pow_add_eq_or_of_lt h]
theorem wpart_word (b : List UInt8) (t : Nat) : wpart b t 4 = word b t := by
  simp only [wpart, word]
  obtain ⟨x0, e0⟩ : ∃ x, x = b.getD (4 * t) 0 := ⟨_, rfl⟩
  obtain ⟨x1, e1⟩ : ∃ x, x = b.getD (4 * t + 1) 0 := ⟨_, rfl⟩
  obtain ⟨x2, e2⟩ : ∃ x, x = b.getD (4 * t + 2) 0 := ⟨_, rfl⟩
  obtain ⟨x3, e3⟩ : ∃ x, x = b.getD (4 * t + 3) 0 := ⟨_, rfl⟩
  rw [Nat.add_zero, ← e0, ← e1, ← e2, ← e3]
  have h0 := x0.toNat_lt
  have h1 := x1.toNat_lt
  have h2 := x2.toNat_lt
  have h3 := x3.toNat_lt
  apply BitVec.eq_of_toNat_eq
  simp only [BitVec.toNat_or, BitVec.toNat_shiftLeft, BitVec.toNat_setWidth, BitVec.toNat_add, BitVec.toNat_mul, UInt8.toNat_toBitVec, Nat.shiftLeft_eq, BitVec.toNat_ofNat]
  rw [Nat.mod_eq_of_lt (show x0.toNat < 2 ^ 32 by omega), Nat.mod_eq_of_lt (show x1.toNat < 2 ^ 32 by omega), Nat.mod_eq_of_lt (show x2.toNat < 2 ^ 32 by omega), Nat.mod_eq_of_lt (show x3.toNat < 2 ^ 32 by omega)]
  rw [Nat.mod_eq_of_lt (show x0.toNat * 2 ^ 24 < 2 ^ 32 by omega), Nat.mod_eq_of_lt (show x1.toNat * 2 ^ 16 < 2 ^ 32 by omega), Nat.mod_eq_of_lt (show x2.toNat * 2 ^ 8 < 2 ^ 32 by omega)]
  rw [or_add x0.toNat _ 24 (by omega), show x0.toNat * 2 ^ 24 + x1.toNat * 2 ^ 16 = (x0.toNat * 2 ^ 8 + x1.toNat) * 2 ^ 16 by omega, or_add _ _ 16 (by omega),
    show (x0.toNat * 2 ^ 8 + x1.toNat) * 2 ^ 16 + x2.toNat * 2 ^ 8 = ((x0.toNat * 2 ^ 8 + x1.toNat) * 2 ^ 8 + x2.toNat) * 2 ^ 8 by omega, or_add _ _ 8 (by omega)]
  rw [show BitVec.toNat (0 : BitVec 32) = 0 from rfl, show BitVec.toNat (256 : BitVec 32) = 256 from rfl]
  omega
theorem sp_mac (x : BitVec 32) (y : UInt8) : ((x.toNat : Int) * 256 % 4294967296 + (y.toNat : Int)) % 4294967296 = ((x * 256 + y.toBitVec.setWidth 32).toNat : Int) := by
  have h := y.toNat_lt
  rw [BitVec.toNat_add, BitVec.toNat_mul, BitVec.toNat_setWidth, UInt8.toNat_toBitVec, show BitVec.toNat (256 : BitVec 32) = 256 from rfl]
  omega
theorem sp_mac2 (x : BitVec 32) (y : UInt8) : (x.toNat : Int) * 256 % 4294967296 + (y.toNat : Int) = ((x * 256 + y.toBitVec.setWidth 32).toNat : Int) := by
  have h := y.toNat_lt
  rw [← sp_mac]; omega
theorem w32_one (xs : List (BitVec 32)) : (W32 xs).toArray.all (·.oneCell') = true := all_oneCell_toArray fun v hv => by
  obtain ⟨x, _, rfl⟩ := List.mem_map.1 hv; rfl
theorem one8 (a b c d e f g h : Int) : (#[.int .u32 a, .int .u32 b, .int .u32 c, .int .u32 d, .int .u32 e, .int .u32 f, .int .u32 g, .int .u32 h] : Array Value).all (·.oneCell') = true :=
  all_oneCell_toArray (cs := [.int .u32 a, .int .u32 b, .int .u32 c, .int .u32 d, .int .u32 e, .int .u32 f, .int .u32 g, .int .u32 h]) fun v hv => by
    simp at hv; rcases hv with rfl | rfl | rfl | rfl | rfl | rfl | rfl | rfl <;> rfl
theorem grown_below {w a c : World} {g B : Nat} (h : w.grownBy a (some g)) (k : Below B a c) (hB : w.heap.size ≤ B) : w.grownBy c (some g) :=
  ⟨k.os.trans h.os, k.tape.trans h.tape, k.output.trans h.output, Nat.le_trans h.size k.size, fun j hj hne => (k.block j (by omega)).trans (h.block j hj hne)⟩
theorem msg_mod (b : List UInt8) : (msg b).length % 64 = 0 := by
  rw [msg, List.length_append, tailL_length _ _ (Nat.le_refl _)]; omega
theorem msg_len (b : List UInt8) : (msg b).length ≤ b.length + 72 := by
  rw [msg, List.length_append, tailL_length _ _ (Nat.le_refl _)]; omega
/-- The words' row while its head is being read. -/
def rowW (b : List UInt8) (t : Nat) : List Value := W32 ((wds b).take t) ++ List.replicate (64 - t) (.int .u32 0)
theorem rowW_length (b : List UInt8) (t : Nat) (h : t ≤ 64) : (rowW b t).length = 64 := by simp [rowW, wds_length]; omega
theorem rowW_at (b : List UInt8) (t : Nat) (h : t < 64) : (rowW b t)[t]? = some (.int .u32 0) := by
  rw [rowW, List.getElem?_append_right (by simp [wds_length]; omega)]
  have hl : (W32 ((wds b).take t)).length = t := by simp [wds_length]; omega
  rw [hl, Nat.sub_self, show 64 - t = (64 - (t + 1)) + 1 by omega, List.replicate_succ]; rfl
theorem rowW_set (b : List UInt8) (t : Nat) (h : t < 64) : (rowW b t).set t (.int .u32 ((wd b t).toNat : Int)) = rowW b (t + 1) := by
  have hl : (W32 ((wds b).take t)).length = t := by simp [wds_length]; omega
  rw [rowW, List.set_append_right _ _ (by omega), hl, Nat.sub_self, show 64 - t = (64 - (t + 1)) + 1 by omega, List.replicate_succ, List.set_cons_zero, rowW]
  have hw : (wds b)[t]? = some (wd b t) := by simp [wds, h]
  rw [List.take_add_one, hw]
  simp [W32]
theorem rowW_known (b : List UInt8) (t j : Nat) (h : t ≤ 64) (hj : j < t) : (rowW b t)[j]? = (W32 (wds b))[j]? := by
  rw [rowW, List.getElem?_append_left (by simp [wds_length]; omega)]
  simp [W32, List.getElem?_take, hj]
theorem be32_at (st : List (BitVec 32)) (k : Nat) (h : k < 4 * st.length) : (be32 st)[k]? = some (UInt8.ofNat ((st[k / 4]'(by omega)).toNat / 2 ^ (24 - 8 * (k % 4)))) := by
  obtain ⟨g0, g1, g2, g3⟩ := be32_get st (k / 4) (by omega)
  have : k % 4 = 0 ∨ k % 4 = 1 ∨ k % 4 = 2 ∨ k % 4 = 3 := by omega
  rcases this with e | e | e | e
  · rw [e]; rw [show 4 * (k / 4) = k by omega] at g0; exact g0
  · rw [e]; rw [show 4 * (k / 4) + 1 = k by omega] at g1; exact g1
  · rw [e]; rw [show 4 * (k / 4) + 2 = k by omega] at g2; exact g2
  · rw [e]; rw [show 4 * (k / 4) + 3 = k by omega] at g3; simpa using g3

end Go.Proofs.YtjbknfjcdmafaaaDoor

/-! ref02.Double. -/
namespace Go.Proofs.YtjbknfjcdmafaaaDoor
open Go.RowKit Go.Shelf

end Go.Proofs.YtjbknfjcdmafaaaDoor

/-! ref03.Check58, FromCheck58. -/
namespace Go.Proofs.YtjbknfjcdmafaaaDoor
open Go.RowKit Go.Shelf

section
variable {P : Program} {ops : Array Oper} {Q : Act → World → Prop} {st : Nat → (Act → World → Prop) → Act → World → Prop} {N : Nat}
theorem wpPlan_str {i : Nat} {rest : List (Nat × Nat)} {o : Oper} {a : Act} {w : World} (ho : ops[i]? = some o) (hg : o.guard = none) (src dst E : TypeId) (x : Operand) (hop : o.op = .convert src dst x)
    (hs : P.underlying src = some (.slice E)) (he : P.underlying E = some (.int .u8)) (hd : P.underlying dst = some .string)
    (A : Option Addr) (n c : Nat) (bs : List UInt8) (hx : a.eval x = .slice A n c) (hn : bs.length = n) (hsl : Sl w w.heap.size A (B8 bs))
    (h : wpPlan P ops Q st N rest (a.put o.dst (.string ⟨bs.toArray⟩)) w) : wpPlan P ops Q st N ((i, 1) :: rest) a w := by
  simp only [wpPlan, if_true, ho, Nat.one_ne_zero, if_false]
  refine ⟨_, .inl ⟨by simp [Region.wanted, hg], fun w' hw' => ?_⟩, h⟩
  have hstr := run_str_Sl (P := P) w' src dst E hs he hd _ A c bs (hsl.below hw'.below)
  rw [hn] at hstr
  unfold execOp
  simp only [hop, hx, Sem.run_bind, hstr, Result.andThen_ok]
  rfl
end
end Go.Proofs.YtjbknfjcdmafaaaDoor
