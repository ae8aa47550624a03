/- What the library's variables hold, wherever the call stands. | A text in pieces between a letter; strings.Split, Join, Cut at one letter. Plain. | The library's functions of strings, by lists of bytes: Split, Cut, Join, Atoi, Itoa. -/
import Derived.Test.YtcjioogololnoaaGreatDoorU1
import Derived.Lib.LaidTab
import Derived.Lib.ItoaMem
import Derived.Lib.Split
import Derived.Lib.Join
import Derived.Lib.IndexMore
import Derived.Test.YtcjioogololnoaaGreatDoorShelf

/-! What the library's variables hold, wherever the call stands. -/
namespace Go.Proofs.YtcjioogololnoaaGreatDoor
open Go.RowKit

theorem var_below {P : Program} {w w' : World} {n : String} {v : Array Value} (h : w.var? P n = some v) (hb : Below w.heap.size w w') : w'.var? P n = some v := by
  unfold World.var? at h ⊢
  cases hg : P.globalNamed n with
  | none => rw [hg] at h; simp at h
  | some g =>
    rw [hg] at h
    simp only [Option.bind_some] at h ⊢
    cases ho : w.heap[g]? with
    | none => rw [ho] at h; simp at h
    | some o =>
      rw [hb.block g (Array.getElem?_eq_some_iff.1 ho).1]
      exact h
theorem cell_lt {w : World} {g o : Nat} {v : Value} (h : w.cell? ⟨g, o, none⟩ = some v) : g < w.heap.size := by
  rcases Nat.lt_or_ge g w.heap.size with h' | h'
  · exact h'
  · have hn : w.heap[g]? = none := Array.getElem?_eq_none h'
    simp [World.cell?, hn] at h
theorem cell_below {w w' : World} {g o : Nat} {v : Value} (h : w.cell? ⟨g, o, none⟩ = some v) (hb : Below w.heap.size w w') : w'.cell? ⟨g, o, none⟩ = some v :=
  (hb.cell (p := ⟨g, o, none⟩) (cell_lt h)).trans h
structure Env (w : World) : Prop where
  max : ∃ m, w.cell? ⟨0, 0, none⟩ = some (.int .i64 m)
  pow : Lib.TabIs Tryz.prog w "internal/strconv.uint64pow10" .u64 Lib.pow10Tab
  syn : ∃ t p, w.var? Tryz.prog "strconv.ErrSyntax" = some #[.iface t p]
  ran : ∃ t p, w.var? Tryz.prog "strconv.ErrRange" = some #[.iface t p]
theorem Env.below {w w' : World} (h : Env w) (hb : Below w.heap.size w w') : Env w' :=
  ⟨let ⟨m, hm⟩ := h.max; ⟨m, cell_below hm hb⟩, var_below h.pow hb, let ⟨t, p, hp⟩ := h.syn; ⟨t, p, var_below hp hb⟩, let ⟨t, p, hp⟩ := h.ran; ⟨t, p, var_below hp hb⟩⟩
end Go.Proofs.YtcjioogololnoaaGreatDoor

/-! A text in pieces between a letter; strings.Split, Join, Cut at one letter. Plain. -/
namespace Go.Proofs.YtcjioogololnoaaGreatDoor
open Go

/-- The pieces between the letters c. -/
def pieces (c : UInt8) : List UInt8 → List (List UInt8)
  | [] => [[]]
  | x :: r => if x = c then [] :: pieces c r else ((x :: (pieces c r).headD []) :: (pieces c r).tail)
theorem pieces_ne (c : UInt8) (s : List UInt8) : pieces c s ≠ [] := by
  cases s with
  | nil => simp [pieces]
  | cons x r => unfold pieces; split <;> simp
theorem pieces_head (c : UInt8) (s : List UInt8) : pieces c s = (pieces c s).headD [] :: (pieces c s).tail := by
  cases h : pieces c s with
  | nil => exact absurd h (pieces_ne c s)
  | cons p ps => rfl
theorem pieces_cut (c : UInt8) : ∀ (p r : List UInt8), (∀ x ∈ p, x ≠ c) → pieces c (p ++ c :: r) = p :: pieces c r
  | [], r, _ => by simp [pieces]
  | x :: p, r, h => by
    rw [List.cons_append, pieces, if_neg (h x (by simp)), pieces_cut c p r (fun y hy => h y (by simp [hy]))]
    rfl
theorem pieces_one (c : UInt8) : ∀ p : List UInt8, (∀ x ∈ p, x ≠ c) → pieces c p = [p]
  | [], _ => rfl
  | x :: p, h => by
    rw [pieces, if_neg (h x (by simp)), pieces_one c p (fun y hy => h y (by simp [hy]))]
    rfl
theorem pieces_free (c : UInt8) : ∀ s : List UInt8, ∀ p ∈ pieces c s, ∀ x ∈ p, x ≠ c
  | [], p, hp, x, hx => by simp [pieces] at hp; subst hp; simp at hx
  | y :: r, p, hp, x, hx => by
    have ih := pieces_free c r
    unfold pieces at hp
    split at hp
    · rcases List.mem_cons.1 hp with rfl | hp
      · simp at hx
      · exact ih p hp x hx
    · next hy =>
      rcases List.mem_cons.1 hp with rfl | hp
      · rcases List.mem_cons.1 hx with rfl | hx
        · exact hy
        · exact ih _ (by rw [pieces_head c r]; exact List.mem_cons_self) x hx
      · exact ih p (by rw [pieces_head c r]; exact List.mem_cons_of_mem _ hp) x hx
theorem pieces_count (c : UInt8) : ∀ s : List UInt8, (pieces c s).length = s.count c + 1
  | [] => rfl
  | x :: r => by
    have ih := pieces_count c r
    unfold pieces
    split
    · next h => subst h; simp [ih]
    · next h =>
      rw [List.length_cons, List.length_tail, ih, List.count_cons_of_ne h]
      omega
theorem pieces_join (c : UInt8) : ∀ s : List UInt8, Lib.join (pieces c s) [c] = s
  | [] => by simp [pieces, Lib.join_one]
  | x :: r => by
    have ih := pieces_join c r
    unfold pieces
    split
    · next h =>
      subst h
      rw [Lib.join_cons]
      rw [pieces_head, Lib.join_cons] at ih
      rw [pieces_head]
      simp only [Lib.joinTail, List.map_cons, List.flatten_cons, List.nil_append]
      rw [List.append_assoc]
      exact congrArg (x :: ·) ih
    · rw [pieces_head, Lib.join_cons] at ih
      rw [Lib.join_cons, List.cons_append, ih]
theorem join_pieces (c : UInt8) : ∀ (ps : List (List UInt8)), ps ≠ [] → (∀ p ∈ ps, ∀ x ∈ p, x ≠ c) → pieces c (Lib.join ps [c]) = ps
  | [], h, _ => absurd rfl h
  | [p], _, h => by rw [Lib.join_one]; exact pieces_one c p (h p (by simp))
  | p :: q :: ps, _, h => by
    rw [Lib.join_cons]
    have ih := join_pieces c (q :: ps) (by simp) (fun p' hp' => h p' (by simp [hp']))
    rw [Lib.join_cons] at ih
    have e : p ++ Lib.joinTail [c] (q :: ps) = p ++ c :: (q ++ Lib.joinTail [c] ps) := by simp [Lib.joinTail]
    rw [e, pieces_cut c p _ (h p (by simp)), ih]
theorem occ1 (s : List UInt8) (c : UInt8) (j : Nat) (h : s[j]? = some c) : Lib.occAt s [c] j = true := by
  obtain ⟨hj, he⟩ := List.getElem?_eq_some_iff.1 h
  rw [Lib.occAt_iff_take s [c] j (by simp; omega)]
  rw [List.drop_eq_getElem_cons hj, he]
  simp
theorem occ0 (s : List UInt8) (c : UInt8) (j : Nat) (h : s[j]? ≠ some c) : Lib.occAt s [c] j = false := by
  cases ho : Lib.occAt s [c] j with
  | false => rfl
  | true => exact absurd (Lib.occAt_head rfl ho) h
theorem index_none1 (s : List UInt8) (c : UInt8) (h : ∀ x ∈ s, x ≠ c) : Lib.index s [c] = -1 :=
  Lib.index_none (fun j _ => occ0 _ _ _ (fun e => by
    obtain ⟨hj, he⟩ := List.getElem?_eq_some_iff.1 e
    exact h s[j] (List.getElem_mem _) he))
theorem index_at1 (p r : List UInt8) (c : UInt8) (h : ∀ x ∈ p, x ≠ c) : Lib.index (p ++ c :: r) [c] = (p.length : Nat) :=
  Lib.index_first (by simp) (occ1 _ _ _ (by simp)) (fun j hj => occ0 _ _ _ (by
    rw [List.getElem?_append_left hj, List.getElem?_eq_getElem hj]
    exact fun e => h p[j] (List.getElem_mem _) (Option.some.inj e)))
theorem split_at (s : List UInt8) (c : UInt8) : (∀ x ∈ s, x ≠ c) ∨ ∃ p r, s = p ++ c :: r ∧ ∀ x ∈ p, x ≠ c := by
  induction s with
  | nil => exact .inl (by simp)
  | cons y s ih =>
    by_cases hy : y = c
    · exact .inr ⟨[], s, by simp [hy], by simp⟩
    · rcases ih with h | ⟨p, r, rfl, h⟩
      · refine .inl fun x hx => ?_
        rcases List.mem_cons.1 hx with e | hx
        · exact e ▸ hy
        · exact h x hx
      · refine .inr ⟨y :: p, r, rfl, fun x hx => ?_⟩
        rcases List.mem_cons.1 hx with e | hx
        · exact e ▸ hy
        · exact h x hx
/-- strings.Split at one letter. -/
theorem split_pieces (c : UInt8) : ∀ (n : Nat) (s : List UInt8), s.length ≤ n → Lib.split s [c] = pieces c s
  | n, s, hn => by
    rcases split_at s c with h | ⟨p, r, rfl, h⟩
    · rw [Lib.split, Lib.count_miss (index_none1 s c h), pieces_one c s h]; rfl
    · match n, hn with
      | n + 1, hn =>
        have hi := index_at1 p r c h
        have hd : (p ++ c :: r).drop (p.length + [c].length) = r := by
          rw [← List.drop_drop]; simp
        have ih := split_pieces c n r (by simp at hn; omega)
        rw [Lib.split] at ih
        rw [Lib.split, Lib.count_hit (by simp) hi, hd, Nat.add_comm 1, Lib.splitK, hi]
        have e1 : ((p.length : Int) == -1) = false := by simp
        rw [e1, if_neg (by simp), Int.toNat_natCast, hd, ih, pieces_cut c p r h]
        simp
      | 0, hn => simp at hn
theorem count_pieces (c : UInt8) : ∀ (n : Nat) (s : List UInt8), s.length ≤ n → Lib.count s [c] + 1 = (pieces c s).length
  | n, s, hn => by
    rcases split_at s c with h | ⟨p, r, rfl, h⟩
    · rw [Lib.count_miss (index_none1 s c h), pieces_one c s h]; rfl
    · match n, hn with
      | n + 1, hn =>
        have hi := index_at1 p r c h
        have hd : (p ++ c :: r).drop (p.length + [c].length) = r := by
          rw [← List.drop_drop]; simp
        have ih := count_pieces c n r (by simp at hn; omega)
        rw [Lib.count_hit (by simp) hi, hd, pieces_cut c p r h, List.length_cons]
        omega
      | 0, hn => simp at hn
theorem pieces_total (c : UInt8) (s : List UInt8) : (pieces c s).length ≤ s.length + 1 := by
  rw [pieces_count]
  have := List.count_le_length (a := c) (l := s)
  omega
theorem pieces_le (c : UInt8) (s : List UInt8) : ∀ p ∈ pieces c s, p.length ≤ s.length := by
  induction s with
  | nil => intro p hp; simp [pieces] at hp; simp [hp]
  | cons x r ih =>
    intro p hp
    unfold pieces at hp
    split at hp
    · rcases List.mem_cons.1 hp with rfl | hp
      · simp
      · have := ih p hp; simp; omega
    · rcases List.mem_cons.1 hp with rfl | hp
      · have := ih _ (by rw [pieces_head c r]; exact List.mem_cons_self)
        rw [List.length_cons, List.length_cons]; omega
      · have := ih p (by rw [pieces_head c r]; exact List.mem_cons_of_mem _ hp); simp; omega
theorem cut1_none (s : List UInt8) (c : UInt8) (h : ∀ x ∈ s, x ≠ c) : Lib.cut s [c] = (s, [], false) := by
  rw [Lib.cut, index_none1 s c h, if_neg (by decide)]
theorem cut1_at (p r : List UInt8) (c : UInt8) (h : ∀ x ∈ p, x ≠ c) : Lib.cut (p ++ c :: r) [c] = (p, r, true) := by
  rw [Lib.cut, index_at1 p r c h, if_pos (by omega)]
  simp
end Go.Proofs.YtcjioogololnoaaGreatDoor

/-! The library's functions of strings, by lists of bytes: Split, Cut, Join, Atoi, Itoa. -/
namespace Go.Proofs.YtcjioogololnoaaGreatDoor
open Go.RowKit Go.Shelf

/-- Texts as cells. -/
def ST (l : List (List UInt8)) : List Value := l.map fun p => .string ⟨p.toArray⟩
@[simp] theorem ST_length (l : List (List UInt8)) : (ST l).length = l.length := by simp [ST]
theorem ST_get (l : List (List UInt8)) (j : Nat) (h : j < (ST l).length) : (ST l)[j] = .string ⟨(l[j]'(by simpa using h)).toArray⟩ := by simp [ST]
theorem ST_append (a b : List (List UInt8)) : ST (a ++ b) = ST a ++ ST b := by simp [ST]
theorem ST_take (a : List (List UInt8)) (n : Nat) : ST (a.take n) = (ST a).take n := by simp [ST]
theorem ST_drop (a : List (List UInt8)) (n : Nat) : ST (a.drop n) = (ST a).drop n := by simp [ST]
theorem ST_one (a : List (List UInt8)) : ∀ u ∈ ST a, u.oneCell' = true := by
  intro u hu; simp only [ST, List.mem_map] at hu; obtain ⟨b, _, rfl⟩ := hu; rfl
theorem mk_list (s : ByteArray) : (⟨s.data.toList.toArray⟩ : ByteArray) = s := Lib.mk_data s
theorem below_drewN1 (w : World) (n : Nat) : Below w.heap.size w (w.drewN n) := ⟨rfl, rfl, rfl, Nat.le_refl _, fun _ _ => rfl⟩
theorem below_grow1 (w : World) (k : Nat) (os : Array Obj) : Below w.heap.size w (Go.Sort.grow (w.drewN k) os) := ⟨rfl, rfl, rfl, by simp [Go.Sort.grow], fun j hj => by
  show (w.heap ++ os)[j]? = _
  rw [Array.getElem?_append_left hj]⟩
theorem split_any (s : ByteArray) (c : UInt8) (hs : s.size ≤ 8192) (w : World) (hE : Env w) :
    Calls Tryz.prog 40 #[.string s, .string ⟨#[c]⟩] w fun e W' => e = .returned (.slice (some ⟨w.heap.size, 0, none⟩) (pieces c s.data.toList).length (pieces c s.data.toList).length) ∧ W' = w.alloc (.cells (ST (pieces c s.data.toList)).toArray 9) := by
  obtain ⟨m, hm⟩ := hE.max
  refine (Tryz.strings_Split s ⟨#[c]⟩ m w (by omega) hm (by show 1 ≤ 1; omega)).mono ?_
  rintro e W' ⟨rfl, rfl⟩
  have hc : Lib.countB s ⟨#[c]⟩ + 1 = (pieces c s.data.toList).length := count_pieces c _ s.data.toList (Nat.le_refl _)
  have hp : (Lib.splitB ⟨#[c]⟩ 0 (Lib.countB s ⟨#[c]⟩) s).map Value.string = ST (pieces c s.data.toList) := by
    have h := Lib.splitB_data ⟨#[c]⟩ 0 (Lib.countB s ⟨#[c]⟩) s
    have h2 := split_pieces c _ s.data.toList (Nat.le_refl _)
    rw [← h2]
    show _ = ST (Lib.splitK [c] 0 (Lib.count s.data.toList [c]) s.data.toList)
    rw [← show (Lib.splitB ⟨#[c]⟩ 0 (Lib.countB s ⟨#[c]⟩) s).map (·.data.toList) = Lib.splitK [c] 0 (Lib.count s.data.toList [c]) s.data.toList from h]
    rw [ST, List.map_map]
    apply List.map_congr_left
    intro a _
    show Value.string a = Value.string ⟨a.data.toList.toArray⟩
    rw [mk_list]
  rw [hc, hp]
  exact ⟨rfl, rfl⟩
theorem cut_any (s : ByteArray) (c : UInt8) (hs : s.size ≤ 8192) (w : World) (hE : Env w) :
    Calls Tryz.prog 15 #[.string s, .string ⟨#[c]⟩] w fun e W' => e = .returned (.tuple #[.string ⟨(Lib.cut s.data.toList [c]).1.toArray⟩, .string ⟨(Lib.cut s.data.toList [c]).2.1.toArray⟩, .bool (Lib.cut s.data.toList [c]).2.2]) ∧ Below w.heap.size w W' := by
  obtain ⟨m, hm⟩ := hE.max
  refine (Tryz.strings_Cut s ⟨#[c]⟩ m w (by omega) hm).mono ?_
  rintro e W' ⟨rfl, n, rfl⟩
  exact ⟨rfl, below_drewN1 _ _⟩
theorem join_any (A : Option Addr) (cp : Nat) (l : List (List UInt8)) (c : UInt8) (w : World) (hs : Sl w w.heap.size A (ST l)) (hc : l.length ≤ cp) (hl : (Lib.join l [c]).length ≤ 100000) (hn : l.length ≤ 100000) :
    Calls Tryz.prog 22 #[.slice A l.length cp, .string ⟨#[c]⟩] w fun e W' => e = .returned (.string ⟨(Lib.join l [c]).toArray⟩) ∧ Below w.heap.size w W' := by
  by_cases h0 : l = []
  · subst h0
    refine (Tryz.strings_Join_none A cp ⟨#[c]⟩ w).mono ?_
    rintro e W' ⟨rfl, rfl⟩
    exact ⟨rfl, Below.refl _ _⟩
  · obtain ⟨b, o, rfl, hb, hcell⟩ := hs (by rw [ST_length]; exact List.length_pos_iff.2 h0)
    have e1 : ((l.map fun p => (⟨p.toArray⟩ : ByteArray)).map (·.data.toList)) = l := by
      rw [List.map_map]
      exact List.map_id' l
    have h := Tryz.strings_Join b o cp (l.map fun p => ⟨p.toArray⟩) ⟨#[c]⟩ w (fun j x hx => by
      obtain ⟨hj, rfl⟩ := List.getElem?_eq_some_iff.1 hx
      rw [hcell j (by simpa using hj), ST_get, List.getElem_map]) hb (by simp; omega) (by simpa using hc) (by rw [e1]; show (Lib.join l [c]).length ≤ _; omega)
    rw [e1, List.length_map] at h
    exact h
theorem itoa_any (n : Int) (h0 : -9223372036854775808 ≤ n) (h1 : n ≤ 9223372036854775807) (w : World) (hE : Env w) :
    Calls Tryz.prog 24 #[.int .i64 n] w fun e W' => e = .returned (.string ⟨(Lib.itoa n).toArray⟩) ∧ Below w.heap.size w W' := by
  refine (Tryz.strconv_Itoa n h0 h1 w hE.pow).mono ?_
  rintro e W' ⟨rfl, k, os, rfl⟩
  exact ⟨rfl, below_grow1 _ _ _⟩
theorem below_bytesW (w : World) (E : TypeId) (t : ByteArray) : Below w.heap.size w (Lib.bytesWorld w E t) := by
  exact ⟨rfl, rfl, rfl, by rw [Lib.bytesWorld_size]; omega, fun k hk => Lib.bytesWorld_at_old w _ t k hk⟩
theorem atoi_ok (s : ByteArray) (hs : s.size ≤ 8192) (v : Int) (h : Lib.atoiAll s.data.toList = .ok v) (w : World) :
    Calls Tryz.prog 41 #[.string s] w fun e W' => e = .returned (.tuple #[.int .i64 v, .nilIface]) ∧ Below w.heap.size w W' := by
  refine (Tryz.strconv_Atoi_ok s (by omega) v h w).mono ?_
  rintro e W' ⟨rfl, rfl | ⟨t, rfl⟩⟩
  · exact ⟨rfl, Below.refl _ _⟩
  · exact ⟨rfl, below_bytesW w _ t⟩
theorem atoi_no (s : ByteArray) (hs : s.size ≤ 8192) (h : ∀ v, Lib.atoiAll s.data.toList ≠ .ok v) (w : World) (hE : Env w) :
    Calls Tryz.prog 41 #[.string s] w fun e W' => ∃ x t p, e = .returned (.tuple #[.int .i64 x, .iface t p]) ∧ Below w.heap.size w W' := by
  cases hA : Lib.atoiAll s.data.toList
  · exact absurd hA (h _)
  · obtain ⟨t, p, hv⟩ := hE.syn
    refine (Any.strconv_Atoi_syntax_var Tryz.laysC172 s (by omega) hA t p w hv).mono ?_
    rintro e W' ⟨N, rfl, _, _, hb⟩
    exact ⟨_, _, _, rfl, hb⟩
  · obtain ⟨t, p, hv⟩ := hE.ran
    refine (Tryz.strconv_Atoi_range_var s (by omega) hA t p w hv).mono ?_
    rintro e W' ⟨N, rfl, _, _, hb⟩
    exact ⟨_, _, _, rfl, hb⟩
end Go.Proofs.YtcjioogololnoaaGreatDoor
