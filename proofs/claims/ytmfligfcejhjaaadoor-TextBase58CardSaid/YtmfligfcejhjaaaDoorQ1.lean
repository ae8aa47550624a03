/- ref03.FromBase58. -/
import Derived.Test.YtmfligfcejhjaaaDoorN4
import Derived.Test.YtmfligfcejhjaaaDoorP5
namespace Go.Proofs.YtmfligfcejhjaaaDoor
open Go.RowKit Go.Shelf

/-- The digits in the midst of a step, the lowest first. -/
def rowQ (X : List UInt8) (d q : Nat) : List UInt8 := (mid 58 256 (X.take q) d).1 ++ X.drop q
theorem rowQ_length (X : List UInt8) (d q : Nat) (h : q ≤ X.length) : (rowQ X d q).length = X.length := by rw [rowQ, List.length_append, mid_len]; simp; omega
theorem rowQ_zero (X : List UInt8) (d : Nat) : rowQ X d 0 = X := by simp [rowQ, mid]
theorem rowQ_end (X : List UInt8) (d : Nat) : rowQ X d X.length = (mid 58 256 X d).1 := by simp [rowQ]
def carQ (X : List UInt8) (d q : Nat) : Nat := (mid 58 256 (X.take q) d).2
theorem take_snoc (X : List UInt8) (q : Nat) (h : q < X.length) : X.take (q + 1) = X.take q ++ [X[q]] := by rw [List.take_succ_eq_append_getElem h]
theorem carQ_succ (X : List UInt8) (d q : Nat) (h : q < X.length) : carQ X d (q + 1) = (carQ X d q + X[q].toNat * 58) / 256 := by rw [carQ, take_snoc X q h, mid_snoc]; rfl
theorem rowQ_at (X : List UInt8) (d q : Nat) (h : q < X.length) : (rowQ X d q)[q]? = some X[q] := by
  rw [rowQ, List.getElem?_append_right (by rw [mid_len]; simp; omega), mid_len]
  simp [show min q X.length = q by omega, h]
theorem rowQ_set (X : List UInt8) (d q : Nat) (h : q < X.length) : (rowQ X d q).set q (UInt8.ofNat ((carQ X d q + X[q].toNat * 58) % 256)) = rowQ X d (q + 1) := by
  have hl : ((mid 58 256 (X.take q) d).1).length = q := by rw [mid_len]; simp; omega
  rw [rowQ, List.set_append_right _ _ (by omega), hl, Nat.sub_self, rowQ, take_snoc X q h, mid_snoc]
  rw [show X.drop q = X[q] :: X.drop (q + 1) from List.drop_eq_getElem_cons h, List.set_cons_zero]
  simp [carQ]
theorem rev_at (L : List UInt8) (q : Nat) (h : q < L.length) : L.reverse[L.length - 1 - q]? = L[q]? := by
  rw [List.getElem?_reverse (by omega)]; congr 1; omega
theorem rev_set (L : List UInt8) (q : Nat) (a : UInt8) (h : q < L.length) : L.reverse.set (L.length - 1 - q) a = (L.set q a).reverse := by
  apply List.ext_getElem (by simp)
  intro i h1 h2
  simp only [List.length_set, List.length_reverse] at h1 h2
  rw [List.getElem_set, List.getElem_reverse, List.getElem_reverse, List.getElem_set]
  simp only [List.length_set]
  by_cases e : L.length - 1 - q = i
  · rw [if_pos e, if_pos (by omega)]
  · rw [if_neg e, if_neg (by omega)]
theorem push_one (c : Nat) (hc : c < 256) : pushes 256 c c = if c = 0 then [] else [UInt8.ofNat c] := by
  by_cases h : c = 0
  · subst h; rfl
  · rw [if_neg h, pushes_pos 256 c (by omega) (by omega), Nat.div_eq_of_lt hc, Nat.mod_eq_of_lt hc]; rfl
theorem next_row (X : List UInt8) (d : Nat) (hd : d < 58) : (baseStep 58 256 X d).reverse = (if carQ X d X.length = 0 then [] else [UInt8.ofNat (carQ X d X.length)]) ++ (rowQ X d X.length).reverse := by
  have hc : carQ X d X.length = (mid 58 256 X d).2 := by simp [carQ]
  have h1 := mid_carry 58 256 (by omega) (by omega) X d (fun x _ => x.toNat_lt) hd
  rw [baseStep, rowQ_end, hc, push_one _ (by omega), List.reverse_append]
  split <;> simp
theorem carQ_lt (X : List UInt8) (d q : Nat) (hd : d < 58) : carQ X d q < 58 := mid_carry 58 256 (by omega) (by omega) _ _ (fun x _ => x.toNat_lt) hd
def ones (S : List UInt8) : Nat := S.length - (S.dropWhile (· == 49)).length
theorem ones_le (S : List UInt8) : ones S ≤ S.length := by unfold ones; omega
theorem ones_lt (S : List UInt8) (j : Nat) (h : j < ones S) : S[j]? = some 49 := by
  have hs : S = List.replicate (ones S) 49 ++ S.dropWhile (· == 49) := dropWhile_split S
  have h2 : S[j]? = (List.replicate (ones S) 49 ++ S.dropWhile (· == 49))[j]? := congrArg (fun l : List UInt8 => l[j]?) hs
  rw [h2, List.getElem?_append_left (by simpa using h)]
  exact List.getElem?_replicate_of_lt h
theorem ones_end (S : List UInt8) (y : UInt8) (hy : S[ones S]? = some y) : y ≠ 49 := by
  intro e
  have hs : S = List.replicate (ones S) 49 ++ S.dropWhile (· == 49) := dropWhile_split S
  have h2 : S[ones S]? = (List.replicate (ones S) 49 ++ S.dropWhile (· == 49))[ones S]? := congrArg (fun l : List UInt8 => l[ones S]?) hs
  rw [h2, List.getElem?_append_right (by simp)] at hy
  simp only [List.length_replicate, Nat.sub_self] at hy
  have hne : S.dropWhile (· == 49) ≠ [] := fun e => by rw [e] at hy; simp at hy
  have h3 := List.head_dropWhile_not (· == (49 : UInt8)) (l := S) hne
  rw [← List.head?_eq_getElem?, List.head?_eq_some_head hne] at hy
  injection hy with hy
  rw [hy, e] at h3
  simp at h3

set_option maxRecDepth 100000 in
set_option maxHeartbeats 4000000 in
theorem rfrom58_any (s : ByteArray) (w : World) (hsz : s.size ≤ 4096) :
    Calls Tryd.prog 15 #[.string s] w fun e W' => ∃ v, e = .returned (.tuple #[v, .int .i64 ((fromS s.data.toList).1 : Int)]) ∧ Ow W' w.heap.size 5 v (B8 (fromS s.data.toList).2) ∧ Below w.heap.size w W' := by
  have hS : s.data.toList.length = s.size := by simp
  by_cases hbig : 250 < s.size
  · have hf : fromS s.data.toList = (2, []) := by rw [fromS, if_pos (by omega)]
    rw [hf]
    go_enter Tryd.func15, Tryd.ntmps15
    go_wp2_with fail
    go_ret2
    exact ⟨_, rfl, Ow.nil_ _ _ _ _, Below.refl _ _⟩
  · obtain ⟨S, hSS⟩ : ∃ S, S = s.data.toList := ⟨_, rfl⟩
    rw [← hSS] at hS ⊢
    obtain ⟨F, hF⟩ : ∃ F, F = fromS S := ⟨_, rfl⟩
    rw [← hF]
    have hsl : s.size ≤ 250 := by omega
    have HSS := Lib.hid hSS
    have HS := Lib.hid hS
    have HF := Lib.hid hF
    clear hSS hS hF
    go_enter Tryd.func15, Tryd.ntmps15
    go_wp2_with fail
    go_loopw [4, 5] (fun v i wr => ∃ k : Nat, k ≤ s.size ∧ i = .int .i64 k ∧ Ow wr w.heap.size 5 v (B8 (baseL 58 256 ((S.take k).map dig58)).reverse) ∧ Hid (∀ c ∈ S.take k, c ∈ letters58) ∧ Below w.heap.size w wr) (fun _ i _ => s.size - (intOf i).toNat)
    case atStart => exact ⟨0, Nat.zero_le _, rfl, Ow.nil_ _ _ _ _, Lib.hid (by simp), Below.refl _ _⟩
    case round =>
      obtain ⟨k, hk, rfl, ho, Hall, hb⟩ := hrel
      obtain ⟨X, hX⟩ : ∃ X, X = baseL 58 256 ((S.take k).map dig58) := ⟨_, rfl⟩
      rw [← hX] at ho
      obtain ⟨m, hm⟩ : ∃ m, m = X.length := ⟨_, rfl⟩
      have hml : m ≤ 250 := by
        rw [hm, hX]
        refine Nat.le_trans (baseL_len1 58 256 (by omega) (by omega) (by omega) (by omega) _ ?_) (by simp; omega)
        intro d hd
        obtain ⟨c, hc, rfl⟩ := List.mem_map.1 hd
        exact dig58_lt c (Hall.out c hc)
      obtain ⟨An, cn, rfl, hcn, hcn'⟩ := own_form ho
      rw [List.length_reverse, ← hm] at ho hcn ⊢
      have HX := Lib.hid hX
      have Hm := Lib.hid hm
      clear hX hm
      by_cases hlt : k < s.size
      · obtain ⟨y, hy⟩ : ∃ y, y = s[k] := ⟨_, rfl⟩
        have hyS : S[k]? = some y := by rw [HSS.out, hy]; simp [hlt]; rfl
        have hpl := place_any ⟨letters58.toArray⟩ s[k].toNat s[k].toNat_lt
        rw [show UInt8.ofNat s[k].toNat = y from by rw [hy]; simp, show (⟨letters58.toArray⟩ : ByteArray).data.toList = letters58 from rfl] at hpl
        have HyS := Lib.hid hyS
        have Hpl := Lib.hid hpl
        have hy8 := s[k].toNat_lt
        clear hyS hpl
        by_cases hmem : y ∈ letters58
        · obtain ⟨d, hd⟩ : ∃ d, d = letters58.idxOf y := ⟨_, rfl⟩
          have hd58 : d < 58 := by rw [hd]; exact List.idxOf_lt_length_iff.2 hmem
          have hpz : placeZ letters58 y = (d : Int) := by rw [placeZ, if_pos hmem, hd]
          have Hd := Lib.hid hd
          have Hpz := Lib.hid hpz
          have Hmem := Lib.hid hmem
          clear hd hpz hmem
          go_wp2_with (go_at_call 30; refine (Hpl.out _ (by decide)).mono ?_; rintro e w' ⟨rfl, hww⟩; rw [← hww]; clear hww; rw [Hpz.out])
          have ho0 : Ow wr w.heap.size 5 (.slice An m cn) (B8 (rowQ X d 0).reverse) := by rw [rowQ_zero]; exact ho
          clear ho
          go_loopw [7, 8] (fun c i wr => ∃ q : Nat, q ≤ m ∧ i = .int .i64 ((m : Int) - 1 - q) ∧ c = .int .i64 (carQ X d q : Int) ∧ Ow wr w.heap.size 5 (.slice An m cn) (B8 (rowQ X d q).reverse) ∧ Below w.heap.size w wr) (fun _ i _ => (intOf i + 1).toNat)
          case atStart => exact ⟨0, Nat.zero_le _, by simp, rfl, ho0, hb⟩
          case round =>
            clear ho0 hb
            obtain ⟨q, hq, rfl, rfl, ho, hb⟩ := hrel
            by_cases hqm : q < m
            · obtain ⟨p, hp⟩ : ∃ p, p = m - 1 - q := ⟨_, rfl⟩
              have ep : (m : Int) - 1 - (q : Int) = (p : Int) := by omega
              have hpm : p < m := by omega
              have hqX : q < X.length := by have := Hm.out; omega
              have hrl : (rowQ X d q).length = m := by rw [rowQ_length X d q (by omega), ← Hm.out]
              obtain ⟨x, hx⟩ : ∃ x, x = X[q] := ⟨_, rfl⟩
              obtain ⟨c, hc⟩ : ∃ c, c = carQ X d q := ⟨_, rfl⟩
              have hc58 : c < 58 := by
                rw [hc, carQ]
                refine mid_carry 58 256 (by omega) (by omega) _ _ (fun x _ => x.toNat_lt) hd58
              have hrow : (rowQ X d q).reverse[p]? = some x := by
                rw [hp, ← hrl, rev_at _ _ (by omega), rowQ_at X d q hqX, hx]
              obtain ⟨g, rfl, hg, hrow2, hcell0, hfz⟩ := ho.at_ (j := p) (by simp [hrl]; exact hpm)
              have hcell : wr.cell? ⟨g, p, none⟩ = some (.int .u8 (x.toNat : Int)) := by
                rw [hcell0]
                have h2 : (B8 (rowQ X d q).reverse)[p]? = some (.int .u8 (x.toNat : Int)) := by rw [B8, List.getElem?_map, hrow]; rfl
                rw [List.getElem?_eq_getElem (by simp [hrl]; exact hpm)] at h2
                exact h2
              have hst := ho.store p (by omega) (Value.int IntKind.u8 (((x.toNat : Int) * 58 + (c : Int)) % 256))
              have hset : (B8 (rowQ X d q).reverse).set p (Value.int IntKind.u8 (((x.toNat : Int) * 58 + (c : Int)) % 256)) = B8 (rowQ X d (q + 1)).reverse := by
                rw [← rowQ_set X d q hqX, ← rev_set _ _ _ (by omega), hrl, ← hp, B8, B8, List.map_set, ← hc, ← hx]
                congr 2
                rw [UInt8.toNat_ofNat']
                omega
              rw [hset] at hst
              have hcar : carQ X d (q + 1) = (c + x.toNat * 58) / 256 := by rw [carQ_succ X d q hqX, ← hc, ← hx]
              have hx8 := x.toNat_lt
              have Hst := Lib.hid hst
              have Hcar := Lib.hid hcar
              have Hp := Lib.hid hp
              rw [← hc]
              clear hset hst hcar hrow hc hx hp hrow2 hcell0 hrl
              go_wp2_with fail
              refine ⟨⟨q + 1, by omega, by congr 1; omega, ?_, Hst.out, hb.setCell (p := ⟨g, p, none⟩) hg _⟩, by simp only [intOf]; omega⟩
              rw [Hcar.out]; congr 1; omega
            · have hqe : q = X.length := by have := Hm.out; omega
              have eneg : (m : Int) - 1 - (q : Int) = -1 := by omega
              obtain ⟨c, hc⟩ : ∃ c, c = carQ X d q := ⟨_, rfl⟩
              have hc58 : c < 58 := by rw [hc]; exact carQ_lt X d q hd58
              have hnx := next_row X d hd58
              rw [← hqe, ← hc] at hnx
              have hdy : (dig58 y).toNat = d := by rw [dig58, ← Hd.out, UInt8.toNat_ofNat', Nat.mod_eq_of_lt (by omega)]
              have htk : S.take k ++ [y] = S.take (k + 1) := by rw [List.take_add_one, HyS.out]; rfl
              have hbase : baseL 58 256 ((S.take (k + 1)).map dig58) = baseStep 58 256 X d := by
                rw [← htk, List.map_append, List.map_singleton, baseL_snoc, ← HX.out, hdy]
              rw [← hbase] at hnx
              have hall2 : ∀ c ∈ S.take (k + 1), c ∈ letters58 := by
                rw [← htk]
                intro c hc
                simp only [List.mem_append, List.mem_singleton] at hc
                rcases hc with hc | rfl
                · exact Hall.out c hc
                · exact Hmem.out
              have hrl : (rowQ X d q).length = m := by rw [rowQ_length X d q (by omega), ← Hm.out]
              rw [← hc]
              have Hnx := Lib.hid hnx
              have Hall2 := Lib.hid hall2
              have Hrl := Lib.hid hrl
              clear hnx hdy htk hbase hall2 hqe hc hrl
              by_cases hc0 : c = 0
              · subst hc0
                go_wp2_with fail
                refine ⟨⟨k + 1, by omega, rfl, ?_, Hall2, hb⟩, by simp [intOf]; omega⟩
                rw [Hnx.out]; exact ho
              · have hsl2 := (ho.alloc (.cells #[.int .u8 (c : Int)] 5)).sl
                have hon : Ow (wr.alloc (.cells #[.int .u8 (c : Int)] 5)) w.heap.size 5 (.slice (some ⟨wr.heap.size, 0, none⟩) 1 1) [.int .u8 (c : Int)] := Ow.of_row (w := wr) #[.int .u8 (c : Int)] 5 w.heap.size hb.size (cap := 1) rfl (by decide) 1 (Nat.le_refl _)
                go_wp2_with (at_builtin; go_loud (refine wpList_append_Ow (m := m) (c := cn) (base := w.heap.size) (xs := [.int .u8 (c : Int)]) (v := .slice (some ⟨wr.heap.size, 0, none⟩) 1 1) (A := An) (B := (wr.alloc (.cells #[.int .u8 (c : Int)] 5)).heap.size) (news := B8 (rowQ X d q).reverse) elB rfl (.tmp 54) (.tmp 55) rfl rfl hon rfl hsl2 (by rw [B8_length, List.length_reverse]; exact Hrl.out) (B8_oneCell _) (by simp [maxLen]; omega) (by simp; omega) (by have := hb.size; simp; omega) ?_); intro v3 w3 ho3 hg3 hr3)
                refine ⟨⟨k + 1, by omega, rfl, ?_, Hall2, ?_⟩, by simp [intOf]; omega⟩
                · rw [Hnx.out, if_neg hc0, B8_append, B8_one, UInt8.toNat_ofNat', Nat.mod_eq_of_lt (by omega)]; exact ho3
                · exact (hb.alloc hb.size _).grown hg3 (by have := hb.size; simp; omega) (fun r hr => (hon.row r hr).1)
        · have hpz : placeZ letters58 y = -1 := by rw [placeZ, if_neg hmem]
          have Hpz := Lib.hid hpz
          have Hmem := Lib.hid hmem
          clear hpz hmem
          go_wp2_with (go_at_call 30; refine (Hpl.out _ (by decide)).mono ?_; rintro e w' ⟨rfl, hww⟩; rw [← hww]; clear hww; rw [Hpz.out])
          go_ret2
          have hF : F = (3, []) := by
            rw [HF.out, fromS, if_neg (by have := HS.out; omega), if_neg]
            exact fun h => Hmem.out (h y (List.mem_of_getElem? HyS.out))
          rw [hF]
          exact ⟨_, rfl, Ow.nil_ _ _ _ _, hb⟩
      · obtain rfl : k = s.size := by omega
        obtain ⟨z, hz⟩ : ∃ z, z = ones S := ⟨_, rfl⟩
        have hzl : z ≤ s.size := by rw [hz, ← HS.out]; exact ones_le S
        have hFv : F = (0, List.replicate z 0 ++ X.reverse) := by
          have hall : ∀ c ∈ S, c ∈ letters58 := by have := Hall.out; rwa [List.take_of_length_le (by have := HS.out; omega)] at this
          rw [HF.out, fromS, if_neg (by have := HS.out; omega), if_pos hall, HX.out, List.take_of_length_le (by have := HS.out; omega), hz]; rfl
        have HFv := Lib.hid hFv
        have Hz := Lib.hid hz
        clear hFv hz
        go_wp2_with fail
        go_loopw [4, 10] (fun v i wr => ∃ j : Nat, j ≤ z ∧ i = .int .i64 j ∧ Ow wr w.heap.size 5 v (B8 (List.replicate j 0 ++ X.reverse)) ∧ Below w.heap.size w wr) (fun _ i _ => z - (intOf i).toNat)
        case atStart => exact ⟨0, Nat.zero_le _, rfl, by simpa using ho, hb⟩
        case round =>
          clear ho hb
          obtain ⟨j, hj, rfl, ho, hb⟩ := hrel
          obtain ⟨Y, hY⟩ : ∃ Y, Y = List.replicate j 0 ++ X.reverse := ⟨_, rfl⟩
          rw [← hY] at ho
          obtain ⟨Ay, cy, rfl, hcy, hcy'⟩ := own_form ho
          obtain ⟨M, hM⟩ : ∃ M, M = Y.length := ⟨_, rfl⟩
          have hMl : M ≤ 600 := by rw [hM, hY, List.length_append, List.length_replicate, List.length_reverse, ← Hm.out]; omega
          rw [← hM] at ho hcy ⊢
          have HY := Lib.hid hY
          have HM := Lib.hid hM
          clear hY hM
          by_cases hjz : j < z
          · have hjs : j < s.size := by omega
            have hsj : (s[j].toNat : Int) = 49 := by
              have h1 := ones_lt S j (by rw [← Hz.out]; exact hjz)
              rw [HSS.out] at h1
              have h2 : s.data.toList[j]? = some s[j] := by simp [hjs]; rfl
              rw [h2] at h1
              injection h1 with h1
              rw [h1]; rfl
            have hsl2 := (ho.alloc (.cells #[.int .u8 (0 : Int)] 5)).sl
            have hon : Ow (wr.alloc (.cells #[.int .u8 (0 : Int)] 5)) w.heap.size 5 (.slice (some ⟨wr.heap.size, 0, none⟩) 1 1) [.int .u8 (0 : Int)] := Ow.of_row (w := wr) #[.int .u8 (0 : Int)] 5 w.heap.size hb.size (cap := 1) rfl (by decide) 1 (Nat.le_refl _)
            go_wp2_with (at_builtin; go_loud (refine wpList_append_Ow (m := M) (c := cy) (base := w.heap.size) (xs := [.int .u8 (0 : Int)]) (v := .slice (some ⟨wr.heap.size, 0, none⟩) 1 1) (A := Ay) (B := (wr.alloc (.cells #[.int .u8 (0 : Int)] 5)).heap.size) (news := B8 Y) elB rfl (.tmp 69) (.tmp 70) rfl rfl hon rfl hsl2 (by rw [B8_length]; exact HM.out.symm) (B8_oneCell _) (by simp [maxLen]; omega) (by simp; omega) (by have := hb.size; simp; omega) ?_); intro v3 w3 ho3 hg3 hr3)
            refine ⟨⟨j + 1, by omega, rfl, ?_, (hb.alloc hb.size _).grown hg3 (by have := hb.size; simp; omega) (fun r hr => (hon.row r hr).1)⟩, by simp [intOf]; omega⟩
            rw [List.replicate_succ, List.cons_append, ← HY.out]
            exact ho3
          · have hjz' : j = z := by omega
            by_cases hjs : j < s.size
            · have hsj : ¬ (s[j].toNat : Int) = 49 := by
                intro e
                have h2 : S[ones S]? = some s[j] := by rw [← Hz.out, ← hjz', HSS.out]; simp [hjs]; rfl
                refine ones_end S _ h2 ?_
                apply UInt8.toNat_inj.1
                show s[j].toNat = 49
                omega
              have Hjz := Lib.hid hjz'
              clear hjz'
              go_wp2_with fail
              go_ret2
              refine ⟨.slice Ay M cy, ?_, ?_, hb⟩
              · rw [HFv.out]; rfl
              · rw [HFv.out, ← Hjz.out, ← HY.out]; exact ho
            · have Hjz := Lib.hid hjz'
              clear hjz'
              go_wp2_with fail
              go_ret2
              refine ⟨.slice Ay M cy, ?_, ?_, hb⟩
              · rw [HFv.out]; rfl
              · rw [HFv.out, ← Hjz.out, ← HY.out]; exact ho
end Go.Proofs.YtmfligfcejhjaaaDoor
