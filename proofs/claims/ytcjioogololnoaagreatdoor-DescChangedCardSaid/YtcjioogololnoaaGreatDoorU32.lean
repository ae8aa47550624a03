/- The law's fixed fact, plain. | The law DescChanged, walked (over read's contract). | (*Desc).read: the walk. -/
import Derived.Test.YtcjioogololnoaaGreatDoorU30
import Derived.Test.YtcjioogololnoaaGreatDoorU31
import Derived.Test.YtcjioogololnoaaGreatDoorU27
import Derived.Test.YtcjioogololnoaaGreatDoorU26

/-! The law's fixed fact, plain. -/
namespace Go.Proofs.YtcjioogololnoaaGreatDoor

def s0 : List UInt8 := [112, 107, 104, 40, 48, 50, 99, 54, 48, 52, 55, 102, 57, 52, 52, 49, 101, 100, 55, 100, 54, 100, 51, 48, 52, 53, 52, 48, 54, 101, 57, 53, 99, 48, 55, 99, 100, 56, 53, 99, 55, 55, 56, 101, 52, 98, 56, 99, 101, 102, 51, 99, 97, 55, 97, 98, 97, 99, 48, 57, 98, 57, 53, 99, 55, 48, 57, 101, 101, 53, 41]
def k0 : List UInt8 := [2, 198, 4, 127, 148, 65, 237, 125, 109, 48, 69, 64, 110, 149, 192, 124, 216, 92, 119, 142, 75, 140, 239, 60, 167, 171, 172, 9, 185, 92, 112, 158, 229]
def d0 : DDesc := ⟨[wPkh], 0, false, [⟨k0, hkZero, [], false, false⟩]⟩
def t0 : List UInt8 := [112, 107, 104, 40, 48, 50, 99, 54, 48, 52, 55, 102, 57, 52, 52, 49, 101, 100, 55, 100, 54, 100, 51, 48, 52, 53, 52, 48, 54, 101, 57, 53, 99, 48, 55, 99, 100, 56, 53, 99, 55, 55, 56, 101, 52, 98, 56, 99, 101, 102, 51, 99, 97, 55, 97, 98, 97, 99, 48, 57, 98, 57, 53, 99, 55, 48, 57, 101, 101, 53, 41, 35, 56, 102, 104, 100, 57, 112, 119, 117]
theorem cut_awake : Lib.cut s0 [35] = (s0, [], false) := cut_none s0 35 (by decide +kernel)
theorem in_awake : s0.all (fun x => decide (x ∈ inD)) = true := by decide +kernel
theorem read_awake : readD s0 = some d0 := by decide +kernel
theorem parse_awake : parseD s0 = (0, some d0) := by
  rw [parseD, if_neg (by decide), cut_awake]
  simp only []
  rw [if_pos in_awake, if_neg (by decide), read_awake]
theorem text_awake : descT d0 = t0 := by decide +kernel
theorem form_awake : formT d0 = [112, 107, 104] := by decide +kernel
theorem ranged_awake : rangedD d0 = false := rfl
end Go.Proofs.YtcjioogololnoaaGreatDoor

/-! The law DescChanged, walked (over read's contract). -/
namespace Go.Proofs.YtcjioogololnoaaGreatDoor
open Go Go.RowKit Go.Shelf

theorem textp_any (d : DDesc) (hd : d.Fit) (base g : Nat) (w : World) (hD : DA w base g d) (hE : Env w) :
    Calls Tryz.prog 9 #[.pointer (some ⟨g, 0, none⟩)] w fun e W' => e = .returned (.string ⟨(descT d).toArray⟩) ∧ Below w.heap.size w W' :=
  (callsIn_wide (n := 3)).1 (text_in 3 (by omega) d hd base g w hD hE)
set_option maxRecDepth 100000 in
set_option maxHeartbeats 2000000 in
theorem descShort_any (s : ByteArray) (w : World) :
    Calls Tryz.prog 6 #[.string s] w fun e w' => (∃ s', e = .returned (.string s') ∧ s'.size ≤ 4100) ∧ w = w' := by
  by_cases h : 4100 < s.size
  · go_enter Tryz.func6, Tryz.ntmps6
    go_wp2
    go_ret
    exact ⟨⟨_, rfl, by simp [ByteArray.size_extract]; omega⟩, rfl⟩
  · go_enter Tryz.func6, Tryz.ntmps6
    go_wp2
    go_ret
    exact ⟨⟨_, rfl, by omega⟩, rfl⟩

set_option maxRecDepth 100000 in
set_option maxHeartbeats 4000000 in
theorem descAwake_core (hrd : ReadSaid) (w : World) (hE : Env w) :
    Calls Tryz.prog 5 #[] w fun e W' => e = .returned (.bool true) ∧ Below w.heap.size w W' := by
  have HP : Hid (∀ s : ByteArray, s.data.toList = s0 → Calls Tryz.prog 7 #[.string s] w (PD w s0)) := Lib.hid (fun s hs => by
    have h := parse_core hrd s (by have := congrArg List.length hs; simp at this; rw [show s.size = s0.length from this]; decide) w hE
    rw [hs] at h
    exact h)
  have HE := Lib.hid hE
  clear hE hrd
  go_enter Tryz.func5, Tryz.ntmps5
  go_wp2_with fail
  refine (HP.out _ (by rfl)).mono ?_
  rintro e w1 ⟨h1, hb1⟩
  have h1' : ∃ g, e = .returned (.tuple #[.pointer (some ⟨g, 0, none⟩), .int .i64 0]) ∧ DA w1 w.heap.size g d0 := by
    rcases h1 with ⟨n, hn, _, hp, _⟩ | ⟨d, g, hp, he, hD⟩
    · rw [parse_awake] at hp
      injection hp with h1 h2
      cases h2
    · rw [parse_awake] at hp
      injection hp with h1 h2
      injection h2 with h2
      subst h2
      exact ⟨g, he, hD⟩
  obtain ⟨g, rfl, hD⟩ := h1'
  have hfit : d0.Fit := parseD_fit parse_awake
  have hE1 := HE.out.below hb1
  have HT := Lib.hid (textp_any d0 hfit _ g w1 hD hE1)
  rw [text_awake] at HT
  obtain ⟨tB, htB⟩ : ∃ tB : ByteArray, tB = ⟨t0.toArray⟩ := ⟨_, rfl⟩
  rw [← htB] at HT
  have HtB := Lib.hid htB
  have HD := Lib.hid hD
  have Hb1 := Lib.hid hb1
  have Hfit := Lib.hid hfit
  clear h1 hb1 hD hfit hE1 htB HP
  go_wp2_with fail
  refine HT.out.mono ?_
  rintro e w2 ⟨rfl, hb2⟩
  have HD2 := Lib.hid (HD.out.below hb2)
  have Hb2 := Lib.hid (Hb1.out.trans (hb2.mono Hb1.out.size))
  clear hb2 HT
  have hx : (tB.toList == [112, 107, 104, 40, 48, 50, 99, 54, 48, 52, 55, 102, 57, 52, 52, 49, 101, 100, 55, 100, 54, 100, 51, 48, 52, 53, 52, 48, 54, 101, 57, 53, 99, 48, 55, 99, 100, 56, 53, 99, 55, 55, 56, 101, 52, 98, 56, 99, 101, 102, 51, 99, 97, 55, 97, 98, 97, 99, 48, 57, 98, 57, 53, 99, 55, 48, 57, 101, 101, 53, 41, 35, 56, 102, 104, 100, 57, 112, 119, 117]) = true := by rw [ByteArray.toList_eq, HtB.out]; exact beq_iff_eq.2 rfl
  have HF := Lib.hid (form_any d0 Hfit.out _ g w2 HD2.out)
  rw [form_awake] at HF
  go_wp2_with fail
  refine HF.out.mono ?_
  rintro e w3 ⟨rfl, hb3⟩
  have HD3 := Lib.hid (HD2.out.below hb3)
  have Hb3 := Lib.hid (Hb2.out.trans (hb3.mono Hb2.out.size))
  clear hb3 HF hx
  have HR := Lib.hid (ranged_any d0 Hfit.out _ g w3 HD3.out)
  rw [ranged_awake] at HR
  have hy : ((⟨#[112, 107, 104]⟩ : ByteArray).toList == [112, 107, 104]) = true := by decide +kernel
  go_wp2_with fail
  refine HR.out.mono ?_
  rintro e w4 ⟨rfl, hb4⟩
  have Hb4 := Lib.hid (Hb3.out.trans (hb4.mono Hb3.out.size))
  clear hb4 HR
  go_wp2_with fail
  go_ret
  exact ⟨rfl, Hb4.out⟩
theorem changed_parse (Bd : List UInt8) (hB : AllD Bd) (k : Nat) (hk : k < Bd.length) (c : UInt8) (hc : Bd[k] ≠ c) (hm : c ≠ 35) (d : DDesc) : parseD ((Bd ++ 35 :: checksum Bd).set k c) ≠ (0, some d) := by
  obtain ⟨hcut, hch⟩ := changed_refused Bd (fun x hx => (okD_spec (hB x hx)).1) (fun x hx => (okD_spec (hB x hx)).2) k hk c hc hm
  intro h
  unfold parseD at h
  rw [hcut] at h
  simp only [] at h
  split at h
  · cases h
  · split at h
    · next hall =>
      split at h
      · cases h
      · next hne =>
        rcases hch with hbad | hd
        · rw [not_all_inD hbad] at hall
          cases hall
        · exact hne ⟨trivial, fun e => hd e.symm⟩
    · cases h
theorem set_extract (tB : ByteArray) (T : List UInt8) (hT : tB = ⟨T.toArray⟩) (k N : Nat) (hN : tB.size = N) (hk : k < N) (c : UInt8) : (tB.extract 0 k ++ ⟨#[c]⟩ ++ tB.extract (k + 1) N).data.toList = T.set k c := by
  subst hT
  have hl : T.length = N := by rw [← hN, size_mk]
  rw [ByteArray.data_append, ByteArray.data_append, ByteArray.data_extract, ByteArray.data_extract, List.set_eq_take_append_cons_drop, if_pos (by omega)]
  simp only [Array.toList_append, Array.toList_extract, List.extract_eq_take_drop, List.drop_zero, Nat.sub_zero]
  rw [List.take_of_length_le (l := T.drop (k + 1)) (by rw [List.length_drop]; omega)]
  simp
theorem checksum_len (b : List UInt8) : (checksum b).length = 8 := by rw [checksum]; simp [lettersL]
section
variable {P : Program} {ops : Array Oper} {N : Nat} {Q : Act → World → Prop} {st : Nat → (Act → World → Prop) → Act → World → Prop}
theorem wpPlan_str {i : Nat} {rest : List (Nat × Nat)} {o : Oper} {a : Act} {w : World} (ho : ops[i]? = some o) (hg : o.guard = none) (src dst E : TypeId) (x : Operand) (hop : o.op = .convert src dst x) (hs : P.underlying src = some (.slice E)) (he : P.underlying E = some (.int .u8)) (hd : P.underlying dst = some .string)
    (A : Option Addr) (n c : Nat) (bs : List UInt8) (hn : n = bs.length) (hx : a.eval x = .slice A n c) (hsl : Sl w w.heap.size A (B8 bs)) (h : wpPlan P ops Q st N rest (a.put o.dst (.string ⟨bs.toArray⟩)) w) : wpPlan P ops Q st N ((i, 1) :: rest) a w := by
  subst hn
  simp only [wpPlan, if_true, ho, Nat.one_ne_zero, if_false]
  refine ⟨.string ⟨bs.toArray⟩, .inl ⟨by simp [Region.wanted, hg], fun w' hw' => ?_⟩, h⟩
  have hr := run_str_Sl (P := P) w' src dst E hs he hd w'.heap.size A c bs ((hsl.below hw'.below).mono hw'.below.size)
  unfold execOp
  simp only [hop, hx]
  go_simp
  done
end

set_option maxRecDepth 100000 in
set_option maxHeartbeats 4000000 in
theorem descChanged_core (hrd : ReadSaid) (s : ByteArray) (m : Int) (hm1 : -9223372036854775808 ≤ m) (hm2 : m ≤ 9223372036854775807) (c : UInt8) (w : World) (hE : Env w) :
    Calls Tryz.prog 4 #[.string s, .int .i64 m, .int .u8 (c.toNat : Int)] w fun e W' => e = .returned (.bool true) ∧ Below w.heap.size w W' := by
  have hmx : Tryz.prog.follows .mixedOrders = true := by kernel_rfl
  have HA := Lib.hid (descAwake_core hrd w hE)
  have HSh := Lib.hid (descShort_any s)
  have HPc := Lib.hid (fun (s' : ByteArray) (hz : s'.size ≤ 8192) (W : World) (h : Env W) => parse_core hrd s' hz W h)
  have HE := Lib.hid hE
  have Hm1 := Lib.hid hm1
  have Hm2 := Lib.hid hm2
  clear hrd hE hm1 hm2
  go_enter Tryz.func4, Tryz.ntmps4
  go_wp2_with fail
  refine HA.out.mono ?_
  rintro e w1 ⟨rfl, hb1⟩
  have Hb1 := Lib.hid hb1
  clear hb1 HA
  go_wp2_with fail
  refine (HSh.out w1).mono ?_
  rintro e w2 ⟨⟨s', rfl, hs'⟩, hww⟩
  rw [← hww]
  clear hww HSh
  go_wp2_with fail
  refine (HPc.out s' (by omega) w1 (HE.out.below Hb1.out)).mono ?_
  rintro e w3 ⟨h3, hb3⟩
  have Hb3 := Lib.hid (Hb1.out.trans (hb3.mono Hb1.out.size))
  clear hb3
  rcases h3 with ⟨n, hn, hn1, hp, rfl⟩ | ⟨d, g, hp, rfl, hD⟩
  · have hne : ((n : Int) == 0) = false := by simpa using hn
    clear hp hn
    go_wp2_with fail
    go_ret
    exact ⟨rfl, Hb3.out⟩
  · have hfit : d.Fit := parseD_fit hp
    have HT := Lib.hid (textp_any d hfit _ g w3 hD (HE.out.below Hb3.out))
    have hbf := bodyT_fit hfit
    obtain ⟨Bd, hBd⟩ : ∃ Bd, Bd = bodyT d := ⟨_, rfl⟩
    rw [descT, ← hBd] at HT
    rw [← hBd] at hbf
    obtain ⟨tB, htB⟩ : ∃ tB : ByteArray, tB = ⟨(Bd ++ 35 :: checksum Bd).toArray⟩ := ⟨_, rfl⟩
    rw [← htB] at HT
    obtain ⟨N, hN⟩ : ∃ N, N = tB.size := ⟨_, rfl⟩
    have hNL : N = Bd.length + 9 := by rw [hN, htB, size_mk, List.length_append, List.length_cons, checksum_len]
    have hNz : N ≤ 6700 := by have := hbf.1; omega
    have hNs := hN.symm
    have Hbf := Lib.hid hbf
    have HtB := Lib.hid htB
    have HNL := Lib.hid hNL
    clear hp hD hfit hBd hbf htB hN hNL
    go_wp2_with fail
    refine HT.out.mono ?_
    rintro e w4 ⟨rfl, hb4⟩
    have Hb4 := Lib.hid (Hb3.out.trans (hb4.mono Hb3.out.size))
    clear hb4 HT Hb3
    by_cases h480 : 480 < N
    · go_wp2_with fail
      go_ret
      exact ⟨rfl, Hb4.out⟩
    · by_cases hm0 : m < 0
      · have hd1 : decide (480 < (N : Int)) = false := decide_eq_false (by omega)
        go_wp2_with fail
        go_ret
        exact ⟨rfl, Hb4.out⟩
      · obtain ⟨k, rfl⟩ : ∃ k : Nat, m = k := ⟨m.toNat, by omega⟩
        clear hm0
        by_cases hk : N ≤ k + 9
        · have hd2 : decide ((N : Int) - 9 ≤ (k : Int)) = true := decide_eq_true (by omega)
          go_wp2_with fail
          go_ret
          exact ⟨rfl, Hb4.out⟩
        · have hd2 : decide ((N : Int) - 9 ≤ (k : Int)) = false := decide_eq_false (by omega)
          have hkB : k < Bd.length := by have := HNL.out; omega
          obtain ⟨y, hy⟩ : ∃ y, y = Bd[k] := ⟨_, rfl⟩
          have hkN : k < N := by omega
          have hyt : ∀ h, tB[k]'h = y := fun h => by
            rw [hy]
            have := HtB.out
            subst this
            show (Bd ++ 35 :: checksum Bd).toArray[k]'_ = _
            simp [List.getElem_append_left hkB]
          have Hy := Lib.hid hy
          clear hy
          by_cases hyc : y = c
          · subst hyc
            go_wp2_with fail
            go_ret
            exact ⟨rfl, Hb4.out⟩
          · have hyc2 : ((y.toNat : Int) == (c.toNat : Int)) = false := by
              rw [beq_eq_false_iff_ne]
              intro h
              exact hyc (UInt8.toNat_inj.1 (by omega))
            by_cases hc35 : c = 35
            · have hcc : ((c.toNat : Int) == 35) = true := by rw [hc35]; rfl
              clear hc35
              go_wp2_with fail
              go_ret
              exact ⟨rfl, Hb4.out⟩
            · have hcc : ((c.toNat : Int) == 35) = false := by
                rw [beq_eq_false_iff_ne]
                intro h
                exact hc35 (UInt8.toNat_inj.1 (by show c.toNat = 35; omega))
              go_wp2_with fail
              refine wp_region_plan [(0, 0), (1, 0), (2, 0), (3, 0), (7, 0), (8, 0), (9, 0), (10, 0), (4, 2), (5, 1), (6, 0), (11, 0), (12, 2), (13, 0), (14, 0), (15, 0), (16, 0), (17, 0)] 18 hmx (by kernel_rfl) (by intro c a d v w h; cases d <;> exact h) ?_
              repeat ((first | (refine wpPlan_pure rfl (fun K hK => ?_)) | (refine wpPlan_quiet rfl (fun K hK => ?_))); go_simp; (first | (refine hK _ ?_) | (simp only [IntWalk.iteOmega]; go_simp; refine hK _ ?_) | (go_bits; go_simp; refine hK _ ?_)); clear hK K; (try go_bits))
              refine wpPlan_loud rfl rfl (fun K hK => ?_)
              go_wp2_with fail
              refine ⟨.inr (ext_alloc _ _), ?_⟩
              refine wpPlan_str rfl rfl 37 9 5 (.tmp 54) rfl Tryz.underlying37 Tryz.underlying5 Tryz.underlying9 _ 1 1 [c] rfl rfl ((Sl.one w4 (.int .u8 (c.toNat : Int)) 5).mono (by show w4.heap.size + 1 ≤ (w4.alloc _).heap.size; rw [World.size_alloc]; exact Nat.le_refl _)) ?_
              refine (show wpPlan _ _ _ _ _ _ (Act.put _ (some 55) _) _ from ?_)
              conv in (Act.put _ (some 55) _) => simp [Act.put]
              repeat ((first | (refine wpPlan_pure rfl (fun K hK => ?_)) | (refine wpPlan_quiet rfl (fun K hK => ?_))); go_simp; (first | (refine hK _ ?_) | (simp only [IntWalk.iteOmega]; go_simp; refine hK _ ?_) | (go_bits; go_simp; refine hK _ ?_)); clear hK K; (try go_bits))
              refine wpPlan_loud rfl rfl (fun K hK => ?_)
              go_wp2_with fail
              obtain ⟨uB, huB⟩ : ∃ uB, uB = tB.extract 0 k ++ ⟨#[c]⟩ ++ tB.extract (k + 1) N := ⟨_, rfl⟩
              have hud : uB.data.toList = (Bd ++ 35 :: checksum Bd).set k c := by rw [huB]; exact set_extract tB _ HtB.out k N hNs hkN c
              have huz : uB.size ≤ 8192 := by
                have := congrArg List.length hud
                rw [List.length_set, List.length_append, List.length_cons, checksum_len] at this
                have h2 := HNL.out
                simp at this
                omega
              rw [← huB]
              have HX4 := Lib.hid (ext_alloc w4 (.cells #[.int .u8 (c.toNat : Int)] 5))
              have hb4a : Below w.heap.size w (w4.alloc (.cells #[.int .u8 (c.toNat : Int)] 5)).drew := (Hb4.out.alloc Hb4.out.size _).drew
              refine (HPc.out uB huz _ (HE.out.below hb4a)).mono ?_
              rintro e w5 ⟨h5, hb5⟩
              rw [hud] at h5
              have Hb5 := Lib.hid (hb4a.trans (hb5.mono hb4a.size))
              have HX5 := Lib.hid (ext_of_below hb5)
              have h5' : ∃ n : Nat, n ≠ 0 ∧ n < 100 ∧ e = .returned (.tuple #[.pointer none, .int .i64 (n : Int)]) := by
                rcases h5 with ⟨n, hn, hn1, _, he⟩ | ⟨d', g', hp, _⟩
                · exact ⟨n, hn, hn1, he⟩
                · exact absurd hp (changed_parse Bd Hbf.out.2 k hkB c (by rw [← Hy.out]; exact hyc) hc35 d')
              obtain ⟨n, hn, hn1, rfl⟩ := h5'
              have hne : ((n : Int) == 0) = false := by simpa using hn
              have Hn := Lib.hid hn
              clear h5 hb5 hb4a hud huz huB hn HX4
              go_wp2_with fail
              refine ⟨.inr HX5.out, ?_⟩
              repeat ((first | (refine wpPlan_pure rfl (fun K hK => ?_)) | (refine wpPlan_quiet rfl (fun K hK => ?_))); go_simp; (first | (refine hK _ ?_) | (simp only [IntWalk.iteOmega]; go_simp; refine hK _ ?_) | (go_bits; go_simp; refine hK _ ?_)); clear hK K; (try go_bits))
              refine wpPlan_nil ?_
              go_wp2_with fail
              go_ret
              exact ⟨by simpa using Hn.out, Hb5.out⟩
end Go.Proofs.YtcjioogololnoaaGreatDoor

/-! (*Desc).read: the walk. -/
namespace Go.Proofs.YtcjioogololnoaaGreatDoor
open Go Go.RowKit Go.Shelf

theorem meas3 (l3 k : Nat) (hk : k < l3) (a b : List Value) (ha : a[159]? = some (.int .i64 ((k:Int)+1))) (hb : b[159]? = some (.int .i64 (k:Int))) : l3 - (intOf (a.toArray.getD 159 undef)).toNat < l3 - (intOf (b.toArray.getD 159 undef)).toNat := by
  have e : ∀ (l : List Value) (v : Value), l[159]? = some v → l.toArray.getD 159 undef = v := fun l v h => by
    rw [Array.getD_eq_getD_getElem?, List.getElem?_toArray, h]; rfl
  rw [e _ _ ha, e _ _ hb]
  simp [intOf]
  omega
theorem castV (k : Nat) : Value.int .i64 ((k : Int) + 1) = .int .i64 ((k + 1 : Nat) : Int) := rfl
theorem end3 {w0 w10 : World} {g G F k : Nat} {rs ps ws : List (List UInt8)} {ks : List DKey} {kk : DKey} {Av : Option Addr} {n cv : Nat} {v : Int} {s : Bool} {kv0 kv1 : Value}
    (h1 : keysOf (rs.take (k + 1)) = some (ks ++ [kk])) (R10 : w10.heap[g]? = some (.cells (DC (.slice Av n cv) v s kv0) 48 (0, 0))) (O10 : Ow w10 (G + 1) 9 (.slice Av n cv) (ST ws)) (K10 : KS w10 (F + 1) (g + 1) kv1 (ks ++ [kk]))
    (F10 : w10.heap[F]? = some (.cells (ST ps).toArray 9 (0, 0))) (B10 : Below w0.heap.size w0 w10) (hg : w0.heap.size ≤ g) (hgG : g < G) (hF : g < F) :
    ∃ ks' kv', keysOf (rs.take (k + 1)) = some ks' ∧ (w10.setCell ⟨g, 3, none⟩ kv1).heap[g]? = some (.cells (DC (.slice Av n cv) v s kv') 48 (0, 0)) ∧ Ow (w10.setCell ⟨g, 3, none⟩ kv1) (G + 1) 9 (.slice Av n cv) (ST ws) ∧ KS (w10.setCell ⟨g, 3, none⟩ kv1) (F + 1) (g + 1) kv' ks' ∧
      (w10.setCell ⟨g, 3, none⟩ kv1).heap[F]? = some (.cells (ST ps).toArray 9 (0, 0)) ∧ Below w0.heap.size w0 (w10.setCell ⟨g, 3, none⟩ kv1) :=
  ⟨ks ++ [kk], kv1, h1, DC_set3 R10 _, O10.setCell (p := ⟨g, 3, none⟩) (fun r hr => by have := (O10.row r hr).1; show g ≠ r; omega) _, K10.setCell (by omega) (by omega) 3 _, (Below.heap_setCell _ _ _ _ (show F ≠ g by omega)).trans F10, B10.setCell (p := ⟨g, 3, none⟩) hg _⟩
set_option maxRecDepth 100000 in
set_option maxHeartbeats 8000000 in
theorem read_any (w0 w : World) (hE : Env w0) (hb : Below w0.heap.size w0 w) (g : Nat) (hg : w0.heap.size ≤ g)
    (hrow : w.heap[g]? = some (.cells (DC nilS 0 false nilS) 48 (0, 0))) (s : ByteArray) (hs : s.size ≤ 4096) :
    Calls Tryz.prog 18 #[.pointer (some ⟨g, 0, none⟩), .string s] w (RD w0 g s.data.toList) := by
  obtain ⟨S, hS⟩ : ∃ S, S = s.data.toList := ⟨_, rfl⟩
  have hSl : S.length ≤ 4096 := by rw [hS]; simpa using hs
  have hs2 : s = ⟨S.toArray⟩ := by rw [hS]
  rw [← hS]
  subst hs2
  clear hS hs
  have HE := Lib.hid hE
  have HR := Lib.hid hrow
  have HSl := Lib.hid hSl
  clear hE hrow hSl
  have KI := Lib.hid (show (Tryz.prog.info? 62).map (·.size) = some 75 by kernel_rfl)
  have KZ := Lib.hid (show ((Tryz.prog.info? 62).bind (·.zero)).isSome = true by kernel_rfl)
  go_enter Tryz.func18, Tryz.ntmps18
  go_wp2_with fail
  obtain ⟨w1, hw1⟩ : ∃ w1, w1 = w.alloc (.cells #[.string ⟨#[115, 104]⟩, .string ⟨#[119, 115, 104]⟩] 9) := ⟨_, rfl⟩
  obtain ⟨G, hG⟩ : ∃ G, G = w.heap.size := ⟨_, rfl⟩
  rw [← hw1, ← hG]
  have hgG : g < G := by rw [hG]; exact (Array.getElem?_eq_some_iff.1 HR.out).1
  have hrG : w1.heap[G]? = some (.cells #[.string ⟨#[115, 104]⟩, .string ⟨#[119, 115, 104]⟩] 9 (0, 0)) := by rw [hw1, hG]; exact heap_alloc_new w _
  have hG1 : G < w1.heap.size := (Array.getElem?_eq_some_iff.1 hrG).1
  have hR1 : w1.heap[g]? = some (.cells (DC nilS 0 false nilS) 48 (0, 0)) := by rw [hw1, Lib.alloc_old _ _ _ (by rw [← hG]; exact hgG)]; exact HR.out
  have hb1 : Below w0.heap.size w0 w1 := by rw [hw1]; exact hb.alloc hb.size _
  have hbG : w0.heap.size ≤ G := by rw [hG]; exact hb.size
  have HRG := Lib.hid hrG
  have HR1 := Lib.hid hR1
  clear hw1 hG HR hb hrG hR1
  go_loopw [1, 22] (fun a i wr => ∃ k : Nat, k ≤ 2 ∧ i = .int .i64 k ∧ a = .string ⟨(hullW S k).2.toArray⟩ ∧ (∃ v, wr.heap[g]? = some (.cells (DC v 0 false nilS) 48 (0, 0)) ∧ Ow wr (G + 1) 9 v (ST (hullW S k).1)) ∧ wr.heap[G]? = some (.cells #[.string ⟨#[115, 104]⟩, .string ⟨#[119, 115, 104]⟩] 9 (0, 0)) ∧ Below w0.heap.size w0 wr) (fun _ i _ => 2 - (intOf i).toNat)
  case atStart => exact ⟨0, by decide, rfl, rfl, ⟨nilS, HR1.out, Ow.nil_ _ _ _ _⟩, HRG.out, hb1⟩
  case round =>
    obtain ⟨k, hk, rfl, rfl, ⟨v, hRk, ho⟩, hrGk, hbk⟩ := hrel
    have hws := hullW_ws S k
    have hln := hullW_len S k
    have hsu := hullW_succ S k
    obtain ⟨ws, hwsE⟩ : ∃ ws, ws = (hullW S k).1 := ⟨_, rfl⟩
    obtain ⟨T, hTE⟩ : ∃ T, T = (hullW S k).2 := ⟨_, rfl⟩
    have hpE : hullW S k = (ws, T) := by rw [hwsE, hTE]
    rw [hpE] at hsu
    rw [← hwsE] at ho hws
    rw [← hTE] at hln ⊢
    have HwsE := Lib.hid hwsE
    have HTE := Lib.hid hTE
    have HpE := Lib.hid hpE
    have HRk := Lib.hid hRk
    have HrG := Lib.hid hrGk
    clear hwsE hTE hpE HR1 HRG hRk hrGk
    obtain ⟨Av, cv, rfl, hc1, hc2⟩ := ho.form
    rw [ST_length] at hc1
    obtain ⟨n, hn⟩ : ∃ n, n = ws.length := ⟨_, rfl⟩
    rw [← hn] at hc1 hws
    have Hn := Lib.hid hn
    clear hn
    have c0 := DC_0 HRk.out
    rw [ST_length, ← Hn.out] at c0
    by_cases hlt : k < 2
    · obtain ⟨wd, hwd⟩ : ∃ wd, wd = word1 k := ⟨_, rfl⟩
      have hsu := hsu hlt
      rw [← hwd] at hsu
      have hcw : wr.cell? ⟨G, k, none⟩ = some (.string ⟨wd.toArray⟩) := by
        rw [cell_of_row _ _ _ _ _ _ HrG.out, hwd]
        match k, hlt with
        | 0, _ => rfl
        | 1, _ => rfl
      have hwl : wd.length ≤ 100 := by
        rw [hwd]
        match k, hlt with
        | 0, _ => decide
        | 1, _ => decide
      obtain ⟨U, hU⟩ : ∃ U, U = unwrapL T wd := ⟨_, rfl⟩
      have hTz : (⟨T.toArray⟩ : ByteArray).size ≤ 4096 := by show T.toArray.size ≤ 4096; simp; have := HSl.out; omega
      have hWz : (⟨wd.toArray⟩ : ByteArray).size ≤ 100 := by show wd.toArray.size ≤ 100; simpa using hwl
      cases U with
      | none =>
        have Hun := Lib.hid (unwrap_none ⟨T.toArray⟩ ⟨wd.toArray⟩ hTz hWz (by simp only []; exact hU.symm))
        have hs2 : hullW S (k + 1) = (ws, T) := by rw [hsu, takeW]; simp only []; rw [← hU]
        have Hs2 := Lib.hid hs2
        have Ho := Lib.hid ho
        clear hU hsu hs2 hwd ho hln hwl hTz hWz
        go_wp2_with (go_at_call 36; refine (Hun.out _).mono ?_; rintro e w' ⟨u, rfl, hww⟩; rw [← hww]; clear hww)
        exact ⟨⟨k + 1, by omega, rfl, by rw [Hs2.out], ⟨_, HRk.out, by rw [Hs2.out]; exact Ho.out⟩, HrG.out, hbk⟩, by simp [intOf]; omega⟩
      | some t =>
        have Hun := Lib.hid (unwrap_some ⟨T.toArray⟩ ⟨wd.toArray⟩ t hTz hWz (by simp only []; exact hU.symm))
        have hs2 : hullW S (k + 1) = (ws ++ [wd], t) := by rw [hsu, takeW]; simp only []; rw [← hU]
        have Hs2 := Lib.hid hs2
        rw [ST_length, ← Hn.out] at ho HRk
        have Ho := Lib.hid ho
        have Hbk := Lib.hid hbk
        have HGr : Hid (G < wr.heap.size) := Lib.hid (Array.getElem?_eq_some_iff.1 HrG.out).1
        have Hzb : Hid (∀ o, G + 1 ≤ (wr.alloc o).heap.size) := Lib.hid fun o => by have := HGr.out; rw [World.size_alloc]; omega
        clear hU hsu hs2 hwd hln hwl hTz hWz ho hbk
        go_wp2_with (first | (go_at_call 36; refine (Hun.out _).mono ?_; rintro e w' ⟨rfl, hww⟩; rw [← hww]; clear hww) | (at_builtin; go_loud (refine wpList_append_Ow (m := 1) (c := 1) (base := G + 1) (xs := ST ws) (v := .slice Av n cv) (A := some ⟨wr.heap.size, 0, none⟩) (B := wr.heap.size + 1) (news := [.string ⟨wd.toArray⟩]) elT rfl (.tmp 37) (.tmp 39) rfl rfl (Ho.out.alloc _) rfl (Sl.one wr _ _) rfl (by simp; rfl) (by rw [ST_length, ← Hn.out]; simp [maxLen]; omega) (by rw [ST_length, ← Hn.out]; omega) (Hzb.out _) ?_); intro v3 w3 ho3 hg3 hr3; rw [ST_snoc] at ho3; obtain ⟨A3, k3, rfl, _, _⟩ := ho3.form; obtain ⟨q1, q2, q3⟩ := push_hull Hbk.out hg hgG HGr.out Ho.out hg3; have R3 := Lib.hid (q1.trans HRk.out); have G3 := Lib.hid (q2.trans HrG.out); have Q3 := Lib.hid q3; have c3 := DC_0 R3.out; have f3 : w3.frozen? ⟨g, 0, none⟩ = false := frozen_of_row _ _ _ _ _ R3.out; have HO3 := Lib.hid ho3; clear q1 q2 q3 hg3 ho3 hr3))
        have ho3 := HO3.out
        rw [show (ST (ws ++ [wd])).length = ws.length + 1 by simp] at ho3
        exact ⟨⟨k + 1, by omega, rfl, by rw [Hs2.out], ⟨_, DC_set0 R3.out _, by rw [Hs2.out]; exact ho3.setCell (p := ⟨g, 0, none⟩) (fun r hr => by have := (ho3.row r hr).1; show g ≠ r; omega) _⟩, (Below.heap_setCell _ _ _ _ (show G ≠ g by omega)).trans G3.out, Q3.out.setCell (p := ⟨g, 0, none⟩) hg _⟩, by simp [intOf]; omega⟩
    · obtain rfl : k = 2 := by omega
      rw [ST_length, ← Hn.out] at ho HRk
      have Ho := Lib.hid ho
      have hWS := contains_any Av cv ws wWsh wr (by have h := ho; rw [Hn.out] at h; exact Ow.sl (n := ws.length) (c := cv) h) (by rw [← Hn.out]; omega)
      rw [← Hn.out] at hWS
      have HWS := Lib.hid hWS
      have hInn : readD S = innerD ws (ws.contains wWsh) T := by rw [readD_hull, HpE.out]
      obtain ⟨WS, hWSe⟩ : ∃ WS, WS = ws.contains wWsh := ⟨_, rfl⟩
      rw [← hWSe] at HWS hInn
      have HInn := Lib.hid hInn
      clear hInn hWSe hWS ho hlt hsu
      go_wp2_with fail
      refine HWS.out.mono ?_
      rintro e w' ⟨rfl, rfl⟩
      clear HWS
      go_wp2_with fail
      obtain ⟨w2, hw2⟩ : ∃ w2, w2 = wr.alloc (.cells #[.string ⟨#[112, 107, 104]⟩, .string ⟨#[119, 112, 107, 104]⟩] 9) := ⟨_, rfl⟩
      obtain ⟨G2, hG2⟩ : ∃ G2, G2 = wr.heap.size := ⟨_, rfl⟩
      rw [← hw2, ← hG2]
      have hGz : G < wr.heap.size := (Array.getElem?_eq_some_iff.1 HrG.out).1
      have hr2 : w2.heap[G2]? = some (.cells #[.string ⟨#[112, 107, 104]⟩, .string ⟨#[119, 112, 107, 104]⟩] 9 (0, 0)) := by rw [hw2, hG2]; exact heap_alloc_new wr _
      have Hr2 := Lib.hid hr2
      have R2 : Hid (w2.heap[g]? = some (.cells (DC (.slice Av n cv) 0 false nilS) 48 (0, 0))) := Lib.hid (by rw [hw2, Lib.alloc_old _ _ _ (by omega)]; exact HRk.out)
      have O2 : Hid (Ow w2 (G + 1) 9 (.slice Av n cv) (ST ws)) := Lib.hid (by rw [hw2]; exact Ho.out.alloc _)
      have B2 : Hid (Below w0.heap.size w0 w2) := Lib.hid (by rw [hw2]; exact hbk.alloc hbk.size _)
      have hGz2 : G < w2.heap.size := by rw [hw2, World.size_alloc]; omega
      have hlT : T.length ≤ 4096 := Nat.le_trans hln HSl.out
      clear hw2 hG2 hr2 HRk Ho hbk c0 HrG HwsE HTE HpE hGz hln hk
      go_loopw [52] (fun i wq => wq = w2 ∧ ∃ k : Nat, k ≤ 2 ∧ i = .int .i64 k ∧ ∀ j, j < k → unwrapL T (word2 j) = none) (fun i _ => 2 - (intOf i).toNat)
      case atStart => exact ⟨rfl, 0, by decide, rfl, fun j hj => absurd hj (Nat.not_lt_zero _)⟩
      case round =>
        obtain ⟨hwq, k, hk, rfl, hun⟩ := hrel
        replace hwq := hwq.symm
        subst hwq
        have Hun0 := Lib.hid hun
        clear hun
        have c0 := DC_0 R2.out
        by_cases hlt : k < 2
        · obtain ⟨wd, hwd⟩ : ∃ wd, wd = word2 k := ⟨_, rfl⟩
          have hcw : w2.cell? ⟨G2, k, none⟩ = some (.string ⟨wd.toArray⟩) := by
            rw [cell_of_row _ _ _ _ _ _ Hr2.out, hwd]
            match k, hlt with
            | 0, _ => rfl
            | 1, _ => rfl
          have hwl : wd.length ≤ 100 := by
            rw [hwd]
            match k, hlt with
            | 0, _ => decide
            | 1, _ => decide
          obtain ⟨U, hU⟩ : ∃ U, U = unwrapL T wd := ⟨_, rfl⟩
          have hTz : (⟨T.toArray⟩ : ByteArray).size ≤ 4096 := by show T.toArray.size ≤ 4096; simpa using hlT
          have hWz : (⟨wd.toArray⟩ : ByteArray).size ≤ 100 := by show wd.toArray.size ≤ 100; simpa using hwl
          cases U with
          | none =>
            have Hun := Lib.hid (unwrap_none ⟨T.toArray⟩ ⟨wd.toArray⟩ hTz hWz (by simp only []; exact hU.symm))
            have Hall : Hid (∀ j, j < k + 1 → unwrapL T (word2 j) = none) := Lib.hid fun j hj => by
              by_cases hjk : j = k
              · rw [hjk, ← hwd]; exact hU.symm
              · exact Hun0.out j (by omega)
            clear hU hwd hwl hTz hWz
            go_wp2_with (go_at_call 36; refine (Hun.out _).mono ?_; rintro e w' ⟨u, rfl, hww⟩; rw [← hww]; clear hww)
            exact ⟨⟨trivial, k + 1, by omega, rfl, Hall.out⟩, by simp [intOf]; omega⟩
          | some t =>
            have Hun := Lib.hid (unwrap_some ⟨T.toArray⟩ ⟨wd.toArray⟩ t hTz hWz (by simp only []; exact hU.symm))
            have HD : Hid (readD S = pkhD ws WS wd t) := Lib.hid (by rw [HInn.out, hwd]; exact inner_k ws WS T t k hlt Hun0.out (by rw [← hwd]; exact hU.symm))
            have htl : t.length ≤ 4096 := Nat.le_trans (unwrapL_len hU.symm) hlT
            have Hrk := Lib.hid (readKey_any ⟨t.toArray⟩ (by show t.toArray.size ≤ 4096; simpa using htl))
            clear hU hwd hwl hTz hWz htl HInn Hun0
            cases WS with
            | true =>
              have Hno : Hid (readD S = none) := Lib.hid (by rw [HD.out]; rfl)
              clear HD Hrk
              cases n
              all_goals
                go_wp2_with (first | (go_at_call 36; refine (Hun.out _).mono ?_; rintro e w' ⟨rfl, hww⟩; rw [← hww]; clear hww) | (go_at_call 38; (with_reducible refine (must_no _).mono ?_); rintro e w' ⟨rfl, rfl⟩))
                exact ⟨rfl, .inl ⟨rfl, Hno.out⟩, B2.out⟩
            | false =>
              obtain ⟨WB, hWB⟩ : ∃ WB : ByteArray, WB = ⟨wd.toArray⟩ := ⟨_, rfl⟩
              have hWl : WB.toList = wd := by rw [hWB, ByteArray.toList_eq]
              have Hzb : Hid (∀ o, G + 1 ≤ (w2.alloc o).heap.size) := Lib.hid fun o => by rw [World.size_alloc]; omega
              obtain ⟨okW, hok⟩ : ∃ okW, okW = (decide (ws.length = 0) || decide (wd = wWpkh)) := ⟨_, rfl⟩
              have HD2 : Hid (readD S = if okW then (readK t).map fun k => ⟨ws ++ [wd], 0, false, [k]⟩ else none) := Lib.hid (by rw [HD.out, pkhD, ← hok]; simp only [Bool.not_false, Bool.true_and])
              rw [← Hn.out] at hok
              have HWB := Lib.hid hWB
              rw [← hWB] at hcw
              clear HD hWB
              cases okW with
              | false =>
                have hq : ¬ n = 0 ∧ ¬ wd = wWpkh := by simpa using hok.symm
                have hn0 : ((n : Int) == 0) = false := by simpa using hq.1
                have hwx : (WB.toList == [119, 112, 107, 104]) = false := by rw [hWl]; exact beq_eq_false_iff_ne.2 hq.2
                have Hno : Hid (readD S = none) := Lib.hid (by rw [HD2.out]; rfl)
                rw [← HWB.out] at Hun
                clear HD2 Hrk hq hok hWl
                go_wp2_with (first | (go_at_call 36; refine (Hun.out _).mono ?_; rintro e w' ⟨rfl, hww⟩; rw [← hww]; clear hww) | (go_at_call 38; (with_reducible refine (must_no _).mono ?_); rintro e w' ⟨rfl, rfl⟩))
                exact ⟨rfl, .inl ⟨rfl, Hno.out⟩, B2.out⟩
              | true =>
                have HD3 : Hid (readD S = (readK t).map fun k => ⟨ws ++ [wd], 0, false, [k]⟩) := Lib.hid (by rw [HD2.out]; rfl)
                have hq : (((n : Int) == 0) = true) ∨ (((n : Int) == 0) = false ∧ (WB.toList == [119, 112, 107, 104]) = true) := by
                  rw [hWl]
                  by_cases h0 : n = 0
                  · exact .inl (by rw [h0]; rfl)
                  · refine .inr ⟨by simpa using h0, ?_⟩
                    have h1 : decide (n = 0) = false := decide_eq_false h0
                    rw [h1, Bool.false_or] at hok
                    have h2 := of_decide_eq_true hok.symm
                    rw [h2]; rfl
                rw [← HWB.out] at Hun
                clear HD2 hok hWl
                rcases hq with hn0 | ⟨hn0, hwx⟩
                all_goals
                  go_wp2_with (first | (go_at_call 36; refine (Hun.out _).mono ?_; rintro e w' ⟨rfl, hww⟩; rw [← hww]; clear hww) | (go_at_call 38; (with_reducible refine (must_yes _).mono ?_); rintro e w' ⟨rfl, rfl⟩) | (at_builtin; go_loud (refine wpList_append_Ow (m := 1) (c := 1) (base := G + 1) (xs := ST ws) (v := .slice Av n cv) (A := some ⟨w2.heap.size, 0, none⟩) (B := w2.heap.size + 1) (news := [.string WB]) elT rfl (.tmp 82) (.tmp 84) rfl rfl (O2.out.alloc _) rfl (Sl.one w2 _ _) rfl (by simp; rfl) (by rw [ST_length, ← Hn.out]; simp [maxLen]; omega) (by rw [ST_length, ← Hn.out]; omega) (Hzb.out _) ?_); intro v3 w3 ho3 hg3 hr3; rw [HWB.out, ST_snoc] at ho3; obtain ⟨A3, k3, rfl, _, _⟩ := ho3.form; obtain ⟨q1, q2, q3⟩ := push_hull B2.out hg hgG hGz2 O2.out hg3; have R3 := Lib.hid (q1.trans R2.out); have Q3 := Lib.hid q3; have c3 := DC_0 R3.out; have f3 : w3.frozen? ⟨g, 0, none⟩ = false := frozen_of_row _ _ _ _ _ R3.out; have HO3 := Lib.hid ho3; clear q1 q2 q3 hg3 ho3 hr3))
                  obtain ⟨w4, hw4⟩ : ∃ w4, w4 = w3.setCell ⟨g, 0, none⟩ (.slice A3 (ws.length + 1) k3) := ⟨_, rfl⟩
                  rw [← hw4]
                  have ho3 := HO3.out
                  rw [show (ST (ws ++ [wd])).length = ws.length + 1 by simp] at ho3
                  have R4 := Lib.hid (DC_set0 R3.out (.slice A3 (ws.length + 1) k3))
                  have O4 := Lib.hid (ho3.setCell (p := ⟨g, 0, none⟩) (fun r hr => by have := (ho3.row r hr).1; show g ≠ r; omega) (.slice A3 (ws.length + 1) k3))
                  have B4 := Lib.hid (Q3.out.setCell (p := ⟨g, 0, none⟩) hg (.slice A3 (ws.length + 1) k3))
                  rw [← hw4] at R4 O4 B4
                  clear hw4 ho3 R3 HO3 Q3 c3 f3
                  refine (Hrk.out w4 (HE.out.below B4.out)).mono ?_
                  rintro e w5 ⟨h5, hb5⟩
                  have R5 := Lib.hid ((hb5.block g (Array.getElem?_eq_some_iff.1 R4.out).1).trans R4.out)
                  have O5 := Lib.hid (O4.out.below hb5 (Nat.le_refl _))
                  have B5 := Lib.hid (B4.out.trans (hb5.mono B4.out.size))
                  rcases h5 with ⟨rfl, hk5⟩ | ⟨kk, pv, sv, hk5, rfl, hKV⟩
                  · have Hno : Hid (readD S = none) := Lib.hid (by rw [HD3.out, show readK t = none from hk5]; rfl)
                    clear hk5
                    exact ⟨rfl, .inl ⟨rfl, Hno.out⟩, B5.out⟩
                  · replace hk5 : readK t = some kk := hk5
                    have Hyes : Hid (readD S = some ⟨ws ++ [wd], 0, false, [kk]⟩) := Lib.hid (by rw [HD3.out, hk5]; rfl)
                    have hok := readK_ok hk5
                    obtain ⟨cs, hcs⟩ : ∃ cs, cs = (dkC kk pv sv).toArray := ⟨_, rfl⟩
                    rw [← hcs]
                    have HC1 : Hid (cs.size = 75) := Lib.hid (by rw [hcs]; simp [dkC_length hok])
                    obtain ⟨w6, hw6⟩ : ∃ w6, w6 = w5.alloc (.cells cs 62) := ⟨_, rfl⟩
                    have R6 : Hid (w6.heap[g]? = some (.cells (DC (.slice A3 (ws.length + 1) k3) 0 false nilS) 48 (0, 0))) := Lib.hid (by rw [hw6, Lib.alloc_old _ _ _ (Array.getElem?_eq_some_iff.1 R5.out).1]; exact R5.out)
                    have O6 : Hid (Ow w6 (G + 1) 9 (.slice A3 (ws.length + 1) k3) (ST (ws ++ [wd]))) := Lib.hid (by rw [hw6]; exact O5.out.alloc _)
                    have B6 : Hid (Below w0.heap.size w0 w6) := Lib.hid (by rw [hw6]; exact B5.out.alloc B5.out.size _)
                    have B56 : Below w5.heap.size w5 w6 := by rw [hw6]; exact (Below.refl _ w5).alloc (Nat.le_refl _) _
                    have hrk : w6.heap[w5.heap.size]? = some (.cells cs 62 (0, 0)) := by rw [hw6]; exact heap_alloc_new w5 _
                    have hg5 : g < w5.heap.size := (Array.getElem?_eq_some_iff.1 R5.out).1
                    have hB5 : w0.heap.size ≤ w5.heap.size := B5.out.size
                    have hKV6 : KV w6 (g + 1) kk pv sv := (hKV.mono (Array.getElem?_eq_some_iff.1 R4.out).1).below B56
                    have hKV7 : KV (w6.setCell ⟨g, 3, none⟩ (.slice (some ⟨w5.heap.size, 0, none⟩) 1 1)) (g + 1) kk pv sv := hKV6.kept (by simp) (fun j hj _ => Below.heap_setCell _ _ _ _ (show j ≠ g by omega))
                    have HKS : Hid (KS (w6.setCell ⟨g, 3, none⟩ (.slice (some ⟨w5.heap.size, 0, none⟩) 1 1)) w0.heap.size (g + 1) (.slice (some ⟨w5.heap.size, 0, none⟩) 1 1) [kk]) := Lib.hid (ks_one hok hKV7 (hKV.mono (Array.getElem?_eq_some_iff.1 R4.out).1) hB5 cs hcs ((Below.heap_setCell _ _ _ _ (show w5.heap.size ≠ g by omega)).trans hrk))
                    have HW6 := Lib.hid hw6
                    have c63 := DC_3 R6.out
                    have f63 : w6.frozen? ⟨g, 3, none⟩ = false := frozen_of_row _ _ _ _ _ R6.out
                    clear hk5 hok hcs hw6 B56 hrk hKV hb5 hKV6 hKV7
                    go_wp2_with (go_loud ((with_reducible refine wpList_build1 ?b1 46 62 (.tmp 90) 75 cs ?b2 (some 91) ?b3 Tryz.underlying46 KI.out KZ.out (by decide) (by decide) ?b4 HC1.out ?_); (case b1 => rfl); (case b2 => rfl); (case b3 => rfl); (case b4 => rfl); (refine (show w6 = _ from HW6.out) ▸ ?_)))
                    go_end0
                    exact ⟨.inr ⟨_, Hyes.out, rfl, _, _, DC_set3 R6.out _, (O6.out.setCell (p := ⟨g, 3, none⟩) (fun r hr => by have := (O6.out.row r hr).1; show g ≠ r; omega) _).mono (by omega), HKS.out⟩, B6.out.setCell (p := ⟨g, 3, none⟩) hg _⟩
        · obtain rfl : k = 2 := by omega
          go_wp2_with fail
          obtain ⟨US, hUS⟩ : ∃ US, US = unwrapL T wSorted := ⟨_, rfl⟩
          obtain ⟨UM, hUM⟩ : ∃ UM, UM = unwrapL T wMulti := ⟨_, rfl⟩
          have HIn2 : Hid (readD S = innerU ws US UM) := Lib.hid (by rw [HInn.out, hUS, hUM]; exact inner_u ws WS T Hun0.out)
          have c2 := DC_2 R2.out
          have f2 : w2.frozen? ⟨g, 2, none⟩ = false := frozen_of_row _ _ _ _ _ R2.out
          have hTz : (⟨T.toArray⟩ : ByteArray).size ≤ 4096 := by show T.toArray.size ≤ 4096; simpa using hlT
          clear HInn Hun0 hlt hk c0
          cases US with
          | some t =>
            have Hun : Hid (∀ W, Calls Tryz.prog 36 #[.string ⟨T.toArray⟩, .string ⟨#[115, 111, 114, 116, 101, 100, 109, 117, 108, 116, 105]⟩] W fun e w' => e = .returned (.tuple #[.string ⟨t.toArray⟩, .bool true]) ∧ W = w') := Lib.hid (unwrap_some ⟨T.toArray⟩ ⟨wSorted.toArray⟩ t hTz (by decide) (by simp only []; exact hUS.symm))
            have HD : Hid (readD S = manyD ws true t) := Lib.hid HIn2.out
            have htl : t.length ≤ 4096 := Nat.le_trans (unwrapL_len hUS.symm) hlT
            clear HIn2 hUS hUM hTz
            refine (Hun.out _).mono ?_
            rintro e w' ⟨rfl, hww⟩
            rw [← hww]
            clear hww Hun
            go_wp2_with (go_at_call 38; (with_reducible refine (must_yes _).mono ?_); rintro e w' ⟨rfl, rfl⟩)
            obtain ⟨w3, hw3⟩ : ∃ w3, w3 = w2.setCell ⟨g, 2, none⟩ (.bool true) := ⟨_, rfl⟩
            rw [← hw3]
            have R3 : Hid (w3.heap[g]? = some (.cells (DC (.slice Av n cv) 0 true nilS) 48 (0, 0))) := Lib.hid (by rw [hw3]; exact DC_set2 R2.out true)
            have O3 : Hid (Ow w3 (G + 1) 9 (.slice Av n cv) (ST ws)) := Lib.hid (by rw [hw3]; exact O2.out.setCell (p := ⟨g, 2, none⟩) (fun r hr => by have := (O2.out.row r hr).1; show g ≠ r; omega) _)
            have B3 : Hid (Below w0.heap.size w0 w3) := Lib.hid (by rw [hw3]; exact B2.out.setCell (p := ⟨g, 2, none⟩) hg _)
            clear hw3 c2 f2
            have htz : (⟨t.toArray⟩ : ByteArray).size ≤ 8192 := by show t.toArray.size ≤ 8192; simp; omega
            obtain ⟨ps, hps⟩ : ∃ ps, ps = pieces 44 t := ⟨_, rfl⟩
            have hpl : ∀ p ∈ ps, p.length ≤ 4096 := fun p hp => Nat.le_trans (pieces_le 44 t p (by rw [← hps]; exact hp)) htl
            have hsp := split_any ⟨t.toArray⟩ 44 htz w3 (HE.out.below B3.out)
            simp only [] at hsp
            have HD2 : Hid (readD S = manyV ws true ps) := Lib.hid (by rw [HD.out, manyV_eq, ← hps])
            rw [← hps] at hsp
            obtain ⟨q, hq⟩ : ∃ q, q = ps.length := ⟨_, rfl⟩
            rw [← hq] at hsp
            obtain ⟨w4, hw4⟩ : ∃ w4, w4 = w3.alloc (.cells (ST ps).toArray 9) := ⟨_, rfl⟩
            obtain ⟨F, hF⟩ : ∃ F, F = w3.heap.size := ⟨_, rfl⟩
            rw [← hw4, ← hF] at hsp
            have hgF : g < F := by rw [hF]; exact (Array.getElem?_eq_some_iff.1 R3.out).1
            have hrF : w4.heap[F]? = some (.cells (ST ps).toArray 9 (0, 0)) := by rw [hw4, hF]; exact heap_alloc_new w3 _
            have R4 : Hid (w4.heap[g]? = some (.cells (DC (.slice Av n cv) 0 true nilS) 48 (0, 0))) := Lib.hid (by rw [hw4, Lib.alloc_old _ _ _ (by rw [← hF]; exact hgF)]; exact R3.out)
            have O4 : Hid (Ow w4 (G + 1) 9 (.slice Av n cv) (ST ws)) := Lib.hid (by rw [hw4]; exact O3.out.alloc _)
            have B4 : Hid (Below w0.heap.size w0 w4) := Lib.hid (by rw [hw4]; exact B3.out.alloc B3.out.size _)
            have HrW : Hid (∀ r, rowOf (.slice Av n cv) = some r → r < F) := Lib.hid (fun r hr => by rw [hF]; exact (O3.out.row r hr).2)
            have Hsp := Lib.hid hsp
            have HrF := Lib.hid hrF
            have Hpl := Lib.hid hpl
            have Hq := Lib.hid hq
            clear hps hsp hq hw4 hF hrF htz htl hpl R3 O3 B3 HD
            refine (Hsp.out).mono ?_
            rintro e w' ⟨rfl, hww⟩
            rw [hww]
            clear hww Hsp
            by_cases h2 : 2 ≤ q
            · have d2 : decide ((2 : Int) ≤ (q : Int)) = true := decide_eq_true (by omega)
              by_cases h17 : q ≤ 17
              · have d17 : decide ((q : Int) ≤ 17) = true := decide_eq_true (by omega)
                obtain ⟨p0, rs, hp0⟩ : ∃ p0 rs, ps = p0 :: rs := by
                  cases hh : ps with
                  | nil => have := Hq.out; rw [hh] at this; simp at this; omega
                  | cons a b => exact ⟨a, b, rfl⟩
                have hrl : q = rs.length + 1 := by have := Hq.out; rw [hp0] at this; simpa using this
                have HD3 : Hid (readD S = match mOf p0 with | none => none | some m => if m ≤ rs.length then (keysOf rs).map fun ks => ⟨ws, m, true, ks⟩ else none) := Lib.hid (by
                  rw [HD2.out, hp0]; exact manyV_yes ws true p0 rs (by simp only [List.length_cons]; omega))
                obtain ⟨P0, hP0⟩ : ∃ P0 : ByteArray, P0 = ⟨p0.toArray⟩ := ⟨_, rfl⟩
                have c0 : w4.cell? ⟨F, 0, none⟩ = some (.string P0) := by
                  rw [cell_of_row _ _ _ _ _ _ HrF.out, hP0, hp0]; rfl
                have hPz : P0.size ≤ 8192 := by have := Hpl.out p0 (by rw [hp0]; simp); rw [hP0]; show p0.toArray.size ≤ 8192; simp; omega
                have HP0 := Lib.hid hP0
                have Hp0 := Lib.hid hp0
                have Hrl := Lib.hid hrl
                have HPz := Lib.hid hPz
                clear HD2 hP0 hp0 hrl hPz
                have hPL : P0.data.toList = p0 := by rw [HP0.out]
                have hmx : Tryz.prog.follows .mixedOrders = true := by kernel_rfl
                by_cases hok : ∃ v, Lib.atoiAll p0 = .ok v
                · obtain ⟨v, hv⟩ := hok
                  obtain ⟨hv1, hv2⟩ := Lib.atoiAll_bounds hv
                  have HA := Lib.hid (atoi_ok P0 HPz.out v (by rw [hPL]; exact hv))
                  have HI := Lib.hid (itoa_any v hv1 hv2)
                  obtain ⟨IV, hIV⟩ : ∃ IV : ByteArray, IV = ⟨(Lib.itoa v).toArray⟩ := ⟨_, rfl⟩
                  rw [← hIV] at HI
                  obtain ⟨okI, hokI⟩ : ∃ okI, okI = (IV.toList == P0.toList) := ⟨_, rfl⟩
                  have hokI2 : okI = decide (Lib.itoa v = p0) := by
                    rw [hokI, hIV, HP0.out, ByteArray.toList_eq, ByteArray.toList_eq]
                    exact Bool.eq_iff_iff.2 (by rw [beq_iff_eq, decide_eq_true_eq])
                  have HM : Hid (mOf p0 = if okI = true ∧ 1 ≤ v then some v.toNat else none) := Lib.hid (by rw [mOf_ok hv, hokI2]; simp only [decide_eq_true_eq])
                  have HokI := Lib.hid hokI.symm
                  clear hPL hv hIV hokI2 hokI hv1 hv2
                  go_wp2_with (go_at_call 38; (with_reducible refine (must_yes _).mono ?_); rintro e w' ⟨rfl, rfl⟩)
                  refine (HA.out w4).mono ?_
                  rintro e w5 ⟨rfl, hb5⟩
                  have R5 := Lib.hid ((hb5.block g (Array.getElem?_eq_some_iff.1 R4.out).1).trans R4.out)
                  have F5 := Lib.hid ((hb5.block F (Array.getElem?_eq_some_iff.1 HrF.out).1).trans HrF.out)
                  have O5 := Lib.hid (O4.out.below hb5 (Nat.le_refl _))
                  have B5 := Lib.hid (B4.out.trans (hb5.mono B4.out.size))
                  have c5 : w5.cell? ⟨F, 0, none⟩ = some (.string P0) := by
                    rw [cell_of_row _ _ _ _ _ _ F5.out, HP0.out, Hp0.out]; rfl
                  clear hb5 HA R4 O4 B4 HrF c0
                  go_wp2_with fail
                  refine wp_region_plan [(0, 0), (1, 0), (2, 0), (3, 0), (5, 0), (6, 0), (7, 1), (4, 2), (8, 0), (9, 0), (10, 0), (11, 0), (12, 0), (13, 0), (14, 0), (15, 0), (16, 0), (17, 0), (18, 0), (19, 0), (20, 2)] 21 hmx (by kernel_rfl) (by intro c a d v w h; cases d <;> exact h) ?_
                  repeat ((first | (refine wpPlan_pure rfl (fun K hK => ?_)) | (refine wpPlan_quiet rfl (fun K hK => ?_))); go_simp; (first | (refine hK _ ?_) | (simp only [IntWalk.iteOmega]; go_simp; refine hK _ ?_) | (go_bits; go_simp; refine hK _ ?_)); clear hK K; (try go_bits))
                  refine wpPlan_loudG rfl rfl (fun K hK => ?_)
                  go_wp2_with fail
                  refine (HI.out _ (HE.out.below B5.out.drew)).mono ?_
                  rintro e w6 ⟨rfl, hb6⟩
                  have R6 := Lib.hid ((hb6.block g (Array.getElem?_eq_some_iff.1 R5.out).1).trans R5.out)
                  have F6 := Lib.hid ((hb6.block F (Array.getElem?_eq_some_iff.1 F5.out).1).trans F5.out)
                  have O6 : Hid (Ow w6 (G + 1) 9 (.slice Av n cv) (ST ws)) := Lib.hid (O5.out.drew.below hb6 (Nat.le_refl _))
                  have B6 : Hid (Below w0.heap.size w0 w6) := Lib.hid (B5.out.drew.trans (hb6.mono B5.out.size))
                  have HX6 := Lib.hid (ext_of_below hb6)
                  clear hb6 HI R5 F5 O5 B5 c5
                  go_wp2_with fail
                  refine ⟨.inr HX6.out, ?_⟩
                  clear HX6
                  cases okI with
                  | false =>
                    have hx := HokI.out
                    have Hno : Hid (readD S = none) := Lib.hid (by rw [HD3.out, HM.out]; simp)
                    clear HM HD3 HokI
                    refine wpPlan_streq (.tmp 135) (.tmp 138) 9 9 IV P0 false rfl rfl rfl rfl rfl Tryz.underlying9 hx ?_
                    refine (show wpPlan _ _ _ _ _ _ (Act.put _ (some 139) _) _ from ?_)
                    conv in (Act.put _ (some 139) _) => simp [Act.put]
                    clear hx
                    repeat ((first | (refine wpPlan_pure rfl (fun K hK => ?_)) | (refine wpPlan_quiet rfl (fun K hK => ?_))); go_simp; (first | (refine hK _ ?_) | (simp only [IntWalk.iteOmega]; go_simp; refine hK _ ?_) | (go_bits; go_simp; refine hK _ ?_)); clear hK K; (try go_bits))
                    refine wpPlan_loudG rfl rfl (fun K hK => ?_)
                    go_wp2_with (go_at_call 38; (with_reducible refine (must_no _).mono ?_); rintro e w' ⟨rfl, rfl⟩)
                    exact ⟨rfl, .inl ⟨rfl, Hno.out⟩, B6.out⟩
                  | true =>
                    have hx := HokI.out
                    by_cases hv1 : 1 ≤ v
                    · have hd1 : decide ((1 : Int) ≤ v) = true := decide_eq_true hv1
                      by_cases hvq : v < (q : Int)
                      · have hdq : decide (v < (q : Int)) = true := decide_eq_true hvq
                        have HD4 : Hid (readD S = (keysOf rs).map fun ks => ⟨ws, v.toNat, true, ks⟩) := Lib.hid (by
                          rw [HD3.out, HM.out, if_pos ⟨rfl, hv1⟩]
                          simp only []
                          rw [if_pos (by have := Hrl.out; omega)])
                        clear HM HD3 HokI
                        refine wpPlan_streq (.tmp 135) (.tmp 138) 9 9 IV P0 true rfl rfl rfl rfl rfl Tryz.underlying9 hx ?_
                        refine (show wpPlan _ _ _ _ _ _ (Act.put _ (some 139) _) _ from ?_)
                        conv in (Act.put _ (some 139) _) => simp [Act.put]
                        clear hx
                        repeat ((first | (refine wpPlan_pure rfl (fun K hK => ?_)) | (refine wpPlan_quiet rfl (fun K hK => ?_))); go_simp; (first | (refine hK _ ?_) | (simp only [IntWalk.iteOmega]; go_simp; refine hK _ ?_) | (go_bits; go_simp; refine hK _ ?_)); clear hK K; (try go_bits))
                        refine wpPlan_loudG rfl rfl (fun K hK => ?_)
                        go_wp2_with (go_at_call 38; (with_reducible refine (must_yes _).mono ?_); rintro e w' ⟨rfl, rfl⟩)
                        refine ⟨.inr (Ext.refl _), wpPlan_nil ?_⟩
                        have c1 := DC_1 R6.out
                        have f1 : w6.frozen? ⟨g, 1, none⟩ = false := frozen_of_row _ _ _ _ _ R6.out
                        obtain ⟨l3, hl3⟩ : ∃ l3, l3 = rs.length := ⟨_, rfl⟩
                        have hq3 : q = l3 + 1 := by rw [hl3]; exact Hrl.out
                        have Hl3 := Lib.hid hl3
                        subst hq3
                        clear hl3
                        go_wp2_with fail
                        obtain ⟨w7, hw7⟩ : ∃ w7, w7 = w6.setCell ⟨g, 1, none⟩ (.int .i64 v) := ⟨_, rfl⟩
                        rw [← hw7]
                        have R7 : Hid (w7.heap[g]? = some (.cells (DC (.slice Av n cv) v true nilS) 48 (0, 0))) := Lib.hid (by rw [hw7]; exact DC_set1 R6.out v)
                        have O7 : Hid (Ow w7 (G + 1) 9 (.slice Av n cv) (ST ws)) := Lib.hid (by rw [hw7]; exact O6.out.setCell (p := ⟨g, 1, none⟩) (fun r hr => by have := (O6.out.row r hr).1; show g ≠ r; omega) _)
                        have B7 : Hid (Below w0.heap.size w0 w7) := Lib.hid (by rw [hw7]; exact B6.out.setCell (p := ⟨g, 1, none⟩) hg _)
                        have F7 : Hid (w7.heap[F]? = some (.cells (ST ps).toArray 9 (0, 0))) := Lib.hid (by rw [hw7]; exact (Below.heap_setCell _ _ _ _ (show F ≠ g by omega)).trans F6.out)
                        have H17 := Lib.hid h17
                        have HmN : Hid ((v.toNat : Int) = v) := Lib.hid (by omega)
                        clear hw7 R6 O6 B6 F6 c1 f1 hd1 hdq hvq hv1 d2 d17 h2 h17
                        go_loopw [159] (fun i wr => ∃ k : Nat, k ≤ l3 ∧ i = .int .i64 k ∧ ∃ ks kv, keysOf (rs.take k) = some ks ∧ wr.heap[g]? = some (.cells (DC (.slice Av n cv) v true kv) 48 (0, 0)) ∧ Ow wr (G + 1) 9 (.slice Av n cv) (ST ws) ∧ KS wr (F + 1) (g + 1) kv ks ∧ wr.heap[F]? = some (.cells (ST ps).toArray 9 (0, 0)) ∧ Below w0.heap.size w0 wr) (fun i _ => l3 - (intOf i).toNat)
                        case atStart => exact ⟨0, Nat.zero_le _, rfl, [], nilS, rfl, R7.out, O7.out, ks_nil _ _ _, F7.out, B7.out⟩
                        case round =>
                          obtain ⟨k, hk, rfl, ks, kv, hks, hRk, hOk, hKk, hFk, hBk⟩ := hrel
                          have Hks := Lib.hid hks
                          have HRk := Lib.hid hRk
                          have HOk := Lib.hid hOk
                          have HKk := Lib.hid hKk
                          have HFk := Lib.hid hFk
                          have HBk := Lib.hid hBk
                          clear hks hRk hOk hKk hFk hBk R7 O7 B7 F7
                          have h16 : l3 ≤ 16 := by have := H17.out; omega
                          by_cases hlt : k < l3
                          · have hkr : k < rs.length := by have := Hl3.out; omega
                            obtain ⟨p, hp⟩ : ∃ p, p = rs[k] := ⟨_, rfl⟩
                            have hpm : p ∈ ps := by rw [Hp0.out, hp]; exact List.mem_cons_of_mem _ (List.getElem_mem _)
                            have hcp : wr.cell? ⟨F, 1 + k, none⟩ = some (.string ⟨p.toArray⟩) := by
                              rw [cell_of_row _ _ _ _ _ _ HFk.out, List.getElem?_toArray, Hp0.out, Nat.add_comm, hp]
                              rw [List.getElem?_eq_getElem (by simp; omega), ST_get]
                              simp
                            have Hrk := Lib.hid (readKey_any ⟨p.toArray⟩ (by show p.toArray.size ≤ 4096; simpa using Hpl.out p hpm))
                            have Htk : Hid (rs.take (k + 1) = rs.take k ++ [p]) := Lib.hid (by rw [List.take_succ_eq_append_getElem hkr, hp])
                            have HgF : Hid (g < F) := Lib.hid (by omega)
                            have Hpr : Hid (p ∈ rs) := Lib.hid (by rw [hp]; exact List.getElem_mem _)
                            have c3 := DC_3 HRk.out
                            have hkz : ks.length ≤ 1000 := by
                              have h1 := keysOf_len _ _ Hks.out
                              rw [List.length_take] at h1
                              have h2 := Hq.out
                              have h3 := H17.out
                              omega
                            clear hp hpm
                            go_wp2_with fail
                            refine wp_region_plan [(0, 0), (1, 0), (2, 0), (3, 0), (4, 1), (5, 0), (6, 2), (7, 2), (8, 2), (9, 2), (10, 2), (11, 2)] 8 hmx (by kernel_rfl) (by intro c a d v w h; cases d <;> exact h) ?_
                            repeat ((first | (refine wpPlan_pure rfl (fun K hK => ?_)) | (refine wpPlan_quiet rfl (fun K hK => ?_))); go_simp; (first | (refine hK _ ?_) | (simp only [IntWalk.iteOmega]; go_simp; refine hK _ ?_) | (go_bits; go_simp; refine hK _ ?_)); clear hK K; (try go_bits))
                            refine wpPlan_loud rfl rfl (fun K hK => ?_)
                            go_wp2_with fail
                            refine (Hrk.out _ (HE.out.below HBk.out.drew)).mono ?_
                            rintro e w8 ⟨h8, hb8⟩
                            have hB8 : Below w0.heap.size w0 w8 := HBk.out.drew.trans (hb8.mono HBk.out.size)
                            have B8' := Lib.hid hB8
                            rcases h8 with ⟨rfl, hn8⟩ | ⟨kk, pv, sv, hk8, rfl, hKV⟩
                            · have Hno : Hid (readD S = none) := Lib.hid (by rw [HD4.out, keysOf_none rs p Hpr.out hn8]; rfl)
                              clear hn8 hb8 hB8
                              exact ⟨rfl, .inl ⟨rfl, Hno.out⟩, B8'.out⟩
                            · replace hk8 : readK p = some kk := hk8
                              have hok8 := readK_ok hk8
                              have Hks2 : Hid (keysOf (rs.take (k + 1)) = some (ks ++ [kk])) := Lib.hid (by rw [Htk.out]; exact keysOf_snoc _ _ _ _ Hks.out hk8)
                              have hgk : g < wr.heap.size := (Array.getElem?_eq_some_iff.1 HRk.out).1
                              have hFk : F < wr.heap.size := (Array.getElem?_eq_some_iff.1 HFk.out).1
                              have R8 : w8.heap[g]? = some (.cells (DC (.slice Av n cv) v true kv) 48 (0, 0)) := (hb8.block g hgk).trans HRk.out
                              have F8 : w8.heap[F]? = some (.cells (ST ps).toArray 9 (0, 0)) := (hb8.block F hFk).trans HFk.out
                              have O8 : Ow w8 (G + 1) 9 (.slice Av n cv) (ST ws) := HOk.out.drew.below hb8 (Nat.le_refl _)
                              have K8 : KS w8 (F + 1) (g + 1) kv ks := KS.below (W := wr.drew) HKk.out hb8
                              have hkr8 : ∀ r, kv.ownBlock = some r → F + 1 ≤ r ∧ r < wr.heap.size := fun r hr => by
                                obtain ⟨prs, _, _, h3⟩ := HKk.out
                                exact h3.lt r hr
                              have hOff := hKV.offLo kv.ownBlock (fun r hr => (hkr8 r hr).2)
                              have hKVg : KV w8 (g + 1) kk pv sv := hKV.mono hgk
                              have hz8 : wr.heap.size ≤ w8.heap.size := hb8.size
                              obtain ⟨cs, hcs⟩ : ∃ cs, cs = (dkC kk pv sv).toArray := ⟨_, rfl⟩
                              have hcz : cs.size = 75 := by rw [hcs]; simp [dkC_length hok8]
                              rw [← hcs]
                              obtain ⟨w9, hw9⟩ : ∃ w9, w9 = w8.alloc (.cells cs 62) := ⟨_, rfl⟩
                              obtain ⟨gN, hgN⟩ : ∃ gN, gN = w8.heap.size := ⟨_, rfl⟩
                              have HX8 := Lib.hid (ext_of_below hb8)
                              have HX9 : Hid (Ext w8 w9) := Lib.hid (by rw [hw9]; exact ext_alloc _ _)
                              have hb89 : Below w8.heap.size w8 w9 := by rw [hw9]; exact (Below.refl _ w8).alloc (Nat.le_refl _) _
                              have hz9 : w8.heap.size ≤ w9.heap.size := hb89.size
                              have R9 := Lib.hid ((hb89.block g (by omega)).trans R8)
                              have F9 := Lib.hid ((hb89.block F (by omega)).trans F8)
                              have O9 := Lib.hid (O8.below hb89 (Nat.le_refl _))
                              have K9 := Lib.hid (K8.below hb89)
                              have B9 := Lib.hid (hB8.trans (hb89.mono hB8.size))
                              have V9 := Lib.hid (hKVg.below hb89)
                              have N9 : Hid (w9.heap[gN]? = some (.cells (dkC kk pv sv).toArray 62 (0, 0))) := Lib.hid (by rw [hw9, hgN, ← hcs]; exact heap_alloc_new w8 _)
                              have hbz9 : F + 1 ≤ w9.heap.size := by omega
                              have HOff := Lib.hid hOff
                              have Hok8 := Lib.hid hok8
                              have Hcz := Lib.hid hcz
                              have HW9 := Lib.hid hw9
                              have HGN := Lib.hid hgN
                              have Hkr8 := Lib.hid hkr8
                              have hg9 : g < w9.heap.size := by omega
                              have hF9 : F < w9.heap.size := by omega
                              have Hg9 := Lib.hid hg9
                              have HF9 := Lib.hid hF9
                              have Hbz9 := Lib.hid hbz9
                              clear hb8 hB8 hk8 hok8 hgk hFk R8 F8 O8 K8 hkr8 hOff hKVg hz8 hcs hcz hw9 hgN hb89 hz9 hKV hbz9 hg9 hF9 B8'
                              go_wp2_with fail
                              refine ⟨.inr HX8.out, ?_⟩
                              clear HX8
                              refine wpPlan_loud rfl rfl (fun K hK => ?_)
                              refine wp_build1 46 62 (.tmp 169) 75 cs rfl Tryz.underlying46 KI.out KZ.out (by decide) (by decide) rfl Hcz.out ?_
                              refine (show K (Act.put _ (some 170) _) _ from ?_)
                              conv in (Act.put _ (some 170) _) => simp [Act.put]
                              refine hK _ _ ⟨.inr (by rw [← HW9.out]; exact HX9.out), ?_⟩
                              clear hK K
                              rw [← HW9.out, ← HGN.out]
                              clear HX9
                              refine wpPlan_loud rfl rfl (fun K hK => ?_)
                              refine wp_pushK (.tmp 167) (.tmp 170) rfl K9.out Hok8.out V9.out HOff.out.1 HOff.out.2 gN N9.out hkz Hbz9.out rfl rfl ?_
                              intro A10 n10 c10 w10 hK10 hg10
                              have R10 := Lib.hid ((hg10.block g Hg9.out (fun e => by have := (Hkr8.out g e.symm).1; omega)).trans R9.out)
                              have F10 := Lib.hid ((hg10.block F HF9.out (fun e => by have := (Hkr8.out F e.symm).1; omega)).trans F9.out)
                              have O10 := Lib.hid (O9.out.kept hg10 (fun r hr e => by have h1 := (Hkr8.out r e).1; have h2 := HrW.out r hr; omega))
                              have B10 := Lib.hid (B9.out.grown hg10 B9.out.size (fun r hr => by have := (Hkr8.out r hr).1; omega))
                              have K10 := Lib.hid hK10
                              clear hK10 hg10
                              refine (show K (Act.put _ (some 171) _) _ from ?_)
                              conv in (Act.put _ (some 171) _) => simp [Act.put]
                              refine hK _ _ ⟨.inl (by decide), ?_⟩
                              clear hK K c3
                              have c3 := DC_3 R10.out
                              have f3 : w10.frozen? ⟨g, 3, none⟩ = false := frozen_of_row _ _ _ _ _ R10.out
                              refine wpPlan_loud rfl rfl (fun K hK => ?_)
                              go_wp2_with fail
                              refine ⟨.inl (by decide), ?_⟩
                              refine wpPlan_loud rfl rfl (fun K hK => ?_)
                              go_wp2_with fail
                              refine ⟨.inl (by decide), ?_⟩
                              refine wpPlan_loud rfl rfl (fun K hK => ?_)
                              go_wp2_with fail
                              refine ⟨.inl (by decide), wpPlan_nil ?_⟩
                              go_wp2_with fail
                              refine ⟨⟨_, _, _, _, _, _, _, _, _, _, _, _, _, _, _, _, _, ?_, rfl⟩, ?_⟩
                              · exact ⟨k + 1, hlt, castV k, end3 Hks2.out R10.out O10.out K10.out F10.out B10.out hg hgG HgF.out⟩
                              · exact meas3 l3 k hlt _ _ rfl rfl
                          · obtain rfl : k = l3 := by omega
                            have hT : rs.take k = rs := List.take_of_length_le (by have := Hl3.out; omega)
                            have Hyes : Hid (readD S = some ⟨ws, v.toNat, true, ks⟩) := Lib.hid (by rw [HD4.out, ← hT, Hks.out]; rfl)
                            clear hT hlt
                            go_wp2_with fail
                            go_end0
                            exact ⟨.inr ⟨_, Hyes.out, rfl, _, _, by simp only [HmN.out]; exact HRk.out, HOk.out.mono (by omega), HKk.out.mono (by omega)⟩, HBk.out⟩
                      · have hdq : decide (v < (q : Int)) = false := decide_eq_false hvq
                        have Hno : Hid (readD S = none) := Lib.hid (by
                          rw [HD3.out, HM.out, if_pos ⟨rfl, hv1⟩]
                          simp only []
                          rw [if_neg (by have := Hrl.out; omega)])
                        clear HM HD3 HokI
                        refine wpPlan_streq (.tmp 135) (.tmp 138) 9 9 IV P0 true rfl rfl rfl rfl rfl Tryz.underlying9 hx ?_
                        refine (show wpPlan _ _ _ _ _ _ (Act.put _ (some 139) _) _ from ?_)
                        conv in (Act.put _ (some 139) _) => simp [Act.put]
                        clear hx
                        repeat ((first | (refine wpPlan_pure rfl (fun K hK => ?_)) | (refine wpPlan_quiet rfl (fun K hK => ?_))); go_simp; (first | (refine hK _ ?_) | (simp only [IntWalk.iteOmega]; go_simp; refine hK _ ?_) | (go_bits; go_simp; refine hK _ ?_)); clear hK K; (try go_bits))
                        refine wpPlan_loudG rfl rfl (fun K hK => ?_)
                        go_wp2_with (go_at_call 38; (with_reducible refine (must_no _).mono ?_); rintro e w' ⟨rfl, rfl⟩)
                        exact ⟨rfl, .inl ⟨rfl, Hno.out⟩, B6.out⟩
                    · have hd1 : decide ((1 : Int) ≤ v) = false := decide_eq_false hv1
                      have Hno : Hid (readD S = none) := Lib.hid (by rw [HD3.out, HM.out, if_neg (fun h => hv1 h.2)])
                      clear HM HD3 HokI
                      refine wpPlan_streq (.tmp 135) (.tmp 138) 9 9 IV P0 true rfl rfl rfl rfl rfl Tryz.underlying9 hx ?_
                      refine (show wpPlan _ _ _ _ _ _ (Act.put _ (some 139) _) _ from ?_)
                      conv in (Act.put _ (some 139) _) => simp [Act.put]
                      clear hx
                      repeat ((first | (refine wpPlan_pure rfl (fun K hK => ?_)) | (refine wpPlan_quiet rfl (fun K hK => ?_))); go_simp; (first | (refine hK _ ?_) | (simp only [IntWalk.iteOmega]; go_simp; refine hK _ ?_) | (go_bits; go_simp; refine hK _ ?_)); clear hK K; (try go_bits))
                      refine wpPlan_loudG rfl rfl (fun K hK => ?_)
                      go_wp2_with (go_at_call 38; (with_reducible refine (must_no _).mono ?_); rintro e w' ⟨rfl, rfl⟩)
                      exact ⟨rfl, .inl ⟨rfl, Hno.out⟩, B6.out⟩
                · have hno : mOf p0 = none := mOf_no (fun v hv => hok ⟨v, hv⟩)
                  have HA := Lib.hid (atoi_no P0 HPz.out (fun v hv => hok ⟨v, by rw [← hPL]; exact hv⟩) w4 (HE.out.below B4.out))
                  have Hno : Hid (readD S = none) := Lib.hid (by rw [HD3.out, hno])
                  clear hPL hok hno HD3
                  go_wp2_with (go_at_call 38; (with_reducible refine (must_yes _).mono ?_); rintro e w' ⟨rfl, rfl⟩)
                  refine HA.out.mono ?_
                  rintro e w5 ⟨x5, t5, p5, rfl, hb5⟩
                  have B5 := Lib.hid (B4.out.trans (hb5.mono B4.out.size))
                  have c5 : w5.cell? ⟨F, 0, none⟩ = some (.string P0) := hb5.cell (p := ⟨F, 0, none⟩) (Array.getElem?_eq_some_iff.1 HrF.out).1 |>.trans c0
                  clear hb5 HA R4 O4 B4 HrF c0
                  go_wp2_with fail
                  refine wp_region_plan [(0, 0), (1, 0), (2, 0), (3, 0), (5, 0), (6, 0), (7, 1), (4, 2), (8, 0), (9, 0), (10, 0), (11, 0), (12, 0), (13, 0), (14, 0), (15, 0), (16, 0), (17, 0), (18, 0), (19, 0), (20, 2)] 21 hmx (by kernel_rfl) (by intro c a d v w h; cases d <;> exact h) ?_
                  repeat ((first | (refine wpPlan_pure rfl (fun K hK => ?_)) | (refine wpPlan_quiet rfl (fun K hK => ?_))); go_simp; (first | (refine hK _ ?_) | (simp only [IntWalk.iteOmega]; go_simp; refine hK _ ?_) | (go_bits; go_simp; refine hK _ ?_)); clear hK K; (try go_bits))
                  refine wpPlan_loudN rfl rfl ?_
                  repeat ((first | (refine wpPlan_pure rfl (fun K hK => ?_)) | (refine wpPlan_quiet rfl (fun K hK => ?_))); go_simp; (first | (refine hK _ ?_) | (simp only [IntWalk.iteOmega]; go_simp; refine hK _ ?_) | (go_bits; go_simp; refine hK _ ?_)); clear hK K; (try go_bits))
                  refine wpPlan_loudG rfl rfl (fun K hK => ?_)
                  go_wp2_with (go_at_call 38; (with_reducible refine (must_no _).mono ?_); rintro e w' ⟨rfl, rfl⟩)
                  exact ⟨rfl, .inl ⟨rfl, Hno.out⟩, B5.out.drew⟩
              · have d17 : decide ((q : Int) ≤ 17) = false := decide_eq_false (by omega)
                have Hno : Hid (readD S = none) := Lib.hid (by rw [HD2.out]; exact manyV_no ws true ps (by rw [← Hq.out]; omega))
                clear HD2 h17
                go_wp2_with (go_at_call 38; (with_reducible refine (must_no _).mono ?_); rintro e w' ⟨rfl, rfl⟩)
                exact ⟨rfl, .inl ⟨rfl, Hno.out⟩, B4.out⟩
            · have d2 : decide ((2 : Int) ≤ (q : Int)) = false := decide_eq_false (by omega)
              have Hno : Hid (readD S = none) := Lib.hid (by rw [HD2.out]; exact manyV_no ws true ps (by rw [← Hq.out]; omega))
              clear HD2 h2
              go_wp2_with (go_at_call 38; (with_reducible refine (must_no _).mono ?_); rintro e w' ⟨rfl, rfl⟩)
              exact ⟨rfl, .inl ⟨rfl, Hno.out⟩, B4.out⟩
          | none =>
            have Hun : Hid (∀ W, Calls Tryz.prog 36 #[.string ⟨T.toArray⟩, .string ⟨#[115, 111, 114, 116, 101, 100, 109, 117, 108, 116, 105]⟩] W fun e w' => ∃ u, e = .returned (.tuple #[.string u, .bool false]) ∧ W = w') := Lib.hid (unwrap_none ⟨T.toArray⟩ ⟨wSorted.toArray⟩ hTz (by decide) (by simp only []; exact hUS.symm))
            cases UM with
            | none =>
              have Hun1 : Hid (∀ W, Calls Tryz.prog 36 #[.string ⟨T.toArray⟩, .string ⟨#[109, 117, 108, 116, 105]⟩] W fun e w' => ∃ u, e = .returned (.tuple #[.string u, .bool false]) ∧ W = w') := Lib.hid (unwrap_none ⟨T.toArray⟩ ⟨wMulti.toArray⟩ hTz (by decide) (by simp only []; exact hUM.symm))
              have Hno : Hid (readD S = none) := Lib.hid HIn2.out
              have B3 : Hid (Below w0.heap.size w0 (w2.setCell ⟨g, 2, none⟩ (.bool false))) := Lib.hid (B2.out.setCell (p := ⟨g, 2, none⟩) hg _)
              clear HIn2 hUS hUM hTz
              refine (Hun.out _).mono ?_
              rintro e w' ⟨u0, rfl, hww⟩
              rw [← hww]
              clear hww
              go_wp2_with (first | (go_at_call 36; refine (Hun1.out _).mono ?_; rintro e w' ⟨u1, rfl, hww⟩; rw [← hww]; clear hww) | (go_at_call 38; (with_reducible refine (must_no _).mono ?_); rintro e w' ⟨rfl, rfl⟩))
              exact ⟨rfl, .inl ⟨rfl, Hno.out⟩, B3.out⟩
            | some t =>
              have Hun1 : Hid (∀ W, Calls Tryz.prog 36 #[.string ⟨T.toArray⟩, .string ⟨#[109, 117, 108, 116, 105]⟩] W fun e w' => e = .returned (.tuple #[.string ⟨t.toArray⟩, .bool true]) ∧ W = w') := Lib.hid (unwrap_some ⟨T.toArray⟩ ⟨wMulti.toArray⟩ t hTz (by decide) (by simp only []; exact hUM.symm))
              have HD : Hid (readD S = manyD ws false t) := Lib.hid HIn2.out
              have htl : t.length ≤ 4096 := Nat.le_trans (unwrapL_len hUM.symm) hlT
              clear HIn2 hUS hUM hTz
              refine (Hun.out _).mono ?_
              rintro e w' ⟨u0, rfl, hww⟩
              rw [← hww]
              clear hww Hun
              go_wp2_with (first | (go_at_call 36; refine (Hun1.out _).mono ?_; rintro e w' ⟨rfl, hww⟩; rw [← hww]; clear hww) | (go_at_call 38; (with_reducible refine (must_yes _).mono ?_); rintro e w' ⟨rfl, rfl⟩))
              obtain ⟨w3, hw3⟩ : ∃ w3, w3 = w2.setCell ⟨g, 2, none⟩ (.bool false) := ⟨_, rfl⟩
              rw [← hw3]
              have R3 : Hid (w3.heap[g]? = some (.cells (DC (.slice Av n cv) 0 false nilS) 48 (0, 0))) := Lib.hid (by rw [hw3]; exact DC_set2 R2.out false)
              have O3 : Hid (Ow w3 (G + 1) 9 (.slice Av n cv) (ST ws)) := Lib.hid (by rw [hw3]; exact O2.out.setCell (p := ⟨g, 2, none⟩) (fun r hr => by have := (O2.out.row r hr).1; show g ≠ r; omega) _)
              have B3 : Hid (Below w0.heap.size w0 w3) := Lib.hid (by rw [hw3]; exact B2.out.setCell (p := ⟨g, 2, none⟩) hg _)
              clear hw3 c2 f2
              have htz : (⟨t.toArray⟩ : ByteArray).size ≤ 8192 := by show t.toArray.size ≤ 8192; simp; omega
              obtain ⟨ps, hps⟩ : ∃ ps, ps = pieces 44 t := ⟨_, rfl⟩
              have hpl : ∀ p ∈ ps, p.length ≤ 4096 := fun p hp => Nat.le_trans (pieces_le 44 t p (by rw [← hps]; exact hp)) htl
              have hsp := split_any ⟨t.toArray⟩ 44 htz w3 (HE.out.below B3.out)
              simp only [] at hsp
              have HD2 : Hid (readD S = manyV ws false ps) := Lib.hid (by rw [HD.out, manyV_eq, ← hps])
              rw [← hps] at hsp
              obtain ⟨q, hq⟩ : ∃ q, q = ps.length := ⟨_, rfl⟩
              rw [← hq] at hsp
              obtain ⟨w4, hw4⟩ : ∃ w4, w4 = w3.alloc (.cells (ST ps).toArray 9) := ⟨_, rfl⟩
              obtain ⟨F, hF⟩ : ∃ F, F = w3.heap.size := ⟨_, rfl⟩
              rw [← hw4, ← hF] at hsp
              have hgF : g < F := by rw [hF]; exact (Array.getElem?_eq_some_iff.1 R3.out).1
              have hrF : w4.heap[F]? = some (.cells (ST ps).toArray 9 (0, 0)) := by rw [hw4, hF]; exact heap_alloc_new w3 _
              have R4 : Hid (w4.heap[g]? = some (.cells (DC (.slice Av n cv) 0 false nilS) 48 (0, 0))) := Lib.hid (by rw [hw4, Lib.alloc_old _ _ _ (by rw [← hF]; exact hgF)]; exact R3.out)
              have O4 : Hid (Ow w4 (G + 1) 9 (.slice Av n cv) (ST ws)) := Lib.hid (by rw [hw4]; exact O3.out.alloc _)
              have B4 : Hid (Below w0.heap.size w0 w4) := Lib.hid (by rw [hw4]; exact B3.out.alloc B3.out.size _)
              have HrW : Hid (∀ r, rowOf (.slice Av n cv) = some r → r < F) := Lib.hid (fun r hr => by rw [hF]; exact (O3.out.row r hr).2)
              have Hsp := Lib.hid hsp
              have HrF := Lib.hid hrF
              have Hpl := Lib.hid hpl
              have Hq := Lib.hid hq
              clear hps hsp hq hw4 hF hrF htz htl hpl R3 O3 B3 HD
              refine (Hsp.out).mono ?_
              rintro e w' ⟨rfl, hww⟩
              rw [hww]
              clear hww Hsp
              by_cases h2 : 2 ≤ q
              · have d2 : decide ((2 : Int) ≤ (q : Int)) = true := decide_eq_true (by omega)
                by_cases h17 : q ≤ 17
                · have d17 : decide ((q : Int) ≤ 17) = true := decide_eq_true (by omega)
                  obtain ⟨p0, rs, hp0⟩ : ∃ p0 rs, ps = p0 :: rs := by
                    cases hh : ps with
                    | nil => have := Hq.out; rw [hh] at this; simp at this; omega
                    | cons a b => exact ⟨a, b, rfl⟩
                  have hrl : q = rs.length + 1 := by have := Hq.out; rw [hp0] at this; simpa using this
                  have HD3 : Hid (readD S = match mOf p0 with | none => none | some m => if m ≤ rs.length then (keysOf rs).map fun ks => ⟨ws, m, false, ks⟩ else none) := Lib.hid (by
                    rw [HD2.out, hp0]; exact manyV_yes ws false p0 rs (by simp only [List.length_cons]; omega))
                  obtain ⟨P0, hP0⟩ : ∃ P0 : ByteArray, P0 = ⟨p0.toArray⟩ := ⟨_, rfl⟩
                  have c0 : w4.cell? ⟨F, 0, none⟩ = some (.string P0) := by
                    rw [cell_of_row _ _ _ _ _ _ HrF.out, hP0, hp0]; rfl
                  have hPz : P0.size ≤ 8192 := by have := Hpl.out p0 (by rw [hp0]; simp); rw [hP0]; show p0.toArray.size ≤ 8192; simp; omega
                  have HP0 := Lib.hid hP0
                  have Hp0 := Lib.hid hp0
                  have Hrl := Lib.hid hrl
                  have HPz := Lib.hid hPz
                  clear HD2 hP0 hp0 hrl hPz
                  have hPL : P0.data.toList = p0 := by rw [HP0.out]
                  have hmx : Tryz.prog.follows .mixedOrders = true := by kernel_rfl
                  by_cases hok : ∃ v, Lib.atoiAll p0 = .ok v
                  · obtain ⟨v, hv⟩ := hok
                    obtain ⟨hv1, hv2⟩ := Lib.atoiAll_bounds hv
                    have HA := Lib.hid (atoi_ok P0 HPz.out v (by rw [hPL]; exact hv))
                    have HI := Lib.hid (itoa_any v hv1 hv2)
                    obtain ⟨IV, hIV⟩ : ∃ IV : ByteArray, IV = ⟨(Lib.itoa v).toArray⟩ := ⟨_, rfl⟩
                    rw [← hIV] at HI
                    obtain ⟨okI, hokI⟩ : ∃ okI, okI = (IV.toList == P0.toList) := ⟨_, rfl⟩
                    have hokI2 : okI = decide (Lib.itoa v = p0) := by
                      rw [hokI, hIV, HP0.out, ByteArray.toList_eq, ByteArray.toList_eq]
                      exact Bool.eq_iff_iff.2 (by rw [beq_iff_eq, decide_eq_true_eq])
                    have HM : Hid (mOf p0 = if okI = true ∧ 1 ≤ v then some v.toNat else none) := Lib.hid (by rw [mOf_ok hv, hokI2]; simp only [decide_eq_true_eq])
                    have HokI := Lib.hid hokI.symm
                    clear hPL hv hIV hokI2 hokI hv1 hv2
                    go_wp2_with (go_at_call 38; (with_reducible refine (must_yes _).mono ?_); rintro e w' ⟨rfl, rfl⟩)
                    refine (HA.out w4).mono ?_
                    rintro e w5 ⟨rfl, hb5⟩
                    have R5 := Lib.hid ((hb5.block g (Array.getElem?_eq_some_iff.1 R4.out).1).trans R4.out)
                    have F5 := Lib.hid ((hb5.block F (Array.getElem?_eq_some_iff.1 HrF.out).1).trans HrF.out)
                    have O5 := Lib.hid (O4.out.below hb5 (Nat.le_refl _))
                    have B5 := Lib.hid (B4.out.trans (hb5.mono B4.out.size))
                    have c5 : w5.cell? ⟨F, 0, none⟩ = some (.string P0) := by
                      rw [cell_of_row _ _ _ _ _ _ F5.out, HP0.out, Hp0.out]; rfl
                    clear hb5 HA R4 O4 B4 HrF c0
                    go_wp2_with fail
                    refine wp_region_plan [(0, 0), (1, 0), (2, 0), (3, 0), (5, 0), (6, 0), (7, 1), (4, 2), (8, 0), (9, 0), (10, 0), (11, 0), (12, 0), (13, 0), (14, 0), (15, 0), (16, 0), (17, 0), (18, 0), (19, 0), (20, 2)] 21 hmx (by kernel_rfl) (by intro c a d v w h; cases d <;> exact h) ?_
                    repeat ((first | (refine wpPlan_pure rfl (fun K hK => ?_)) | (refine wpPlan_quiet rfl (fun K hK => ?_))); go_simp; (first | (refine hK _ ?_) | (simp only [IntWalk.iteOmega]; go_simp; refine hK _ ?_) | (go_bits; go_simp; refine hK _ ?_)); clear hK K; (try go_bits))
                    refine wpPlan_loudG rfl rfl (fun K hK => ?_)
                    go_wp2_with fail
                    refine (HI.out _ (HE.out.below B5.out.drew)).mono ?_
                    rintro e w6 ⟨rfl, hb6⟩
                    have R6 := Lib.hid ((hb6.block g (Array.getElem?_eq_some_iff.1 R5.out).1).trans R5.out)
                    have F6 := Lib.hid ((hb6.block F (Array.getElem?_eq_some_iff.1 F5.out).1).trans F5.out)
                    have O6 : Hid (Ow w6 (G + 1) 9 (.slice Av n cv) (ST ws)) := Lib.hid (O5.out.drew.below hb6 (Nat.le_refl _))
                    have B6 : Hid (Below w0.heap.size w0 w6) := Lib.hid (B5.out.drew.trans (hb6.mono B5.out.size))
                    have HX6 := Lib.hid (ext_of_below hb6)
                    clear hb6 HI R5 F5 O5 B5 c5
                    go_wp2_with fail
                    refine ⟨.inr HX6.out, ?_⟩
                    clear HX6
                    cases okI with
                    | false =>
                      have hx := HokI.out
                      have Hno : Hid (readD S = none) := Lib.hid (by rw [HD3.out, HM.out]; simp)
                      clear HM HD3 HokI
                      refine wpPlan_streq (.tmp 135) (.tmp 138) 9 9 IV P0 false rfl rfl rfl rfl rfl Tryz.underlying9 hx ?_
                      refine (show wpPlan _ _ _ _ _ _ (Act.put _ (some 139) _) _ from ?_)
                      conv in (Act.put _ (some 139) _) => simp [Act.put]
                      clear hx
                      repeat ((first | (refine wpPlan_pure rfl (fun K hK => ?_)) | (refine wpPlan_quiet rfl (fun K hK => ?_))); go_simp; (first | (refine hK _ ?_) | (simp only [IntWalk.iteOmega]; go_simp; refine hK _ ?_) | (go_bits; go_simp; refine hK _ ?_)); clear hK K; (try go_bits))
                      refine wpPlan_loudG rfl rfl (fun K hK => ?_)
                      go_wp2_with (go_at_call 38; (with_reducible refine (must_no _).mono ?_); rintro e w' ⟨rfl, rfl⟩)
                      exact ⟨rfl, .inl ⟨rfl, Hno.out⟩, B6.out⟩
                    | true =>
                      have hx := HokI.out
                      by_cases hv1 : 1 ≤ v
                      · have hd1 : decide ((1 : Int) ≤ v) = true := decide_eq_true hv1
                        by_cases hvq : v < (q : Int)
                        · have hdq : decide (v < (q : Int)) = true := decide_eq_true hvq
                          have HD4 : Hid (readD S = (keysOf rs).map fun ks => ⟨ws, v.toNat, false, ks⟩) := Lib.hid (by
                            rw [HD3.out, HM.out, if_pos ⟨rfl, hv1⟩]
                            simp only []
                            rw [if_pos (by have := Hrl.out; omega)])
                          clear HM HD3 HokI
                          refine wpPlan_streq (.tmp 135) (.tmp 138) 9 9 IV P0 true rfl rfl rfl rfl rfl Tryz.underlying9 hx ?_
                          refine (show wpPlan _ _ _ _ _ _ (Act.put _ (some 139) _) _ from ?_)
                          conv in (Act.put _ (some 139) _) => simp [Act.put]
                          clear hx
                          repeat ((first | (refine wpPlan_pure rfl (fun K hK => ?_)) | (refine wpPlan_quiet rfl (fun K hK => ?_))); go_simp; (first | (refine hK _ ?_) | (simp only [IntWalk.iteOmega]; go_simp; refine hK _ ?_) | (go_bits; go_simp; refine hK _ ?_)); clear hK K; (try go_bits))
                          refine wpPlan_loudG rfl rfl (fun K hK => ?_)
                          go_wp2_with (go_at_call 38; (with_reducible refine (must_yes _).mono ?_); rintro e w' ⟨rfl, rfl⟩)
                          refine ⟨.inr (Ext.refl _), wpPlan_nil ?_⟩
                          have c1 := DC_1 R6.out
                          have f1 : w6.frozen? ⟨g, 1, none⟩ = false := frozen_of_row _ _ _ _ _ R6.out
                          obtain ⟨l3, hl3⟩ : ∃ l3, l3 = rs.length := ⟨_, rfl⟩
                          have hq3 : q = l3 + 1 := by rw [hl3]; exact Hrl.out
                          have Hl3 := Lib.hid hl3
                          subst hq3
                          clear hl3
                          go_wp2_with fail
                          obtain ⟨w7, hw7⟩ : ∃ w7, w7 = w6.setCell ⟨g, 1, none⟩ (.int .i64 v) := ⟨_, rfl⟩
                          rw [← hw7]
                          have R7 : Hid (w7.heap[g]? = some (.cells (DC (.slice Av n cv) v false nilS) 48 (0, 0))) := Lib.hid (by rw [hw7]; exact DC_set1 R6.out v)
                          have O7 : Hid (Ow w7 (G + 1) 9 (.slice Av n cv) (ST ws)) := Lib.hid (by rw [hw7]; exact O6.out.setCell (p := ⟨g, 1, none⟩) (fun r hr => by have := (O6.out.row r hr).1; show g ≠ r; omega) _)
                          have B7 : Hid (Below w0.heap.size w0 w7) := Lib.hid (by rw [hw7]; exact B6.out.setCell (p := ⟨g, 1, none⟩) hg _)
                          have F7 : Hid (w7.heap[F]? = some (.cells (ST ps).toArray 9 (0, 0))) := Lib.hid (by rw [hw7]; exact (Below.heap_setCell _ _ _ _ (show F ≠ g by omega)).trans F6.out)
                          have H17 := Lib.hid h17
                          have HmN : Hid ((v.toNat : Int) = v) := Lib.hid (by omega)
                          clear hw7 R6 O6 B6 F6 c1 f1 hd1 hdq hvq hv1 d2 d17 h2 h17
                          go_loopw [159] (fun i wr => ∃ k : Nat, k ≤ l3 ∧ i = .int .i64 k ∧ ∃ ks kv, keysOf (rs.take k) = some ks ∧ wr.heap[g]? = some (.cells (DC (.slice Av n cv) v false kv) 48 (0, 0)) ∧ Ow wr (G + 1) 9 (.slice Av n cv) (ST ws) ∧ KS wr (F + 1) (g + 1) kv ks ∧ wr.heap[F]? = some (.cells (ST ps).toArray 9 (0, 0)) ∧ Below w0.heap.size w0 wr) (fun i _ => l3 - (intOf i).toNat)
                          case atStart => exact ⟨0, Nat.zero_le _, rfl, [], nilS, rfl, R7.out, O7.out, ks_nil _ _ _, F7.out, B7.out⟩
                          case round =>
                            obtain ⟨k, hk, rfl, ks, kv, hks, hRk, hOk, hKk, hFk, hBk⟩ := hrel
                            have Hks := Lib.hid hks
                            have HRk := Lib.hid hRk
                            have HOk := Lib.hid hOk
                            have HKk := Lib.hid hKk
                            have HFk := Lib.hid hFk
                            have HBk := Lib.hid hBk
                            clear hks hRk hOk hKk hFk hBk R7 O7 B7 F7
                            have h16 : l3 ≤ 16 := by have := H17.out; omega
                            by_cases hlt : k < l3
                            · have hkr : k < rs.length := by have := Hl3.out; omega
                              obtain ⟨p, hp⟩ : ∃ p, p = rs[k] := ⟨_, rfl⟩
                              have hpm : p ∈ ps := by rw [Hp0.out, hp]; exact List.mem_cons_of_mem _ (List.getElem_mem _)
                              have hcp : wr.cell? ⟨F, 1 + k, none⟩ = some (.string ⟨p.toArray⟩) := by
                                rw [cell_of_row _ _ _ _ _ _ HFk.out, List.getElem?_toArray, Hp0.out, Nat.add_comm, hp]
                                rw [List.getElem?_eq_getElem (by simp; omega), ST_get]
                                simp
                              have Hrk := Lib.hid (readKey_any ⟨p.toArray⟩ (by show p.toArray.size ≤ 4096; simpa using Hpl.out p hpm))
                              have Htk : Hid (rs.take (k + 1) = rs.take k ++ [p]) := Lib.hid (by rw [List.take_succ_eq_append_getElem hkr, hp])
                              have HgF : Hid (g < F) := Lib.hid (by omega)
                              have Hpr : Hid (p ∈ rs) := Lib.hid (by rw [hp]; exact List.getElem_mem _)
                              have c3 := DC_3 HRk.out
                              have hkz : ks.length ≤ 1000 := by
                                have h1 := keysOf_len _ _ Hks.out
                                rw [List.length_take] at h1
                                have h2 := Hq.out
                                have h3 := H17.out
                                omega
                              clear hp hpm
                              go_wp2_with fail
                              refine wp_region_plan [(0, 0), (1, 0), (2, 0), (3, 0), (4, 1), (5, 0), (6, 2), (7, 2), (8, 2), (9, 2), (10, 2), (11, 2)] 8 hmx (by kernel_rfl) (by intro c a d v w h; cases d <;> exact h) ?_
                              repeat ((first | (refine wpPlan_pure rfl (fun K hK => ?_)) | (refine wpPlan_quiet rfl (fun K hK => ?_))); go_simp; (first | (refine hK _ ?_) | (simp only [IntWalk.iteOmega]; go_simp; refine hK _ ?_) | (go_bits; go_simp; refine hK _ ?_)); clear hK K; (try go_bits))
                              refine wpPlan_loud rfl rfl (fun K hK => ?_)
                              go_wp2_with fail
                              refine (Hrk.out _ (HE.out.below HBk.out.drew)).mono ?_
                              rintro e w8 ⟨h8, hb8⟩
                              have hB8 : Below w0.heap.size w0 w8 := HBk.out.drew.trans (hb8.mono HBk.out.size)
                              have B8' := Lib.hid hB8
                              rcases h8 with ⟨rfl, hn8⟩ | ⟨kk, pv, sv, hk8, rfl, hKV⟩
                              · have Hno : Hid (readD S = none) := Lib.hid (by rw [HD4.out, keysOf_none rs p Hpr.out hn8]; rfl)
                                clear hn8 hb8 hB8
                                exact ⟨rfl, .inl ⟨rfl, Hno.out⟩, B8'.out⟩
                              · replace hk8 : readK p = some kk := hk8
                                have hok8 := readK_ok hk8
                                have Hks2 : Hid (keysOf (rs.take (k + 1)) = some (ks ++ [kk])) := Lib.hid (by rw [Htk.out]; exact keysOf_snoc _ _ _ _ Hks.out hk8)
                                have hgk : g < wr.heap.size := (Array.getElem?_eq_some_iff.1 HRk.out).1
                                have hFk : F < wr.heap.size := (Array.getElem?_eq_some_iff.1 HFk.out).1
                                have R8 : w8.heap[g]? = some (.cells (DC (.slice Av n cv) v false kv) 48 (0, 0)) := (hb8.block g hgk).trans HRk.out
                                have F8 : w8.heap[F]? = some (.cells (ST ps).toArray 9 (0, 0)) := (hb8.block F hFk).trans HFk.out
                                have O8 : Ow w8 (G + 1) 9 (.slice Av n cv) (ST ws) := HOk.out.drew.below hb8 (Nat.le_refl _)
                                have K8 : KS w8 (F + 1) (g + 1) kv ks := KS.below (W := wr.drew) HKk.out hb8
                                have hkr8 : ∀ r, kv.ownBlock = some r → F + 1 ≤ r ∧ r < wr.heap.size := fun r hr => by
                                  obtain ⟨prs, _, _, h3⟩ := HKk.out
                                  exact h3.lt r hr
                                have hOff := hKV.offLo kv.ownBlock (fun r hr => (hkr8 r hr).2)
                                have hKVg : KV w8 (g + 1) kk pv sv := hKV.mono hgk
                                have hz8 : wr.heap.size ≤ w8.heap.size := hb8.size
                                obtain ⟨cs, hcs⟩ : ∃ cs, cs = (dkC kk pv sv).toArray := ⟨_, rfl⟩
                                have hcz : cs.size = 75 := by rw [hcs]; simp [dkC_length hok8]
                                rw [← hcs]
                                obtain ⟨w9, hw9⟩ : ∃ w9, w9 = w8.alloc (.cells cs 62) := ⟨_, rfl⟩
                                obtain ⟨gN, hgN⟩ : ∃ gN, gN = w8.heap.size := ⟨_, rfl⟩
                                have HX8 := Lib.hid (ext_of_below hb8)
                                have HX9 : Hid (Ext w8 w9) := Lib.hid (by rw [hw9]; exact ext_alloc _ _)
                                have hb89 : Below w8.heap.size w8 w9 := by rw [hw9]; exact (Below.refl _ w8).alloc (Nat.le_refl _) _
                                have hz9 : w8.heap.size ≤ w9.heap.size := hb89.size
                                have R9 := Lib.hid ((hb89.block g (by omega)).trans R8)
                                have F9 := Lib.hid ((hb89.block F (by omega)).trans F8)
                                have O9 := Lib.hid (O8.below hb89 (Nat.le_refl _))
                                have K9 := Lib.hid (K8.below hb89)
                                have B9 := Lib.hid (hB8.trans (hb89.mono hB8.size))
                                have V9 := Lib.hid (hKVg.below hb89)
                                have N9 : Hid (w9.heap[gN]? = some (.cells (dkC kk pv sv).toArray 62 (0, 0))) := Lib.hid (by rw [hw9, hgN, ← hcs]; exact heap_alloc_new w8 _)
                                have hbz9 : F + 1 ≤ w9.heap.size := by omega
                                have HOff := Lib.hid hOff
                                have Hok8 := Lib.hid hok8
                                have Hcz := Lib.hid hcz
                                have HW9 := Lib.hid hw9
                                have HGN := Lib.hid hgN
                                have Hkr8 := Lib.hid hkr8
                                have hg9 : g < w9.heap.size := by omega
                                have hF9 : F < w9.heap.size := by omega
                                have Hg9 := Lib.hid hg9
                                have HF9 := Lib.hid hF9
                                have Hbz9 := Lib.hid hbz9
                                clear hb8 hB8 hk8 hok8 hgk hFk R8 F8 O8 K8 hkr8 hOff hKVg hz8 hcs hcz hw9 hgN hb89 hz9 hKV hbz9 hg9 hF9 B8'
                                go_wp2_with fail
                                refine ⟨.inr HX8.out, ?_⟩
                                clear HX8
                                refine wpPlan_loud rfl rfl (fun K hK => ?_)
                                refine wp_build1 46 62 (.tmp 169) 75 cs rfl Tryz.underlying46 KI.out KZ.out (by decide) (by decide) rfl Hcz.out ?_
                                refine (show K (Act.put _ (some 170) _) _ from ?_)
                                conv in (Act.put _ (some 170) _) => simp [Act.put]
                                refine hK _ _ ⟨.inr (by rw [← HW9.out]; exact HX9.out), ?_⟩
                                clear hK K
                                rw [← HW9.out, ← HGN.out]
                                clear HX9
                                refine wpPlan_loud rfl rfl (fun K hK => ?_)
                                refine wp_pushK (.tmp 167) (.tmp 170) rfl K9.out Hok8.out V9.out HOff.out.1 HOff.out.2 gN N9.out hkz Hbz9.out rfl rfl ?_
                                intro A10 n10 c10 w10 hK10 hg10
                                have R10 := Lib.hid ((hg10.block g Hg9.out (fun e => by have := (Hkr8.out g e.symm).1; omega)).trans R9.out)
                                have F10 := Lib.hid ((hg10.block F HF9.out (fun e => by have := (Hkr8.out F e.symm).1; omega)).trans F9.out)
                                have O10 := Lib.hid (O9.out.kept hg10 (fun r hr e => by have h1 := (Hkr8.out r e).1; have h2 := HrW.out r hr; omega))
                                have B10 := Lib.hid (B9.out.grown hg10 B9.out.size (fun r hr => by have := (Hkr8.out r hr).1; omega))
                                have K10 := Lib.hid hK10
                                clear hK10 hg10
                                refine (show K (Act.put _ (some 171) _) _ from ?_)
                                conv in (Act.put _ (some 171) _) => simp [Act.put]
                                refine hK _ _ ⟨.inl (by decide), ?_⟩
                                clear hK K c3
                                have c3 := DC_3 R10.out
                                have f3 : w10.frozen? ⟨g, 3, none⟩ = false := frozen_of_row _ _ _ _ _ R10.out
                                refine wpPlan_loud rfl rfl (fun K hK => ?_)
                                go_wp2_with fail
                                refine ⟨.inl (by decide), ?_⟩
                                refine wpPlan_loud rfl rfl (fun K hK => ?_)
                                go_wp2_with fail
                                refine ⟨.inl (by decide), ?_⟩
                                refine wpPlan_loud rfl rfl (fun K hK => ?_)
                                go_wp2_with fail
                                refine ⟨.inl (by decide), wpPlan_nil ?_⟩
                                go_wp2_with fail
                                refine ⟨⟨_, _, _, _, _, _, _, _, _, _, _, _, _, _, _, _, _, ?_, rfl⟩, ?_⟩
                                · exact ⟨k + 1, hlt, castV k, end3 Hks2.out R10.out O10.out K10.out F10.out B10.out hg hgG HgF.out⟩
                                · exact meas3 l3 k hlt _ _ rfl rfl
                            · obtain rfl : k = l3 := by omega
                              have hT : rs.take k = rs := List.take_of_length_le (by have := Hl3.out; omega)
                              have Hyes : Hid (readD S = some ⟨ws, v.toNat, false, ks⟩) := Lib.hid (by rw [HD4.out, ← hT, Hks.out]; rfl)
                              clear hT hlt
                              go_wp2_with fail
                              go_end0
                              exact ⟨.inr ⟨_, Hyes.out, rfl, _, _, by simp only [HmN.out]; exact HRk.out, HOk.out.mono (by omega), HKk.out.mono (by omega)⟩, HBk.out⟩
                        · have hdq : decide (v < (q : Int)) = false := decide_eq_false hvq
                          have Hno : Hid (readD S = none) := Lib.hid (by
                            rw [HD3.out, HM.out, if_pos ⟨rfl, hv1⟩]
                            simp only []
                            rw [if_neg (by have := Hrl.out; omega)])
                          clear HM HD3 HokI
                          refine wpPlan_streq (.tmp 135) (.tmp 138) 9 9 IV P0 true rfl rfl rfl rfl rfl Tryz.underlying9 hx ?_
                          refine (show wpPlan _ _ _ _ _ _ (Act.put _ (some 139) _) _ from ?_)
                          conv in (Act.put _ (some 139) _) => simp [Act.put]
                          clear hx
                          repeat ((first | (refine wpPlan_pure rfl (fun K hK => ?_)) | (refine wpPlan_quiet rfl (fun K hK => ?_))); go_simp; (first | (refine hK _ ?_) | (simp only [IntWalk.iteOmega]; go_simp; refine hK _ ?_) | (go_bits; go_simp; refine hK _ ?_)); clear hK K; (try go_bits))
                          refine wpPlan_loudG rfl rfl (fun K hK => ?_)
                          go_wp2_with (go_at_call 38; (with_reducible refine (must_no _).mono ?_); rintro e w' ⟨rfl, rfl⟩)
                          exact ⟨rfl, .inl ⟨rfl, Hno.out⟩, B6.out⟩
                      · have hd1 : decide ((1 : Int) ≤ v) = false := decide_eq_false hv1
                        have Hno : Hid (readD S = none) := Lib.hid (by rw [HD3.out, HM.out, if_neg (fun h => hv1 h.2)])
                        clear HM HD3 HokI
                        refine wpPlan_streq (.tmp 135) (.tmp 138) 9 9 IV P0 true rfl rfl rfl rfl rfl Tryz.underlying9 hx ?_
                        refine (show wpPlan _ _ _ _ _ _ (Act.put _ (some 139) _) _ from ?_)
                        conv in (Act.put _ (some 139) _) => simp [Act.put]
                        clear hx
                        repeat ((first | (refine wpPlan_pure rfl (fun K hK => ?_)) | (refine wpPlan_quiet rfl (fun K hK => ?_))); go_simp; (first | (refine hK _ ?_) | (simp only [IntWalk.iteOmega]; go_simp; refine hK _ ?_) | (go_bits; go_simp; refine hK _ ?_)); clear hK K; (try go_bits))
                        refine wpPlan_loudG rfl rfl (fun K hK => ?_)
                        go_wp2_with (go_at_call 38; (with_reducible refine (must_no _).mono ?_); rintro e w' ⟨rfl, rfl⟩)
                        exact ⟨rfl, .inl ⟨rfl, Hno.out⟩, B6.out⟩
                  · have hno : mOf p0 = none := mOf_no (fun v hv => hok ⟨v, hv⟩)
                    have HA := Lib.hid (atoi_no P0 HPz.out (fun v hv => hok ⟨v, by rw [← hPL]; exact hv⟩) w4 (HE.out.below B4.out))
                    have Hno : Hid (readD S = none) := Lib.hid (by rw [HD3.out, hno])
                    clear hPL hok hno HD3
                    go_wp2_with (go_at_call 38; (with_reducible refine (must_yes _).mono ?_); rintro e w' ⟨rfl, rfl⟩)
                    refine HA.out.mono ?_
                    rintro e w5 ⟨x5, t5, p5, rfl, hb5⟩
                    have B5 := Lib.hid (B4.out.trans (hb5.mono B4.out.size))
                    have c5 : w5.cell? ⟨F, 0, none⟩ = some (.string P0) := hb5.cell (p := ⟨F, 0, none⟩) (Array.getElem?_eq_some_iff.1 HrF.out).1 |>.trans c0
                    clear hb5 HA R4 O4 B4 HrF c0
                    go_wp2_with fail
                    refine wp_region_plan [(0, 0), (1, 0), (2, 0), (3, 0), (5, 0), (6, 0), (7, 1), (4, 2), (8, 0), (9, 0), (10, 0), (11, 0), (12, 0), (13, 0), (14, 0), (15, 0), (16, 0), (17, 0), (18, 0), (19, 0), (20, 2)] 21 hmx (by kernel_rfl) (by intro c a d v w h; cases d <;> exact h) ?_
                    repeat ((first | (refine wpPlan_pure rfl (fun K hK => ?_)) | (refine wpPlan_quiet rfl (fun K hK => ?_))); go_simp; (first | (refine hK _ ?_) | (simp only [IntWalk.iteOmega]; go_simp; refine hK _ ?_) | (go_bits; go_simp; refine hK _ ?_)); clear hK K; (try go_bits))
                    refine wpPlan_loudN rfl rfl ?_
                    repeat ((first | (refine wpPlan_pure rfl (fun K hK => ?_)) | (refine wpPlan_quiet rfl (fun K hK => ?_))); go_simp; (first | (refine hK _ ?_) | (simp only [IntWalk.iteOmega]; go_simp; refine hK _ ?_) | (go_bits; go_simp; refine hK _ ?_)); clear hK K; (try go_bits))
                    refine wpPlan_loudG rfl rfl (fun K hK => ?_)
                    go_wp2_with (go_at_call 38; (with_reducible refine (must_no _).mono ?_); rintro e w' ⟨rfl, rfl⟩)
                    exact ⟨rfl, .inl ⟨rfl, Hno.out⟩, B5.out.drew⟩
                · have d17 : decide ((q : Int) ≤ 17) = false := decide_eq_false (by omega)
                  have Hno : Hid (readD S = none) := Lib.hid (by rw [HD2.out]; exact manyV_no ws false ps (by rw [← Hq.out]; omega))
                  clear HD2 h17
                  go_wp2_with (go_at_call 38; (with_reducible refine (must_no _).mono ?_); rintro e w' ⟨rfl, rfl⟩)
                  exact ⟨rfl, .inl ⟨rfl, Hno.out⟩, B4.out⟩
              · have d2 : decide ((2 : Int) ≤ (q : Int)) = false := decide_eq_false (by omega)
                have Hno : Hid (readD S = none) := Lib.hid (by rw [HD2.out]; exact manyV_no ws false ps (by rw [← Hq.out]; omega))
                clear HD2 h2
                go_wp2_with (go_at_call 38; (with_reducible refine (must_no _).mono ?_); rintro e w' ⟨rfl, rfl⟩)
                exact ⟨rfl, .inl ⟨rfl, Hno.out⟩, B4.out⟩
end Go.Proofs.YtcjioogololnoaaGreatDoor
