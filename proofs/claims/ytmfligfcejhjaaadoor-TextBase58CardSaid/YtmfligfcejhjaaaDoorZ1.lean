/- Of every input: the law TextBase58 returns true, and each argument reads as it did; the package-level variables that its row lists start as the program's text lays them. -/
import Derived.Test.YtmfligfcejhjaaaDoorTie
import Derived.Test.YtmfligfcejhjaaaDoorCards
import Derived.Test.YtmfligfcejhjaaaDoorW2
import Derived.ProofKit
import Derived.OpenShut
import Derived.LaidMore
import Derived.Lay
import Derived.SevenTiedAt
import Derived.Stop.Joined
namespace Go.Proofs.YtmfligfcejhjaaaDoor
open Go.ChangeShapes Go.WideShapes Go.ChangeAt Go.RowKit
open Go.ChangeMaps (open_string shut_string)

theorem sl_of_ints {W : World} {a : Addr} {zs : List Int} {len : Nat} (hl : len ≤ zs.length) (hc : ∀ i, i < zs.length → W.cell? (a.add i) = some (.int .u8 (zs.getD i 0))) (hwf : ∀ n ∈ zs, (Lit.int .u8 n).wf = true) :
    ∃ bs : List UInt8, bs.length = len ∧ Sl W W.heap.size (some a) (B8 bs) := by
  refine ⟨(zs.take len).map fun n => UInt8.ofNat n.toNat, by simp; omega, fun hn => ?_⟩
  have h0 : 0 < len := by simp at hn; omega
  obtain ⟨b, off, rfl, hcell⟩ := ints_at hc (by omega)
  refine ⟨b, off, rfl, World.block_lt_of_cell? W ⟨b, off + 0, none⟩ (hcell 0 (by omega)), fun j hj => ?_⟩
  have hj' : j < len := by simp at hj; omega
  have hjz : j < zs.length := by omega
  have hm := hwf zs[j] (List.getElem_mem _)
  have hb : 0 ≤ zs[j] ∧ zs[j] ≤ 255 := by simpa [Lit.wf, IntKind.min, IntKind.max, IntKind.signed, IntKind.bits] using hm
  rw [hcell j hjz]
  have hg : zs.getD j 0 = zs[j] := by simp [hjz]
  rw [hg]
  have he : ((UInt8.ofNat zs[j].toNat).toNat : Int) = zs[j] := by
    rw [UInt8.toNat_ofNat', Nat.mod_eq_of_lt (by omega)]; omega
  simp only [B8, List.getElem_map, List.getElem_take]
  exact congrArg (fun x => some (Value.int .u8 x)) he.symm

theorem row_own : ownKnob Tryd.prog.godebug = none := by kernel_rfl
theorem row_out : laidOutB Tryd.prog = true := by kernel_rfl

set_option maxRecDepth 100000 in
theorem row_lifted (os : Os) (started : os.Started) (H : Type) (enc : TypeId × Value → H) :
    ReturnsInHanded {} Tryd.checked os 3 .any (fun w args => (Rows.textBase58Spec.pre enc Tryd.prog Tryd.f3 Rows.textBase58Row.domain false w args ∧ laidMetH Tryd.prog Rows.textBase58Row.laid w) ∧ sizedMet enc Tryd.prog Tryd.f3 (OpenSpec.ofChange Rows.textBase58Spec) false w args)
      (Rows.textBase58Spec.post enc Tryd.prog Tryd.f3 false true false false) := by
  refine returnsInHanded_of_change_and (C := Tryd.checked) (X := fun w _ => laidMetH Tryd.prog Rows.textBase58Row.laid w) (fun _ _ _ hh h => h.of_heap hh) row_own started (by kernel_rfl) Tryd.func3
    (ChangeSpec.witness_shaped (enc := enc) (C := Tryd.checked) (os := os) (X := fun w _ => laidMetH Tryd.prog Rows.textBase58Row.laid w) false (World.laidAll Tryd.prog os Rows.textBase58Row.laid) #[.slice none 0 0, .string ⟨#[]⟩] 8 (World.laidAll_os _ _ _)
      (World.shaped_of_ZipB (by kernel_rfl) (by kernel_rfl)) (by kernel_rfl) (by kernel_rfl) (by kernel_rfl)
      (by rw [MakeChecks.laidMetH_plain _ _ _ (by kernel_rfl)]; exact laidMet_laidAll _ (by kernel_rfl) (by kernel_rfl))) ?_
  intro W base args ds gs before hval0 hW _ _ _ _
  have hval : ∀ (j : Nat) t v, Tryd.f3.params[j]? = some t → args[j]? = some v → Value.okWide Tryd.prog W .any base t v := hval0
  have hW' := hW
  obtain ⟨p, q, hA0, hV, rfl, _, _⟩ := hW
  have hA : DataW.TrodAll enc Tryd.prog W 0 (fun _ => true) true Tryd.f3.params.toList args.toList ds p := hA0
  rw [Tryd.params3] at hA hval
  obtain ⟨v0, v1, d0, d1, p0, p1, rfl, rfl, rfl, h0, h1⟩ := trodAll_two hA
  obtain ⟨rfl, rfl⟩ := trodVars_none hV
  have k0 := h0
  obtain ⟨s, rfl, rfl, rfl, hs⟩ := open_string Tryd.underlying9 (hval 1 9 v1 rfl rfl) h1
  obtain ⟨a0, len, cap, rfl⟩ := okWide_slice Tryd.underlying22 (hval 0 22 v0 rfl rfl)
  obtain ⟨fuel, hf⟩ := h0
  have hc5 : Tryd.prog.cellsOf 5 = 1 := by kernel_rfl
  have hsl : ∃ bs : List UInt8, bs.length = len ∧ len ≤ cap ∧ cap ≤ maxLen ∧ Sl W W.heap.size a0 (B8 bs) := by
    rcases open_ints Tryd.underlying22 Tryd.underlying5 hc5 hf with ⟨hcs, _⟩ | ⟨a, len', cap', zs, hcs, _, hle, hmax, hall, _, hcell, hwf⟩
    · simp [Value.cells] at hcs
      obtain ⟨rfl, rfl, rfl⟩ := hcs
      exact ⟨[], rfl, Nat.le_refl _, by simp [maxLen], Sl.nil⟩
    · simp [Value.cells] at hcs
      obtain ⟨rfl, rfl, rfl⟩ := hcs
      simp only [if_true] at hall
      obtain ⟨bs, h1, h2⟩ := sl_of_ints (len := len) (by omega) hcell hwf
      exact ⟨bs, h1, hle, hmax, h2⟩
  obtain ⟨bs, hbl, hle, hmax, hsl⟩ := hsl
  have hlaw := law_any a0 cap bs s W hsl (by omega) hmax hs
  rw [hbl] at hlaw
  refine hlaw.mono fun e W' ⟨he, hb⟩ => ?_
  subst he
  have hlt : ∀ x ∈ p0, x.block < W.heap.size := fun x hx => hW'.lt x (by simp [hx])
  exact ⟨_, rfl, _, _, _, [], _, [], hW', trodAll_mk1 (shut_bool Tryd.underlying4 _), trodAll_mk2 (Below.trod row_out (by kernel_rfl) (of_decide_eq_true (by kernel_rfl)) k0 hb hlt) (shut_string Tryd.underlying9 hs), rfl, hb.frame _, fun h => by cases h⟩

theorem row_holds : Rows.TextBase58Said :=
  OpenClaim.holds_of_wide 3 Tryd.f3 rfl rfl rfl rfl rfl rfl rfl ⟨rfl, rfl, rfl, rfl, rfl⟩ rfl rfl rfl rfl rfl (by kernel_rfl) Tryd.func3 (by kernel_rfl)
    (of_decide_eq_true (by kernel_rfl)) (by unfold Func.isWrapper; first | (rw [if_pos (by decide +kernel)]; kernel_rfl) | (rw [if_neg (by decide +kernel)]; exact ⟨rfl, rfl⟩))
    (fun os started H enc _ => row_lifted os started H enc)

theorem textBase58_card : Rows.TextBase58CardSaid :=
  Claim7.holds_tied_plain_at .later [] [.data, .pinned] true (true, "43b82e0cc617793a453cf086a09b7d7b86f1ce2a2254290982b4c3cad3497c61") false row_holds (fun _ h => by cases h) (by kernel_rfl) (fun _ h => by cases h) textBase58_row_tie rfl ⟨rfl, rfl⟩ (by kernel_rfl) rfl
    (fun f fn hf hfn => by
      obtain rfl : f = 3 := Option.some.inj ((show Tryd.prog.funcNamed "strongbox/strongboxlaw03.TextBase58" = some 3 by kernel_rfl).symm.trans hf) |>.symm
      obtain rfl : fn = Tryd.f3 := (Option.some.inj (Tryd.func3.symm.trans hfn)).symm
      exact ⟨by kernel_rfl, fun j t ht => by
        rw [Tryd.params3] at ht
        have hm : t ∈ [22, 9] := by simpa using Array.mem_of_getElem? ht
        have hall : ([22, 9].all fun u => !Tryd.prog.wantsStandIn u) = true := by kernel_rfl
        exact (show Tryd.prog.wantsStandIn t = false by simpa using List.all_eq_true.1 hall t hm)⟩)
    (by kernel_rfl)
#print axioms textBase58_card
end Go.Proofs.YtmfligfcejhjaaaDoor
