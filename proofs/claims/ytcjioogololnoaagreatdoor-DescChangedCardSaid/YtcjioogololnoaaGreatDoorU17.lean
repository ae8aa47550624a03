/- A region that draws its order: quiet steps that lean on S ahead, then an invariant that every other step keeps, whichever comes up. | curve.Valid. | hdkey: a key as cells; Private, secret, good. -/
import Derived.Test.YtcjioogololnoaaGreatDoorU16
import Derived.Deep.MidRow

/-! A region that draws its order: quiet steps that lean on S ahead, then an invariant that every other step keeps, whichever comes up. -/
namespace Go.Proofs.YtcjioogololnoaaGreatDoor
open Go Go.RowKit
section
variable {P : Program} {ops : Array Oper} {md : Region.Mode}
variable {Q : Act → World → Prop} {st : Nat → (Act → World → Prop) → Act → World → Prop} {S : World → Prop}

/-- How many have not come up. -/
def due (listed : Array Bool) : Nat := listed.toList.countP (fun b => b == false)
theorem due_set {listed : Array Bool} {i : Nat} (h : listed.getD i true = false) : due (listed.setIfInBounds i true) + 1 = due listed := by
  have hi : i < listed.size := by
    rcases Nat.lt_or_ge i listed.size with h' | h'
    · exact h'
    · simp [Array.getElem?_eq_none h'] at h
  have hv : listed.toList[i]'(by simpa using hi) = false := by simpa [hi] using h
  unfold due
  rw [Array.toList_setIfInBounds, List.countP_set (h := by simpa using hi)]
  have hm : 0 < listed.toList.countP (fun b => b == false) := List.countP_pos_iff.2 ⟨false, by rw [← hv]; exact List.getElem_mem _, rfl⟩
  rw [hv, if_pos (by decide), if_neg (by decide)]
  omega
theorem due_zero {listed : Array Bool} (h : due listed = 0) : Region.ready md ops listed = [] := by
  apply List.eq_nil_iff_forall_not_mem.2
  intro i hi
  have := due_set (mem_ready.1 hi).1
  omega
theorem wpAnyS_inv (L : StepLaws P ops Q st) (I : Array Bool → Act → World → Prop) (hS : ∀ listed a w, I listed a w → S w)
    (hstep : ∀ listed a w i, I listed a w → i ∈ Region.ready md ops listed → st i (I (listed.setIfInBounds i true)) a w)
    (hend : ∀ listed a w, I listed a w → Region.ready md ops listed = [] → Q a w) : ∀ (fuel : Nat) (listed : Array Bool) (a : Act) (w : World), due listed = fuel → I listed a w → wpAnyS md ops Q st ops.size S fuel listed a w
  | 0, listed, a, w, hd, h => ⟨due_zero hd, hend _ _ _ h (due_zero hd)⟩
  | fuel + 1, listed, a, w, hd, h => ⟨fun hr => hend _ _ _ h hr, fun i hi => L.mono (fun a' w' h' => ⟨.inr (hS _ _ _ h'), wpAnyS_inv L I hS hstep hend fuel _ a' w' (by have := due_set (mem_ready.1 hi).1; omega) h'⟩) (hstep _ _ _ _ h hi)⟩
/-- The quiet steps ahead. -/
def preS (md : Region.Mode) (ops : Array Oper) : List Nat → Array Bool → Bool
  | [], _ => true
  | i :: rest, listed => (Region.ready md ops listed).contains i && Region.free md ops listed i && preS md ops rest (listed.setIfInBounds i true)
def wpPreS (P : Program) (ops : Array Oper) (S : World → Prop) (C : Act → World → Prop) : List Nat → Act → World → Prop
  | [], a, w => C a w
  | i :: rest, a, w => match ops[i]? with
    | none => False
    | some o => ∃ v, YieldsIf P ops S o v a ∧ wpPreS P ops S C rest (a.put o.dst v) w
def listPre : List Nat → Array Bool → Array Bool
  | [], l => l
  | i :: rest, l => listPre rest (l.setIfInBounds i true)
theorem preS_sound (L : StepLaws P ops Q st) (hsel : Region.noSelect ops = true) (n : Nat) {C : Act → World → Prop} : ∀ (pre : List Nat) (listed : Array Bool) (a : Act) (w : World),
    preS md ops pre listed = true → Closed md ops listed → S w → (∀ a w, S w → C a w → wpAnyS md ops Q st ops.size S n (listPre pre listed) a w) → wpPreS P ops S C pre a w → wpAnyS md ops Q st ops.size S (pre.length + n) listed a w
  | [], listed, a, w, _, _, hS, hC, h => by
    rw [List.length_nil, Nat.zero_add]
    exact hC a w hS h
  | i :: rest, listed, a, w, hB, hcl, hS, hC, h => by
    simp only [preS, Bool.and_eq_true] at hB
    obtain ⟨⟨hr, hf⟩, hrest⟩ := hB
    have hr' : i ∈ Region.ready md ops listed := by simpa using hr
    simp only [wpPreS] at h
    split at h
    · exact h.elim
    · rename_i o ho
      obtain ⟨v, hy, hK⟩ := h
      have hrec := preS_sound L hsel n rest (listed.setIfInBounds i true) (a.put o.dst v) w hrest (hcl.set hr') hS hC hK
      rw [List.length_cons, show rest.length + 1 + n = rest.length + n + 1 by omega]
      exact wpAnyS_first L (S := S) (S1 := S) ho (Region.noSelect_spec hsel) (Array.getElem?_eq_some_iff.1 ho).1 (fun l w' hc _ ht => ht.resolve_left (no_tb hc.1)) (rest.length + n) listed a w hcl (Region.free_spec ho hf) hr' hy (.inr hS) hrec
end
section
variable {P : Program} {ops : Array Oper} {S : World → Prop} {F : Fence} {n : Nat}
/-- **A region that draws, under an invariant.** It may speak of the frame that the region began with. -/
theorem wpIn_region_inv {id : Nat} {Q : Exit → Act → World → Prop} {a : Act} {w : World} {l : List Oper} (S : World → Prop) (pre : List Nat) (I : Act → Array Bool → Act → World → Prop) (hF : ∀ k, F.fn k) (hm : P.follows .mixedOrders = true)
    (hB : (Region.noSelect l.toArray && Region.noDefer l.toArray && preS .any l.toArray pre (Array.replicate l.length false) && (pre.length + due (listPre pre (Array.replicate l.length false)) == l.length)) = true) (hQ : ∀ c a d v w, Q (.panic c) (Act.put a d v) w → Q (.panic c) a w)
    (hS0 : S w.drew) (hIS : ∀ listed a' w, I a listed a' w → S w)
    (hstep : ∀ listed a' w i, I a listed a' w → i ∈ Region.ready .any l.toArray listed → wpOpIn F n P l.toArray Q i (I a (listed.setIfInBounds i true)) a' w)
    (hend : ∀ listed a' w, I a listed a' w → Region.ready .any l.toArray listed = [] → Q .normal a' w)
    (h : wpPreS P l.toArray S (I a (listPre pre (Array.replicate l.length false))) pre a w.drew) : (Code.region id l.toArray true).wpIn F n P Q a w := by
  simp only [Bool.and_eq_true, beq_iff_eq] at hB
  refine wpIn_region_any hm ?_
  have L := fencedLaws (F := F) (n := n) (P := P) (ops := l.toArray) Q hF hB.1.1.2 hQ
  have := preS_sound (S := S) L hB.1.1.1 (due (listPre pre (Array.replicate l.length false))) pre (Array.replicate l.length false) a w.drew hB.1.2 ⟨by simp, fun j oj hj hl => by
    rcases Nat.lt_or_ge j l.length with h | h
    · simp [h] at hl
    · simp [h] at hl⟩ hS0 (fun a' w hS hI => wpAnyS_inv L (I a) hIS hstep hend _ _ a' w rfl hI) h
  rw [hB.2] at this
  have := wpAnyIn_of_S _ _ _ _ this
  simpa using this
theorem wpOpIn_mk {i : Nat} {o : Oper} {Q : Exit → Act → World → Prop} {I : Act → World → Prop} {a : Act} {w : World} (ho : ops[i]? = some o) (hg : o.guard = none) (h : ∀ K : Act → World → Prop, (∀ a w, I a w → K a w) → o.wpIn F n P a w K Q) : wpOpIn F n P ops Q i I a w := by
  simp only [wpOpIn, ho, Region.wanted, hg, if_true]
  exact h _ (fun _ _ h => h)
theorem exec_load_row {o : Oper} {a : Act} {w : World} (ty : TypeId) (x : Operand) (ho : o.op = .load ty x) (g : Nat) (hx : a.eval x = .pointer (some ⟨g, 0, none⟩)) (t : TypeId) (cs : Array Value) (fr : Nat × Nat) (d : TypeDesc) (hg : w.heap[g]? = some (.cells cs t fr))
    (hu : P.underlying ty = some d) (hd : (match d with | .struct _ | .array _ _ => true | _ => false) = true) (hi : (P.info? ty).map (·.size) = some cs.size) : (execOp a.eval o).run P w = .ok (.value (.agg cs)) w := by
  unfold execOp
  simp only [ho, hx, Instr.loadAt, Instr.sureAddr, Sem.run_bind, Sem.run_pure, Result.andThen_ok, run_loadVar_row w g t ty cs fr d hg hu hd hi]
theorem all_listed {md : Region.Mode} {listed : Array Bool} (hz : listed.size = ops.size) (hB : ((List.range ops.size).all fun i => match ops[i]? with | some o => o.after.all (fun e => decide (e.on < i)) | none => true) = true) (hr : Region.ready md ops listed = []) :
    ∀ (j : Nat), j < ops.size → listed.getD j false = true := by
  intro j
  induction j using Nat.strongRecOn with
  | ind j ih =>
    intro hj
    cases h : listed.getD j false with
    | true => rfl
    | false =>
      exfalso
      have hun : listed.getD j true = false := by simp [hz, hj] at h ⊢; exact h
      have ho : ops[j]? = some ops[j] := Array.getElem?_eq_getElem hj
      have hb := List.all_eq_true.1 hB j (List.mem_range.2 hj)
      rw [ho] at hb
      have hm : j ∈ Region.ready md ops listed := mem_ready.2 ⟨hun, ops[j], ho, fun e he _ => by
        have := Array.all_eq_true_iff_forall_mem.1 hb e he
        have hlt : e.on < j := by simpa using this
        exact ih e.on hlt (by omega)⟩
      rw [hr] at hm
      cases hm
theorem ready_after {md : Region.Mode} {listed : Array Bool} {i : Nat} (j : Nat) (hi : i ∈ Region.ready md ops listed) (hB : (match ops[i]? with | some o => o.after.any (fun e => e.on == j && Region.binds md e) | none => false) = true) : listed.getD j false = true := by
  obtain ⟨_, o, ho, hall⟩ := mem_ready.1 hi
  rw [ho] at hB
  obtain ⟨e, he, hb⟩ := Array.any_eq_true'.1 hB
  simp only [Bool.and_eq_true, beq_iff_eq] at hb
  rw [← hb.1]
  exact hall e he hb.2
theorem unlisted_absurd {listed : Array Bool} {j : Nat} (h1 : listed.getD j false = true) (h2 : listed.getD j true = false) : False := by
  rw [unlisted_false h2] at h1
  cases h1
theorem all_set {listed : Array Bool} {i : Nat} {l : List Nat} (h : (l.all fun j => listed.getD j false) = true) : (l.all fun j => (listed.setIfInBounds i true).getD j false) = true :=
  List.all_eq_true.2 fun j hj => getD_set_true (List.all_eq_true.1 h j hj)
theorem wpPreS_pure {C : Act → World → Prop} {i : Nat} {rest : List Nat} {o : Oper} {a : Act} {w : World} (ho : ops[i]? = some o)
    (h : ∀ K : Act → Prop, (∀ a, wpPreS P ops S C rest a w → K a) → if Region.wanted o (yielded ops a.tmps) then pureOp P o a K else K (a.put o.dst undef)) :
    wpPreS P ops S C (i :: rest) a w := by
  have h := h _ (fun _ h => h)
  simp only [wpPreS, ho]
  split at h
  · rename_i hw
    obtain ⟨v, hv, hK⟩ := h
    refine ⟨v, .inl ⟨hw, fun w' _ => ?_⟩, hK⟩
    have := hv w'
    generalize (execOp a.eval o).run P w' = r at *
    cases r with
    | ok n w' => cases n <;> simp only [stillUpon] at this
                 obtain ⟨rfl, rfl⟩ := this; rfl
    | halt x w' => simp only [stillUpon] at this
  · rename_i hw
    exact ⟨undef, .inr ⟨by simpa using hw, rfl⟩, h⟩
theorem wpPreS_load {C : Act → World → Prop} {i : Nat} {rest : List Nat} {o : Oper} {a : Act} {w : World} (v : Value) (ho : ops[i]? = some o) (hg : Region.wanted o (yielded ops a.tmps) = true)
    (hv : ∀ W, S W → (execOp a.eval o).run P W = .ok (.value v) W) (h : wpPreS P ops S C rest (a.put o.dst v) w) : wpPreS P ops S C (i :: rest) a w := by
  simp only [wpPreS, ho]
  exact ⟨v, .inl ⟨hg, fun w' hw => hv w' hw⟩, h⟩
end
end Go.Proofs.YtcjioogololnoaaGreatDoor

/-! curve.Valid. -/
namespace Go.Proofs.YtcjioogololnoaaGreatDoor
open Go.RowKit Go.Shelf
section
variable {P : Program} {ops : Array Oper} {N : Nat} {Q : Act → World → Prop} {st : Nat → (Act → World → Prop) → Act → World → Prop}
/-- A whole row is read, whenever that comes up. -/
theorem wpPlan_load_row {i : Nat} {rest : List (Nat × Nat)} {o : Oper} {a : Act} {w : World} (ho : ops[i]? = some o) (hgd : o.guard = none) (ty : TypeId) (x : Operand) (hop : o.op = .load ty x) (g : Nat) (hx : a.eval x = .pointer (some ⟨g, 0, none⟩)) (t : TypeId) (cs : Array Value) (fr : Nat × Nat) (d : TypeDesc) (hg : w.heap[g]? = some (.cells cs t fr))
    (hu : P.underlying ty = some d) (hd : (match d with | .struct _ | .array _ _ => true | _ => false) = true) (hi : (P.info? ty).map (·.size) = some cs.size) (h : wpPlan P ops Q st N rest (a.put o.dst (.agg cs)) w) :
    wpPlan P ops Q st N ((i, 1) :: rest) a w := by
  simp only [wpPlan, if_true, ho, Nat.one_ne_zero, if_false]
  exact ⟨.agg cs, .inl ⟨by simp [Region.wanted, hgd], fun w' hw' => exec_load_row ty x hop g hx t cs fr d ((hw'.below.block g (Array.getElem?_eq_some_iff.1 hg).1).trans hg) hu hd hi⟩, h⟩
end
theorem share2 (F : Nat → Nat → World → Prop) {G : Prop} {T : Nat → Nat → World → Prop} (h2 : (∀ g k w, F g k w → T g k w) → G) (h1 : ∀ g k w, F g k w → T g k w) : G := h2 h1

set_option maxRecDepth 100000 in
set_option maxHeartbeats 4000000 in
theorem valid_any (b : List UInt8) (hl : b.length = 32) (w : World) :
    Calls Tryz.prog 144 #[.agg (B8 b).toArray] w fun e W' => e = .returned (.bool (isKey b)) ∧ Below w.heap.size w W' := by
  have hmx : Tryz.prog.follows .mixedOrders = true := by kernel_rfl
  obtain ⟨P, hP⟩ : ∃ P, P = isKey b := ⟨_, rfl⟩
  obtain ⟨X, hX⟩ : ∃ X, X = beN b := ⟨_, rfl⟩
  obtain ⟨cs, hcs⟩ : ∃ cs, cs = (B8 b).toArray := ⟨_, rfl⟩
  rw [← hP, ← hcs]
  have HK : Hid (∀ (g : Nat) (Y : World), FieldAt Y g 7 fieldN dN → Calls Tryz.prog 181 #[.pointer (some ⟨g, 0, none⟩), .agg cs] Y fun e W' => e = .returned (.tuple #[.agg (numA X), .bool P]) ∧ Below Y.heap.size Y W') :=
    Lib.hid fun g Y hF => by rw [hcs, hX, hP]; exact key_any g b hl Y hF
  have hcz : cs.size = 32 := by rw [hcs]; simp [hl]
  have Hcz := Lib.hid (show (Tryz.prog.info? 56).map (·.size) = some cs.size by rw [hcz]; kernel_rfl)
  clear hP hX hcs hl hcz
  go_enter Tryz.func144, Tryz.ntmps144
  go_wp2_with (refine wpList_boxTo rfl 56 (.tmp 0) rfl _ rfl w.heap.size rfl cs rfl ?_)
  have hrow := heap_alloc_new w (.cells cs 56)
  obtain ⟨W0, hW0⟩ : ∃ W0, W0 = w.alloc (.cells cs 56) := ⟨_, rfl⟩
  rw [← hW0] at hrow
  have hb0 : Below w.heap.size w W0 := by rw [hW0]; exact (Below.refl _ w).alloc (Nat.le_refl _) _
  refine (show W0 = _ from hW0) ▸ ?_
  clear hW0
  have hbD : Below W0.heap.size W0 W0.drew := (Below.refl _ _).drew
  apply share2 (fun g gN wE => Below W0.heap.size W0 wE)
  · intro hT
    refine wp_region_tree _ 7 _ hmx (by kernel_rfl) (by intro c a d v w h; cases d <;> exact h) (snd_pre' (plainLaws _ (by intro c a d v w h; cases d <;> exact h)) (by kernel_rfl) 8 [(1, 1)] _ (by kernel_rfl) (snd_fork (plainLaws _ (by intro c a d v w h; cases d <;> exact h)) 0 6 7 _ (by kernel_rfl) (snd_pre' (plainLaws _ (by intro c a d v w h; cases d <;> exact h)) (by kernel_rfl) 7 [] _ (by kernel_rfl) (snd_fork (plainLaws _ (by intro c a d v w h; cases d <;> exact h)) 2 6 6 _ (by kernel_rfl) (snd_plan (plainLaws _ (by intro c a d v w h; cases d <;> exact h)) (by kernel_rfl) [(3, 0), (4, 0), (5, 0), (6, 2), (7, 2), (8, 2)] _ (by kernel_rfl)) (snd_plan (plainLaws _ (by intro c a d v w h; cases d <;> exact h)) (by kernel_rfl) [(2, 2), (3, 0), (4, 0), (5, 0), (7, 2), (8, 2)] _ (by kernel_rfl)))) (snd_plan (plainLaws _ (by intro c a d v w h; cases d <;> exact h)) (by kernel_rfl) [(0, 2), (2, 2), (3, 0), (4, 0), (5, 0), (7, 2), (8, 2)] _ (by kernel_rfl)))) ?_
    refine wpPlan_load_row rfl rfl 56 (.tmp 1) rfl w.heap.size rfl 56 cs (0, 0) _ hrow Tryz.underlying56 rfl Hcz.out ?_
    refine forkC_mk rfl rfl rfl rfl (fun K hK => ?_) (fun K hK => ?_)
    · go_wp2_with fail
      refine (curve_any _).mono ?_
      rintro e w1 ⟨g, rfl, hg, hF0, hF7, hcw1⟩
      have hbw1 : Below W0.heap.size W0 w1 := hbD.trans (hcw1.mono hbD.size)
      go_wp2_with fail
      refine ⟨(ext_of_below hcw1), ?_⟩
      refine forkC_mk rfl rfl rfl rfl (fun K hK => ?_) (fun K hK => ?_)
      · go_wp2_with fail
        refine (HK.out g _ hF7).mono ?_
        rintro e w2 ⟨rfl, hcw2⟩
        have hbw2 : Below W0.heap.size W0 w2 := hbw1.trans (hcw2.mono hbw1.size)
        go_wp2_with fail
        refine ⟨(ext_of_below hcw2), ?_⟩
        repeat ((first | (refine wpPlan_pure rfl (fun K hK => ?_)) | (refine wpPlan_quiet rfl (fun K hK => ?_))); go_simp; (first | (refine hK _ ?_) | (simp only [IntWalk.iteOmega]; go_simp; refine hK _ ?_) | (go_bits; go_simp; refine hK _ ?_)); clear hK K; (try go_bits))
        refine wpPlan_loud rfl rfl (fun K hK => ?_)
        go_wp2_with fail
        refine ⟨.inr (ext_alloc _ _), ?_⟩
        obtain ⟨wN, hwN⟩ : ∃ Y, Y = w2.alloc (.cells #[.int .u64 0, .int .u64 0, .int .u64 0, .int .u64 0] 140) := ⟨_, rfl⟩
        rw [← hwN]
        have hbwN : Below W0.heap.size W0 wN := by rw [hwN]; exact hbw2.alloc hbw2.size _
        have gNwN : wN.heap[w2.heap.size]? = some (.cells (numA 0) 140 (0, 0)) := by rw [hwN]; exact heap_alloc_new w2 _
        have hzN : W0.heap.size ≤ w2.heap.size := hbw2.size
        have hbXwN : Below w2.heap.size w2 wN := by rw [hwN]; exact (Below.refl _ _).alloc (Nat.le_refl _) _
        clear hwN
        refine wpPlan_loud rfl rfl (fun K hK => ?_)
        refine wp_store_row 140 (.tmp 3) (.tmp 9) rfl w2.heap.size (numA X) rfl rfl 140 _ gNwN (by kernel_rfl) rfl (numA_one _) ?_
        refine hK _ _ ⟨.inl (by decide), ?_⟩
        clear hK K
        refine wpPlan_loud rfl rfl (fun K hK => ?_)
        go_wp2_with fail
        refine ⟨.inl (by decide), ?_⟩
        refine wpPlan_nil ?_
        obtain ⟨wE, hwE⟩ : ∃ wE, wE = wN.setRow w2.heap.size (numA X) := ⟨_, rfl⟩
        obtain ⟨gE, hgE⟩ : ∃ gE, gE = w2.heap.size := ⟨_, rfl⟩
        rw [← hwE, ← hgE]
        have hf : Below W0.heap.size W0 wE := by rw [hwE]; exact below_setRow' hbwN hzN _
        clear hwE hgE
        exact hT g gE wE hf
      · go_wp2_with fail
        refine ⟨(ext_alloc _ _), ?_⟩
        obtain ⟨wN, hwN⟩ : ∃ Y, Y = w1.alloc (.cells #[.int .u64 0, .int .u64 0, .int .u64 0, .int .u64 0] 140) := ⟨_, rfl⟩
        rw [← hwN]
        have hbwN : Below W0.heap.size W0 wN := by rw [hwN]; exact hbw1.alloc hbw1.size _
        have gNwN : wN.heap[w1.heap.size]? = some (.cells (numA 0) 140 (0, 0)) := by rw [hwN]; exact heap_alloc_new w1 _
        have hzN : W0.heap.size ≤ w1.heap.size := hbw1.size
        have hbXwN : Below w1.heap.size w1 wN := by rw [hwN]; exact (Below.refl _ _).alloc (Nat.le_refl _) _
        clear hwN
        refine wpPlan_loud rfl rfl (fun K hK => ?_)
        go_wp2_with fail
        refine (HK.out g _ (hF7.below hbXwN hF7.1)).mono ?_
        rintro e w3 ⟨rfl, hcw3⟩
        have hbw3 : Below W0.heap.size W0 w3 := hbwN.trans (hcw3.mono hbwN.size)
        have gNw3 := (hcw3.block _ (Array.getElem?_eq_some_iff.1 gNwN).1).trans gNwN
        go_wp2_with fail
        refine ⟨.inr (ext_of_below hcw3), ?_⟩
        repeat ((first | (refine wpPlan_pure rfl (fun K hK => ?_)) | (refine wpPlan_quiet rfl (fun K hK => ?_))); go_simp; (first | (refine hK _ ?_) | (simp only [IntWalk.iteOmega]; go_simp; refine hK _ ?_) | (go_bits; go_simp; refine hK _ ?_)); clear hK K; (try go_bits))
        refine wpPlan_loud rfl rfl (fun K hK => ?_)
        refine wp_store_row 140 (.tmp 3) (.tmp 9) rfl w1.heap.size (numA X) rfl rfl 140 _ gNw3 (by kernel_rfl) rfl (numA_one _) ?_
        refine hK _ _ ⟨.inl (by decide), ?_⟩
        clear hK K
        refine wpPlan_loud rfl rfl (fun K hK => ?_)
        go_wp2_with fail
        refine ⟨.inl (by decide), ?_⟩
        refine wpPlan_nil ?_
        obtain ⟨wE, hwE⟩ : ∃ wE, wE = w3.setRow w1.heap.size (numA X) := ⟨_, rfl⟩
        obtain ⟨gE, hgE⟩ : ∃ gE, gE = w1.heap.size := ⟨_, rfl⟩
        rw [← hwE, ← hgE]
        have hf : Below W0.heap.size W0 wE := by rw [hwE]; exact below_setRow' hbw3 hzN _
        clear hwE hgE
        exact hT g gE wE hf
    · go_wp2_with fail
      refine ⟨(ext_alloc _ _), ?_⟩
      obtain ⟨wN, hwN⟩ : ∃ Y, Y = (W0.alloc (.cells #[.int .u64 0, .int .u64 0, .int .u64 0, .int .u64 0] 140)).drew := ⟨_, rfl⟩
      rw [← hwN]
      have hbwN : Below W0.heap.size W0 wN := by rw [hwN]; exact ((Below.refl _ W0).alloc (Nat.le_refl _) _).drew
      have gNwN : wN.heap[W0.heap.size]? = some (.cells (numA 0) 140 (0, 0)) := by rw [hwN]; exact heap_alloc_new W0 _
      have hzN : W0.heap.size ≤ W0.heap.size := Nat.le_refl _
      clear hwN
      refine wpPlan_loud rfl rfl (fun K hK => ?_)
      go_wp2_with fail
      refine (curve_any _).mono ?_
      rintro e w1 ⟨g, rfl, hg, hF0, hF7, hcw1⟩
      have hbw1 : Below W0.heap.size W0 w1 := hbwN.trans (hcw1.mono hbwN.size)
      have gNw1 := (hcw1.block _ (Array.getElem?_eq_some_iff.1 gNwN).1).trans gNwN
      go_wp2_with fail
      refine ⟨.inr (ext_of_below hcw1), ?_⟩
      refine wpPlan_loud rfl rfl (fun K hK => ?_)
      go_wp2_with fail
      refine (HK.out g _ hF7).mono ?_
      rintro e w2 ⟨rfl, hcw2⟩
      have hbw2 : Below W0.heap.size W0 w2 := hbw1.trans (hcw2.mono hbw1.size)
      have gNw2 := (hcw2.block _ (Array.getElem?_eq_some_iff.1 gNw1).1).trans gNw1
      go_wp2_with fail
      refine ⟨.inr (ext_of_below hcw2), ?_⟩
      repeat ((first | (refine wpPlan_pure rfl (fun K hK => ?_)) | (refine wpPlan_quiet rfl (fun K hK => ?_))); go_simp; (first | (refine hK _ ?_) | (simp only [IntWalk.iteOmega]; go_simp; refine hK _ ?_) | (go_bits; go_simp; refine hK _ ?_)); clear hK K; (try go_bits))
      refine wpPlan_loud rfl rfl (fun K hK => ?_)
      refine wp_store_row 140 (.tmp 3) (.tmp 9) rfl W0.heap.size (numA X) rfl rfl 140 _ gNw2 (by kernel_rfl) rfl (numA_one _) ?_
      refine hK _ _ ⟨.inl (by decide), ?_⟩
      clear hK K
      refine wpPlan_loud rfl rfl (fun K hK => ?_)
      go_wp2_with fail
      refine ⟨.inl (by decide), ?_⟩
      refine wpPlan_nil ?_
      obtain ⟨wE, hwE⟩ : ∃ wE, wE = w2.setRow W0.heap.size (numA X) := ⟨_, rfl⟩
      obtain ⟨gE, hgE⟩ : ∃ gE, gE = W0.heap.size := ⟨_, rfl⟩
      rw [← hwE, ← hgE]
      have hf : Below W0.heap.size W0 wE := by rw [hwE]; exact below_setRow' hbw2 hzN _
      clear hwE hgE
      exact hT g gE wE hf
  rintro g gN wE hbE
  have hbw := hb0.trans (hbE.mono hb0.size)
  clear HK hrow hbE
  go_wp2_with fail
  go_ret
  exact ⟨rfl, hbw⟩
end Go.Proofs.YtcjioogololnoaaGreatDoor

/-! hdkey: a key as cells; Private, secret, good. -/
namespace Go.Proofs.YtcjioogololnoaaGreatDoor
open Go.RowKit Go.Shelf

structure HKey where
  depth : UInt8
  finger : List UInt8
  child : Nat
  chain : List UInt8
  data : List UInt8
deriving DecidableEq
structure HKey.Ok (k : HKey) : Prop where
  finger : k.finger.length = 4
  chain : k.chain.length = 32
  data : k.data.length = 33
  child : k.child < 4294967296
def keyC (k : HKey) : List Value := .int .u8 (k.depth.toNat : Int) :: (B8 k.finger ++ .int .u32 (k.child : Int) :: (B8 k.chain ++ B8 k.data))
def HKey.priv (k : HKey) : Bool := decide (k.data.getD 0 0 = 0)
def HKey.good (k : HKey) : Bool := if k.priv then isKey (k.data.drop 1) else isPub k.data
theorem keyC_length {k : HKey} (h : k.Ok) : (keyC k).length = 71 := by simp [keyC, h.finger, h.chain, h.data]
theorem keyC_data {k : HKey} (h : k.Ok) (j : Nat) : (keyC k)[38 + j]? = (B8 k.data)[j]? := by
  rw [keyC, show 38 + j = (37 + j) + 1 by omega, List.getElem?_cons_succ, List.getElem?_append_right (by simp [h.finger]; omega)]
  rw [B8_length, h.finger, show 37 + j - 4 = (32 + j) + 1 by omega, List.getElem?_cons_succ, List.getElem?_append_right (by simp [h.chain]), B8_length, h.chain]
  congr 1; omega
theorem keyC_one (k : HKey) : (keyC k).toArray.all (·.oneCell') = true := by
  have h8 : ∀ (l : List UInt8), (B8 l).all (·.oneCell') = true := fun l => by
    apply List.all_eq_true.2
    intro x hx
    simp only [B8, List.mem_map] at hx
    obtain ⟨y, _, rfl⟩ := hx
    rfl
  simp only [List.all_toArray, keyC, List.all_cons, List.all_append, h8, Bool.and_true, Bool.true_and]
  rfl
/-- The data's bytes in a key's row. -/
theorem key_data_cell {w : World} {g t : Nat} {fr : Nat × Nat} {k : HKey} (h : k.Ok) (hg : w.heap[g]? = some (.cells (keyC k).toArray t fr)) (j : Nat) (hj : j < k.data.length) : w.cell? ⟨g, 38 + j, none⟩ = some (.int .u8 (k.data[j].toNat : Int)) := by
  rw [cell_of_row _ _ _ _ _ _ hg, List.getElem?_toArray, keyC_data h, List.getElem?_eq_getElem (by simpa using hj), B8_get]

set_option maxRecDepth 100000 in
set_option maxHeartbeats 2000000 in
theorem private_any (k : HKey) (hk : k.Ok) (w : World) :
    Calls Tryz.prog 78 #[.agg (keyC k).toArray] w fun e W' => e = .returned (.bool k.priv) ∧ Below w.heap.size w W' := by
  obtain ⟨cs, hcs⟩ : ∃ cs, cs = (keyC k).toArray := ⟨_, rfl⟩
  have h0 : 0 < k.data.length := by rw [hk.data]; omega
  have hcell := fun (W : World) (g : Nat) (h : W.heap[g]? = some (.cells (keyC k).toArray 59 (0, 0))) => key_data_cell hk h 0 h0
  obtain ⟨y, hy⟩ : ∃ y, y = k.data[0] := ⟨_, rfl⟩
  simp only [← hy, Nat.add_zero, ← hcs] at hcell
  rw [← hcs]
  have hP : k.priv = decide ((y.toNat : Int) = 0) := by
    unfold HKey.priv
    rw [List.getD_eq_getElem?_getD, List.getElem?_eq_getElem h0, ← hy]
    simp only [Option.getD_some]
    by_cases h : y = 0
    · simp [h]
    · have : ¬ y.toNat = 0 := fun e => h (UInt8.toNat_inj.1 e)
      simp [h, this]
  rw [hP]
  have hc := hcell _ _ (heap_alloc_new w (.cells cs 59))
  have hcz : cs.size = 71 := by rw [hcs]; simp [keyC_length hk]
  clear hcs hcell hy hP h0
  go_enter Tryz.func78, Tryz.ntmps78
  go_wp2_with (refine wpList_boxTo rfl 59 (.tmp 0) rfl _ rfl w.heap.size rfl cs rfl ?_)
  go_ret
  exact ⟨rfl, (Below.refl _ w).alloc (Nat.le_refl _) _⟩
end Go.Proofs.YtcjioogololnoaaGreatDoor
