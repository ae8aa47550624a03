/- hash.leftLine, hash.rightLine. | A region that draws its order: quiet steps that lean on S ahead, then an invariant that every other step keeps, whichever comes up. | hash.Ripemd of 32 bytes: that it ends with 20 bytes. | hash.Hash160: that it ends with 20 bytes. -/
import Derived.Test.YtkiigonikeeikaaGreatDoorVD
import Derived.Test.YtkiigonikeeikaaGreatDoorU20
import Derived.Test.YtkiigonikeeikaaGreatDoorV4
import Derived.Test.YtkiigonikeeikaaGreatDoorU5
import Derived.Test.YtkiigonikeeikaaGreatDoorU11
import Derived.RangeFuncWrites

/-! hash.leftLine, hash.rightLine. -/
namespace Go.Proofs.YtkiigonikeeikaaGreatDoor
open Go.RowKit Go.Shelf

def rL : List Nat := [0, 1, 2, 3, 4, 5, 6, 7, 8, 9, 10, 11, 12, 13, 14, 15, 7, 4, 13, 1, 10, 6, 15, 3, 12, 0, 9, 5, 2, 14, 11, 8, 3, 10, 14, 4, 9, 15, 8, 1, 2, 7, 0, 6, 13, 11, 5, 12, 1, 9, 11, 10, 0, 8, 12, 4, 13, 3, 7, 15, 14, 5, 6, 2, 4, 0, 5, 9, 7, 12, 2, 10, 14, 1, 3, 8, 11, 6, 15, 13]
def sL : List Nat := [11, 14, 15, 12, 5, 8, 7, 9, 11, 13, 14, 15, 6, 7, 9, 8, 7, 6, 8, 13, 11, 9, 7, 15, 7, 12, 15, 9, 11, 7, 13, 12, 11, 13, 6, 7, 14, 9, 13, 15, 14, 8, 13, 6, 5, 12, 7, 5, 11, 12, 14, 15, 14, 15, 9, 8, 9, 14, 5, 6, 8, 6, 5, 12, 9, 15, 5, 11, 6, 8, 13, 12, 5, 12, 13, 14, 11, 8, 5, 6]
def kL : List (BitVec 32) := [0, 0x5a827999, 0x6ed9eba1, 0x8f1bbcdc, 0xa953fd4e]
def rR : List Nat := [5, 14, 7, 0, 9, 2, 11, 4, 13, 6, 15, 8, 1, 10, 3, 12, 6, 11, 3, 7, 0, 13, 5, 10, 14, 15, 8, 12, 4, 9, 1, 2, 15, 5, 1, 3, 7, 14, 6, 9, 11, 8, 12, 2, 10, 0, 4, 13, 8, 6, 4, 1, 3, 11, 15, 0, 5, 12, 2, 13, 9, 7, 10, 14, 12, 15, 10, 4, 1, 5, 8, 7, 6, 2, 13, 14, 0, 3, 9, 11]
def sR : List Nat := [8, 9, 9, 11, 13, 15, 15, 5, 7, 7, 8, 11, 14, 14, 12, 6, 9, 13, 15, 7, 12, 8, 9, 11, 7, 7, 12, 7, 6, 15, 13, 11, 9, 7, 15, 11, 8, 6, 6, 14, 12, 13, 5, 14, 13, 13, 7, 5, 15, 5, 8, 11, 14, 14, 6, 14, 6, 9, 12, 9, 12, 5, 15, 8, 8, 5, 12, 9, 12, 5, 14, 6, 8, 13, 6, 5, 15, 13, 11, 11]
def kR : List (BitVec 32) := [0x50a28be6, 0x5c4dd124, 0x6d703ef3, 0x7a6d76e9, 0]

theorem getD_all {p : Nat → Bool} {l : List Nat} (h : l.all p = true) (k : Nat) (hk : k < l.length) : p (l.getD k 0) = true := by
  rw [List.getD_eq_getElem?_getD, List.getElem?_eq_getElem hk]
  exact List.all_eq_true.1 h _ (List.getElem_mem hk)
theorem rL_len : rL.length = 80 := by decide
theorem sL_len : sL.length = 80 := by decide
theorem kL_len : kL.length = 5 := by decide
theorem rR_len : rR.length = 80 := by decide
theorem sR_len : sR.length = 80 := by decide
theorem kR_len : kR.length = 5 := by decide
theorem rL_ok (k : Nat) (h : k < 80) : rL.getD k 0 < 16 := by have := getD_all (p := fun x => decide (x < 16)) (l := rL) (by decide) k (by rw [rL_len]; exact h); simpa using this
theorem rR_ok (k : Nat) (h : k < 80) : rR.getD k 0 < 16 := by have := getD_all (p := fun x => decide (x < 16)) (l := rR) (by decide) k (by rw [rR_len]; exact h); simpa using this
theorem sL_ok (k : Nat) (h : k < 80) : 0 < sL.getD k 0 ∧ sL.getD k 0 < 32 := by have := getD_all (p := fun x => decide (0 < x ∧ x < 32)) (l := sL) (by decide) k (by rw [sL_len]; exact h); simpa using this
theorem sR_ok (k : Nat) (h : k < 80) : 0 < sR.getD k 0 ∧ sR.getD k 0 < 32 := by have := getD_all (p := fun x => decide (0 < x ∧ x < 32)) (l := sR) (by decide) k (by rw [sR_len]; exact h); simpa using this

def i64s (l : List Nat) : Array Value := (l.map fun (r : Nat) => Value.int .i64 (r : Int)).toArray
theorem lineC_one (rs ss : List Nat) (ks : List (BitVec 32)) : (lineC rs ss ks).toArray.all (·.oneCell') = true := by
  apply all_oneCell_toArray
  intro v hv
  simp only [lineC, W32, List.mem_append, List.mem_map] at hv
  rcases hv with (⟨_, _, rfl⟩ | ⟨_, _, rfl⟩) | ⟨_, _, rfl⟩ <;> rfl
set_option maxRecDepth 100000 in
set_option maxHeartbeats 4000000 in
theorem leftLine_any (w : World) : Calls Tryz.prog 64 #[] w fun e w' => e = .returned (.agg (lineC rL sL kL).toArray) ∧ Below w.heap.size w w' := by
  obtain ⟨A1, hA1⟩ : ∃ A1, A1 = i64s rL := ⟨_, rfl⟩
  obtain ⟨A2, hA2⟩ : ∃ A2, A2 = i64s sL := ⟨_, rfl⟩
  obtain ⟨A3, hA3⟩ : ∃ A3, A3 = (W32 kL).toArray := ⟨_, rfl⟩
  obtain ⟨C, hC⟩ : ∃ C, C = (lineC rL sL kL).toArray := ⟨_, rfl⟩
  have hb : Tryz.prog.built 112 [(0, .agg A1), (1, .agg A2), (2, .agg A3)] = some C := by rw [hA1, hA2, hA3, hC]; kernel_rfl
  have hsz : C.size = 165 := by rw [hC, List.size_toArray, lineC_length rL_len sL_len kL_len]
  have HC := Lib.hid hC
  have H1 : Hid (C.all (·.oneCell') = true) := Lib.hid (by rw [hC]; exact lineC_one _ _ _)
  have Hinf : Hid ((Tryz.prog.info? 112).map (·.size) = some C.size) := Lib.hid (by rw [hsz]; kernel_rfl)
  have Hsz : Hid (Tryz.zeroCells112.size = C.size) := Lib.hid (by rw [hsz]; kernel_rfl)
  have HA1 := Lib.hid hA1
  have HA2 := Lib.hid hA2
  have HA3 := Lib.hid hA3
  have Hb := Lib.hid hb
  rw [← hC]
  clear hA1 hA2 hA3 hC hb hsz
  go_enter Tryz.func64, Tryz.ntmps64
  go_wp2_with (first | (refine wpList_buildTo rfl 110 _ rfl (some 1) rfl A1 (by rw [HA1.out]; kernel_rfl) ?_) | (refine wpList_buildTo rfl 110 _ rfl (some 2) rfl A2 (by rw [HA2.out]; kernel_rfl) ?_) | (refine wpList_buildTo rfl 108 _ rfl (some 3) rfl A3 (by rw [HA3.out]; kernel_rfl) ?_) | ((refine wpList_buildTo rfl 112 _ rfl (some 4) rfl C ?hb4 ?_; (case hb4 => have h := Hb.out; simpa [Act.eval, Act.put] using h))) | (refine wpList_store_rowTo rfl 112 (.tmp 0) (.tmp 4) rfl rfl w.heap.size C rfl rfl 112 _ (heap_alloc_new w _) Hinf.out Hsz.out H1.out ?_) | fail)
  refine bodyPost_ret (v := .agg C) ?_ rfl ⟨rfl, below_setRow' ((Below.refl _ w).alloc (Nat.le_refl _) _) (Nat.le_refl _) _⟩
  exact results_cell_row rfl _ _ w.heap.size 112 C (0, 0) _ rfl (setRow_heap _ _ _ _ _ _ (heap_alloc_new w _)) Tryz.underlying112 rfl Hinf.out
set_option maxRecDepth 100000 in
set_option maxHeartbeats 4000000 in
theorem rightLine_any (w : World) : Calls Tryz.prog 65 #[] w fun e w' => e = .returned (.agg (lineC rR sR kR).toArray) ∧ Below w.heap.size w w' := by
  obtain ⟨A1, hA1⟩ : ∃ A1, A1 = i64s rR := ⟨_, rfl⟩
  obtain ⟨A2, hA2⟩ : ∃ A2, A2 = i64s sR := ⟨_, rfl⟩
  obtain ⟨A3, hA3⟩ : ∃ A3, A3 = (W32 kR).toArray := ⟨_, rfl⟩
  obtain ⟨C, hC⟩ : ∃ C, C = (lineC rR sR kR).toArray := ⟨_, rfl⟩
  have hb : Tryz.prog.built 112 [(0, .agg A1), (1, .agg A2), (2, .agg A3)] = some C := by rw [hA1, hA2, hA3, hC]; kernel_rfl
  have hsz : C.size = 165 := by rw [hC, List.size_toArray, lineC_length rR_len sR_len kR_len]
  have HC := Lib.hid hC
  have H1 : Hid (C.all (·.oneCell') = true) := Lib.hid (by rw [hC]; exact lineC_one _ _ _)
  have Hinf : Hid ((Tryz.prog.info? 112).map (·.size) = some C.size) := Lib.hid (by rw [hsz]; kernel_rfl)
  have Hsz : Hid (Tryz.zeroCells112.size = C.size) := Lib.hid (by rw [hsz]; kernel_rfl)
  have HA1 := Lib.hid hA1
  have HA2 := Lib.hid hA2
  have HA3 := Lib.hid hA3
  have Hb := Lib.hid hb
  rw [← hC]
  clear hA1 hA2 hA3 hC hb hsz
  go_enter Tryz.func65, Tryz.ntmps65
  go_wp2_with (first | (refine wpList_buildTo rfl 110 _ rfl (some 1) rfl A1 (by rw [HA1.out]; kernel_rfl) ?_) | (refine wpList_buildTo rfl 110 _ rfl (some 2) rfl A2 (by rw [HA2.out]; kernel_rfl) ?_) | (refine wpList_buildTo rfl 108 _ rfl (some 3) rfl A3 (by rw [HA3.out]; kernel_rfl) ?_) | ((refine wpList_buildTo rfl 112 _ rfl (some 4) rfl C ?hb4 ?_; (case hb4 => have h := Hb.out; simpa [Act.eval, Act.put] using h))) | (refine wpList_store_rowTo rfl 112 (.tmp 0) (.tmp 4) rfl rfl w.heap.size C rfl rfl 112 _ (heap_alloc_new w _) Hinf.out Hsz.out H1.out ?_) | fail)
  refine bodyPost_ret (v := .agg C) ?_ rfl ⟨rfl, below_setRow' ((Below.refl _ w).alloc (Nat.le_refl _) _) (Nat.le_refl _) _⟩
  exact results_cell_row rfl _ _ w.heap.size 112 C (0, 0) _ rfl (setRow_heap _ _ _ _ _ _ (heap_alloc_new w _)) Tryz.underlying112 rfl Hinf.out
end Go.Proofs.YtkiigonikeeikaaGreatDoor

/-! A region that draws its order: quiet steps that lean on S ahead, then an invariant that every other step keeps, whichever comes up. -/
namespace Go.Proofs.YtkiigonikeeikaaGreatDoor
open Go Go.RowKit
section
variable {P : Program} {ops : Array Oper} {md : Region.Mode}
variable {Q : Act → World → Prop} {st : Nat → (Act → World → Prop) → Act → World → Prop} {S : World → Prop}

/-- How many have not come up. -/
def due (listed : Array Bool) : Nat := listed.toList.countP (fun b => b == false)
theorem due_set {listed : Array Bool} {i : Nat} (h : listed.getD i true = false) : due (listed.setIfInBounds i true) + 1 = due listed := by
  have hi : i < listed.size := by
    rcases Nat.lt_or_ge i listed.size with h' | h'
    · exact h'
    · simp [Array.getElem?_eq_none h'] at h
  have hv : listed.toList[i]'(by simpa using hi) = false := by simpa [hi] using h
  unfold due
  rw [Array.toList_setIfInBounds, List.countP_set (h := by simpa using hi)]
  have hm : 0 < listed.toList.countP (fun b => b == false) := List.countP_pos_iff.2 ⟨false, by rw [← hv]; exact List.getElem_mem _, rfl⟩
  rw [hv, if_pos (by decide), if_neg (by decide)]
  omega
theorem due_zero {listed : Array Bool} (h : due listed = 0) : Region.ready md ops listed = [] := by
  apply List.eq_nil_iff_forall_not_mem.2
  intro i hi
  have := due_set (mem_ready.1 hi).1
  omega
theorem wpAnyS_inv (L : StepLaws P ops Q st) (I : Array Bool → Act → World → Prop) (hS : ∀ listed a w, I listed a w → S w)
    (hstep : ∀ listed a w i, I listed a w → i ∈ Region.ready md ops listed → st i (I (listed.setIfInBounds i true)) a w)
    (hend : ∀ listed a w, I listed a w → Region.ready md ops listed = [] → Q a w) : ∀ (fuel : Nat) (listed : Array Bool) (a : Act) (w : World), due listed = fuel → I listed a w → wpAnyS md ops Q st ops.size S fuel listed a w
  | 0, listed, a, w, hd, h => ⟨due_zero hd, hend _ _ _ h (due_zero hd)⟩
  | fuel + 1, listed, a, w, hd, h => ⟨fun hr => hend _ _ _ h hr, fun i hi => L.mono (fun a' w' h' => ⟨.inr (hS _ _ _ h'), wpAnyS_inv L I hS hstep hend fuel _ a' w' (by have := due_set (mem_ready.1 hi).1; omega) h'⟩) (hstep _ _ _ _ h hi)⟩
/-- The quiet steps ahead. -/
def preS (md : Region.Mode) (ops : Array Oper) : List Nat → Array Bool → Bool
  | [], _ => true
  | i :: rest, listed => (Region.ready md ops listed).contains i && Region.free md ops listed i && preS md ops rest (listed.setIfInBounds i true)
def wpPreS (P : Program) (ops : Array Oper) (S : World → Prop) (C : Act → World → Prop) : List Nat → Act → World → Prop
  | [], a, w => C a w
  | i :: rest, a, w => match ops[i]? with
    | none => False
    | some o => ∃ v, YieldsIf P ops S o v a ∧ wpPreS P ops S C rest (a.put o.dst v) w
def listPre : List Nat → Array Bool → Array Bool
  | [], l => l
  | i :: rest, l => listPre rest (l.setIfInBounds i true)
theorem preS_sound (L : StepLaws P ops Q st) (hsel : Region.noSelect ops = true) (n : Nat) {C : Act → World → Prop} : ∀ (pre : List Nat) (listed : Array Bool) (a : Act) (w : World),
    preS md ops pre listed = true → Closed md ops listed → S w → (∀ a w, S w → C a w → wpAnyS md ops Q st ops.size S n (listPre pre listed) a w) → wpPreS P ops S C pre a w → wpAnyS md ops Q st ops.size S (pre.length + n) listed a w
  | [], listed, a, w, _, _, hS, hC, h => by
    rw [List.length_nil, Nat.zero_add]
    exact hC a w hS h
  | i :: rest, listed, a, w, hB, hcl, hS, hC, h => by
    simp only [preS, Bool.and_eq_true] at hB
    obtain ⟨⟨hr, hf⟩, hrest⟩ := hB
    have hr' : i ∈ Region.ready md ops listed := by simpa using hr
    simp only [wpPreS] at h
    split at h
    · exact h.elim
    · rename_i o ho
      obtain ⟨v, hy, hK⟩ := h
      have hrec := preS_sound L hsel n rest (listed.setIfInBounds i true) (a.put o.dst v) w hrest (hcl.set hr') hS hC hK
      rw [List.length_cons, show rest.length + 1 + n = rest.length + n + 1 by omega]
      exact wpAnyS_first L (S := S) (S1 := S) ho (Region.noSelect_spec hsel) (Array.getElem?_eq_some_iff.1 ho).1 (fun l w' hc _ ht => ht.resolve_left (no_tb hc.1)) (rest.length + n) listed a w hcl (Region.free_spec ho hf) hr' hy (.inr hS) hrec
end
section
variable {P : Program} {ops : Array Oper} {S : World → Prop} {F : Fence} {n : Nat}
/-- **A region that draws, under an invariant.** It may speak of the frame that the region began with. -/
theorem wpIn_region_inv {id : Nat} {Q : Exit → Act → World → Prop} {a : Act} {w : World} {l : List Oper} (S : World → Prop) (pre : List Nat) (I : Act → Array Bool → Act → World → Prop) (hF : ∀ k, F.fn k) (hm : P.follows .mixedOrders = true)
    (hB : (Region.noSelect l.toArray && Region.noDefer l.toArray && preS .any l.toArray pre (Array.replicate l.length false) && (pre.length + due (listPre pre (Array.replicate l.length false)) == l.length)) = true) (hQ : ∀ c a d v w, Q (.panic c) (Act.put a d v) w → Q (.panic c) a w)
    (hS0 : S w.drew) (hIS : ∀ listed a' w, I a listed a' w → S w)
    (hstep : ∀ listed a' w i, I a listed a' w → i ∈ Region.ready .any l.toArray listed → wpOpIn F n P l.toArray Q i (I a (listed.setIfInBounds i true)) a' w)
    (hend : ∀ listed a' w, I a listed a' w → Region.ready .any l.toArray listed = [] → Q .normal a' w)
    (h : wpPreS P l.toArray S (I a (listPre pre (Array.replicate l.length false))) pre a w.drew) : (Code.region id l.toArray true).wpIn F n P Q a w := by
  simp only [Bool.and_eq_true, beq_iff_eq] at hB
  refine wpIn_region_any hm ?_
  have L := fencedLaws (F := F) (n := n) (P := P) (ops := l.toArray) Q hF hB.1.1.2 hQ
  have := preS_sound (S := S) L hB.1.1.1 (due (listPre pre (Array.replicate l.length false))) pre (Array.replicate l.length false) a w.drew hB.1.2 ⟨by simp, fun j oj hj hl => by
    rcases Nat.lt_or_ge j l.length with h | h
    · simp [h] at hl
    · simp [h] at hl⟩ hS0 (fun a' w hS hI => wpAnyS_inv L (I a) hIS hstep hend _ _ a' w rfl hI) h
  rw [hB.2] at this
  have := wpAnyIn_of_S _ _ _ _ this
  simpa using this
theorem wpOpIn_mk {i : Nat} {o : Oper} {Q : Exit → Act → World → Prop} {I : Act → World → Prop} {a : Act} {w : World} (ho : ops[i]? = some o) (hg : o.guard = none) (h : ∀ K : Act → World → Prop, (∀ a w, I a w → K a w) → o.wpIn F n P a w K Q) : wpOpIn F n P ops Q i I a w := by
  simp only [wpOpIn, ho, Region.wanted, hg, if_true]
  exact h _ (fun _ _ h => h)
theorem exec_load_row {o : Oper} {a : Act} {w : World} (ty : TypeId) (x : Operand) (ho : o.op = .load ty x) (g : Nat) (hx : a.eval x = .pointer (some ⟨g, 0, none⟩)) (t : TypeId) (cs : Array Value) (fr : Nat × Nat) (d : TypeDesc) (hg : w.heap[g]? = some (.cells cs t fr))
    (hu : P.underlying ty = some d) (hd : (match d with | .struct _ | .array _ _ => true | _ => false) = true) (hi : (P.info? ty).map (·.size) = some cs.size) : (execOp a.eval o).run P w = .ok (.value (.agg cs)) w := by
  unfold execOp
  simp only [ho, hx, Instr.loadAt, Instr.sureAddr, Sem.run_bind, Sem.run_pure, Result.andThen_ok, run_loadVar_row w g t ty cs fr d hg hu hd hi]
theorem all_listed {md : Region.Mode} {listed : Array Bool} (hz : listed.size = ops.size) (hB : ((List.range ops.size).all fun i => match ops[i]? with | some o => o.after.all (fun e => decide (e.on < i)) | none => true) = true) (hr : Region.ready md ops listed = []) :
    ∀ (j : Nat), j < ops.size → listed.getD j false = true := by
  intro j
  induction j using Nat.strongRecOn with
  | ind j ih =>
    intro hj
    cases h : listed.getD j false with
    | true => rfl
    | false =>
      exfalso
      have hun : listed.getD j true = false := by simp [hz, hj] at h ⊢; exact h
      have ho : ops[j]? = some ops[j] := Array.getElem?_eq_getElem hj
      have hb := List.all_eq_true.1 hB j (List.mem_range.2 hj)
      rw [ho] at hb
      have hm : j ∈ Region.ready md ops listed := mem_ready.2 ⟨hun, ops[j], ho, fun e he _ => by
        have := Array.all_eq_true_iff_forall_mem.1 hb e he
        have hlt : e.on < j := by simpa using this
        exact ih e.on hlt (by omega)⟩
      rw [hr] at hm
      cases hm
theorem ready_after {md : Region.Mode} {listed : Array Bool} {i : Nat} (j : Nat) (hi : i ∈ Region.ready md ops listed) (hB : (match ops[i]? with | some o => o.after.any (fun e => e.on == j && Region.binds md e) | none => false) = true) : listed.getD j false = true := by
  obtain ⟨_, o, ho, hall⟩ := mem_ready.1 hi
  rw [ho] at hB
  obtain ⟨e, he, hb⟩ := Array.any_eq_true'.1 hB
  simp only [Bool.and_eq_true, beq_iff_eq] at hb
  rw [← hb.1]
  exact hall e he hb.2
theorem unlisted_absurd {listed : Array Bool} {j : Nat} (h1 : listed.getD j false = true) (h2 : listed.getD j true = false) : False := by
  rw [unlisted_false h2] at h1
  cases h1
theorem all_set {listed : Array Bool} {i : Nat} {l : List Nat} (h : (l.all fun j => listed.getD j false) = true) : (l.all fun j => (listed.setIfInBounds i true).getD j false) = true :=
  List.all_eq_true.2 fun j hj => getD_set_true (List.all_eq_true.1 h j hj)
theorem wpPreS_pure {C : Act → World → Prop} {i : Nat} {rest : List Nat} {o : Oper} {a : Act} {w : World} (ho : ops[i]? = some o)
    (h : ∀ K : Act → Prop, (∀ a, wpPreS P ops S C rest a w → K a) → if Region.wanted o (yielded ops a.tmps) then pureOp P o a K else K (a.put o.dst undef)) :
    wpPreS P ops S C (i :: rest) a w := by
  have h := h _ (fun _ h => h)
  simp only [wpPreS, ho]
  split at h
  · rename_i hw
    obtain ⟨v, hv, hK⟩ := h
    refine ⟨v, .inl ⟨hw, fun w' _ => ?_⟩, hK⟩
    have := hv w'
    generalize (execOp a.eval o).run P w' = r at *
    cases r with
    | ok n w' => cases n <;> simp only [stillUpon] at this
                 obtain ⟨rfl, rfl⟩ := this; rfl
    | halt x w' => simp only [stillUpon] at this
  · rename_i hw
    exact ⟨undef, .inr ⟨by simpa using hw, rfl⟩, h⟩
theorem wpPreS_load {C : Act → World → Prop} {i : Nat} {rest : List Nat} {o : Oper} {a : Act} {w : World} (v : Value) (ho : ops[i]? = some o) (hg : Region.wanted o (yielded ops a.tmps) = true)
    (hv : ∀ W, S W → (execOp a.eval o).run P W = .ok (.value v) W) (h : wpPreS P ops S C rest (a.put o.dst v) w) : wpPreS P ops S C (i :: rest) a w := by
  simp only [wpPreS, ho]
  exact ⟨v, .inl ⟨hg, fun w' hw => hv w' hw⟩, h⟩
end
end Go.Proofs.YtkiigonikeeikaaGreatDoor

/-! hash.Ripemd of 32 bytes: that it ends with 20 bytes. -/
namespace Go.Proofs.YtkiigonikeeikaaGreatDoor
open Go.RowKit Go.Shelf
attribute [local go_sem] Oper.semAt_some

section
variable {P : Program} {F : Fence} {n : Nat} {ops : Array Oper} {rest : List Oper} {o : Oper} {a : Act} {w : World} {K : Act → World → Prop} {Q : Exit → Act → World → Prop}
theorem wpIn_store_rowF (hF : ∀ k, F.fn k) (ty : TypeId) (x y : Operand) (ho : o.op = .store ty x y)
    (g : Nat) (cells : Array Value) (hx : a.eval x = .pointer (some ⟨g, 0, none⟩)) (hy : a.eval y = .agg cells)
    (t : TypeId) (old : Array Value) (hg : w.heap[g]? = some (.cells old t (0, 0))) (hi : (P.info? ty).map (·.size) = some cells.size)
    (hold : old.size = cells.size) (h1 : cells.all (·.oneCell') = true)
    (h : K (a.put o.dst undef) (w.setRow g cells)) : o.wpIn F n P a w K Q := by
  refine ⟨fun f _ => hF f, ?_⟩
  rw [Oper.semAt_eq _ _ _ (by simp [ho])]
  unfold execOp
  simp only [ho, hx, hy, Instr.storeAt, Instr.sureAddr, Sem.run_bind, Sem.run_pure, Result.andThen_ok, run_storeVar_row w g t ty old cells hg hi hold h1]
  exact h
theorem wpListIn_probe (ty : TypeId) (x y : Operand) (ho : o.op = .store ty x y) (h : wpListIn F n P ops Q (o :: rest) a w ∧ True) : wpListIn F n P ops Q (o :: rest) a w := h.1
theorem wpListIn_store_rowF (hgd : o.guard = none) (hF : ∀ k, F.fn k) (ty : TypeId) (x y : Operand) (ho : o.op = .store ty x y) (hd : o.dst = none)
    (g : Nat) (cells : Array Value) (hx : a.eval x = .pointer (some ⟨g, 0, none⟩)) (hy : a.eval y = .agg cells)
    (t : TypeId) (old : Array Value) (hg : w.heap[g]? = some (.cells old t (0, 0))) (hi : (P.info? ty).map (·.size) = some cells.size)
    (hold : old.size = cells.size) (h1 : cells.all (·.oneCell') = true)
    (h : wpListIn F n P ops Q rest a (w.setRow g cells)) : wpListIn F n P ops Q (o :: rest) a w :=
  wpListIn_plain hgd fun _ hK => wpIn_store_rowF hF ty x y ho g cells hx hy t old hg hi hold h1 (hK _ _ (by rw [hd]; exact h))
theorem wpIn_load_rowF (hF : ∀ k, F.fn k) (ty : TypeId) (x : Operand) (ho : o.op = .load ty x)
    (g : Nat) (hx : a.eval x = .pointer (some ⟨g, 0, none⟩)) (t : TypeId) (cs : Array Value) (fr : Nat × Nat) (d : TypeDesc) (hg : w.heap[g]? = some (.cells cs t fr))
    (hu : P.underlying ty = some d) (hd : (match d with | .struct _ | .array _ _ => true | _ => false) = true) (hi : (P.info? ty).map (·.size) = some cs.size)
    (h : K (a.put o.dst (.agg cs)) w) : o.wpIn F n P a w K Q := by
  refine ⟨fun f _ => hF f, ?_⟩
  rw [Oper.semAt_eq _ _ _ (by simp [ho])]
  unfold execOp
  simp only [ho, hx, Instr.loadAt, Instr.sureAddr, Sem.run_bind, Sem.run_pure, Result.andThen_ok, run_loadVar_row w g t ty cs fr d hg hu hd hi]
  exact h
theorem wpListIn_load_rowF (hgd : o.guard = none) (hF : ∀ k, F.fn k) (ty : TypeId) (x : Operand) (ho : o.op = .load ty x)
    (g : Nat) (hx : a.eval x = .pointer (some ⟨g, 0, none⟩)) (t : TypeId) (cs : Array Value) (fr : Nat × Nat) (d : TypeDesc) (hg : w.heap[g]? = some (.cells cs t fr))
    (hu : P.underlying ty = some d) (hd : (match d with | .struct _ | .array _ _ => true | _ => false) = true) (hi : (P.info? ty).map (·.size) = some cs.size)
    (h : wpListIn F n P ops Q rest (a.put o.dst (.agg cs)) w) : wpListIn F n P ops Q (o :: rest) a w :=
  wpListIn_plain hgd fun _ hK => wpIn_load_rowF hF ty x ho g hx t cs fr d hg hu hd hi (hK _ _ h)
end
theorem row_others {w w' : World} {b : Nat} {t : TypeId} {cs : Array Value} {fr : Nat × Nat} {row : Option Nat} (h : w.heap[b]? = some (.cells cs t fr)) (hg : w.grownBy w' row) (hr : ∀ r, row = some r → ∃ o : Obj, w.heap[r]? = some o ∧ o.isCells = false) : w'.heap[b]? = some (.cells cs t fr) :=
  (hg.block b (Array.getElem?_eq_some_iff.1 h).1 fun e => by
    obtain ⟨o, ho, hc⟩ := hr b e.symm
    rw [h] at ho; injection ho with ho; subst ho; cases hc).trans h

theorem w32_set (xs : List (BitVec 32)) (k : Nat) (y : BitVec 32) : (W32 xs).toArray.setIfInBounds k (.int .u32 (y.toNat : Int)) = (W32 (xs.set k y)).toArray := by
  apply Array.ext'
  simp [W32, List.map_set]
theorem w32_sum3 (a b c : BitVec 32) : ((a.toNat : Int) + b.toNat + c.toNat) % 4294967296 = ((a + b + c).toNat : Int) := by
  simp only [BitVec.toNat_add]
  omega
/-- Words as bytes, the least first. -/
def le32 (st : List (BitVec 32)) : List UInt8 := st.flatMap fun x => [UInt8.ofNat x.toNat, UInt8.ofNat (x.toNat / 256), UInt8.ofNat (x.toNat / 65536), UInt8.ofNat (x.toNat / 16777216)]
theorem le32_length (st : List (BitVec 32)) : (le32 st).length = 4 * st.length := by
  induction st with
  | nil => rfl
  | cons x st ih => simp [le32] at ih ⊢; omega
theorem le32_get (st : List (BitVec 32)) (k : Nat) (h : k < st.length) : (le32 st)[4 * k]? = some (UInt8.ofNat st[k].toNat) ∧ (le32 st)[4 * k + 1]? = some (UInt8.ofNat (st[k].toNat / 256)) ∧
    (le32 st)[4 * k + 2]? = some (UInt8.ofNat (st[k].toNat / 65536)) ∧ (le32 st)[4 * k + 3]? = some (UInt8.ofNat (st[k].toNat / 16777216)) := by
  induction st generalizing k with
  | nil => simp at h
  | cons x st ih =>
    cases k with
    | zero => simp [le32]
    | succ k =>
      have := ih k (by simpa using h)
      simp only [le32, List.flatMap_cons, List.getElem_cons_succ] at this ⊢
      rw [show 4 * (k + 1) = 4 * k + 4 by omega, show 4 * k + 4 + 1 = 4 * k + 1 + 4 by omega, show 4 * k + 4 + 2 = 4 * k + 2 + 4 by omega, show 4 * k + 4 + 3 = 4 * k + 3 + 4 by omega]
      simpa using this
def Wd5 (v : Value) : Prop := ∃ u : List (BitVec 32), u.length = 5 ∧ v = .agg (W32 u).toArray
def Bx5 (B : Nat) (v : Value) (w : World) : Prop := ∃ (g : Nat) (u : List (BitVec 32)), v = .pointer (some ⟨g, 0, none⟩) ∧ B ≤ g ∧ u.length = 5 ∧ w.heap[g]? = some (.cells (W32 u).toArray 108 (0, 0))
theorem Bx5.below {B : Nat} {v : Value} {w w' : World} (h : Bx5 B v w) (hb : Below w.heap.size w w') : Bx5 B v w' := by
  obtain ⟨g, u, e, hg, hu, hh⟩ := h
  exact ⟨g, u, e, hg, hu, (hb.block g (Array.getElem?_eq_some_iff.1 hh).1).trans hh⟩
theorem Bx5.setRow {B : Nat} {v : Value} {w : World} {g : Nat} {u : List (BitVec 32)} (h : Bx5 B v w) (hu : u.length = 5) : Bx5 B v (w.setRow g (W32 u).toArray) := by
  obtain ⟨g', u', e, hg, hu', hh⟩ := h
  by_cases hgg : g' = g
  · subst hgg
    exact ⟨g', u, e, hg, hu, setRow_heap _ _ _ _ _ _ hh⟩
  · exact ⟨g', u', e, hg, hu', (setRow_other _ _ _ _ hgg).trans hh⟩
theorem keeps_below {w w' : World} (hb : Below w.heap.size w w') : KeepsOthers w w' := ⟨hb.size, fun k _ hk _ => (hb.block k (Array.getElem?_eq_some_iff.1 hk).1).trans hk⟩
theorem keeps_row {w : World} {g : Nat} {cs : Array Value} {t : TypeId} {fr : Nat × Nat} (hh : w.heap[g]? = some (.cells cs t fr)) (c' : Array Value) : KeepsOthers w (w.setRow g c') :=
  KeepsOthers.of_grownBy (grown_setRow w g c') fun j o e ho => by
    injection e with e; subst e
    rw [hh] at ho; injection ho with ho; subst ho; rfl
def H5 : List (BitVec 32) := [0x67452301, 0xefcdab89, 0x98badcfe, 0x10325476, 0xc3d2e1f0]

set_option maxRecDepth 100000 in
set_option maxHeartbeats 8000000 in
theorem ripemd_in (n : Nat) (hn : 3 ≤ n) (A : Option Addr) (c : Nat) (b : List UInt8) (hl : b.length = 32) (hbc : 32 ≤ c) (hc : c ≤ maxLen) (w : World) (hs : Sl w w.heap.size A (B8 b)) :
    CallsIn Fence.wide n Tryz.prog 36 #[.slice A 32 c] w fun e W' => (∃ ys : List UInt8, ys.length = 20 ∧ e = .returned (.agg (B8 ys).toArray)) ∧ Below w.heap.size w W' := by
  have h1 : 1 ≤ n := by omega
  have hF : ∀ k, Fence.wide.fn k := fun _ => trivial
  have hro : Fence.wide.round = none := rfl
  have Hl := Lib.hid hl
  have Hs := Lib.hid hs
  clear hl hs
  refine callsIn_of_wp_marks Tryz.func36 rfl (hF _) ?_ hro
  simp only [Tryz.ntmps36, List.size_toArray, List.length_cons, List.length_nil, Nat.reduceAdd, Nat.reduceSub, Array.replicate_succ, Array.replicate_zero, List.push_toArray, List.append_toArray, List.nil_append, List.cons_append]
  refine wpIn_wide.2 ?_
  go_wp2_with fail
  obtain ⟨wA, hwA⟩ : ∃ wA, wA = (w.alloc (.cells #[.int .u8 0, .int .u8 0, .int .u8 0, .int .u8 0, .int .u8 0, .int .u8 0, .int .u8 0, .int .u8 0, .int .u8 0, .int .u8 0, .int .u8 0, .int .u8 0, .int .u8 0, .int .u8 0, .int .u8 0, .int .u8 0, .int .u8 0, .int .u8 0, .int .u8 0, .int .u8 0] 41)).alloc (.cells (W32 H5).toArray 108) := ⟨_, rfl⟩
  refine (show wA = _ by rw [hwA]) ▸ ?_
  have hbA : Below w.heap.size w wA := by rw [hwA]; exact ((Below.refl _ w).alloc (Nat.le_refl _) _).alloc (by simp) _
  have hzA : wA.heap.size = w.heap.size + 1 + 1 := by rw [hwA]; simp
  have gR : wA.heap[w.heap.size]? = some (.cells #[.int .u8 0, .int .u8 0, .int .u8 0, .int .u8 0, .int .u8 0, .int .u8 0, .int .u8 0, .int .u8 0, .int .u8 0, .int .u8 0, .int .u8 0, .int .u8 0, .int .u8 0, .int .u8 0, .int .u8 0, .int .u8 0, .int .u8 0, .int .u8 0, .int .u8 0, .int .u8 0] 41 (0, 0)) := by rw [hwA]; exact row_old (heap_alloc_new w _)
  have gH : wA.heap[w.heap.size + 1]? = some (.cells (W32 H5).toArray 108 (0, 0)) := by
    rw [hwA]
    have := heap_alloc_new (w.alloc (.cells #[.int .u8 0, .int .u8 0, .int .u8 0, .int .u8 0, .int .u8 0, .int .u8 0, .int .u8 0, .int .u8 0, .int .u8 0, .int .u8 0, .int .u8 0, .int .u8 0, .int .u8 0, .int .u8 0, .int .u8 0, .int .u8 0, .int .u8 0, .int .u8 0, .int .u8 0, .int .u8 0] 41)) (.cells (W32 H5).toArray 108)
    rw [World.size_alloc] at this
    exact this
  clear hwA
  refine (tail_any 32 (by omega) wA).mono ?_
  rintro e w1 ⟨tv, rfl, hoT, hb1⟩
  obtain ⟨T, hT⟩ : ∃ T, T = tailL 32 8 := ⟨_, rfl⟩
  have hTl : T.length = 32 := by rw [hT, tailL_length 32 8 (Nat.le_refl _)]
  rw [← hT] at hoT
  clear hT
  have hzb := hb1.size
  obtain ⟨g1, c1, cur1, rfl, hc1, hc1', hg1A, hg1, hcs1, hcur1⟩ : ∃ g1 c1 cur1, tv = .slice (some ⟨g1, 0, none⟩) 32 c1 ∧ 32 ≤ c1 ∧ c1 ≤ maxLen ∧ wA.heap.size ≤ g1 ∧ w1.heap[g1]? = some (.cells cur1 5 (0, 0)) ∧ c1 ≤ cur1.size ∧ cur1.toList.take 32 = B8 T := by
    obtain ⟨A1, c1, e, h1, h2, h3⟩ := hoT
    rw [B8_length, hTl] at e h1
    obtain ⟨g, cur, e', hg, hh, hs, ht⟩ := h3 (by omega)
    rw [B8_length, hTl] at ht
    subst e'
    exact ⟨g, c1, cur, e, h1, h2, hg, hh, hs, ht⟩
  have hg1s : g1 < w1.heap.size := (Array.getElem?_eq_some_iff.1 hg1).1
  obtain ⟨l1, hl1⟩ : ∃ l1, l1 = B8 (T.take 24) := ⟨_, rfl⟩
  obtain ⟨l3, hl3⟩ : ∃ l3, l3 = cur1.toList.drop 32 := ⟨_, rfl⟩
  have hl1l : l1.length = 24 := by rw [hl1]; simp [hTl]
  have hsplit : cur1 = (l1 ++ B8 (T.drop 24) ++ l3).toArray := by
    apply Array.ext'
    show cur1.toList = _
    rw [hl1, hl3, ← B8_append, List.take_append_drop, ← hcur1, List.take_append_drop]
  have hrow1 : w1.heap[g1]? = some (.cells (l1 ++ B8 (T.drop 24) ++ l3).toArray 5 (0, 0)) := by rw [← hsplit]; exact hg1
  have hc24 : c1 ≠ 24 := by omega
  have hrv := reverse_row g1 24 (c1 - 24) l1 l3 5 (T.drop 24) w1 hrow1 hl1l (by simp [hTl])
  have hd8 : (T.drop 24).length = 8 := by simp [hTl]
  rw [hd8] at hrv
  have Hrv := Lib.hid hrv
  have hcl3 : c1 - 32 ≤ l3.length := by rw [hl3]; simp; omega
  have hT2l : (T.take 24 ++ (T.drop 24).reverse).length = 32 := by simp [hTl]
  obtain ⟨T2, hT2⟩ : ∃ T2, T2 = T.take 24 ++ (T.drop 24).reverse := ⟨_, rfl⟩
  rw [← hT2] at hT2l
  have hsp2 : l1 ++ B8 (T.drop 24).reverse = B8 T2 := by rw [hl1, hT2, B8_append]
  have Hsp2 := Lib.hid hsp2
  have HT2l := Lib.hid hT2l
  have hb1' : Below w.heap.size w w1 := hbA.trans (hb1.mono hbA.size)
  have gR1 := (hb1.block w.heap.size (by omega)).trans gR
  have gH1 := (hb1.block (w.heap.size + 1) (by omega)).trans gH
  have hg1w : w.heap.size + 1 < g1 := by omega
  clear hrv hsp2 hT2 hT2l hd8 hrow1 hsplit hl1 hl3 hg1 hcur1 hcs1 hoT hTl hb1 gR gH hbA
  go_wp2_with fail
  refine Hrv.out.mono ?_
  rintro e w2 ⟨rfl, hrow2, hgr2⟩
  have hb2 : Below w.heap.size w w2 := hb1'.grown hgr2 hb1'.size (fun r hr => by injection hr with hr; omega)
  have hz2 := hgr2.size
  have gR2 := (hgr2.block w.heap.size (by omega) (by simp; omega)).trans gR1
  have gH2 := (hgr2.block (w.heap.size + 1) (by omega) (by simp; omega)).trans gH1
  have hoT2 : Ow w2 (w.heap.size + 1 + 1) 5 (.slice (some ⟨g1, 0, none⟩) 32 c1) (B8 T2) := by
    refine ⟨_, c1, by rw [B8_length, HT2l.out], by rw [B8_length, HT2l.out]; exact hc1, hc1', fun _ => ⟨g1, _, rfl, by omega, hrow2, ?_, ?_⟩⟩
    · rw [Hsp2.out]; simp [HT2l.out]; omega
    · rw [Hsp2.out]; simp [HT2l.out]
  clear hrow2 hgr2 Hrv gR1 gH1 hb1' 
  go_wp2_with fail
  refine (leftLine_any w2).mono ?_
  rintro e w3 ⟨rfl, hb3⟩
  obtain ⟨CL, hCL⟩ : ∃ CL, CL = (lineC rL sL kL).toArray := ⟨_, rfl⟩
  rw [← hCL]
  have HCL := Lib.hid hCL
  clear hCL
  go_wp2_with fail
  refine (rightLine_any w3).mono ?_
  rintro e w4 ⟨rfl, hb4⟩
  obtain ⟨CR, hCR⟩ : ∃ CR, CR = (lineC rR sR kR).toArray := ⟨_, rfl⟩
  rw [← hCR]
  have HCR := Lib.hid hCR
  clear hCR
  have hb24 : Below w2.heap.size w2 w4 := hb3.trans (hb4.mono hb3.size)
  have hz24 := hb24.size
  have hb4w : Below w.heap.size w w4 := hb2.trans (hb24.mono hb2.size)
  have gR4 := (hb24.block w.heap.size (by omega)).trans gR2
  have gH4 := (hb24.block (w.heap.size + 1) (by omega)).trans gH2
  have hoT4 := hoT2.below hb24 (Nat.le_refl _)
  clear hb3 hb4 hb24 gR2 gH2 hoT2 hb2
  obtain ⟨Z, hZ⟩ : ∃ Z, Z = Tryz.zeroCells112 := ⟨_, rfl⟩
  have hCLz : CL.size = 165 := by rw [HCL.out, List.size_toArray, lineC_length rL_len sL_len kL_len]
  have hCRz : CR.size = 165 := by rw [HCR.out, List.size_toArray, lineC_length rR_len sR_len kR_len]
  have HCL1 : Hid (CL.all (·.oneCell') = true) := Lib.hid (by rw [HCL.out]; exact lineC_one _ _ _)
  have HCR1 : Hid (CR.all (·.oneCell') = true) := Lib.hid (by rw [HCR.out]; exact lineC_one _ _ _)
  have HCLi : Hid ((Tryz.prog.info? 112).map (·.size) = some CL.size) := Lib.hid (by rw [hCLz]; kernel_rfl)
  have HCRi : Hid ((Tryz.prog.info? 112).map (·.size) = some CR.size) := Lib.hid (by rw [hCRz]; kernel_rfl)
  have HCLs : Hid (Tryz.zeroCells112.size = CL.size) := Lib.hid (by rw [hCLz]; kernel_rfl)
  have HCRs : Hid (Tryz.zeroCells112.size = CR.size) := Lib.hid (by rw [hCRz]; kernel_rfl)
  obtain ⟨g4, hg4⟩ : ∃ g4, g4 = w4.heap.size := ⟨_, rfl⟩
  have q5 : ((w4.alloc (.cells Tryz.zeroCells112 112)).alloc (.cells Tryz.zeroCells112 112)).heap[w4.heap.size]? = some (.cells Tryz.zeroCells112 112 (0, 0)) := row_old (heap_alloc_new w4 _)
  have q6 : (((w4.alloc (.cells Tryz.zeroCells112 112)).alloc (.cells Tryz.zeroCells112 112)).setRow w4.heap.size CL).heap[w4.heap.size + 1]? = some (.cells Tryz.zeroCells112 112 (0, 0)) := by
    have := heap_alloc_new (w4.alloc (.cells Tryz.zeroCells112 112)) (.cells Tryz.zeroCells112 112)
    rw [World.size_alloc] at this
    rw [setRow_other _ _ _ _ (by omega)]
    exact this
  have Q5 := Lib.hid q5
  have Q6 := Lib.hid q6
  clear q5 q6 hCLz hCRz hZ
  go_wp2_with (first | (refine wpList_store_rowTo rfl 112 (.tmp 5) (.tmp 26) rfl rfl w4.heap.size CL rfl rfl 112 _ Q5.out HCLi.out HCLs.out HCL1.out ?_) | (refine wpList_store_rowTo rfl 112 (.tmp 6) (.tmp 27) rfl rfl (w4.heap.size + 1) CR rfl rfl 112 _ Q6.out HCRi.out HCRs.out HCR1.out ?_) | fail)
  obtain ⟨w5, hw5⟩ : ∃ w5, w5 = ((((w4.alloc (.cells Tryz.zeroCells112 112)).alloc (.cells Tryz.zeroCells112 112)).setRow w4.heap.size CL).setRow (w4.heap.size + 1) CR) := ⟨_, rfl⟩
  rw [← hw5]
  have hb45 : Below w4.heap.size w4 w5 := by rw [hw5]; exact below_setRow' (below_setRow' (((Below.refl _ _).alloc (Nat.le_refl _) _).alloc (by simp) _) (Nat.le_refl _) _) (by omega) _
  have gL5 : w5.heap[g4]? = some (.cells CL 112 (0, 0)) := by rw [hw5, hg4, setRow_other _ _ _ _ (by omega)]; exact setRow_heap _ _ _ _ _ _ Q5.out
  have gM5 : w5.heap[g4 + 1]? = some (.cells CR 112 (0, 0)) := by rw [hw5, hg4]; exact setRow_heap _ _ _ _ _ _ Q6.out
  have hz5 : w5.heap.size = g4 + 1 + 1 := by rw [hw5, hg4]; simp
  rw [← hg4]
  have hb5w : Below w.heap.size w w5 := hb4w.trans (hb45.mono hb4w.size)
  have gR5 := (hb45.block w.heap.size (by omega)).trans gR4
  have gH5 := (hb45.block (w.heap.size + 1) (by omega)).trans gH4
  have hoT5 := hoT4.below hb45 (Nat.le_refl _)
  have hg4w : w.heap.size + 1 < g4 := by omega
  have hs5 := (Hs.out.below hb5w).mono hb5w.size
  have hg15 : g1 < w5.heap.size := by omega
  clear hw5 hb45 hb4w gR4 gH4 hoT4 Q5 Q6 hg4 hz24 hz2
  have hcl5 := clone_any A c b w5 hs5 (by rw [Hl.out]; omega)
  rw [Hl.out] at hcl5
  refine hcl5.mono ?_
  clear hcl5 hs5
  rintro e w6 ⟨v6, rfl, ho6, hb6⟩
  obtain ⟨A6, c6, rfl, hc6, hc6'⟩ := own_form ho6
  rw [Hl.out] at ho6 hc6 ⊢
  have hoT6 := hoT5.below hb6 (Nat.le_refl _)
  have hz6 := hb6.size
  go_wp2_with (at_builtin; go_loud (refine wpList_append_Ow (m := 32) (c := c1) (base := w5.heap.size) (xs := B8 b) (v := .slice A6 32 c6) (A := some ⟨g1, 0, none⟩) (B := w6.heap.size) (news := B8 T2) elB rfl (.tmp 29) (.tmp 30) rfl rfl ho6 rfl hoT6.sl (by rw [B8_length]; exact HT2l.out) (B8_oneCell _) (by rw [B8_length, Hl.out]; simp [maxLen]) (by rw [B8_length, Hl.out]; omega) hz6 ?_); intro v7 w7 ho7 hg7 hr7)
  rw [← B8_append] at ho7
  have hMl : (b ++ T2).length = 64 := by rw [List.length_append, Hl.out, HT2l.out]
  obtain ⟨M, hM⟩ : ∃ M, M = b ++ T2 := ⟨_, rfl⟩
  rw [← hM] at ho7 hMl
  have hb57 : Below w5.heap.size w5 w7 := hb6.grown hg7 hz6 (fun r hr => (ho6.row r hr).1)
  have hz57 := hb57.size
  obtain ⟨g7, c7, cur7, rfl, hc7, hc7', hg75, hg7h, hcs7, hcur7⟩ : ∃ g7 c7 cur7, v7 = .slice (some ⟨g7, 0, none⟩) 64 c7 ∧ 64 ≤ c7 ∧ c7 ≤ maxLen ∧ w5.heap.size ≤ g7 ∧ w7.heap[g7]? = some (.cells cur7 5 (0, 0)) ∧ c7 ≤ cur7.size ∧ cur7.toList.take 64 = B8 M := by
    obtain ⟨A1, c1, e, h1, h2, h3⟩ := ho7
    rw [B8_length, hMl] at e h1
    obtain ⟨g, cur, e', hg, hh, hs, ht⟩ := h3 (by omega)
    rw [B8_length, hMl] at ht
    subst e'
    exact ⟨g, c1, cur, e, h1, h2, hg, hh, hs, ht⟩
  have hg7s : g7 < w7.heap.size := (Array.getElem?_eq_some_iff.1 hg7h).1
  have Hcur : Hid (∀ j, j < 64 → ∃ x : BitVec 32, cur7[j]? = some (.int .u8 (x.toNat : Int))) := Lib.hid (fun j hj => by
    have hj' : j < (B8 M).length := by rw [B8_length, hMl]; exact hj
    refine ⟨(M[j]'(by rw [hMl]; exact hj)).toBitVec.setWidth 32, ?_⟩
    rw [← sp_byte]
    rw [← Array.getElem?_toList, ← List.getElem?_take_of_lt (by omega : j < 64), hcur7, List.getElem?_eq_getElem hj', B8_get])
  have hb7w : Below w.heap.size w w7 := hb5w.trans (hb57.mono hb5w.size)
  have gR7 := (hb57.block w.heap.size (by omega)).trans gR5
  have gH7 := (hb57.block (w.heap.size + 1) (by omega)).trans gH5
  have gL7 := (hb57.block g4 (by omega)).trans gL5
  have gM7 := (hb57.block (g4 + 1) (by omega)).trans gM5
  clear ho7 ho6 hoT6 hoT5 hM hMl hcur7 hb57 hb6 hg7 hr7 gR5 gH5 gL5 gM5 hb5w
  refine ((callsIn_wide (n := n)).1 (chunk_in Fence.wide hF hro n (some ⟨g7, 0, none⟩) 64 c7 64 (by omega) w7)).mono ?_
  rintro e w8 ⟨rfl, hw8⟩
  have hb8 : Below w7.heap.size w7 w8 := by rw [hw8]; exact ((Below.refl _ _).alloc (Nat.le_refl _) _).alloc (by simp) _
  have b8 : Boxed w8 w7.heap.size 23 (.slice (some ⟨g7, 0, none⟩) 64 c7) := by rw [hw8]; exact (Boxed.new w7 _ _).alloc _
  have b9 : Boxed w8 (w7.heap.size + 1) 3 (.int .i64 64) := by
    rw [hw8]
    have := Boxed.new (w7.alloc (.cells #[.slice (some ⟨g7, 0, none⟩) 64 c7] 23)) 3 (.int .i64 64)
    rw [World.size_alloc] at this
    exact this
  have hz8 : w8.heap.size = w7.heap.size + 1 + 1 := by rw [hw8]; simp
  clear hw8
  obtain ⟨Bs, hBs⟩ : ∃ Bs, Bs = w7.heap.size := ⟨_, rfl⟩
  rw [← hBs] at b8 b9 hz8 ⊢
  have hb8w : Below w.heap.size w w8 := hb7w.trans (hb8.mono hb7w.size)
  have gR8 := (hb8.block w.heap.size (by omega)).trans gR7
  have gH8 := (hb8.block (w.heap.size + 1) (by omega)).trans gH7
  have gL8 := (hb8.block g4 (by omega)).trans gL7
  have gM8 := (hb8.block (g4 + 1) (by omega)).trans gM7
  have g78 := (hb8.block g7 hg7s).trans hg7h
  have hg7B : g7 < Bs := by omega
  have hg47 : g4 + 1 < g7 := by omega
  obtain ⟨R, hR⟩ : ∃ R, R = w.heap.size := ⟨_, rfl⟩
  rw [← hR] at gR8 gH8 hg4w hb8w ⊢
  have HR := Lib.hid hR
  have HBs := Lib.hid hBs
  have Hz8 := Lib.hid hz8
  have hz8g : Bs + 1 < w8.heap.size := by omega
  have hz8R : R ≤ w8.heap.size := by omega
  clear hb8 hb7w gR7 gH7 gL7 gM7 hg7h hBs hR hz8 hg7s hz57 hg75 hz5 hz6 hg1w hg15 hg1A hg1s hzb hzA
  go_wp2_with fail
  refine (wpIn_wide (n := n)).1 ?_
  refine wpIn_rangeFunc_ownG (a₁ := ?frA) hro h1 (gf := 79) (lb := #[.pointer (some ⟨Bs, 0, none⟩), .pointer (some ⟨Bs + 1, 0, none⟩)]) rfl (hF _) (enters_of Tryz.func79 (by kernel_rfl) rfl)
    (chunk_stops Fence.wide hF hro (n - 1) (by omega) Bs R g7 g7 0 c7 64 1 (by omega) (by omega) (by omega) (α := {x : Nat // ∃ j, j < 1 ∧ x = 64 * j}) (·.1) (fun j h => ⟨⟨64 * j, j, h, rfl⟩, rfl⟩) w8 hz8R hz8g (by omega) b8.cell b9.cell)
    KeepC.trans (KeepC.b hz8R hz8g (by omega)) (Below.refl _ _) (fun _ => rfl)
    (fun _ W => ((∃ s : List (BitVec 32), s.length = 5 ∧ W.heap[R + 1]? = some (.cells (W32 s).toArray 108 (0, 0))) ∧ W.heap[R]? = some (.cells #[.int .u8 0, .int .u8 0, .int .u8 0, .int .u8 0, .int .u8 0, .int .u8 0, .int .u8 0, .int .u8 0, .int .u8 0, .int .u8 0, .int .u8 0, .int .u8 0, .int .u8 0, .int .u8 0, .int .u8 0, .int .u8 0, .int .u8 0, .int .u8 0, .int .u8 0, .int .u8 0] 41 (0, 0)) ∧ W.heap[g4]? = some (.cells CL 112 (0, 0)) ∧ W.heap[g4 + 1]? = some (.cells CR 112 (0, 0)) ∧
      W.heap[g7]? = some (.cells cur7 5 (0, 0)) ∧ W.heap[Bs]? = w8.heap[Bs]? ∧ W.heap[Bs + 1]? = w8.heap[Bs + 1]?) ∧ Below R w8 W)
    (fun _ _ _ => False)
    (OwnFrom.and (Go.Own.from (fun s A B row hs hg hr => let ⟨⟨s, h5, h0⟩, h1, h2, h3, h4, h8, h9⟩ := hs; ⟨⟨s, h5, row_others h0 hg hr⟩, row_others h1 hg hr, row_others h2 hg hr, row_others h3 hg hr, row_others h4 hg hr, (row_others (h8.trans b8) hg hr).trans b8.symm, (row_others (h9.trans b9) hg hr).trans b9.symm⟩) _) (ownFrom_below (by omega) (by omega)))
    (fun _ _ _ _ _ hs _ _ => hs)
    ⟨⟨⟨H5, rfl, gH8⟩, gR8, gL8, gM8, g78, rfl, rfl⟩, Below.refl _ _⟩
    ?assign ?body ?done ?stop
  case assign =>
    intro l x W K hK
    gi_wp2
    exact hK
  case stop =>
    rintro D c pre W _ _ h _
    exact h.elim
  case done =>
    rintro D ys W hD hys ⟨⟨⟨s, hs5, gH⟩, gR, gL, gM, gG, k8, k9⟩, hBW⟩ hK
    have hRW : R + 1 < W.heap.size := (Array.getElem?_eq_some_iff.1 gH).1
    have hDW : D < W.heap.size := (Array.getElem?_eq_some_iff.1 hK).1
    obtain ⟨Z, hZ⟩ : ∃ Z, Z = W.heap.size := ⟨_, rfl⟩
    have HgH := Lib.hid (row_old (o' := .cells (Array.replicate 20 (.int .u8 0)) 41) gH)
    have HgR := Lib.hid gR
    have HK := Lib.hid hK
    have HhD := Lib.hid hD
    have Hs5 := Lib.hid hs5
    have Hi5 : Hid ((Tryz.prog.info? 108).map (·.size) = some (W32 s).toArray.size) := Lib.hid (by rw [List.size_toArray, W32_length, hs5]; kernel_rfl)
    clear gL gM gG k8 k9 hys gH gR hK hD hs5
    go_wp2_with (refine wpList_load_row rfl 108 (.tmp 3) rfl (R + 1) rfl 108 (W32 s).toArray (0, 0) (.array 5 54) HgH.out (by kernel_rfl) rfl Hi5.out ?_)
    obtain ⟨tc, htc⟩ : ∃ tc, tc = (W32 s).toArray := ⟨_, rfl⟩
    rw [← htc]
    have Htc := Lib.hid htc
    have hol : (le32 s).length = 20 := by rw [le32_length, Hs5.out]
    obtain ⟨oc, hoc⟩ : ∃ oc, oc = (B8 (le32 s)).toArray := ⟨_, rfl⟩
    have hocz : oc.size = 20 := by rw [hoc]; simp [hol]
    have Hoinf : Hid ((Tryz.prog.info? 41).map (·.size) = some oc.size) := Lib.hid (by rw [hocz]; kernel_rfl)
    have Hone : Hid (oc.all (·.oneCell') = true) := Lib.hid (by rw [hoc]; exact all_oneCell_toArray (B8_oneCell _))
    have Hoc := Lib.hid hoc
    have Hocz := Lib.hid hocz
    have Hol := Lib.hid hol
    rw [← hZ]
    have HZ := Lib.hid hZ
    have hbZ : Below Z W (W.alloc (.cells (Array.replicate 20 (.int .u8 0)) 41)) := by rw [hZ]; exact (Below.refl _ _).alloc (Nat.le_refl _) _
    have hfZ : Fill (W.alloc (.cells (Array.replicate 20 (.int .u8 0)) 41)) Z 41 20 (B8 (le32 s)) (4 * 0) := by rw [hZ]; exact Fill.new' W _ 20 (.int .u8 0) _
    have hZR : R + 1 < Z := by omega
    have hZD : D < Z := by omega
    clear htc hoc hocz hol hZ hRW hDW
    go_loopw [123] (fun i wr => ∃ k : Nat, k ≤ 5 ∧ i = .int .i64 k ∧ Fill wr Z 41 20 (B8 (le32 s)) (4 * k) ∧ Below Z W wr) (fun i _ => 5 - (intOf i).toNat)
    case atStart => exact ⟨0, Nat.zero_le _, rfl, hfZ, hbZ⟩
    case round =>
      clear hfZ hbZ
      obtain ⟨k, hk, rfl, hfill, hbw⟩ := hrel
      by_cases hlt : k < 5
      · have hsl5 := Hs5.out
        obtain ⟨x, hx⟩ : ∃ x, x = s[k]'(by omega) := ⟨_, rfl⟩
        have hix := run_index_u32 (P := Tryz.prog) 108 54 5 tc .i64 k (.int .u32 (x.toNat : Int)) (by kernel_rfl) (by kernel_rfl) (by kernel_rfl) hlt (by rw [Htc.out]; simp [W32, hsl5, hlt, hx])
        have hxl := x.isLt
        obtain ⟨v0, c0⟩ := hfill.cell (j := 4 * k) (by omega)
        obtain ⟨v1, c1⟩ := hfill.cell (j := 4 * k + 1) (by omega)
        obtain ⟨v2, c2⟩ := hfill.cell (j := 4 * k + 2) (by omega)
        obtain ⟨v3, c3⟩ := hfill.cell (j := 4 * k + 3) (by omega)
        have z0 := hfill.frozen (4 * k)
        have z1 := hfill.frozen (4 * k + 1)
        have z2 := hfill.frozen (4 * k + 2)
        have z3 := hfill.frozen (4 * k + 3)
        have Hx := Lib.hid hx
        clear hx
        go_wp2_with fail
        obtain ⟨g0, g1, g2, g3⟩ := le32_get s k (by rw [Hs5.out]; exact hlt)
        rw [← Hx.out] at g0 g1 g2 g3
        have b8 : ∀ (j m : Nat), (le32 s)[j]? = some (UInt8.ofNat m) → (B8 (le32 s))[j]? = some (Value.int IntKind.u8 ((m % 256 : Nat) : Int)) := fun j m h => by
          rw [B8, List.getElem?_map, h]; simp
        have f1 := hfill.set (by omega) (b8 _ _ g0)
        have f2 := f1.set (by omega) (b8 _ _ g1)
        have f3 := f2.set (by omega) (b8 _ _ g2)
        have f4 := f3.set (by omega) (b8 _ _ g3)
        have e0 : ((x.toNat / 16777216 % 256 : Nat) : Int) = (x.toNat : Int) / 16777216 := by omega
        have e1 : ((x.toNat / 65536 % 256 : Nat) : Int) = (x.toNat : Int) / 65536 % 256 := by omega
        have e2 : ((x.toNat / 256 % 256 : Nat) : Int) = (x.toNat : Int) / 256 % 256 := by omega
        have e3 : ((x.toNat % 256 : Nat) : Int) = (x.toNat : Int) % 256 := by omega
        rw [e0, e1, e2, e3] at f4
        have hbE := (((hbw.setCell (p := ⟨Z, 4 * k, none⟩) (Nat.le_refl _) (.int .u8 ((x.toNat : Int) % 256))).setCell (p := ⟨Z, 4 * k + 1, none⟩) (Nat.le_refl _) (.int .u8 ((x.toNat : Int) / 256 % 256))).setCell (p := ⟨Z, 4 * k + 2, none⟩) (Nat.le_refl _) (.int .u8 ((x.toNat : Int) / 65536 % 256))).setCell (p := ⟨Z, 4 * k + 3, none⟩) (Nat.le_refl _) (.int .u8 ((x.toNat : Int) / 16777216))
        exact ⟨⟨k + 1, by omega, rfl, f4, hbE⟩, by simp [intOf]; omega⟩
      · obtain rfl : k = 5 := by omega
        have hdone := hfill.done (by rw [B8_length, Hol.out])
        rw [← Hoc.out] at hdone
        have Hdone := Lib.hid hdone
        have HgRr := Lib.hid ((hbw.block R (by omega)).trans HgR.out)
        have HKr := Lib.hid ((hbw.block D hZD).trans HK.out)
        clear hdone hfill
        go_wp2_with (first | (refine wpList_load_row rfl 41 (.tmp 12) rfl Z rfl 41 oc (0, 0) (.array 20 5) Hdone.out (by kernel_rfl) rfl Hoinf.out ?_) | (refine wpList_store_row rfl 41 (.tmp 2) (.tmp 154) rfl R oc rfl rfl 41 _ HgRr.out Hoinf.out (by rw [Hocz.out]; rfl) Hone.out ?_))
        have hK3 : (wr.setRow R oc).heap[D]? = some (.deferred (some [])) := (setRow_other _ _ _ _ (by have := HhD.out; omega)).trans HKr.out
        have hDR : R ≠ D := by have := HhD.out; omega
        have hbF : Below R w (wr.setRow R oc) := below_setRow' ((hb8w.trans hBW).trans (hbw.mono (by omega))) (Nat.le_refl R) oc
        refine ⟨by simp, .inl ⟨_, _, rfl, run_takeDeferred hK3, ?_⟩⟩
        refine ⟨_, results_cell_row rfl _ _ R 41 oc (0, 0) (.array 20 5) rfl ?_ (by kernel_rfl) rfl Hoinf.out, ⟨le32 s, Hol.out, by rw [Hoc.out]⟩, ?_⟩
        · exact (World.putObj_heap_other hDR).trans (setRow_heap _ _ _ _ _ _ HgRr.out)
        · rw [← HR.out]
          exact hbF.trans (belowK_b (w := w8) hz8R _ D _ _ HhD.out hK3 rfl rfl)
  case body =>
    rintro l pre ⟨x, hx⟩ W ⟨⟨⟨s, hs5, gH⟩, gR, gL, gM, gG, k8, k9⟩, hBW⟩ hpre
    have hd : 1 ≤ n - 1 - 1 := by omega
    obtain rfl : x = 0 := by obtain ⟨j, hj, rfl⟩ := hx; omega
    have hmx : Tryz.prog.follows .mixedOrders = true := by kernel_rfl
    have hXs : R + 1 < W.heap.size := (Array.getElem?_eq_some_iff.1 gH).1
    have hGs : g7 < W.heap.size := (Array.getElem?_eq_some_iff.1 gG).1
    have hBs : Bs + 1 < W.heap.size := by have := hBW.size; omega
    gi_wp2
    obtain ⟨X, hX⟩ : ∃ X, X = W.heap.size := ⟨_, rfl⟩
    obtain ⟨WX, hWX⟩ : ∃ WX, WX = W.alloc (.cells (W32 (List.replicate 16 0)).toArray 114) := ⟨_, rfl⟩
    refine (show WX = _ by rw [hWX]) ▸ ?_
    have hbX : Below X W WX := by rw [hWX, hX]; exact (Below.refl _ _).alloc (Nat.le_refl _) _
    have gX : WX.heap[X]? = some (.cells (W32 (List.replicate 16 0)).toArray 114 (0, 0)) := by rw [hWX, hX]; exact heap_alloc_new W _
    have kX : KeepsOthers W WX := by rw [hWX]; exact KeepsOthers.alloc W _
    clear hWX
    rw [← hX] at hXs hGs hBs ⊢
    have HX := Lib.hid hX
    clear hX
    gi_loopw [34] (fun i wr => ∃ k : Nat, k ≤ 16 ∧ i = .int .i64 k ∧ (∃ xs : List (BitVec 32), xs.length = 16 ∧ wr.heap[X]? = some (.cells (W32 xs).toArray 114 (0, 0))) ∧ Below X W wr ∧ KeepsOthers W wr) (fun i _ => 16 - (intOf i).toNat)
    case atStart => exact ⟨0, by omega, rfl, ⟨_, by simp, gX⟩, hbX, kX⟩
    case round =>
      clear gX hbX kX
      obtain ⟨k, hk, rfl, ⟨xs, hxs, gX⟩, hbX, kX⟩ := hrel
      by_cases hlt : k < 16
      · have gGr := (hbX.block g7 hGs).trans gG
        obtain ⟨y0, hy0⟩ := Hcur.out (4 * k) (by omega)
        obtain ⟨y1, hy1⟩ := Hcur.out (4 * k + 1) (by omega)
        obtain ⟨y2, hy2⟩ := Hcur.out (4 * k + 2) (by omega)
        obtain ⟨y3, hy3⟩ := Hcur.out (4 * k + 3) (by omega)
        have z0 : wr.cell? ⟨g7, 4 * k, none⟩ = some (.int .u8 (y0.toNat : Int)) := (cell_of_row _ _ _ _ _ (0, 0) gGr).trans hy0
        have z1 : wr.cell? ⟨g7, 4 * k + 1, none⟩ = some (.int .u8 (y1.toNat : Int)) := (cell_of_row _ _ _ _ _ (0, 0) gGr).trans hy1
        have z2 : wr.cell? ⟨g7, 4 * k + 2, none⟩ = some (.int .u8 (y2.toNat : Int)) := (cell_of_row _ _ _ _ _ (0, 0) gGr).trans hy2
        have z3 : wr.cell? ⟨g7, 4 * k + 3, none⟩ = some (.int .u8 (y3.toNat : Int)) := (cell_of_row _ _ _ _ _ (0, 0) gGr).trans hy3
        have fX := frozen_of_row _ X k _ _ gX
        obtain ⟨v0, hv0⟩ : ∃ v0, wr.cell? ⟨X, k, none⟩ = some v0 := ⟨_, by rw [cell_of_row _ _ k _ _ (0, 0) gX, Array.getElem?_eq_getElem (by simp [hxs]; exact hlt)]⟩
        have GX := Lib.hid gX
        have hXw := hbX.size
        clear hy0 hy1 hy2 hy3 gX gGr
        gi_wp2
        refine wpIn_region_plan [(0, 0), (1, 0), (2, 0), (3, 0), (4, 0), (5, 1), (6, 0), (7, 0), (8, 0), (9, 0), (10, 0), (11, 0), (12, 1), (13, 0), (14, 0), (15, 0), (16, 0), (17, 0), (18, 0), (19, 0), (20, 0), (21, 1), (22, 0), (23, 0), (24, 0), (25, 0), (26, 0), (27, 0), (28, 0), (29, 0), (30, 1), (31, 0), (32, 0), (33, 0), (34, 0), (35, 2)] 35 (fun _ => trivial) hmx (by kernel_rfl) (by intro c a d v w h; cases d <;> exact h) ?_
        repeat ((first | (refine wpPlan_pure rfl (fun K hK => ?_)) | (refine wpPlan_quiet rfl (fun K hK => ?_))); go_simp; (first | (refine hK _ ?_) | (simp only [IntWalk.iteOmega]; go_simp; refine hK _ ?_) | (go_bits; go_simp; refine hK _ ?_)); clear hK K; (try go_bits))
        refine wpPlanIn_loud rfl rfl (fun K hK => ?_)
        gi_wp2
        refine ⟨.inl (by decide), wpPlan_nil ?_⟩
        gi_wp2
        have e : bits .or .u32 (bits .or .u32 (bits .or .u32 (y0.toNat : Int) ((y1.toNat : Int) * 256 % 4294967296)) ((y2.toNat : Int) * 65536 % 4294967296)) ((y3.toNat : Int) * 16777216 % 4294967296) = ((y0 ||| y1 <<< 8 ||| y2 <<< 16 ||| y3 <<< 24).toNat : Int) := by
          rw [← sp_or, ← sp_or, ← sp_or, ← sp_shl, ← sp_shl, ← sp_shl]; rfl
        rw [e]
        refine ⟨⟨k + 1, by omega, by go_num, ⟨xs.set k (y0 ||| y1 <<< 8 ||| y2 <<< 16 ||| y3 <<< 24), by simp [hxs], ?_⟩, (hbX.setCell (p := ⟨X, k, none⟩) (Nat.le_refl _) _).drew, kX.trans ((KeepsOthers.setCell _ _ _).trans (KeepsOthers.drew _))⟩, by simp [intOf]; omega⟩
        rw [← w32_set]
        exact heap_setCell_same wr X k _ _ _ GX.out
      · obtain rfl : k = 16 := by omega
        have hXlt : X < wr.heap.size := (Array.getElem?_eq_some_iff.1 gX).1
        have gHr := (hbX.block (R + 1) hXs).trans gH
        have gLr := (hbX.block g4 (by omega)).trans gL
        have gMr := (hbX.block (g4 + 1) (by omega)).trans gM
        have hlL := line_any rL sL kL rL_len sL_len kL_len rL_ok sL_ok s xs hs5 hxs false
        have hlR := line_any rR sR kR rR_len sR_len kR_len rR_ok sR_ok s xs hs5 hxs true
        rw [← HCL.out] at hlL
        rw [← HCR.out] at hlR
        have hiS : (Tryz.prog.info? 108).map (·.size) = some (W32 s).toArray.size := by rw [List.size_toArray, W32_length, hs5]; kernel_rfl
        have hiX : (Tryz.prog.info? 114).map (·.size) = some (W32 xs).toArray.size := by rw [List.size_toArray, W32_length, hxs]; kernel_rfl
        have HlL := Lib.hid hlL
        have HlR := Lib.hid hlR
        clear hlL hlR
        gi_wp2
        refine wpIn_region_inv (fun w' => Below (X + 1) wr w') [0, 1, 2, 4, 5, 6] (fun a0 listed a' w' => listed.size = 12 ∧ ([0, 1, 2, 4, 5, 6].all fun j => listed.getD j false) = true ∧ Below (X + 1) wr w' ∧ KeepsOthers wr w' ∧
          ∃ t10 t11 t76 t80, a' = ((((((((((a0.put (some 73) (.agg CL)).put (some 74) (.agg (W32 s).toArray)).put (some 75) (.agg (W32 xs).toArray)).put (some 77) (.agg CR)).put (some 78) (.agg (W32 s).toArray)).put (some 79) (.agg (W32 xs).toArray)).put (some 10) t10).put (some 11) t11).put (some 76) t76).put (some 80) t80) ∧
            (listed.getD 3 false = true → Wd5 t76) ∧ (listed.getD 7 false = true → Wd5 t80) ∧ (listed.getD 8 false = true → Bx5 (X + 1) t10 w') ∧ (listed.getD 9 false = true → Bx5 (X + 1) t11 w')) (fun _ => trivial) hmx (by kernel_rfl) (by intro c a d v w h; cases d <;> exact h) (Below.refl _ _).drew (fun _ _ _ h => h.2.2.1) ?step ?fin ?pre
        case pre =>
          refine wpPreS_load (.agg CL) rfl rfl (fun W' hS => exec_load_row 112 (.tmp 5) rfl g4 rfl 112 CL (0, 0) _ ((hS.block g4 (by omega)).trans gLr) Tryz.underlying112 rfl HCLi.out) ?_
          refine wpPreS_load (.agg (W32 s).toArray) rfl rfl (fun W' hS => exec_load_row 108 (.tmp 3) rfl (R + 1) rfl 108 _ (0, 0) _ ((hS.block (R + 1) (by omega)).trans gHr) Tryz.underlying108 rfl hiS) ?_
          refine wpPreS_load (.agg (W32 xs).toArray) rfl rfl (fun W' hS => exec_load_row 114 (.tmp 8) rfl X rfl 114 _ (0, 0) _ ((hS.block X (by omega)).trans gX) Tryz.underlying114 rfl hiX) ?_
          refine wpPreS_load (.agg CR) rfl rfl (fun W' hS => exec_load_row 112 (.tmp 6) rfl (g4 + 1) rfl 112 CR (0, 0) _ ((hS.block (g4 + 1) (by omega)).trans gMr) Tryz.underlying112 rfl HCRi.out) ?_
          refine wpPreS_load (.agg (W32 s).toArray) rfl rfl (fun W' hS => exec_load_row 108 (.tmp 3) rfl (R + 1) rfl 108 _ (0, 0) _ ((hS.block (R + 1) (by omega)).trans gHr) Tryz.underlying108 rfl hiS) ?_
          refine wpPreS_load (.agg (W32 xs).toArray) rfl rfl (fun W' hS => exec_load_row 114 (.tmp 8) rfl X rfl 114 _ (0, 0) _ ((hS.block X (by omega)).trans gX) Tryz.underlying114 rfl hiX) ?_
          refine ⟨?_, ?_, (Below.refl _ _).drew, KeepsOthers.drew _, undef, undef, undef, undef, ?_, fun h => ?_, fun h => ?_, fun h => ?_, fun h => ?_⟩
          · rfl
          · decide
          · go_simp
          all_goals exact absurd h (by decide)
        case step =>
          rintro listed a' w' i ⟨hz, hls, hb, hk2, t10, t11, t76, t80, rfl, h3, h7, h8, h9⟩ hi
          obtain ⟨hun, o, ho, hall⟩ := mem_ready.1 hi
          have hi12 : i < 12 := (Array.getElem?_eq_some_iff.1 ho).1
          have hls' := fun j hj => List.all_eq_true.1 hls j hj
          have hne : ∀ {i j : Nat}, i ≠ j → (listed.setIfInBounds i true).getD j false = listed.getD j false := fun h => getD_set_ne false h
          have hcase : i = 3 ∨ i = 7 ∨ i = 8 ∨ i = 9 ∨ i = 10 ∨ i = 11 := by
            have h012 : i = 0 ∨ i = 1 ∨ i = 2 ∨ i = 4 ∨ i = 5 ∨ i = 6 ∨ (i = 3 ∨ i = 7 ∨ i = 8 ∨ i = 9 ∨ i = 10 ∨ i = 11) := by omega
            rcases h012 with rfl | rfl | rfl | rfl | rfl | rfl | h
            · exact (unlisted_absurd (hls' 0 (by decide)) hun).elim
            · exact (unlisted_absurd (hls' 1 (by decide)) hun).elim
            · exact (unlisted_absurd (hls' 2 (by decide)) hun).elim
            · exact (unlisted_absurd (hls' 4 (by decide)) hun).elim
            · exact (unlisted_absurd (hls' 5 (by decide)) hun).elim
            · exact (unlisted_absurd (hls' 6 (by decide)) hun).elim
            · exact h
          have hzb := hb.size
          rcases hcase with rfl | rfl | rfl | rfl | rfl | rfl
          · clear ho hall hi hun hls' hi12
            refine wpOpIn_mk rfl rfl (fun K hK => ?_)
            gi_wp2
            refine (CallsIn.inRound l (callsIn_wide.2 (HlL.out w'))).mono ?_
            rintro e w'' ⟨⟨u, hu, rfl⟩, hbb⟩
            gi_wp2
            refine ⟨by simpa using hz, all_set hls, hb.trans (hbb.mono (by omega)), hk2.trans (keeps_below hbb), t10, t11, .agg (W32 u).toArray, t80, ?_, fun _ => ⟨u, hu, rfl⟩, fun h => h7 (by rwa [hne (by decide)] at h), fun h => (h8 (by rwa [hne (by decide)] at h)).below hbb, fun h => (h9 (by rwa [hne (by decide)] at h)).below hbb⟩
            go_simp
          · clear ho hall hi hun hls' hi12
            refine wpOpIn_mk rfl rfl (fun K hK => ?_)
            gi_wp2
            refine (CallsIn.inRound l (callsIn_wide.2 (HlR.out w'))).mono ?_
            rintro e w'' ⟨⟨u, hu, rfl⟩, hbb⟩
            gi_wp2
            refine ⟨by simpa using hz, all_set hls, hb.trans (hbb.mono (by omega)), hk2.trans (keeps_below hbb), t10, t11, t76, .agg (W32 u).toArray, ?_, fun h => h3 (by rwa [hne (by decide)] at h), fun _ => ⟨u, hu, rfl⟩, fun h => (h8 (by rwa [hne (by decide)] at h)).below hbb, fun h => (h9 (by rwa [hne (by decide)] at h)).below hbb⟩
            go_simp
          · clear ho hall hi hun hls' hi12
            refine wpOpIn_mk rfl rfl (fun K hK => ?_)
            gi_wp2
            have hbb := (Below.refl w'.heap.size w').alloc (Nat.le_refl _) (.cells (W32 (List.replicate 5 0)).toArray 108)
            refine ⟨by simpa using hz, all_set hls, hb.trans (hbb.mono (by omega)), hk2.trans (keeps_below hbb), .pointer (some ⟨w'.heap.size, 0, none⟩), t11, t76, t80, ?_, fun h => h3 (by rwa [hne (by decide)] at h), fun h => h7 (by rwa [hne (by decide)] at h), fun _ => ⟨w'.heap.size, List.replicate 5 0, rfl, by omega, rfl, heap_alloc_new w' _⟩, fun h => (h9 (by rwa [hne (by decide)] at h)).below hbb⟩
            go_simp
          · clear ho hall hi hun hls' hi12
            refine wpOpIn_mk rfl rfl (fun K hK => ?_)
            gi_wp2
            have hbb := (Below.refl w'.heap.size w').alloc (Nat.le_refl _) (.cells (W32 (List.replicate 5 0)).toArray 108)
            refine ⟨by simpa using hz, all_set hls, hb.trans (hbb.mono (by omega)), hk2.trans (keeps_below hbb), t10, .pointer (some ⟨w'.heap.size, 0, none⟩), t76, t80, ?_, fun h => h3 (by rwa [hne (by decide)] at h), fun h => h7 (by rwa [hne (by decide)] at h), fun h => (h8 (by rwa [hne (by decide)] at h)).below hbb, fun _ => ⟨w'.heap.size, List.replicate 5 0, rfl, by omega, rfl, heap_alloc_new w' _⟩⟩
            go_simp
          · obtain ⟨g, u, rfl, hg, hu, hh⟩ := h8 (ready_after 8 hi (by kernel_rfl))
            obtain ⟨v, hv, rfl⟩ := h3 (ready_after 3 hi (by kernel_rfl))
            have hiv : (Tryz.prog.info? 108).map (·.size) = some (W32 v).toArray.size := by rw [List.size_toArray, W32_length, hv]; kernel_rfl
            clear ho hall hi hun hls' hi12
            refine wpOpIn_mk rfl rfl (fun K hK => ?_)
            refine wpIn_store_rowF (fun _ => trivial) 108 (.tmp 10) (.tmp 76) rfl g (W32 v).toArray ?hx ?hy 108 _ hh hiv (by simp [hu, hv]) (w32_one _) ?hh
            case hx => go_simp
            case hy => go_simp
            refine hK _ _ ⟨by simpa using hz, all_set hls, below_setRow' hb hg _, hk2.trans (keeps_row hh _), .pointer (some ⟨g, 0, none⟩), t11, .agg (W32 v).toArray, t80, ?_, fun _ => ⟨v, hv, rfl⟩, fun h => h7 (by rwa [hne (by decide)] at h), fun _ => Bx5.setRow ⟨g, u, rfl, hg, hu, hh⟩ hv, fun h => (h9 (by rwa [hne (by decide)] at h)).setRow hv⟩
            go_simp
          · obtain ⟨g, u, rfl, hg, hu, hh⟩ := h9 (ready_after 9 hi (by kernel_rfl))
            obtain ⟨v, hv, rfl⟩ := h7 (ready_after 7 hi (by kernel_rfl))
            have hiv : (Tryz.prog.info? 108).map (·.size) = some (W32 v).toArray.size := by rw [List.size_toArray, W32_length, hv]; kernel_rfl
            clear ho hall hi hun hls' hi12
            refine wpOpIn_mk rfl rfl (fun K hK => ?_)
            refine wpIn_store_rowF (fun _ => trivial) 108 (.tmp 11) (.tmp 80) rfl g (W32 v).toArray ?hx2 ?hy2 108 _ hh hiv (by simp [hu, hv]) (w32_one _) ?hh2
            case hx2 => go_simp
            case hy2 => go_simp
            refine hK _ _ ⟨by simpa using hz, all_set hls, below_setRow' hb hg _, hk2.trans (keeps_row hh _), t10, .pointer (some ⟨g, 0, none⟩), t76, .agg (W32 v).toArray, ?_, fun h => h3 (by rwa [hne (by decide)] at h), fun _ => ⟨v, hv, rfl⟩, fun h => (h8 (by rwa [hne (by decide)] at h)).setRow hv, fun _ => Bx5.setRow ⟨g, u, rfl, hg, hu, hh⟩ hv⟩
            go_simp
        case fin =>
          rintro listed a' w' ⟨hz, hls, hb, hk2, t10, t11, t76, t80, rfl, h3, h7, h8, h9⟩ hr
          have hall := all_listed hz (by kernel_rfl) hr
          obtain ⟨gU, u, rfl, hgU, hu, hhU⟩ := h8 (hall 8 (by decide))
          obtain ⟨gV, v, rfl, hgV, hv, hhV⟩ := h9 (hall 9 (by decide))
          obtain ⟨a0, a1, a2, a3, a4, rfl⟩ := five_words s hs5
          obtain ⟨u0, u1, u2, u3, u4, rfl⟩ := five_words u hu
          obtain ⟨v0, v1, v2, v3, v4, rfl⟩ := five_words v hv
          have gHf := (hb.block (R + 1) (by omega)).trans gHr
          have sc0 : w'.cell? ⟨R + 1, 0, none⟩ = some (.int .u32 (a0.toNat : Int)) := cell_of_row _ _ 0 _ _ (0, 0) gHf
          have sc1 : w'.cell? ⟨R + 1, 1, none⟩ = some (.int .u32 (a1.toNat : Int)) := cell_of_row _ _ 1 _ _ (0, 0) gHf
          have sc2 : w'.cell? ⟨R + 1, 2, none⟩ = some (.int .u32 (a2.toNat : Int)) := cell_of_row _ _ 2 _ _ (0, 0) gHf
          have sc3 : w'.cell? ⟨R + 1, 3, none⟩ = some (.int .u32 (a3.toNat : Int)) := cell_of_row _ _ 3 _ _ (0, 0) gHf
          have sc4 : w'.cell? ⟨R + 1, 4, none⟩ = some (.int .u32 (a4.toNat : Int)) := cell_of_row _ _ 4 _ _ (0, 0) gHf
          have uc0 : w'.cell? ⟨gU, 0, none⟩ = some (.int .u32 (u0.toNat : Int)) := cell_of_row _ _ 0 _ _ (0, 0) hhU
          have uc1 : w'.cell? ⟨gU, 1, none⟩ = some (.int .u32 (u1.toNat : Int)) := cell_of_row _ _ 1 _ _ (0, 0) hhU
          have uc2 : w'.cell? ⟨gU, 2, none⟩ = some (.int .u32 (u2.toNat : Int)) := cell_of_row _ _ 2 _ _ (0, 0) hhU
          have uc3 : w'.cell? ⟨gU, 3, none⟩ = some (.int .u32 (u3.toNat : Int)) := cell_of_row _ _ 3 _ _ (0, 0) hhU
          have uc4 : w'.cell? ⟨gU, 4, none⟩ = some (.int .u32 (u4.toNat : Int)) := cell_of_row _ _ 4 _ _ (0, 0) hhU
          have vc0 : w'.cell? ⟨gV, 0, none⟩ = some (.int .u32 (v0.toNat : Int)) := cell_of_row _ _ 0 _ _ (0, 0) hhV
          have vc1 : w'.cell? ⟨gV, 1, none⟩ = some (.int .u32 (v1.toNat : Int)) := cell_of_row _ _ 1 _ _ (0, 0) hhV
          have vc2 : w'.cell? ⟨gV, 2, none⟩ = some (.int .u32 (v2.toNat : Int)) := cell_of_row _ _ 2 _ _ (0, 0) hhV
          have vc3 : w'.cell? ⟨gV, 3, none⟩ = some (.int .u32 (v3.toNat : Int)) := cell_of_row _ _ 3 _ _ (0, 0) hhV
          have vc4 : w'.cell? ⟨gV, 4, none⟩ = some (.int .u32 (v4.toNat : Int)) := cell_of_row _ _ 4 _ _ (0, 0) hhV
          have GHf := Lib.hid gHf
          have hzb := hb.size
          have hbW := hbX.trans (hb.mono (by omega))
          clear hall hls hz hr h3 h7 h8 h9 gHf hhU hhV HlL HlR gHr gLr gMr gX
          have hW : (#[.int .u32 ((a1.toNat + u2.toNat + v3.toNat : Int) % 4294967296), .int .u32 ((a2.toNat + u3.toNat + v4.toNat : Int) % 4294967296), .int .u32 ((a3.toNat + u4.toNat + v0.toNat : Int) % 4294967296), .int .u32 ((a4.toNat + u0.toNat + v1.toNat : Int) % 4294967296), .int .u32 ((a0.toNat + u1.toNat + v2.toNat : Int) % 4294967296)] : Array Value) = (W32 [a1 + u2 + v3, a2 + u3 + v4, a3 + u4 + v0, a4 + u0 + v1, a0 + u1 + v2]).toArray := by
            rw [w32_sum3, w32_sum3, w32_sum3, w32_sum3, w32_sum3]; rfl
          have HW := Lib.hid hW
          clear hW
          gi_wp2_with (refine wpListIn_probe 108 (.tmp 3) (.tmp 121) rfl ?_)
          refine ⟨?_, trivial⟩
          refine wpListIn_store_rowF rfl (fun _ => trivial) 108 (.tmp 3) (.tmp 121) rfl rfl (R + 1) _ rfl rfl 108 _ GHf.out (by kernel_rfl) rfl (by rw [HW.out]; exact w32_one _) ?_
          rw [HW.out]
          gi_wp2
          have hset : ∀ k, k < X → k ≠ R + 1 → (w'.setRow (R + 1) (W32 [a1 + u2 + v3, a2 + u3 + v4, a3 + u4 + v0, a4 + u0 + v1, a0 + u1 + v2]).toArray).heap[k]? = W.heap[k]? := fun k hk hn => (setRow_other _ _ _ _ hn).trans (hbW.block k hk)
          have hBF : Below R W (w'.setRow (R + 1) (W32 [a1 + u2 + v3, a2 + u3 + v4, a3 + u4 + v0, a4 + u0 + v1, a0 + u1 + v2]).toArray) := below_setRow' (hbW.mono (by omega)) (by omega) _
          exact ⟨((kX.trans hk2).trans (keeps_row GHf.out _)).from _, ⟨hBF, hset Bs (by omega) (by omega), hset (Bs + 1) (by omega) (by omega), hset g7 (by omega) (by omega)⟩, ⟨⟨_, rfl, setRow_heap _ _ _ _ _ _ GHf.out⟩, (hset R (by omega) (by omega)).trans gR, (hset g4 (by omega) (by omega)).trans gL, (hset (g4 + 1) (by omega) (by omega)).trans gM, (hset g7 (by omega) (by omega)).trans gG, (hset Bs (by omega) (by omega)).trans k8, (hset (Bs + 1) (by omega) (by omega)).trans k9⟩, hBW.trans hBF⟩
end Go.Proofs.YtkiigonikeeikaaGreatDoor

/-! hash.Hash160: that it ends with 20 bytes. -/
namespace Go.Proofs.YtkiigonikeeikaaGreatDoor
open Go.RowKit Go.Shelf

theorem sl_of_row {w : World} {g : Nat} {bs : List UInt8} {t : TypeId} {fr : Nat × Nat} (h : w.heap[g]? = some (.cells (B8 bs).toArray t fr)) : Sl w w.heap.size (some ⟨g, 0, none⟩) (B8 bs) := fun _ =>
  ⟨g, 0, rfl, (Array.getElem?_eq_some_iff.1 h).1, fun j hj => by
    rw [cell_of_row _ _ _ _ _ fr h]
    simp at hj
    simp [hj]⟩

set_option maxRecDepth 100000 in
set_option maxHeartbeats 4000000 in
theorem hash160_any (A : Option Addr) (c : Nat) (b : List UInt8) (w : World) (hs : Sl w w.heap.size A (B8 b)) (hl : b.length ≤ 2048) (hbc : b.length ≤ c) (hc : c ≤ maxLen) :
    Calls Tryz.prog 13 #[.slice A b.length c] w fun e W' => (∃ ys : List UInt8, ys.length = 20 ∧ e = .returned (.agg (B8 ys).toArray)) ∧ Below w.heap.size w W' := by
  have hs0 := hs
  go_enter Tryz.func13, Tryz.ntmps13
  go_wp2_with fail
  obtain ⟨wa, hwa⟩ : ∃ wa, wa = w.alloc (.cells (Array.replicate 20 (.int .u8 0)) 41) := ⟨_, rfl⟩
  have hza : wa.heap.size = w.heap.size + 1 := by rw [hwa]; exact World.size_alloc _ _
  have hout : wa.heap[w.heap.size]? = some (.cells (Array.replicate 20 (.int .u8 0)) 41 (0, 0)) := by rw [hwa]; exact heap_alloc_new w _
  have hBa : Below w.heap.size w wa := by rw [hwa]; exact (Below.refl _ w).alloc (Nat.le_refl _) _
  refine (show wa = _ by rw [hwa]) ▸ ?_
  clear hwa
  refine (sum256_any A c b wa ((hs0.below hBa).mono hBa.size) hl hbc hc).mono ?_
  rintro e w1 ⟨rfl, hb1⟩
  obtain ⟨oc, hoc⟩ : ∃ oc, oc = (B8 (sha b)).toArray := ⟨_, rfl⟩
  have hocz : oc.size = 32 := by rw [hoc]; simp [sha_length]
  have Hinf : Hid ((Tryz.prog.info? 31).map (·.size) = some oc.size) := Lib.hid (by rw [hocz]; kernel_rfl)
  have Hocz : Hid ((Array.replicate 32 (Value.int .u8 0)).size = oc.size) := Lib.hid (by rw [hocz]; simp)
  have Hone : Hid (oc.all (·.oneCell') = true) := Lib.hid (by rw [hoc]; exact all_oneCell_toArray (B8_oneCell _))
  have hz1 := hb1.size
  have hout1 := (hb1.block w.heap.size (by omega)).trans hout
  have hBw1 := hBa.trans (hb1.mono hBa.size)
  have Hrow := Lib.hid (heap_alloc_new w1 (.cells (Array.replicate 32 (.int .u8 0)) 31))
  have Hoc := Lib.hid hoc
  rw [← hoc]
  clear hoc hocz hs0 hs hout hBa
  go_wp2_with (refine wpList_store_row rfl 31 (.tmp 3) (.tmp 5) rfl w1.heap.size oc rfl rfl 31 _ Hrow.out Hinf.out Hocz.out Hone.out ?_)
  obtain ⟨w2, hw2⟩ : ∃ w2, w2 = (w1.alloc (.cells (Array.replicate 32 (.int .u8 0)) 31)).setRow w1.heap.size oc := ⟨_, rfl⟩
  refine (show w2 = _ by rw [hw2]) ▸ ?_
  have hb2 : Below w1.heap.size w1 w2 := by rw [hw2]; exact below_setRow' ((Below.refl _ _).alloc (Nat.le_refl _) _) (Nat.le_refl _) _
  have g2 : w2.heap[w1.heap.size]? = some (.cells (B8 (sha b)).toArray 31 (0, 0)) := by rw [hw2, ← Hoc.out]; exact setRow_heap _ _ _ _ _ _ Hrow.out
  have hs2 := sl_of_row g2
  have hout2 := (hb2.block w.heap.size (by omega)).trans hout1
  have hBw2 := hBw1.trans (hb2.mono hBw1.size)
  have hz2 := hb2.size
  clear hw2 g2 hout1 hBw1 hb1 hb2 Hrow
  refine ((callsIn_wide (n := 3)).1 (ripemd_in 3 (by omega) (some ⟨w1.heap.size, 0, none⟩) 32 (sha b) (sha_length b) (by omega) (by simp [maxLen]) w2 hs2)).mono ?_
  rintro e w3 ⟨⟨ys, hys, rfl⟩, hb3⟩
  obtain ⟨yc, hyc⟩ : ∃ yc, yc = (B8 ys).toArray := ⟨_, rfl⟩
  have hycz : yc.size = 20 := by rw [hyc]; simp [hys]
  have Hinf2 : Hid ((Tryz.prog.info? 41).map (·.size) = some yc.size) := Lib.hid (by rw [hycz]; kernel_rfl)
  have Hycz : Hid ((Array.replicate 20 (Value.int .u8 0)).size = yc.size) := Lib.hid (by rw [hycz]; simp)
  have Hone2 : Hid (yc.all (·.oneCell') = true) := Lib.hid (by rw [hyc]; exact all_oneCell_toArray (B8_oneCell _))
  have Hout3 := Lib.hid ((hb3.block w.heap.size (by omega)).trans hout2)
  have hBw3 := hBw2.trans (hb3.mono hBw2.size)
  have Hyc := Lib.hid hyc
  have Hys := Lib.hid hys
  rw [← hyc]
  clear hyc hycz hys hout2 hs2 hBw2 hb3
  go_wp2_with (refine wpList_store_row rfl 41 (.tmp 2) (.tmp 7) rfl w.heap.size yc rfl rfl 41 _ Hout3.out Hinf2.out Hycz.out Hone2.out ?_)
  refine bodyPost_ret (v := .agg yc) ?_ rfl ⟨⟨ys, Hys.out, by rw [Hyc.out]⟩, below_setRow' hBw3 (Nat.le_refl _) _⟩
  exact results_cell_row rfl _ _ w.heap.size 41 yc (0, 0) (.array 20 5) rfl (setRow_heap _ _ _ _ _ _ Hout3.out) (by kernel_rfl) rfl Hinf2.out
end Go.Proofs.YtkiigonikeeikaaGreatDoor
