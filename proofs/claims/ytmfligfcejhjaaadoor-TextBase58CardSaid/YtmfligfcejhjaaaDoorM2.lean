/- append(s, make([]T, n)...): as many zero values. -/
import Derived.Test.YtmfligfcejhjaaaDoorM
namespace Go.Proofs.YtmfligfcejhjaaaDoor
open Go.RowKit

theorem zeroCells_one (z : Value) (n : Nat) : Builtin.zeroCells #[z] n = Array.replicate n z := by
  apply Array.ext'
  apply List.ext_getElem (by simp [Builtin.zeroCells])
  intro i h1 h2
  simp [Builtin.zeroCells, Nat.mod_one]

section
variable {P : Program} (w : World)
theorem run_append_zeros (base : Nat) (t ti ty E : TypeId) (i : TypeInfo) (z : Value) (bytes : Nat) (ht : P.underlying t = some (.slice E)) (hti : P.underlying ti = some (.int .i64)) (hi : P.info? E = some i) (hz : i.zero = some z)
    (hsize : i.size = 1) (hby : i.bytes = bytes) (hzs : z.cells = #[z]) (hz1 : z.oneCell' = true)
    (v : Value) (xs : List Value) (hown : Ow w base E v xs) (hx : 0 < xs.length) (n : Nat) (hn : 0 < n)
    (h63 : xs.length + n ≤ maxLen) (hbytes : (xs.length + n) * bytes ≤ 140737488355328) (hbase : base ≤ w.heap.size) :
    ∃ v' w', (Builtin.append_ #[t, ti] ty #[v, .int .i64 n]).run P w = .ok v' w' ∧ Ow w' base E v' (xs ++ List.replicate n z) ∧ w.grownBy w' (rowOf v) ∧
      (rowOf v' = rowOf v ∨ rowOf v' = some w.heap.size) := by
  subst hby
  have hm : xs.length + n ≤ 9223372036854775807 := by simp only [maxLen] at h63; omega
  obtain ⟨Av, cap, rfl, hxc, hcm, hrow⟩ := hown
  obtain ⟨g, cur, rfl, hbg, hg, hcs, htake⟩ := hrow (by omega)
  have hc0 : ¬ cap = 0 := by omega
  have hrw : rowOf (.slice (some ⟨g, 0, none⟩) xs.length cap) = some g := by simp [rowOf, hc0]
  have hwrap : IntKind.i64.wrap (n : Int) = (n : Int) := by simp (disch := omega) only [IntWalk.i64_in]
  have hneg : ¬ ((n : Int) < 0) := by omega
  have hn0 : ¬ n = 0 := by omega
  have h48 : ¬ ((281474976710656 : Int) < (n : Int) * (i.bytes : Int)) := by
    have h1 : n * i.bytes ≤ (xs.length + n) * i.bytes := Nat.mul_le_mul_right _ (by omega)
    have h2 : ((n * i.bytes : Nat) : Int) = (n : Int) * (i.bytes : Int) := by rw [Int.natCast_mul]
    omega
  by_cases hroom : xs.length + n ≤ cap
  · have hst := run_storeCells_at P g xs.length E (List.replicate n z) 0 cur w hg (by simp; omega) (by intro u hu; rw [List.eq_of_mem_replicate hu]; exact hz1)
    simp only [Nat.add_zero] at hst
    refine ⟨.slice (some ⟨g, 0, none⟩) (xs.length + n) cap, _, ?_, ⟨_, cap, by simp, by simp; omega, hcm, fun _ => ⟨g, _, rfl, hbg, setRow_heap w g cur (cur.toList.take xs.length ++ List.replicate n z ++ cur.toList.drop (xs.length + n)).toArray E _ hg, ?_, ?_⟩⟩, ⟨rfl, rfl, rfl, by simp, fun k hk hk2 => setRow_other w g k _ (fun e => hk2 (by rw [hrw, e]))⟩, .inl (by simp [rowOf, hc0])⟩
    · simp [Builtin.append_, run_underlying ht, run_underlying hti, sizeOf, typeInfo, hi, zeroValue, hz, hsize, asInt, asIntOf, hwrap, hneg, h48, hn0, hroom, hzs, zeroCells_one, Addr.add_lit, hst]
    · simp; omega
    · rw [htake]; simp [List.take_append, List.take_of_length_le]
  · have hnr : ¬ (xs.length + n ≤ cap) := hroom
    have h63' : ¬ (9223372036854775807 < ((xs.length : Int) + (n : Int))) := by omega
    have hfit : Builtin.nextslicecap (xs.length + n) cap * i.bytes ≤ 281474976710656 := growslice_fits (by omega) hbytes
    have h48' : ¬ (281474976710656 < Builtin.nextslicecap (xs.length + n) cap * i.bytes) := by omega
    have holds : ∀ j u, xs[j]? = some u → w.cell? ((⟨g, 0, none⟩ : Addr).add j) = some u := by
      intro j u hu
      obtain ⟨hj, e⟩ := List.getElem?_eq_some_iff.1 hu
      rw [add_lit', Nat.zero_add, cell_of_row w g j cur E (0, 0) hg]
      rw [← htake, List.getElem?_take, if_pos hj] at hu
      simpa using hu
    have hfo := run_firstCells_some (P := P) w.drew 1 xs.length ⟨g, 0, none⟩ xs.length cap xs (by simp) (by simpa using holds)
    have hge := grownCap_ge w (xs.length + n) cap E
    have hcm' := grownCap_le_maxLen w (xs.length + n) cap E h63
    have hof := Ow.of_row (w := w.drew) (cap := grownCap w (xs.length + n) cap E) (xs.toArray ++ Array.replicate n z ++ Array.replicate (grownCap w (xs.length + n) cap E - (xs.length + n)) z) E base hbase (by simp; omega) hcm' (xs.length + n) hge
    have e : (xs.toArray ++ Array.replicate n z ++ Array.replicate (grownCap w (xs.length + n) cap E - (xs.length + n)) z).toList.take (xs.length + n) = xs ++ List.replicate n z := by
      simp [List.take_append, List.take_of_length_le]
    rw [e] at hof
    refine ⟨_, _, ?_, hof, ⟨rfl, rfl, rfl, by simp, fun k hk _ => Below.heap_alloc w.drew _ k hk⟩, .inr (by simp only [rowOf]; rw [if_neg (by omega)]; rfl)⟩
    simp [Builtin.append_, run_underlying ht, run_underlying hti, sizeOf, typeInfo, hi, zeroValue, hz, hsize, asInt, asIntOf, hwrap, hneg, h48, hn0, hnr, h63', h48', hzs, zeroCells_one, Question.forced, hfo, newRow, grownCap]
theorem wpList_append_zeros {w : World} {ops : Array Oper} {rest : List Oper} {o : Oper} {a : Act} {Q : Exit → Act → World → Prop} {base t ti E : TypeId} {z : Value} {bytes : Nat} {v : Value} {xs : List Value} (hE : El P t E z bytes) (hti : P.underlying ti = some (.int .i64)) (hz1 : z.oneCell' = true) (hgd : o.guard = none) (s x : Operand)
    (ho : o.op = .call { callee := .builtin .append, args := #[s, x], argTypes := #[t, ti] }) (hs : a.eval s = v) (hown : Ow w base E v xs) (n : Nat) (hx : a.eval x = .int .i64 n) (hxs : 0 < xs.length) (hn : 0 < n)
    (h63 : xs.length + n ≤ maxLen) (hbytes : (xs.length + n) * bytes ≤ 140737488355328) (hbase : base ≤ w.heap.size)
    (h : ∀ v' w', Ow w' base E v' (xs ++ List.replicate n z) → w.grownBy w' (rowOf v) → (rowOf v' = rowOf v ∨ rowOf v' = some w.heap.size) → wpList P ops Q rest (a.put o.dst v') w') : wpList P ops Q (o :: rest) a w :=
  wpList_plain hgd fun _ hK => by
    obtain ⟨i0, hi, hz0, hz1', hz2⟩ := info_parts hE.info
    obtain ⟨v', w', hrun, h2, h3, h4⟩ := run_append_zeros (P := P) w base t ti o.type E i0 z bytes hE.und hti hi hz0 hz1' hz2 hE.zc hz1 v xs hown hxs n hn h63 hbytes hbase
    unfold Oper.wp execOp
    simp only [ho, resolve, invoke, builtin, Sem.run_bind, Sem.run_pure, Result.andThen_ok, List.map_toArray, List.map_cons, List.map_nil, hs, hx, hrun]
    exact hK _ _ (h v' w' h2 h3 h4)
end
end Go.Proofs.YtmfligfcejhjaaaDoor
