-- append([]byte("x"), b...): the literal's row bears the run-time's mark; what is handed back is read as the bytes.
import Derived.Lib.SlBytesConst
import Derived.RangeFuncRecord
import Derived.Test.YtccadgnbomgpcaaTx0
namespace Go.Proofs.Ytccadgnbomgpcaa.Tx
open Go.RowKit Go.Proofs.YtccadgnbomgpcaaW.PrintWords Go.Proofs.YtccadgnbomgpcaaW.PrintLast Go.Proofs.YtccadgnbomgpcaaW.PrintMore
set_option linter.unusedVariables false
set_option linter.unusedSimpArgs false

theorem marked_cell (W0 : World) : (W0.alloc (.cells #[.int .u8 120] 5 (1, 2))).cell? ⟨W0.heap.size, 0, none⟩ = some (.int .u8 120) := by
  have h := World.alloc_heap_new W0 (.cells #[.int .u8 120] 5 (1, 2))
  unfold World.cell?
  rw [h]
  rfl
theorem marked_C (W0 : World) : Kd.C (Kd.int .u8) (W0.alloc (.cells #[.int .u8 120] 5 (1, 2))) (some ⟨W0.heap.size, 0, none⟩) 1 [120] := by
  refine Kd.C_of_reads (d := (0 : Int)) ⟨rfl, by decide, fun _ => ⟨_, rfl, fun j hj => ?_⟩⟩
  obtain rfl : j = 0 := by omega
  rw [Addr.add_zero']
  exact marked_cell W0
theorem append_x {W0 : World} {ops : Array Oper} {rest : List Oper} {o : Oper} {a : Act} {Q : Exit → Act → World → Prop} (hgd : o.guard = none) (s x : Operand)
    (hop : o.op = Op.call { callee := Callee.builtin Builtin.append, args := #[s, x], argTypes := #[37, 37] }) (hs : a.eval s = .slice (some ⟨W0.heap.size, 0, none⟩) 1 1) {A0 : Option Addr} {c0 : Nat} {y l0 : List Int}
    (hx : a.eval x = .slice A0 l0.length c0) (hy : y = [120]) (hC : Kd.C (Kd.int .u8) W0 A0 l0.length l0) (hl : y.length + l0.length < 140737488355328)
    (h : ∀ A c w1, Kd.C (Kd.int .u8) w1 A (y ++ l0).length (y ++ l0) → (y ++ l0).length ≤ c → Below W0.heap.size W0 w1 → wpList Try.prog ops Q rest (a.put o.dst (.slice A (y ++ l0).length c)) w1) :
    wpList Try.prog ops Q (o :: rest) a (W0.alloc (.cells #[.int .u8 120] 5 (1, 2))) := by
  subst hy
  obtain ⟨i, hi, hz0, hz1, hz2⟩ := info_parts info5
  have hb0 : Below W0.heap.size W0 (W0.alloc (.cells #[.int .u8 120] 5 (1, 2))) := (Below.refl _ W0).alloc (Nat.le_refl _) _
  cases l0 with
  | nil =>
    refine wpList_plain hgd fun K hK' => ?_
    have hrun : (Builtin.append_ #[37, 37] o.type #[.slice (some ⟨W0.heap.size, 0, none⟩) 1 1, .slice A0 0 c0]).run Try.prog (W0.alloc (.cells #[.int .u8 120] 5 (1, 2))) = .ok (.slice (some ⟨W0.heap.size, 0, none⟩) 1 1) (W0.alloc (.cells #[.int .u8 120] 5 (1, 2))) := by
      cases A0 with
      | none =>
        simp [Builtin.append_, run_underlying Try.underlying37, sizeOf, typeInfo, hi, Builtin.lenOf, run_firstCells_none]
        rfl
      | some ad =>
        have hr := run_append_room_cells (P := Try.prog) (W0.alloc (.cells #[.int .u8 120] 5 (1, 2))) 37 o.type 5 i Try.underlying37 hi W0.heap.size 0 1 1 ad 0 c0 [] (by simp) (by simp) (by simp) (by omega) (by simp) (by simp)
        exact hr
    unfold Oper.wp
    simp only [List.length_nil] at hx
    simp [execOp, hop, resolve, invoke, builtin, hs, hx, hrun, Result.andThen]
    exact hK' _ _ (h _ 1 _ (marked_C W0) (Nat.le_refl _) hb0)
  | cons b t =>
    obtain ⟨ad, rfl, hcell⟩ := (Kd.reads_of_C (d := (0 : Int)) hC).2.2 (by simp)
    have hlen : ((b :: t).map (Value.int .u8)).length = (b :: t).length * 1 := by simp
    refine wpList_append_grows _ hgd s x 37 hop 5 i (.int .u8 0) 1 1 Try.underlying37 hi hz0 hz1 hz2 rfl (by decide) (some ⟨W0.heap.size, 0, none⟩) 1 1 [.int .u8 120] hs (by simp) rfl ?_ ad (b :: t).length c0 ((b :: t).map (Value.int .u8)) hx hlen ?_ ?_ (by simp) ?_ ?_ ?_
    · rintro bb e j u hj
      cases e
      have : j = 0 := by
        have := (List.getElem?_eq_some_iff.1 hj).1
        simp at this; exact this
      subst this
      simp at hj
      subst hj
      rw [Addr.add_zero']
      exact marked_cell W0
    · intro j u hj
      have hj2 : j < (b :: t).length := by have := (List.getElem?_eq_some_iff.1 hj).1; simpa using this
      have h1 := (Below.refl W0.heap.size W0).alloc (Nat.le_refl _) (.cells #[.int .u8 120] 5 (1, 2))
      have h2 := (Kd.reads_of_C (d := (0 : Int)) (Kd.C_below hC hb0)).2.2 (by simp)
      obtain ⟨ad2, e2, hc2⟩ := h2
      cases e2
      rw [hc2 j hj2]
      rw [← hj, List.getElem?_map, List.getD_eq_getElem?_getD, List.getElem?_eq_getElem hj2]
      rfl
    · intro u hu
      obtain ⟨z, _, rfl⟩ := List.mem_map.1 hu
      rfl
    · simp only [List.length_cons, List.length_nil] at hl ⊢; simp only [maxLen]; omega
    · simp only [List.length_cons, List.length_nil] at hl ⊢; omega
    · intro v' w' hown hgrow
      have hR : Kd.R (Kd.int .u8) 5 w' W0.heap.size (fun _ => True) v' ([120] ++ (b :: t)) := by
        refine Kd.R_of_own ?_ (fun _ _ => trivial)
        have e : ([120] ++ (b :: t) : List Int).length = 1 + (b :: t).length := by simp only [List.length_append, List.length_cons, List.length_nil]
        rw [e]
        obtain ⟨q1, q2⟩ := hown
        refine ⟨q1, q2.imp id fun ⟨g, cap, cur, r1, r2, r3⟩ => ⟨g, cap, cur, r1, Nat.le_trans (by simp) r2, r3⟩⟩
      obtain ⟨A, c, rfl⟩ := Kd.R_slice hR
      obtain ⟨_, r2, r3⟩ := Kd.R_reads' hR
      exact h A c w' r3 r2 (hb0.grown hgrow (by simp) (by simp))
end Go.Proofs.Ytccadgnbomgpcaa.Tx
