-- text.Signs: the iterator's contract (functions 22 and 46).
import Derived.RangeFuncNested
import Derived.RangeFuncBound
import Derived.RangeFuncCalls
import Derived.RangeFuncLeaves
import Derived.RangeFuncBox
import Derived.Shelf.Abstract
import Derived.Shelf.RegionOpen
import Derived.WalkKit
import Derived.OwnWalkIn
import Derived.TacticsInMore
import Derived.LoopNIn
import Derived.LoopIn
import Derived.Outline
import Derived.Test.YtccadgnbomgpcaaTxOne
namespace Go.Proofs.Ytccadgnbomgpcaa.Tx
open Go.RowKit Go.Shelf Go.Proofs.YtccadgnbomgpcaaW.PrintWords Go.Proofs.YtccadgnbomgpcaaW.PrintLast Go.Proofs.YtccadgnbomgpcaaW.PrintMore
attribute [local go_sem] Oper.semAt_some
set_option linter.unusedVariables false
set_option linter.unusedSimpArgs false

/-- What a round that goes on keeps: whatever lay below n₀, and the box of the iterator. -/
def KpS (n₀ Bs : Nat) (W W' : World) : Prop := Below n₀ W W' ∧ W'.heap[Bs]? = W.heap[Bs]?
theorem KpS.trans {n₀ Bs : Nat} {A B C : World} (h : KpS n₀ Bs A B) (k : KpS n₀ Bs B C) : KpS n₀ Bs A C := ⟨h.1.trans k.1, k.2.trans h.2⟩
theorem grownBy_drewN (w : World) (n : Nat) : w.grownBy (w.drewN n) none := by
  induction n with
  | zero => exact ⟨rfl, rfl, rfl, Nat.le_refl _, fun _ _ _ => rfl⟩
  | succ n ih => rw [← World.drew_drewN]; exact ⟨ih.os, ih.tape, ih.output, ih.size, ih.block⟩

theorem drop_C {w : World} {A : Option Addr} {b : List Int} {o c0 : Nat} (h : Kd.C (Kd.int .u8) w A b.length b) (ho : o < b.length) (hc0 : b.length ≤ c0) : Kd.C (Kd.int .u8) w (Option.map (fun x => x.add o) A) (b.drop o).length (b.drop o) := by
  have := Kd.C_drop (m := o) (c := c0) h (by omega) hc0
  rw [if_neg (by omega)] at this
  simpa [show (Kd.int .u8).sz = 1 from rfl] using this
theorem one_at {w : World} {A : Option Addr} {b : List Int} {len c m : Nat} {q : Int} (hB : Bytes b) (hC : Kd.C (Kd.int .u8) w A b.length b) (hne : b ≠ []) (hl : len = b.length) (hc : len ≤ c) (hq : q = (oneL b).1) (hm : m = (oneL b).2) :
    Calls Try.prog 47 #[.slice A len c] w fun e w' => e = .returned (.tuple #[.int .i32 q, .int .i64 (m : Int)]) ∧ Drawn0 w w' := by
  subst hl; subst hq; subst hm
  exact text_one.calls 8 A c b _ _ w hC hc (one_eq hB hne)

set_option maxRecDepth 100000 in
set_option maxHeartbeats 4000000 in
theorem signs1_in (n : Nat) (hn : 2 ≤ n) (l Bs : Nat) (w0 : World) (A : Option Addr) (c0 : Nat) (b : List Int) (hlen : b.length < 1000000) (hB : Bytes b) (hc0 : b.length ≤ c0) (J Jx : List (Nat × Int) → World → Prop)
    (hY : ∀ pre x W, J pre W → pre.length < (sg 0 b).length → YieldAt Fence.wide (n - 1) Try.prog l #[.int .i64 (x.1 : Int), .int .i32 x.2] W fun e W' =>
      (e = .returned (.bool true) ∧ J (pre ++ [x]) W' ∧ KpS w0.heap.size Bs W W') ∨ (e = .returned (.bool false) ∧ Jx (pre ++ [x]) W'))
    (W : World) (hC0 : Kd.C (Kd.int .u8) w0 A b.length b) (hW : Below w0.heap.size w0 W) (hJ : AbidesFrom W.heap.size J) (hBs : Boxed W Bs 37 (.slice A b.length c0)) (h0 : J [] W) :
    CallsIn Fence.wide n Try.prog 46 #[.func (.yield l) #[] #[], .pointer (some ⟨Bs, 0, none⟩)] W fun e W' => (∃ v, e = .returned v) ∧
      ((∃ ys, ys = sg 0 b ∧ J ys W') ∨ (∃ pre, pre <+: sg 0 b ∧ Jx pre W')) := by
  refine callsIn_of_wp Try.func46 rfl trivial ?_ rfl
  simp only [Try.ntmps46, List.size_toArray, List.length_cons, List.length_nil, Nat.reduceAdd, Nat.reduceSub, Array.replicate_succ, Array.replicate_zero, List.push_toArray, List.append_toArray, List.nil_append, List.cons_append]
  gi_wp2
  gi_loopw [3] (fun i wr => ∃ (o : Nat) (pre : List (Nat × Int)), i = .int .i64 o ∧ o ≤ b.length ∧ pre ++ sg o (b.drop o) = sg 0 b ∧ J pre wr ∧ Below w0.heap.size w0 wr ∧ Boxed wr Bs 37 (.slice A b.length c0))
    (fun i _ => b.length - (intOf i).toNat)
  case atStart => exact ⟨0, [], rfl, Nat.zero_le _, rfl, h0, hW, hBs⟩
  case round =>
    obtain ⟨o, pre, rfl, ho, hpre, hJs, hnx, hbx⟩ := hrel
    have hcb := hbx.cell
    have hN := Aside0.mk hpre
    clear hpre
    by_cases hlt : o < b.length
    · have hne : b.drop o ≠ [] := by simpa using hlt
      obtain ⟨q, hq⟩ : ∃ q, q = (oneL (b.drop o)).1 := ⟨_, rfl⟩
      obtain ⟨m, hm⟩ : ∃ m, m = (oneL (b.drop o)).2 := ⟨_, rfl⟩
      have hm1 : 1 ≤ m := by rw [hm]; exact oneL_pos _
      have hm2 : o + m ≤ b.length := by have := oneL_le hne; rw [← hm, List.length_drop] at this; omega
      have hN2 := hN.out
      rw [sg_cons o hne, ← hq, ← hm, List.drop_drop] at hN2
      have hlt2 : pre.length < (sg 0 b).length := by rw [← hN2]; simp
      have hone := Aside0.mk (one_at (w := wr) (len := b.length - o) (c := c0 - o) (hB.drop o) (Kd.C_below (drop_C hC0 hlt hc0) hnx) hne (by simp) (by omega) hq hm)
      have hN3 := Aside0.mk hN2
      have hne' := Aside0.mk hne
      have hq' := Aside0.mk hq
      have hm' := Aside0.mk hm
      clear hN2 hN hne hq hm
      gi_wp2
      refine ⟨trivial, fun _ => by omega, ?_⟩
      refine (callsIn_wide.2 hone.out).mono ?_
      (rintro e w' ⟨rfl, ⟨⟨dn, rfl⟩⟩⟩; obtain ⟨fn, tmps, assign, body, hy, hR⟩ := hY pre (o, q) (wr.drewN dn) (hJ _ _ _ none hJs (grownBy_drewN wr dn) (by simp)) hlt2; dsimp only at hy)
      gi_wp2
      refine ⟨fun _ => by omega, hR.mono ?_⟩
      have hw1 : Below w0.heap.size w0 (wr.drewN dn) := hnx.trans ((Drawn0.below ⟨⟨dn, rfl⟩⟩).mono hnx.size)
      have hb1 : Boxed (wr.drewN dn) Bs 37 (.slice A b.length c0) := hbx.kept (grownBy_drewN wr dn) (by simp)
      rintro e W3 (⟨rfl, hJ3, hk3⟩ | ⟨rfl, hJx3⟩)
      · have hw3 := hw1.trans hk3.1
        have hb3 : Boxed W3 Bs 37 (.slice A b.length c0) := hk3.2.trans hb1
        gi_wp2
        go_roundw
        case rel => exact ⟨o + m, pre ++ [(o, q)], by rw [Int.natCast_add], hm2, by rw [List.append_assoc]; exact hN3.out, hJ3, hw3, hb3⟩
        case measure => simp only [intOf]; omega
      · gi_wp2
        refine bodyPost_ret (results_none rfl _ _ _) rfl ?_
        exact ⟨⟨_, rfl⟩, .inr ⟨_, ⟨_, by rw [List.append_assoc]; exact hN3.out⟩, hJx3⟩⟩
    · obtain rfl : o = b.length := by omega
      gi_wp2
      go_end0
      have := hN.out
      rw [List.drop_length, sg_nil, List.append_nil] at this
      exact ⟨⟨_, rfl⟩, .inl ⟨_, this, hJs⟩⟩

set_option maxHeartbeats 1000000 in
/-- text.Signs(b): the slice value is boxed; the function value captures the box. -/
theorem signs_in (n : Nat) (a : Option Addr) (len cap : Nat) (w : World) :
    CallsIn Fence.wide n Try.prog 22 #[.slice a len cap] w fun e w' => e = .returned (.func (.func 46) #[] #[.pointer (some ⟨w.heap.size, 0, none⟩)]) ∧ w' = w.alloc (.cells #[.slice a len cap] 37) := by
  refine callsIn_of_wp Try.func22 rfl trivial ?_ rfl
  simp only [Try.ntmps22, List.size_toArray, List.length_cons, List.length_nil, Nat.reduceAdd, Nat.reduceSub, Array.replicate_succ, Array.replicate_zero, List.push_toArray, List.append_toArray, List.nil_append, List.cons_append]
  gi_wp2
  go_ret
  exact ⟨rfl, rfl⟩

/-- What text.Signs hands back goes through the signs of b. -/
theorem signs_stops (n : Nat) (hn : 2 ≤ n) (Bs : Nat) (w0 : World) (A : Option Addr) (c0 : Nat) (b : List Int) (hlen : b.length < 1000000) (hB : Bytes b) (hc0 : b.length ≤ c0) (hC0 : Kd.C (Kd.int .u8) w0 A b.length b)
    (w : World) (hw : Below w0.heap.size w0 w) (hBs : Boxed w Bs 37 (.slice A b.length c0)) :
    SeqStopsK Fence.wide n Try.prog 46 #[.pointer (some ⟨Bs, 0, none⟩)] (fun x : Nat × Int => #[Value.int .i64 (x.1 : Int), Value.int .i32 x.2]) (KpS w0.heap.size Bs) (fun ys => ys = sg 0 b) (fun pre => pre <+: sg 0 b) (sg 0 b).length w :=
  fun l J Jx W hW hJ _ hY h0 =>
    signs1_in n hn l Bs w0 A c0 b hlen hB hc0 J Jx hY W hC0 (hw.trans (hW.mono hw.size)) hJ ((hW.block Bs hBs.lt).trans hBs) h0
theorem kpS_b {w : World} {n₀ Bs : Nat} (hn : n₀ ≤ w.heap.size) (hB : Bs < w.heap.size) (W : World) (l : Nat) (o o' : Obj) (hl : w.heap.size ≤ l) (h : W.heap[l]? = some o) (h1 : o.isCells = false) (h2 : o.isWalk = false) : KpS n₀ Bs W (W.putObj l o') :=
  ⟨belowK_b hn W l o o' hl h h1 h2, (grownBy_putObj' W l o').block Bs (by have := (Array.getElem?_eq_some_iff.1 h).1; omega) (by simp; omega)⟩

end Go.Proofs.Ytccadgnbomgpcaa.Tx
