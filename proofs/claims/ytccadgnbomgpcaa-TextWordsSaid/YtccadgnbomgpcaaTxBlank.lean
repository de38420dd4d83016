-- The law TextWords' own closure blank (function 39).
import Derived.Test.YtccadgnbomgpcaaTxLower
namespace Go.Proofs.Ytccadgnbomgpcaa.Tx
open Go.RowKit Go.Shelf Go.Proofs.YtccadgnbomgpcaaW.PrintWords Go.Proofs.YtccadgnbomgpcaaW.PrintLast Go.Proofs.YtccadgnbomgpcaaW.PrintMore
attribute [local go_sem] Oper.semAt_some
set_option linter.unusedVariables false
set_option linter.unusedSimpArgs false

def blankN (x : Int) : Bool := x == 9 || x == 10 || x == 12 || x == 13 || x == 32
set_option maxRecDepth 100000 in
set_option maxHeartbeats 8000000 in
theorem blank_in (n : Nat) (x : Int) (w : World) :
    CallsIn Fence.wide n Try.prog 39 #[.int .u8 x] w fun e w' => e = .returned (.bool (blankN x)) ∧ w' = w := by
  refine callsIn_of_wp Try.func39 rfl trivial ?_ rfl
  simp only [Try.ntmps39, List.size_toArray, List.length_cons, List.length_nil, Nat.reduceAdd, Nat.reduceSub, Array.replicate_succ, Array.replicate_zero, List.push_toArray, List.append_toArray, List.nil_append, List.cons_append]
  by_cases h9 : x = 9
  · subst h9; gi_wp2; go_ret; exact ⟨rfl, rfl⟩
  by_cases h10 : x = 10
  · subst h10; gi_wp2; go_ret; exact ⟨rfl, rfl⟩
  by_cases h12 : x = 12
  · subst h12; gi_wp2; go_ret; exact ⟨rfl, rfl⟩
  by_cases h13 : x = 13
  · subst h13; gi_wp2; go_ret; exact ⟨rfl, rfl⟩
  have b9 : (x == 9) = false := beq_eq_false_iff_ne.2 h9
  have b10 : (x == 10) = false := beq_eq_false_iff_ne.2 h10
  have b12 : (x == 12) = false := beq_eq_false_iff_ne.2 h12
  have b13 : (x == 13) = false := beq_eq_false_iff_ne.2 h13
  have e : blankN x = (x == 32) := by simp [blankN, b9, b10, b12, b13]
  rw [e]
  clear h9 h10 h12 h13 e
  gi_wp2
  go_ret
  exact ⟨rfl, rfl⟩
end Go.Proofs.Ytccadgnbomgpcaa.Tx
