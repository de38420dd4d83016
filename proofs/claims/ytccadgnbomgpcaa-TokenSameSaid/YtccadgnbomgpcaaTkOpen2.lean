/-
  How long the texts of a token that comes in may be: the form's own reach bounds each.
-/
import Derived.Test.YtccadgnbomgpcaaTkOpen
namespace Go.Proofs.Ytccadgnbomgpcaa.Tk
open Go.RowKit Go.ChangeShapes Go.WideShapes

section
variable {H : Type}

theorem weights_all {e : TypeId} {n : Nat} {y : DataW H} : ∀ {els : List (DataW H)}, y ∈ els → n ∈ DataW.weights Try.prog e y → n ∈ DataW.weightsAll Try.prog e els
  | [], h, _ => by cases h
  | x :: r, h, hn => by
    simp only [DataW.weightsAll, List.mem_append]
    rcases List.mem_cons.1 h with rfl | h
    · exact .inl hn
    · exact .inr (weights_all h hn)

theorem token_sizes {ts : List TypeId} {ds : List (DataW H)} {f0 : Int} {f1 f4 f5 f6 : ByteArray} {f3 f7 f8 f9 : Bool} {d2 : DataW H} {l2 : List S28}
    (hsz : (DataW.weightsEach Try.prog (24 :: ts) ((.agg [.lit (.int .i64 f0), .lit (.string f1.data.toList), d2, .lit (.bool f3), .lit (.string f4.data.toList), .lit (.string f5.data.toList), .lit (.string f6.data.toList), .lit (.bool f7), .lit (.bool f8), .lit (.bool f9)]) :: ds)).all (· ≤ reachBytes) = true)
    (hq : ∀ q ∈ l2, ∃ els rest, d2 = .slice els rest ∧ (DataW.agg [.lit (.string q.f0.data.toList), .lit (.string q.f1.data.toList)] : DataW H) ∈ els) :
    f1.size < 4611686018427387904 ∧ f4.size < 4611686018427387904 ∧ f5.size < 4611686018427387904 ∧ f6.size < 4611686018427387904 ∧ ∀ q ∈ l2, q.f1.size < 4611686018427387904 := by
  have hr := reachBytes_lt
  have key : ∀ n, n ∈ DataW.weights Try.prog 24 (.agg [.lit (.int .i64 f0), .lit (.string f1.data.toList), d2, .lit (.bool f3), .lit (.string f4.data.toList), .lit (.string f5.data.toList), .lit (.string f6.data.toList), .lit (.bool f7), .lit (.bool f8), .lit (.bool f9)]) → n < 4611686018427387904 := fun n hn => by
    have := List.all_eq_true.1 hsz n (DataW.weights_mem_each (j := 0) rfl rfl n hn)
    have h2 : n ≤ reachBytes := by simpa using this
    omega
  have len : ∀ s : ByteArray, s.data.toList.length = s.size := fun s => by rw [Array.length_toList]; rfl
  refine ⟨?_, ?_, ?_, ?_, fun q hqq => ?_⟩
  · exact key _ (by simp [DataW.weights, DataW.weightsEach, Try.underlying24, len])
  · exact key _ (by simp [DataW.weights, DataW.weightsEach, Try.underlying24, len])
  · exact key _ (by simp [DataW.weights, DataW.weightsEach, Try.underlying24, len])
  · exact key _ (by simp [DataW.weights, DataW.weightsEach, Try.underlying24, len])
  · obtain ⟨els, rest, rfl, he⟩ := hq q hqq
    refine key _ ?_
    have h1 : q.f1.size ∈ DataW.weightsAll Try.prog 28 els := weights_all he (by simp [DataW.weights, DataW.weightsEach, Try.underlying28, len])
    simp only [DataW.weights, DataW.weightsEach, Try.underlying24, Try.underlying22, List.map_cons, List.mem_append, List.mem_cons, List.nil_append]
    simp [DataW.weightsEach, h1]
end
end Go.Proofs.Ytccadgnbomgpcaa.Tk
