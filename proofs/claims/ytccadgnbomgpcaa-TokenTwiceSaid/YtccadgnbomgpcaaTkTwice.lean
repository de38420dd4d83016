/-
  The plain law of TokenTwice: for any attributes, name and value, the printed function answers true.
-/
import Derived.Test.YtccadgnbomgpcaaTkPlain
import Derived.Test.YtccadgnbomgpcaaTk24
namespace Go.Proofs.Ytccadgnbomgpcaa.Tk
open Go.RowKit Go.Proofs.YtccadgnbomgpcaaW.PrintWords Go.Proofs.YtccadgnbomgpcaaW.PrintLast Go.Proofs.YtccadgnbomgpcaaW.PrintMore

/-- **TokenTwice, plainly.** -/
theorem tokenTwice_pure (l : List S28) (n v : ByteArray) : ∃ k, woodcutlaw07_TokenTwice.f k l n v = some true := by
  refine ⟨l.length + 2, ?_⟩
  unfold woodcutlaw07_TokenTwice.f woodcutlaw07_head.f
  simp only [Option.bind_some, if_true]
  by_cases h : (l.length : Int) > 30
  · rw [if_pos h]
  · rw [if_neg h]
    have hl : l.length < 4398046511104 := by omega
    have hs := setL_length n v l
    have ho := onceL_length l []
    rw [List.length_nil, Nat.zero_add] at ho
    have hw := List.length_filter_le (fun a : S28 => !decide (a.f0 = n)) (setL n v l)
    have hu : Uniq (onceL [] l) := onceL_uniq l [] List.Pairwise.nil
    have hself : onceL [] (onceL [] l) = onceL [] l := by
      have := onceL_self (onceL [] l) [] (by simpa using hu)
      simpa using this
    rw [set_f n v hl (by omega)]
    simp only [Option.bind_some]
    rw [get_f n (by omega)]
    simp only [Option.bind_some]
    rw [without_f n (by omega)]
    simp only [Option.bind_some]
    rw [get_f n (by omega)]
    simp only [Option.bind_some]
    rw [once_f hl (by omega)]
    simp only [Option.bind_some]
    rw [once_f (by omega) (by omega), hself]
    simp only [Option.bind_some]
    rw [get_f n hl]
    simp only [Option.bind_some]
    rw [get_f n (by omega)]
    simp only [Option.bind_some]
    rw [setL_get, getOf_has (List.filter _ _), without_has, same_f _ _ (by omega) (by omega), alike_f (by omega) (by omega) (by omega), onceL_get, alike_of hu rfl (fun _ h => h) (fun _ h => h)]
    simp

end Go.Proofs.Ytccadgnbomgpcaa.Tk
