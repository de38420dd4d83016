-- The reference's Bytes is encS.
import Derived.Test.YtccadgnbomgpcaaTx23
import Derived.Test.YtccadgnbomgpcaaTxOne
namespace Go.Proofs.Ytccadgnbomgpcaa.Tx
open Go.RowKit Go.Proofs.YtccadgnbomgpcaaW.PrintWords Go.Proofs.YtccadgnbomgpcaaW.PrintLast Go.Proofs.YtccadgnbomgpcaaW.PrintMore
set_option linter.unusedVariables false
set_option linter.unusedSimpArgs false

theorem bytes_j (k : Nat) (c : Int) (h : Scal c) : woodcutref01_Bytes.j1 (k + 1) c = some (encS c) := by
  obtain ⟨h1, h2, h3⟩ := h
  have t1 : Int.tdiv c 64 = c / 64 := Int.tdiv_eq_ediv_of_nonneg h1
  have t2 : Int.tdiv c 4096 = c / 4096 := Int.tdiv_eq_ediv_of_nonneg h1
  have t3 : Int.tdiv c 262144 = c / 262144 := Int.tdiv_eq_ediv_of_nonneg h1
  have m1 : Int.tmod c 64 = c % 64 := Int.tmod_eq_emod_of_nonneg h1
  have w1 : wrap64 (c / 64) = c / 64 := wrap64_id (by omega) (by omega)
  have w2 : wrap64 (c / 4096) = c / 4096 := wrap64_id (by clear w1; omega) (by clear w1; omega)
  have w3 : wrap64 (c / 262144) = c / 262144 := wrap64_id (by clear w1 w2; omega) (by clear w1 w2; omega)
  have m2 : Int.tmod (c / 64) 64 = c / 64 % 64 := Int.tmod_eq_emod_of_nonneg (by clear w1 w2 w3; omega)
  have m3 : Int.tmod (c / 4096) 64 = c / 4096 % 64 := Int.tmod_eq_emod_of_nonneg (by clear w1 w2 w3; omega)
  have v : ∀ x : Int, 0 ≤ x → x < 64 → (wrap64 (128 + x)) % 256 = 128 + x := fun x a b => by rw [wrap64_id (by omega) (by omega)]; omega
  have u : ∀ b x : Int, 0 ≤ b → 0 ≤ x → b + x < 256 → (wrap64 (b + x)) % 256 = b + x := fun b x a0 a b => by rw [wrap64_id (by omega) (by omega)]; omega
  rw [woodcutref01_Bytes.j1, t1, t2, t3, m1, w1, w2, w3, m2, m3]
  clear t1 t2 t3 m1 w1 w2 w3 m2 m3
  unfold encS
  by_cases c1 : c < 128
  · rw [if_pos c1, if_pos c1, show c % 256 = c by clear u v; omega]
  · rw [if_neg c1, if_neg c1]
    by_cases c2 : c < 2048
    · rw [if_pos c2, if_pos c2, u 192 _ (by omega) (by clear u v; omega) (by clear u v; omega), v _ (by clear u v; omega) (by clear u v; omega)]
    · rw [if_neg c2, if_neg c2]
      by_cases c3 : c < 65536
      · rw [if_pos c3, if_pos c3, u 224 _ (by omega) (by clear u v; omega) (by clear u v; omega), v _ (by clear u v; omega) (by clear u v; omega), v _ (by clear u v; omega) (by clear u v; omega)]
      · rw [if_neg c3, if_neg c3, u 240 _ (by omega) (by clear u v; omega) (by clear u v; omega), v _ (by clear u v; omega) (by clear u v; omega), v _ (by clear u v; omega) (by clear u v; omega), v _ (by clear u v; omega) (by clear u v; omega)]
theorem bytes_eq (c : Int) (hw : -2147483648 ≤ c ∧ c ≤ 2147483647) : woodcutref01_Bytes.f 2 c = some (encS (fixS c)) := by
  have w : wrap64 c = c := by
    unfold wrap64
    have : (c + 9223372036854775808) % 18446744073709551616 = c + 9223372036854775808 := Int.emod_eq_of_lt (by omega) (by omega)
    omega
  by_cases hs : Scal c
  · rw [fixS_id hs]
    have hj := bytes_j 0 c hs
    obtain ⟨h1, h2, h3⟩ := hs
    rw [woodcutref01_Bytes.f, w]
    clear w
    rw [if_neg (by omega), if_neg (by omega)]
    by_cases a : c ≥ 55296
    · rw [if_pos a, decide_eq_false (by omega), woodcutref01_Bytes.j0, if_neg (by simp)]; exact hj
    · rw [if_neg a, woodcutref01_Bytes.j0, if_neg (by simp)]; exact hj
  · have hf : fixS c = 65533 := by unfold fixS; rw [if_pos]; simp only [Scal] at hs; clear w; omega
    have hj : woodcutref01_Bytes.j0 2 c true = some (encS 65533) := by rw [woodcutref01_Bytes.j0, if_pos rfl]; exact bytes_j 0 65533 (by decide)
    rw [hf, woodcutref01_Bytes.f, w]
    clear w
    by_cases a1 : c < 0
    · rw [if_pos a1]; exact hj
    · rw [if_neg a1]
      by_cases a2 : c > 1114111
      · rw [if_pos a2]; exact hj
      · rw [if_neg a2]
        have a3 : c ≥ 55296 ∧ c ≤ 57343 := by simp only [Scal] at hs; omega
        rw [if_pos a3.1, decide_eq_true a3.2]; exact hj
end Go.Proofs.Ytccadgnbomgpcaa.Tx
