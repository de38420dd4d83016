/-
  The plain law of TokenIs: for any token, kind and names, the printed function answers true. No program in sight.
-/
import Derived.Test.YtccadgnbomgpcaaTk10
namespace Go.Proofs.Ytccadgnbomgpcaa.Tk
open Go.RowKit Go.Proofs.YtccadgnbomgpcaaW.PrintWords Go.Proofs.YtccadgnbomgpcaaW.PrintLast Go.Proofs.YtccadgnbomgpcaaW.PrintMore

theorem wr1 {i n : Nat} (h : i < n) (hn : n < 4398046511104) : wrap64 ((i : Int) + 1) = ((i + 1 : Nat) : Int) := by
  unfold wrap64
  omega

theorem rdS {l : List ByteArray} {i : Nat} (hi : i < l.length) : rdOf ByteArray.empty l (i : Int) = l[i] := by
  unfold rdOf
  simp [hi]

theorem index_l0 (x0 : List ByteArray) (x1 : ByteArray) (hn : x0.length < 4398046511104) : ∀ (d k i : Nat), x0.length - i = d → d < k → i ≤ x0.length →
    ∃ r : Int, slices_Index_string_string.l0 k x0 x1 (x0.length : Int) (i : Int) = some r ∧ (decide (r ≥ 0) = (x0.drop i).any fun y => x1.toList == y.toList) := by
  intro d
  induction d with
  | zero =>
    intro k i hd hk hi
    obtain ⟨k, rfl⟩ : ∃ m, k = m + 1 := ⟨k - 1, by omega⟩
    refine ⟨-1, ?_, ?_⟩
    · simp only [slices_Index_string_string.l0]; rw [if_neg (by omega)]
    · rw [List.drop_eq_nil_of_le (by omega)]; rfl
  | succ d ih =>
    intro k i hd hk hi
    obtain ⟨k, rfl⟩ : ∃ m, k = m + 1 := ⟨k - 1, by omega⟩
    have hlt : i < x0.length := by omega
    simp only [slices_Index_string_string.l0]
    rw [if_pos (by omega), if_pos (by omega), if_pos (by omega), rdS hlt, List.drop_eq_getElem_cons hlt]
    by_cases he : x1.toList = x0[i].toList
    · rw [if_pos he]
      refine ⟨_, rfl, ?_⟩
      rw [List.any_cons, he]
      simp
    · rw [if_neg he, wr1 hlt hn]
      obtain ⟨r, h1, h2⟩ := ih k (i + 1) (by omega) (by omega) (by omega)
      refine ⟨r, h1, ?_⟩
      rw [h2, List.any_cons]
      simp [he]

theorem contains_f (l : List ByteArray) (x : ByteArray) (hn : l.length < 4398046511104) (k : Nat) (hk : l.length < k) :
    slices_Contains_string_string.f k l x = some (l.any fun y => x.toList == y.toList) := by
  obtain ⟨r, h1, h2⟩ := index_l0 l x hn l.length k 0 (by omega) hk (by omega)
  unfold slices_Contains_string_string.f slices_Index_string_string.f
  rw [show (0 : Int) = ((0 : Nat) : Int) from rfl, h1]
  rw [List.drop_zero] at h2
  simp only [Option.bind_some]
  rw [show ((0 : Nat) : Int) = 0 from rfl, h2]

theorem is_l0 (k0 : Int) (nm : ByteArray) (l2 : List S28) (b3 : Bool) (s4 s5 s6 : ByteArray) (b7 b8 b9 : Bool) (kd : Int) (ns : List ByteArray) (hn : ns.length < 4398046511104) : ∀ (d k i : Nat) (was : Bool),
    ns.length - i = d → ns.length + d + 1 < k → i ≤ ns.length → (was || (ns.drop i).any fun y => y.toList == nm.toList) = (ns.any fun y => y.toList == nm.toList) →
    woodcutlaw07_TokenIs.l0 k kd ns was ns (ns.length : Int) (i : Int) k0 nm l2 b3 s4 s5 s6 b7 b8 b9 = some true := by
  intro d
  induction d with
  | zero =>
    intro k i was hd hk hi hw
    obtain ⟨k, rfl⟩ : ∃ m, k = m + 1 := ⟨k - 1, by omega⟩
    rw [List.drop_eq_nil_of_le (by omega)] at hw
    simp only [woodcutlaw07_TokenIs.l0]
    rw [if_neg (by omega)]
    have hany : (ns.any fun y => nm.toList == y.toList) = was := by
      rw [← show (was || ([] : List ByteArray).any fun y => y.toList == nm.toList) = was by simp, hw]
      congr 1
      funext y
      exact BEq.comm
    unfold token_Token_Is.f
    by_cases he : k0 = kd
    · rw [if_pos he, contains_f ns nm hn k (by omega), hany]
      simp only [Option.bind_some]
      cases was <;> simp [he]
    · rw [if_neg he]
      simp only [Option.bind_some]
      cases was <;> simp [he]
  | succ d ih =>
    intro k i was hd hk hi hw
    obtain ⟨k, rfl⟩ : ∃ m, k = m + 1 := ⟨k - 1, by omega⟩
    have hlt : i < ns.length := by omega
    simp only [woodcutlaw07_TokenIs.l0]
    rw [if_pos (by omega), if_pos (by omega), if_pos (by omega), rdS hlt, wr1 hlt hn]
    rw [List.drop_eq_getElem_cons hlt, List.any_cons] at hw
    cases was with
    | true =>
      rw [if_pos rfl]
      exact ih k (i + 1) true (by omega) (by omega) (by omega) (by simpa using hw)
    | false =>
      rw [if_neg (by simp)]
      exact ih k (i + 1) _ (by omega) (by omega) (by omega) (by simpa using hw)

/-- **TokenIs, plainly.** -/
theorem tokenIs_pure (a0 : Int) (a1 : ByteArray) (l2 : List S28) (a3 : Bool) (a4 a5 a6 : ByteArray) (a7 a8 a9 : Bool) (kd : Int) (ns : List ByteArray) :
    ∃ k, woodcutlaw07_TokenIs.f k a0 a1 l2 a3 a4 a5 a6 a7 a8 a9 kd ns = some true := by
  refine ⟨2 * ns.length + 2, ?_⟩
  unfold woodcutlaw07_TokenIs.f woodcutlaw07_head.f
  simp only [Option.bind_some, if_true]
  by_cases h : (ns.length : Int) > 20
  · rw [if_pos h]
  · rw [if_neg h]
    exact is_l0 a0 a1 l2 a3 a4 a5 a6 a7 a8 a9 kd ns (by omega) ns.length _ 0 false (by omega) (by omega) (by omega) (by simp)

end Go.Proofs.Ytccadgnbomgpcaa.Tk
