/-
  The plain law of TokenAlike: for any two lists of attributes and any turn, the printed function answers true.
-/
import Derived.Test.YtccadgnbomgpcaaTkPlain
import Derived.Test.YtccadgnbomgpcaaTk16
namespace Go.Proofs.Ytccadgnbomgpcaa.Tk
open Go.RowKit Go.Proofs.YtccadgnbomgpcaaW.PrintWords Go.Proofs.YtccadgnbomgpcaaW.PrintLast Go.Proofs.YtccadgnbomgpcaaW.PrintMore

/-- n & 255. -/
theorem and255 (n : Int) : Go.bits .and .i64 n 255 = n % 256 := by
  show IntKind.i64.wrap ((BitVec.ofInt 64 n &&& BitVec.ofInt 64 255).toNat : Int) = _
  have h1 : (BitVec.ofInt 64 n &&& BitVec.ofInt 64 255).toNat = (BitVec.ofInt 64 n).toNat % 256 := by
    rw [BitVec.toNat_and, show (BitVec.ofInt 64 255).toNat = 2 ^ 8 - 1 from by decide, Nat.and_two_pow_sub_one_eq_mod]
  have h2 : (BitVec.ofInt 64 n).toNat = (n % 18446744073709551616).toNat := by
    rw [BitVec.toNat_ofInt]
    rfl
  rw [h1, h2]
  have h3 : (((n % 18446744073709551616).toNat % 256 : Nat) : Int) = n % 256 := by omega
  rw [h3, IntKind.wrap_i64]
  omega

/-- What stands at place j when a list is turned by t. -/
def turned (l : List S28) (t i : Nat) : List S28 := (List.range i).map fun j => rd_T28 l (((j + t) % l.length : Nat) : Int)
theorem turned_succ (l : List S28) (t i : Nat) : turned l t (i + 1) = turned l t i ++ [rd_T28 l (((i + t) % l.length : Nat) : Int)] := by simp [turned, List.range_succ]
theorem turned_length (l : List S28) (t i : Nat) : (turned l t i).length = i := by simp [turned]
theorem turned_mem {l : List S28} {t : Nat} : ∀ y ∈ turned l t l.length, y ∈ l := by
  intro y hy
  unfold turned at hy
  rw [List.mem_map] at hy
  obtain ⟨j, hj, rfl⟩ := hy
  rw [List.mem_range] at hj
  have hlt : (j + t) % l.length < l.length := Nat.mod_lt _ (by omega)
  rw [rdT hlt]
  exact List.getElem_mem hlt
theorem mem_turned {l : List S28} {t : Nat} : ∀ x ∈ l, x ∈ turned l t l.length := by
  intro x hx
  obtain ⟨p, hp, rfl⟩ := List.getElem_of_mem hx
  unfold turned
  rw [List.mem_map]
  have hs : t % l.length < l.length := Nat.mod_lt _ (by omega)
  have key : ∀ j, (j + t % l.length) % l.length = p → rd_T28 l (((j + t) % l.length : Nat) : Int) = l[p] := fun j hj => by
    have : (j + t) % l.length = p := by rw [← hj, Nat.add_mod j t, Nat.add_mod j (t % l.length), Nat.mod_mod]
    rw [this, rdT hp]
  by_cases h : t % l.length ≤ p
  · exact ⟨p - t % l.length, by rw [List.mem_range]; omega, key _ (by rw [Nat.sub_add_cancel h]; exact Nat.mod_eq_of_lt hp)⟩
  · refine ⟨p + l.length - t % l.length, by rw [List.mem_range]; omega, key _ ?_⟩
    rw [Nat.sub_add_cancel (by omega), Nat.add_mod_right]
    exact Nat.mod_eq_of_lt hp

theorem alikeLaw_l1 (a b once : List S28) (turn : Int) (F : Bool) (hF : F = alikeL a b) (hu : Uniq once) (ha : a.length < 4398046511104) (hb : b.length < 4398046511104) (ho : once.length ≤ a.length) : ∀ (d k i : Nat), once.length - i = d → a.length + d + 1 < k → i ≤ once.length →
    woodcutlaw07_TokenAlike.l1 k a b turn F once (turned once (turn % 256).toNat i) (once.length : Int) (i : Int) = some true := by
  intro d
  induction d with
  | zero =>
    intro k i hd hk hi
    obtain ⟨k, rfl⟩ : ∃ m, k = m + 1 := ⟨k - 1, by omega⟩
    obtain rfl : i = once.length := by omega
    simp only [woodcutlaw07_TokenAlike.l1]
    rw [if_neg (by omega), alike_f ha hb (by omega), alike_f (by omega) (by rw [turned_length]; omega) (by omega)]
    simp only [Option.bind_some]
    rw [hF, if_pos (by simp), alike_of hu (by rw [turned_length]) turned_mem mem_turned]
  | succ d ih =>
    intro k i hd hk hi
    obtain ⟨k, rfl⟩ : ∃ m, k = m + 1 := ⟨k - 1, by omega⟩
    have hlt : i < once.length := by omega
    have hix : Int.tmod (wrap64 ((i : Int) + Go.bits .and .i64 turn 255)) (once.length : Int) = (((i + (turn % 256).toNat) % once.length : Nat) : Int) := by
      rw [and255]
      have h1 : wrap64 ((i : Int) + turn % 256) = ((i + (turn % 256).toNat : Nat) : Int) := by unfold wrap64; omega
      rw [h1, Int.tmod_eq_emod_of_nonneg (by omega)]
      rfl
    have hm : (i + (turn % 256).toNat) % once.length < once.length := Nat.mod_lt _ (by omega)
    simp only [woodcutlaw07_TokenAlike.l1]
    rw [if_pos (by omega), if_neg (by omega), hix, if_pos (by omega), if_pos (by omega), if_pos (by rw [turned_length]; omega), wr2 hlt (by omega)]
    have := ih k (i + 1) (by omega) (by omega) (by omega)
    rw [turned_succ] at this
    exact this

theorem alikeLaw_l0 (a b : List S28) (turn : Int) (ha : a.length < 4398046511104) (hb : b.length < 4398046511104) : ∀ (d k i : Nat) (F : Bool), a.length - i = d → b.length + 3 * a.length + d + 5 < k → i ≤ a.length →
    (F && (a.drop i).all fun x => decide (getOf b x.f0 = (x.f1, true))) = alikeL a b →
    woodcutlaw07_TokenAlike.l0 k a b turn F a (a.length : Int) (i : Int) = some true := by
  intro d
  induction d with
  | zero =>
    intro k i F hd hk hi hF
    obtain ⟨k, rfl⟩ : ∃ m, k = m + 1 := ⟨k - 1, by omega⟩
    have ho := onceL_length a []
    rw [List.length_nil, Nat.zero_add] at ho
    rw [List.drop_eq_nil_of_le (by omega)] at hF
    simp only [woodcutlaw07_TokenAlike.l0]
    rw [if_neg (by omega), once_f ha (by omega)]
    simp only [Option.bind_some]
    exact alikeLaw_l1 a b (onceL [] a) turn F (by simpa using hF) (onceL_uniq a [] List.Pairwise.nil) ha hb ho (onceL [] a).length k 0 (by omega) (by omega) (by omega)
  | succ d ih =>
    intro k i F hd hk hi hF
    obtain ⟨k, rfl⟩ : ∃ m, k = m + 1 := ⟨k - 1, by omega⟩
    have hlt : i < a.length := by omega
    rw [List.drop_eq_getElem_cons hlt, List.all_cons] at hF
    simp only [woodcutlaw07_TokenAlike.l0]
    rw [if_pos (by omega), if_pos (by omega), if_pos (by omega), rdT hlt, first_f _ hb (by omega)]
    simp only [Option.bind_some]
    cases F with
    | false =>
      rw [if_neg (by simp), wr2 hlt ha]
      exact ih k (i + 1) false (by omega) (by omega) (by omega) (by simpa using hF)
    | true =>
      rw [if_pos rfl]
      rcases first_get b a[i].f0 0 with ⟨h1, h2⟩ | ⟨j, hj, h1, h2, h3⟩
      · rw [h1, if_neg (by omega), wr2 hlt ha]
        refine ih k (i + 1) false (by omega) (by omega) (by omega) ?_
        rw [← hF, getOf_none h2]
        simp
      · rw [h1]
        have hmx : mx (((0 + j : Nat) : Int)) 0 = (j : Int) := by unfold mx; omega
        rw [if_pos (by omega), hmx, if_pos (by omega), if_pos (by omega), wr2 hlt ha, rdT hj, bytes_beq]
        refine ih k (i + 1) _ (by omega) (by omega) (by omega) ?_
        rw [← hF, h3]
        simp

/-- **TokenAlike, plainly.** -/
theorem tokenAlike_pure (a b : List S28) (turn : Int) : ∃ k, woodcutlaw07_TokenAlike.f k a b turn = some true := by
  refine ⟨b.length + 4 * a.length + 10, ?_⟩
  unfold woodcutlaw07_TokenAlike.f woodcutlaw07_head.f
  simp only [Option.bind_some, if_true]
  by_cases h : (a.length : Int) > 30
  · rw [if_pos h]
    simp [woodcutlaw07_TokenAlike.j0]
  · rw [if_neg h]
    obtain ⟨k, hk⟩ : ∃ m, b.length + 4 * a.length + 10 = m + 1 := ⟨b.length + 4 * a.length + 9, rfl⟩
    rw [hk]
    simp only [woodcutlaw07_TokenAlike.j0]
    by_cases h2 : (b.length : Int) > 30
    · rw [if_pos (by simpa using h2)]
    · rw [if_neg (by simpa using h2)]
      refine alikeLaw_l0 a b turn (by omega) (by omega) a.length k 0 _ (by omega) (by omega) (by omega) ?_
      unfold alikeL
      rw [List.drop_zero]
      congr 1
      by_cases h3 : a.length = b.length
      · simp [h3]
      · have : ¬ ((a.length : Int) = (b.length : Int)) := by omega
        simp [h3, this]

end Go.Proofs.Ytccadgnbomgpcaa.Tk
