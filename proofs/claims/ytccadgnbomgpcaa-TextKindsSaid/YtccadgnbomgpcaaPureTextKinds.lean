import Derived.Test.YtccadgnbomgpcaaTx18
import Derived.Test.YtccadgnbomgpcaaTxHead
namespace Go.Proofs.Ytccadgnbomgpcaa.Pure
open Go.RowKit Go.Proofs.Ytccadgnbomgpcaa.Tx Go.Proofs.YtccadgnbomgpcaaW.PrintWords Go.Proofs.YtccadgnbomgpcaaW.PrintLast
set_option maxRecDepth 100000

def kindsG (k : Nat) (a0 : Int) : Option Bool := if a0 = 9 then (woodcutlaw01_TextKinds.j0 k a0 true) else (if a0 = 10 then (woodcutlaw01_TextKinds.j0 k a0 true) else (if a0 = 12 then (woodcutlaw01_TextKinds.j0 k a0 true) else (if a0 = 13 then (woodcutlaw01_TextKinds.j0 k a0 true) else (woodcutlaw01_TextKinds.j0 k a0 (a0 == 32)))))
theorem kinds_G (k : Nat) (a0 : Int) : woodcutlaw01_TextKinds.f k a0 = kindsG k a0 := by
  unfold woodcutlaw01_TextKinds.f
  rw [head_true, Option.bind_some, if_pos rfl]
  rfl
theorem kinds_small : (List.range 128).all (fun n => kindsG 40 (n : Int) == some true) = true := by kernel_rfl
def hexes : List Int := [48, 49, 50, 51, 52, 53, 54, 55, 56, 57, 97, 98, 99, 100, 101, 102]
theorem rd_hexes (i : Nat) (h : i < 16) : 0 ≤ rd hexes (i : Int) ∧ rd hexes (i : Int) < 128 := by
  have all : (List.range 16).all (fun n => decide (0 ≤ rd hexes (n : Int) ∧ rd hexes (n : Int) < 128)) = true := by kernel_rfl
  have := List.all_eq_true.1 all i (List.mem_range.2 h)
  exact of_decide_eq_true this
theorem kinds_loop (x0 : Int) (hx : x0 < 0 ∨ 128 ≤ x0) (x3 x5 x6 : Bool) (x7 : Int) (k : Nat) : ∀ (m i : Nat), i + m = 16 →
    woodcutlaw01_TextKinds.l0 (m + 1 + k) x0 x3 false x5 x6 x7 hexes 16 (i : Int) = woodcutlaw01_TextKinds.j5 k x0 x3 false x5 x6 x7 x0 := by
  intro m
  induction m with
  | zero =>
    intro i hi
    rw [show 0 + 1 + k = k + 1 by omega, woodcutlaw01_TextKinds.l0, if_neg (by omega), if_neg (by simp)]
  | succ m ih =>
    intro i hi
    obtain ⟨r1, r2⟩ := rd_hexes i (by omega)
    have hlen : (hexes.length : Int) = 16 := rfl
    have e : wrap64 ((i : Int) + 1) = ((i + 1 : Nat) : Int) := by rw [wrap64_id (by omega) (by omega)]; omega
    have ne : ¬ x0 = rd hexes (i : Int) := by omega
    rw [show m + 1 + 1 + k = (m + 1 + k) + 1 by omega, woodcutlaw01_TextKinds.l0, if_pos (by omega), if_pos (by omega), if_pos (by omega), if_neg ne, e]
    have nx := ih (i + 1) (by omega)
    by_cases h1 : x0 ≥ 65
    · rw [if_pos h1, if_neg (by omega)]; exact nx
    · rw [if_neg h1]; exact nx
theorem kinds_big (x0 : Int) (hx : x0 < 0 ∨ 128 ≤ x0) : kindsG 40 x0 = some true := by
  have d (p : Prop) [Decidable p] (h : ¬ p) : decide p = false := decide_eq_false h
  have b32 : (x0 == 32) = false := beq_eq_false_iff_ne.2 (by omega)
  have hj3 : ∀ k, woodcutlaw01_TextKinds.j3 (k + 18) x0 false false false false = woodcutlaw01_TextKinds.j5 k x0 false false false false (-1) x0 := by
    intro k
    rw [woodcutlaw01_TextKinds.j3, Option.bind_some]
    have := kinds_loop x0 hx false false false (-1) k 16 0 rfl
    rw [show k + 17 = 16 + 1 + k by omega]
    exact this
  have hb : text_Blank.f x0 = some false := by
    unfold text_Blank.f; rw [if_neg (by omega), if_neg (by omega), if_neg (by omega), if_neg (by omega), b32]
  have hl : text_Letter.f x0 = some false := by
    unfold text_Letter.f
    rcases hx with h | h
    · rw [if_neg (by omega), if_neg (by omega)]
    · rw [if_pos (by omega), if_neg (by omega), if_pos (by omega), decide_eq_false (by omega)]
  have hd : text_Digit.f x0 = some false := by
    unfold text_Digit.f
    rcases hx with h | h
    · rw [if_neg (by omega)]
    · rw [if_pos (by omega), decide_eq_false (by omega)]
  have hs : text_Small.f x0 = some x0 := by
    unfold text_Small.f
    rcases hx with h | h
    · rw [if_neg (by omega)]
    · rw [if_pos (by omega), if_neg (by omega)]
  have hh : ∀ k, text_Hex.f (k + 1) x0 = some (-1) := by
    intro k
    unfold text_Hex.f
    rw [hd, Option.bind_some, if_neg (by simp)]
    rcases hx with h | h
    · rw [if_neg (by omega), text_Hex.j0, if_neg (by simp), if_neg (by omega)]
    · rw [if_pos (by omega), decide_eq_false (by omega), text_Hex.j0, if_neg (by simp), if_pos (by omega), if_neg (by omega)]
  have h5 : ∀ k, woodcutlaw01_TextKinds.j5 (k + 2) x0 false false false false (-1) x0 = some true := by
    intro k
    rw [woodcutlaw01_TextKinds.j5]
    simp [hb, hl, hd, hh, hs]
  unfold kindsG
  rw [if_neg (by omega), if_neg (by omega), if_neg (by omega), if_neg (by omega), b32]
  rcases hx with h | h
  · rw [woodcutlaw01_TextKinds.j0, if_neg (by omega), woodcutlaw01_TextKinds.j1, if_neg (by omega), woodcutlaw01_TextKinds.j2, if_neg (by omega), hj3 19]
    exact h5 17
  · rw [woodcutlaw01_TextKinds.j0, if_pos (by omega), decide_eq_false (by omega), woodcutlaw01_TextKinds.j1, if_pos (by omega), decide_eq_false (by omega), woodcutlaw01_TextKinds.j2, if_pos (by omega), decide_eq_false (by omega), hj3 19]
    exact h5 17

theorem TextKinds : woodcutlaw01_TextKinds.Pure := by
  intro a0 _
  refine ⟨40, ?_⟩
  rw [kinds_G]
  by_cases h : a0 < 0 ∨ 128 ≤ a0
  · exact kinds_big a0 h
  · obtain ⟨n, rfl⟩ := Int.eq_ofNat_of_zero_le (show 0 ≤ a0 by omega)
    exact eq_of_beq (List.all_eq_true.1 kinds_small n (List.mem_range.2 (by omega)))

end Go.Proofs.Ytccadgnbomgpcaa.Pure
