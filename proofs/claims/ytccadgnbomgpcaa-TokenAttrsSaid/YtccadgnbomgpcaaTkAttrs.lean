/-
  The plain law of TokenAttrs: for any attributes, name and value, the printed function answers true.
-/
import Derived.Test.YtccadgnbomgpcaaTkPlain
import Derived.Test.YtccadgnbomgpcaaTk23
namespace Go.Proofs.Ytccadgnbomgpcaa.Tk
open Go.RowKit Go.Proofs.YtccadgnbomgpcaaW.PrintWords Go.Proofs.YtccadgnbomgpcaaW.PrintLast Go.Proofs.YtccadgnbomgpcaaW.PrintMore

theorem idx_here (p : S28 → Bool) : ∀ (l : List S28) (k i : Nat) (hi : i < l.length), p l[i] = true → (idxOf p l k = ((k + i : Nat) : Int) ↔ (l.take i).any p = false)
  | [], _, _, hi, _ => by cases hi
  | x :: l, k, i, hi, hp => by
    unfold idxOf
    rcases i with _ | i
    · have : p x = true := hp
      simp [this]
    · rw [List.take_succ_cons, List.any_cons]
      by_cases hx : p x = true
      · rw [if_pos hx, hx]
        constructor
        · intro h; omega
        · intro h; simp at h
      · rw [if_neg hx]
        have hx' : p x = false := by simpa using hx
        have ih := idx_here p l (k + 1) i (by simpa using hi) (by simpa using hp)
        rw [hx', Bool.false_or, ← ih]
        constructor <;> intro h <;> rw [h] <;> omega

theorem onceL_snoc : ∀ (l acc : List S28) (x : S28), onceL acc (l ++ [x]) = if hasName (acc ++ l) x.f0 = true then onceL acc l else onceL acc l ++ [x]
  | [], acc, x => by simp [onceL]
  | y :: l, acc, x => by
    rw [List.cons_append]
    unfold onceL
    by_cases h : hasName acc y.f0 = true
    · rw [if_pos h, if_pos h, onceL_snoc l acc x]
      have : hasName (acc ++ l) x.f0 = hasName (acc ++ y :: l) x.f0 := by
        rw [hasName_append, hasName_append, show y :: l = [y] ++ l from rfl, hasName_append]
        by_cases hx : y.f0 = x.f0
        · rw [hx] at h
          simp [h]
        · have : hasName [y] x.f0 = false := by simp [hasName, hx]
          rw [this, Bool.false_or]
      rw [this]
    · rw [if_neg h, if_neg h, onceL_snoc l (acc ++ [y]) x]
      simp

theorem attrs_l0 (l : List S28) (n v : ByteArray) (hn0 : l.length < 4398046511103) : ∀ (d k i : Nat), l.length - i = d → 3 * l.length + d + 9 < k → i ≤ l.length →
    woodcutlaw07_TokenAttrs.l0 k l n v l (getOf l n).1 (getOf l n).2 (setL n v l) ((l.take i).filter fun a => !decide (a.f0 = n)) (onceL [] (l.take i)) l (l.length : Int) (i : Int) = some true := by
  have hn : l.length < 4398046511104 := by omega
  intro d
  induction d with
  | zero =>
    intro k i hd hk hi
    obtain ⟨k, rfl⟩ : ∃ m, k = m + 1 := ⟨k - 1, by omega⟩
    rw [List.take_of_length_le (by omega)]
    have hs := setL_length n v l
    have hw := List.length_filter_le (fun a : S28 => !decide (a.f0 = n)) l
    have ho := onceL_length l []
    rw [List.length_nil, Nat.zero_add] at ho
    simp only [woodcutlaw07_TokenAttrs.l0]
    rw [if_neg (by omega)]
    unfold token_Token_Get.f
    rw [get_f n hn]
    simp only [Option.bind_some]
    rw [set_f n v hn (by omega)]
    simp only [Option.bind_some]
    rw [same_f _ _ (by omega) (by omega), without_f n hn]
    simp only [Option.bind_some, decide_true, if_true]
    rw [same_f _ _ (by omega) (by omega), once_f hn (by omega)]
    simp only [Option.bind_some, decide_true, if_true]
    rw [same_f _ _ (by omega) (by omega), same_f _ _ (by omega) (by omega)]
    simp
  | succ d ih =>
    intro k i hd hk hi
    obtain ⟨k, rfl⟩ : ∃ m, k = m + 1 := ⟨k - 1, by omega⟩
    have hlt : i < l.length := by omega
    have h1 := ih k (i + 1) (by omega) (by omega) (by omega)
    have hf := List.length_filter_le (fun a : S28 => !decide (a.f0 = n)) (l.take i)
    have ho := onceL_length (l.take i) []
    have ht : (l.take i).length ≤ i := List.length_take_le i l
    rw [List.take_succ_eq_append_getElem hlt, List.filter_append, onceL_snoc, List.nil_append] at h1
    have hh := idx_here (fun a => decide (a.f0 = l[i].f0)) l 0 i hlt (by simp)
    rw [Nat.zero_add] at hh
    rw [show (l.take i).any (fun a => decide (a.f0 = l[i].f0)) = hasName (l.take i) l[i].f0 from rfl] at hh
    simp only [List.length_nil, Nat.zero_add] at ho
    simp only [woodcutlaw07_TokenAttrs.l0]
    rw [if_pos (by omega), if_pos (by omega), if_pos (by omega), rdT hlt, first_f _ hn (by omega)]
    simp only [Option.bind_some]
    by_cases he : l[i].f0 = n
    · rw [if_pos (bytes_inj.2 he)]
      have e1 : List.filter (fun a => !decide (a.f0 = n)) [l[i]] = [] := by simp [he]
      rw [e1, List.append_nil] at h1
      by_cases hq : idxOf (fun a => decide (a.f0 = l[i].f0)) l 0 = (i : Int)
      · rw [if_neg (by rw [hh.1 hq]; simp)] at h1
        rw [if_pos hq, if_pos (by omega), wr2 hlt hn]
        exact h1
      · rw [if_pos (by cases hz : hasName (l.take i) l[i].f0 with | true => rfl | false => exact absurd (hh.2 hz) hq)] at h1
        rw [if_neg hq, wr2 hlt hn]
        exact h1
    · rw [if_neg (fun e => he (bytes_inj.1 e)), if_pos (by omega)]
      have e1 : List.filter (fun a => !decide (a.f0 = n)) [l[i]] = [l[i]] := by simp [he]
      rw [e1] at h1
      by_cases hq : idxOf (fun a => decide (a.f0 = l[i].f0)) l 0 = (i : Int)
      · rw [if_neg (by rw [hh.1 hq]; simp)] at h1
        rw [if_pos hq, if_pos (by omega), wr2 hlt hn]
        exact h1
      · rw [if_pos (by cases hz : hasName (l.take i) l[i].f0 with | true => rfl | false => exact absurd (hh.2 hz) hq)] at h1
        rw [if_neg hq, wr2 hlt hn]
        exact h1

/-- **TokenAttrs, plainly.** -/
theorem tokenAttrs_pure (l : List S28) (n v : ByteArray) : ∃ k, woodcutlaw07_TokenAttrs.f k l n v = some true := by
  refine ⟨4 * l.length + 12, ?_⟩
  unfold woodcutlaw07_TokenAttrs.f woodcutlaw07_head.f
  simp only [Option.bind_some, if_true]
  by_cases h : (l.length : Int) > 40
  · rw [if_pos h]
  · rw [if_neg h]
    have hn : l.length < 4398046511104 := by omega
    simp only [List.length_nil, Nat.zero_add, List.nil_append]
    rw [if_pos hn, get_f n hn]
    simp only [Option.bind_some]
    rw [first_f n hn (by omega)]
    simp only [Option.bind_some]
    have hloop := attrs_l0 l n v (by omega) l.length (4 * l.length + 10) 0 (by omega) (by omega) (by omega)
    rw [List.take_zero] at hloop
    obtain ⟨k, hk⟩ : ∃ m, 4 * l.length + 12 = m + 1 := ⟨_, rfl⟩
    obtain rfl : k = 4 * l.length + 10 + 1 := by omega
    rw [hk]
    rcases first_get l n 0 with ⟨h1, h2⟩ | ⟨j, hj, h1, h2, h3⟩
    · rw [h1]
      rw [setL_none h2, getOf_none h2] at hloop
      rw [getOf_none h2]
      simp only [woodcutlaw07_TokenAttrs.j0, woodcutlaw07_TokenAttrs.j1]
      rw [show (⟨#[]⟩ : ByteArray).toList = [] from by rw [Lib.toList_data]]
      simp only [List.length_nil, Nat.zero_add, List.nil_append, Option.bind_some]
      rw [if_pos hn]
      simpa [hn, onceL] using hloop
    · rw [h1, Nat.zero_add]
      rw [setL_some hj h1, h3] at hloop
      rw [h3]
      simp only [woodcutlaw07_TokenAttrs.j0, woodcutlaw07_TokenAttrs.j1]
      simp only [List.length_nil, Nat.zero_add, List.nil_append, Option.bind_some]
      have hj1 : (j : Int) ≥ 0 := by omega
      have hj2 : (0 : Int) ≤ (j : Int) := by omega
      have hj3 : (j : Int) < (l.length : Int) := by omega
      rw [if_pos hn, if_pos hj1, if_pos hj2, if_pos hj3, rdT hj]
      simpa [hn, hj, onceL] using hloop

end Go.Proofs.Ytccadgnbomgpcaa.Tk
