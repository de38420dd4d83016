-- text.one and the plain word oneL are one.
import Derived.Test.YtccadgnbomgpcaaTx20
import Derived.Test.YtccadgnbomgpcaaTxPl
namespace Go.Proofs.Ytccadgnbomgpcaa.Tx
open Go.RowKit Go.Proofs.YtccadgnbomgpcaaW.PrintWords Go.Proofs.YtccadgnbomgpcaaW.PrintLast Go.Proofs.YtccadgnbomgpcaaW.PrintMore
set_option linter.unusedVariables false
set_option linter.unusedSimpArgs false

theorem wrap32_id {x : Int} (h0 : 0 ≤ x) (h1 : x < 2147483648) : wrap32 x = x := by
  unfold wrap32
  have : (x + 2147483648) % 4294967296 = x + 2147483648 := Int.emod_eq_of_lt (by omega) (by omega)
  omega
theorem wrap64_id {x : Int} (h0 : 0 ≤ x) (h1 : x < 2147483648) : wrap64 x = x := by
  unfold wrap64
  have : (x + 9223372036854775808) % 18446744073709551616 = x + 9223372036854775808 := Int.emod_eq_of_lt (by omega) (by omega)
  omega

theorem need_eq (a : Int) (h : 0 ≤ a ∧ a < 256) : text_need.f 4 a = some (((lead a).1 : Int), (lead a).2.1, (lead a).2.2.1) := by
  obtain ⟨n, rfl⟩ := Int.eq_ofNat_of_zero_le h.1
  have all : (List.range 256).all (fun n => text_need.f 4 (n : Int) == some (((lead (n : Int)).1 : Int), (lead (n : Int)).2.1, (lead (n : Int)).2.2.1)) = true := by kernel_rfl
  have := List.all_eq_true.1 all n (List.mem_range.2 (by omega))
  exact eq_of_beq this

def bnd : Nat → Int
  | 0 => 2097152
  | 1 => 32768
  | 2 => 512
  | 3 => 8
  | _ => 0
theorem bnd_le (m : Nat) : bnd m ≤ 2097152 ∧ (bnd (m + 1) * 64 ≤ bnd m) ∧ bnd (m + 1) ≤ 32768 := by
  rcases m with _ | _ | _ | _ | m <;> simp [bnd]

theorem rd_nat {l t : List Int} {i : Nat} {c : Int} (h : l.drop i = c :: t) : rd l (i : Int) = c ∧ (i : Int) < l.length := by
  have hi : i < l.length := by
    refine Nat.lt_of_not_le fun h' => ?_
    rw [List.drop_eq_nil_of_le h'] at h; cases h
  refine ⟨?_, by exact_mod_cast hi⟩
  have h0 := List.getElem_cons_drop hi
  rw [h] at h0
  injection h0 with h1 _
  simp [rd, hi, h1]

theorem l0_eq (l : List Int) (hB : Bytes l) (n : Nat) (hn : n ≤ 3) : ∀ (m i : Nat) (lo hi x : Int) (k : Nat), i + m = n + 1 → 1 ≤ i → 128 ≤ lo → hi ≤ 191 → 0 ≤ x → x + 1 ≤ bnd m → m < k →
    text_one.l0 k l n lo hi x i = some ((cnt m x i lo hi (l.drop i)).1, ((cnt m x i lo hi (l.drop i)).2 : Int)) := by
  intro m
  induction m with
  | zero =>
    intro i lo hi x k hi1 hi2 hlo hhi hx hxm hk
    obtain ⟨k, rfl⟩ : ∃ j, k = j + 1 := ⟨k - 1, by omega⟩
    rw [text_one.l0, if_neg (by omega)]
    simp only [cnt, Option.some.injEq, Prod.mk.injEq, true_and]
    rw [wrap64_id (by omega) (by omega)]; omega
  | succ m ih =>
    intro i lo hi x k hi1 hi2 hlo hhi hx hxm hk
    obtain ⟨k, rfl⟩ : ∃ j, k = j + 1 := ⟨k - 1, by omega⟩
    rw [text_one.l0, if_pos (by omega)]
    cases hd : l.drop i with
    | nil =>
      have : l.length ≤ i := List.drop_eq_nil_iff.1 hd
      rw [if_pos (by omega)]
      simp [cnt]
    | cons c t =>
      obtain ⟨hc, hl⟩ := rd_nat hd
      have hcb : 0 ≤ c ∧ c < 256 := hB c (List.mem_of_mem_drop (by rw [hd]; simp))
      have ht : l.drop (i + 1) = t := by rw [← List.drop_drop, hd]; rfl
      rw [if_neg (by omega), if_pos (by omega), if_pos hl, hc]
      simp only [cnt]
      by_cases h1 : c < lo
      · rw [if_pos h1, if_pos h1]
      · rw [if_neg h1, if_neg h1]
        by_cases h2 : hi < c
        · rw [if_pos (by omega), if_pos h2]
        · rw [if_neg (by omega), if_neg h2]
          obtain ⟨b1, b2, b3⟩ := bnd_le m
          have hx6 : x + 1 ≤ 32768 := by omega
          have e1 : wrap32 (x * 64) = x * 64 := wrap32_id (by omega) (by omega)
          have e2 : Go.bits .and .u8 c 63 = c - 128 := by rw [u8_and63 c hcb.1 hcb.2]; omega
          have e3 : wrap32 (c - 128) = c - 128 := wrap32_id (by omega) (by omega)
          have e4 : Go.bits .or .i32 (x * 64) (c - 128) = x * 64 + (c - 128) := i32_or6 _ _ (by omega) (by omega) (by omega) (by omega) (by omega)
          have e5 : wrap64 ((i : Int) + 1) = ((i + 1 : Nat) : Int) := by rw [wrap64_id (by omega) (by omega)]; omega
          rw [e1, e2, e3, e4, e5]
          rw [← ht]
          clear e1 e2 e3 e4 e5 hd ht hc hl
          exact ih (i + 1) 128 191 (x * 64 + (c - 128)) k (by omega) (by omega) (by omega) (by omega) (by omega) (by omega) (by omega)

theorem one_eq {b : List Int} (hB : Bytes b) (hne : b ≠ []) : text_one.f 8 b = some ((oneL b).1, ((oneL b).2 : Int)) := by
  cases b with
  | nil => exact absurd rfl hne
  | cons a t =>
    have ha := hB a (by simp)
    have hr : rd (a :: t) 0 = a := rfl
    have hl : 0 < ((a :: t).length : Int) := by simp only [List.length_cons]; omega
    have h31 : a < 2147483648 := by omega
    rw [text_one.f, if_pos hl, hr, oneL_cons]
    clear hr
    by_cases h1 : a < 128
    · rw [if_pos h1, if_pos h1, wrap32_id ha.1 h31]; rfl
    · rw [if_neg h1, if_neg h1]
      have hneed : text_need.f 8 a = some (((lead a).1 : Int), (lead a).2.1, (lead a).2.2.1) := by
        have m1 := text_need.mono a
        exact m1 7 _ (m1 6 _ (m1 5 _ (m1 4 _ (need_eq a ha))))
      rw [hneed, Option.bind_some]
      dsimp only
      by_cases h2 : (lead a).1 = 0
      · rw [if_pos (by omega), if_pos h2]; rfl
      · rw [if_neg (by omega), if_neg h2, if_pos (by omega), wrap32_id ha.1 h31]
        have key : (lead a).1 ≤ 3 ∧ 128 ≤ (lead a).2.1 ∧ (lead a).2.2.1 ≤ 191 ∧ 0 ≤ a - (lead a).2.2.2 ∧ a - (lead a).2.2.2 + 1 ≤ bnd (lead a).1 ∧ Go.bits .and .i32 a (shr .i32 63 ((lead a).1 : Int)) = a - (lead a).2.2.2 := by
          have m5 : 128 ≤ a → a < 256 → Go.bits .and .i32 a 31 = a % 32 := fun _ _ => bits_mask .i32 31 (by decide) wraps_i32 5 (by decide) a (by omega) (by omega)
          have m4 : 128 ≤ a → a < 256 → Go.bits .and .i32 a 15 = a % 16 := fun _ _ => bits_mask .i32 31 (by decide) wraps_i32 4 (by decide) a (by omega) (by omega)
          have m3 : 128 ≤ a → a < 256 → Go.bits .and .i32 a 7 = a % 8 := fun _ _ => bits_mask .i32 31 (by decide) wraps_i32 3 (by decide) a (by omega) (by omega)
          have s1 : shr .i32 63 1 = 31 := by decide
          have s2 : shr .i32 63 2 = 15 := by decide
          have s3 : shr .i32 63 3 = 7 := by decide
          rcases lead_cases a with ⟨e, h3⟩ | ⟨e, h3⟩ | ⟨e, h3⟩ | ⟨e, h3⟩ | ⟨e, h3⟩ | ⟨e, h3⟩ | ⟨e, h3⟩ | ⟨e, h3⟩ <;> rw [e] <;> rw [e] at h2 <;> (try exact absurd rfl h2) <;> dsimp only <;> refine ⟨by omega, by omega, by omega, by omega, by (simp only [bnd]; omega), ?_⟩
          · rw [show ((1 : Nat) : Int) = 1 from rfl, s1, m5 (by omega) (by omega)]; omega
          all_goals first | (rw [show ((2 : Nat) : Int) = 2 from rfl, s2, m4 (by omega) (by omega)]; omega) | (rw [show ((3 : Nat) : Int) = 3 from rfl, s3, m3 (by omega) (by omega)]; omega)
        obtain ⟨k1, k2, k3, k4, k5, k6⟩ := key
        rw [k6]
        exact l0_eq (a :: t) hB _ k1 (lead a).1 1 _ _ _ 8 (by omega) (by omega) k2 k3 k4 k5 (by omega)

end Go.Proofs.Ytccadgnbomgpcaa.Tx
