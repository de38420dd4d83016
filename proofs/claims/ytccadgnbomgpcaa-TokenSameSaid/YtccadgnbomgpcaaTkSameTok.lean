/-
  slices.Equal at attributes, and whether two tokens are the same: for any two tokens of less than 2^42 attributes.
-/
import Derived.Test.YtccadgnbomgpcaaTkPlain
import Derived.Test.YtccadgnbomgpcaaTk4
namespace Go.Proofs.Ytccadgnbomgpcaa.Tk
open Go.RowKit Go.Proofs.YtccadgnbomgpcaaW.PrintWords Go.Proofs.YtccadgnbomgpcaaW.PrintLast Go.Proofs.YtccadgnbomgpcaaW.PrintMore

theorem equal_l0 (a b : List S28) (hab : a.length = b.length) (hn : a.length < 4398046511104) : ∀ (d k i : Nat), a.length - i = d → d < k → i ≤ a.length →
    token_Attr_43.l0 k a b (a.length : Int) (i : Int) = some (decide (a.drop i = b.drop i)) := by
  intro d
  induction d with
  | zero =>
    intro k i hd hk hi
    obtain ⟨k, rfl⟩ : ∃ m, k = m + 1 := ⟨k - 1, by omega⟩
    simp only [token_Attr_43.l0]
    rw [if_neg (by omega), List.drop_eq_nil_of_le (by omega), List.drop_eq_nil_of_le (by omega)]
    simp
  | succ d ih =>
    intro k i hd hk hi
    obtain ⟨k, rfl⟩ : ∃ m, k = m + 1 := ⟨k - 1, by omega⟩
    have hlt : i < a.length := by omega
    have hlt2 : i < b.length := by omega
    simp only [token_Attr_43.l0]
    rw [if_pos (by omega), if_pos (by omega), if_pos (by omega), if_pos (by omega), rdT hlt, rdT hlt2, List.drop_eq_getElem_cons hlt, List.drop_eq_getElem_cons hlt2, bytes_beq, bytes_beq]
    by_cases he : a[i] = b[i]
    · rw [if_neg (by rw [he]; simp), wr2 hlt hn, ih k (i + 1) (by omega) (by omega) (by omega)]
      simp only [he, List.cons.injEq, true_and]
    · rw [if_pos (by
        rw [S28_eq] at he
        by_cases h1 : a[i].f0 = b[i].f0
        · have h2 : ¬ a[i].f1 = b[i].f1 := fun e => he ⟨h1, e⟩
          simp [h2]
        · simp [h1])]
      simp only [he, List.cons.injEq, false_and, decide_false]
theorem equal_f (a b : List S28) (hn : a.length < 4398046511104) {k : Nat} (hk : a.length < k) : token_Attr_43.f k a b = some (decide (a = b)) := by
  unfold token_Attr_43.f
  by_cases h : a.length = b.length
  · rw [if_pos (by omega)]
    have := equal_l0 a b h hn a.length k 0 (by omega) hk (by omega)
    rwa [List.drop_zero, List.drop_zero] at this
  · rw [if_neg (by omega)]
    have : ¬ a = b := fun e => h (by rw [e])
    simp [this]

/-- What Same answers, past the attributes. -/
def sameRest (a0 : Int) (a1 : ByteArray) (a3 : Bool) (a4 a5 a6 : ByteArray) (a7 a8 a9 : Bool) (b0 : Int) (b1 : ByteArray) (b3 : Bool) (b4 b5 b6 : ByteArray) (b7 b8 b9 : Bool) : Bool :=
  a0 == b0 && (a1.toList == b1.toList && (a3 == b3 && (a4.toList == b4.toList && (a5.toList == b5.toList && (a6.toList == b6.toList && (a7 == b7 && (a8 == b8 && a9 == b9)))))))

set_option maxHeartbeats 8000000 in
set_option maxRecDepth 100000 in
theorem same_calls (a0 : Int) (a1 : ByteArray) (A2 : Option Addr) (c2 : Nat) (l2 : List S28) (a3 : Bool) (a4 a5 a6 : ByteArray) (a7 a8 a9 : Bool)
    (b0 : Int) (b1 : ByteArray) (B2 : Option Addr) (d2 : Nat) (m2 : List S28) (b3 : Bool) (b4 b5 b6 : ByteArray) (b7 b8 b9 : Bool) (w : World)
    (hr : Kd.C k28 w A2 l2.length l2) (hc : l2.length ≤ c2) (hr' : Kd.C k28 w B2 m2.length m2) (hc' : m2.length ≤ d2) (hl : l2.length < 4398046511104) :
    Calls Try.prog 15 #[.agg #[.int .i64 a0, .string a1, .slice A2 l2.length c2, .bool a3, .string a4, .string a5, .string a6, .bool a7, .bool a8, .bool a9], .agg #[.int .i64 b0, .string b1, .slice B2 m2.length d2, .bool b3, .string b4, .string b5, .string b6, .bool b7, .bool b8, .bool b9]] w
      fun e w' => e = .returned (.bool (decide (l2 = m2) && sameRest a0 a1 a3 a4 a5 a6 a7 a8 a9 b0 b1 b3 b4 b5 b6 b7 b8 b9)) ∧ Below w.heap.size w w' := by
  have hu24 := Try.underlying24
  have HE := Aside0.mk (token_Attr_43.calls (l2.length + 1) A2 c2 l2 B2 d2 m2 _ ((w.alloc (.cells #[.int .i64 a0, .string a1, .slice A2 l2.length c2, .bool a3, .string a4, .string a5, .string a6, .bool a7, .bool a8, .bool a9] 24)).alloc (.cells #[.int .i64 b0, .string b1, .slice B2 m2.length d2, .bool b3, .string b4, .string b5, .string b6, .bool b7, .bool b8, .bool b9] 24)) (Kd.C_alloc (Kd.C_alloc hr _) _) hc (Kd.C_alloc (Kd.C_alloc hr' _) _) hc' (equal_f l2 m2 hl (Nat.lt_succ_self _)))
  clear hr hr' hc hc' hl
  generalize decide (l2 = m2) = E at HE ⊢
  cases E with
  | false =>
    go_enter Try.func15, Try.ntmps15
    go_wp2_with fail
    refine HE.out.mono ?_
    rintro e w' ⟨rfl, ⟨nd, rfl⟩⟩
    clear HE
    go_wp2
    go_ret
    exact ⟨rfl, pw_below_drewN (below_alloc (below_alloc (Below.refl _ _) _) _) _⟩
  | true =>
    go_enter Try.func15, Try.ntmps15
    go_wp2_with fail
    refine HE.out.mono ?_
    rintro e w' ⟨rfl, ⟨nd, rfl⟩⟩
    clear HE hu24
    go_wp2
    all_goals (go_ret; exact ⟨by simp [sameRest, *], pw_below_drewN (below_alloc (below_alloc (Below.refl _ _) _) _) _⟩)

end Go.Proofs.Ytccadgnbomgpcaa.Tk
