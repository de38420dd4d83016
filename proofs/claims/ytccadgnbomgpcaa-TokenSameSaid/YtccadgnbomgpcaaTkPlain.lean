/-
  What the printed functions on attributes answer, in plain words: for every list of less than 2^42 attributes and as many rounds as are wanted.
-/
import Derived.Test.YtccadgnbomgpcaaTk11
import Derived.Test.YtccadgnbomgpcaaTk14
import Derived.Test.YtccadgnbomgpcaaTk15
import Derived.Test.YtccadgnbomgpcaaTk18
import Derived.Test.YtccadgnbomgpcaaTk20
import Derived.Test.YtccadgnbomgpcaaTkWithout
import Derived.Lib.Bytes
namespace Go.Proofs.Ytccadgnbomgpcaa.Tk
open Go.RowKit Go.Proofs.YtccadgnbomgpcaaW.PrintWords Go.Proofs.YtccadgnbomgpcaaW.PrintLast Go.Proofs.YtccadgnbomgpcaaW.PrintMore

theorem wr2 {i n : Nat} (h : i < n) (hn : n < 4398046511104) : wrap64 ((i : Int) + 1) = ((i + 1 : Nat) : Int) := by
  unfold wrap64
  omega

theorem bytes_inj {a b : ByteArray} : a.toList = b.toList ↔ a = b := by
  constructor
  · intro h
    rw [Lib.toList_data, Lib.toList_data] at h
    exact ByteArray.ext (Array.ext' h)
  · intro h
    rw [h]
theorem bytes_beq (a b : ByteArray) : (a.toList == b.toList) = decide (a = b) := by
  by_cases h : a = b
  · simp [h]
  · have : ¬ a.toList = b.toList := fun e => h (bytes_inj.1 e)
    simp [h, this]

theorem rdT {l : List S28} {i : Nat} (hi : i < l.length) : rd_T28 l (i : Int) = l[i] := by simp [rd_T28, hi]

/-! ### Get -/
/-- Is there an attribute of that name? -/
def hasName (l : List S28) (n : ByteArray) : Bool := l.any fun a => decide (a.f0 = n)
theorem getOf_nil (n : ByteArray) : getOf [] n = (⟨#[]⟩, false) := rfl
theorem getOf_cons (x : S28) (l : List S28) (n : ByteArray) : getOf (x :: l) n = if x.f0 = n then (x.f1, true) else getOf l n := by
  unfold getOf
  rw [List.find?_cons, bytes_beq]
  by_cases h : x.f0 = n <;> simp [h]
theorem getOf_has (l : List S28) (n : ByteArray) : (getOf l n).2 = hasName l n := by
  induction l with
  | nil => rfl
  | cons x l ih =>
    rw [getOf_cons]
    unfold hasName at ih ⊢
    rw [List.any_cons, ← ih]
    by_cases h : x.f0 = n <;> simp [h]
theorem getOf_append (a b : List S28) (n : ByteArray) : getOf (a ++ b) n = if hasName a n = true then getOf a n else getOf b n := by
  induction a with
  | nil => simp [hasName]
  | cons x a ih =>
    rw [List.cons_append, getOf_cons, getOf_cons, ih]
    by_cases h : x.f0 = n <;> simp [h, hasName]
theorem getOf_none {l : List S28} {n : ByteArray} (h : hasName l n = false) : getOf l n = (⟨#[]⟩, false) := by
  induction l with
  | nil => rfl
  | cons x l ih =>
    unfold hasName at h ih
    rw [List.any_cons] at h
    simp only [Bool.or_eq_false_iff, decide_eq_false_iff_not] at h
    rw [getOf_cons, if_neg h.1, ih h.2]
theorem getOf_of {l : List S28} {n v : ByteArray} (h1 : ∀ y ∈ l, y.f0 = n → y.f1 = v) (h2 : ∃ y ∈ l, y.f0 = n) : getOf l n = (v, true) := by
  induction l with
  | nil => obtain ⟨y, hy, _⟩ := h2; cases hy
  | cons x l ih =>
    rw [getOf_cons]
    by_cases h : x.f0 = n
    · rw [if_pos h, h1 x List.mem_cons_self h]
    · rw [if_neg h]
      refine ih (fun y hy => h1 y (List.mem_cons_of_mem _ hy)) ?_
      obtain ⟨y, hy, e⟩ := h2
      rcases List.mem_cons.1 hy with rfl | hy
      · exact absurd e h
      · exact ⟨y, hy, e⟩
theorem get_f {l : List S28} (n : ByteArray) (hl : l.length < 4398046511104) : token_Get.f l n = some (getOf l n) := by
  unfold token_Get.f
  rw [if_pos hl]

/-! ### first -/
theorem first_l0 (l : List S28) (n : ByteArray) (hn : l.length < 4398046511104) : ∀ (d k i : Nat), l.length - i = d → d < k → i ≤ l.length →
    woodcutlaw07_first.l0 k n l (l.length : Int) (i : Int) = some (idxOf (fun a => decide (a.f0 = n)) (l.drop i) i) := by
  intro d
  induction d with
  | zero =>
    intro k i hd hk hi
    obtain ⟨k, rfl⟩ : ∃ m, k = m + 1 := ⟨k - 1, by omega⟩
    simp only [woodcutlaw07_first.l0]
    rw [if_neg (by omega), List.drop_eq_nil_of_le (by omega)]
    rfl
  | succ d ih =>
    intro k i hd hk hi
    obtain ⟨k, rfl⟩ : ∃ m, k = m + 1 := ⟨k - 1, by omega⟩
    have hlt : i < l.length := by omega
    simp only [woodcutlaw07_first.l0]
    rw [if_pos (by omega), if_pos (by omega), if_pos (by omega), rdT hlt, List.drop_eq_getElem_cons hlt]
    unfold idxOf
    by_cases he : l[i].f0 = n
    · rw [if_pos (bytes_inj.2 he), if_pos (by simpa using he)]
    · rw [if_neg (fun e => he (bytes_inj.1 e)), if_neg (by simpa using he), wr2 hlt hn]
      exact ih k (i + 1) (by omega) (by omega) (by omega)
theorem first_f {l : List S28} (n : ByteArray) (hn : l.length < 4398046511104) {k : Nat} (hk : l.length < k) : woodcutlaw07_first.f k l n = some (idxOf (fun a => decide (a.f0 = n)) l 0) := by
  unfold woodcutlaw07_first.f
  have := first_l0 l n hn l.length k 0 (by omega) hk (by omega)
  rwa [List.drop_zero] at this

/-- Where it is found, Get tells its value; where not, it tells nothing. -/
theorem first_get : ∀ (l : List S28) (n : ByteArray) (k : Nat), (idxOf (fun a => decide (a.f0 = n)) l k = -1 ∧ hasName l n = false) ∨
    ∃ j : Nat, ∃ hj : j < l.length, idxOf (fun a => decide (a.f0 = n)) l k = ((k + j : Nat) : Int) ∧ l[j].f0 = n ∧ getOf l n = (l[j].f1, true)
  | [], _, _ => .inl ⟨rfl, rfl⟩
  | x :: l, n, k => by
    unfold idxOf
    by_cases h : x.f0 = n
    · exact .inr ⟨0, by simp, by simp [h], by simpa using h, by rw [getOf_cons, if_pos h]; rfl⟩
    · rcases first_get l n (k + 1) with ⟨h1, h2⟩ | ⟨j, hj, h1, h2, h3⟩
      · refine .inl ⟨by simpa [h] using h1, ?_⟩
        unfold hasName at h2 ⊢
        rw [List.any_cons, h2]
        simp [h]
      · refine .inr ⟨j + 1, by simp; omega, ?_, by simpa using h2, by rw [getOf_cons, if_neg h, h3]; simp⟩
        rw [if_neg (by simpa using h), h1]
        omega

/-! ### same -/
theorem S28_eq {a b : S28} : a = b ↔ a.f0 = b.f0 ∧ a.f1 = b.f1 := by
  constructor
  · rintro rfl; exact ⟨rfl, rfl⟩
  · rcases a with ⟨a0, a1⟩
    rcases b with ⟨b0, b1⟩
    rintro ⟨h1, h2⟩
    simp only at h1 h2
    rw [h1, h2]
instance : DecidableEq S28 := fun _ _ => decidable_of_iff _ S28_eq.symm
theorem same_l0 (a b : List S28) (hab : a.length = b.length) (hn : a.length < 4398046511104) : ∀ (d k i : Nat), a.length - i = d → d < k → i ≤ a.length →
    woodcutlaw07_same.l0 k a b (a.length : Int) (i : Int) = some (decide (a.drop i = b.drop i)) := by
  intro d
  induction d with
  | zero =>
    intro k i hd hk hi
    obtain ⟨k, rfl⟩ : ∃ m, k = m + 1 := ⟨k - 1, by omega⟩
    simp only [woodcutlaw07_same.l0]
    rw [if_neg (by omega), List.drop_eq_nil_of_le (by omega), List.drop_eq_nil_of_le (by omega)]
    simp
  | succ d ih =>
    intro k i hd hk hi
    obtain ⟨k, rfl⟩ : ∃ m, k = m + 1 := ⟨k - 1, by omega⟩
    have hlt : i < a.length := by omega
    have hlt2 : i < b.length := by omega
    simp only [woodcutlaw07_same.l0]
    rw [if_pos (by omega), if_pos (by omega), if_pos (by omega), if_pos (by omega), rdT hlt, rdT hlt2, List.drop_eq_getElem_cons hlt, List.drop_eq_getElem_cons hlt2, bytes_beq, bytes_beq]
    by_cases he : a[i] = b[i]
    · rw [if_neg (by rw [he]; simp), wr2 hlt hn, ih k (i + 1) (by omega) (by omega) (by omega)]
      simp only [he, List.cons.injEq, true_and]
    · rw [if_pos (by
        rw [S28_eq] at he
        by_cases h1 : a[i].f0 = b[i].f0
        · have h2 : ¬ a[i].f1 = b[i].f1 := fun e => he ⟨h1, e⟩
          simp [h2]
        · simp [h1])]
      simp only [he, List.cons.injEq, false_and, decide_false]
theorem same_f (a b : List S28) (hn : a.length < 4398046511104) {k : Nat} (hk : a.length < k) : woodcutlaw07_same.f k a b = some (decide (a = b)) := by
  unfold woodcutlaw07_same.f
  by_cases h : a.length = b.length
  · rw [if_pos (by omega)]
    have := same_l0 a b h hn a.length k 0 (by omega) hk (by omega)
    rwa [List.drop_zero, List.drop_zero] at this
  · rw [if_neg (by omega)]
    have : ¬ a = b := fun e => h (by rw [e])
    simp [this]

/-! ### Set -/
def setL (n v : ByteArray) : List S28 → List S28
  | [] => [⟨n, v⟩]
  | x :: l => if x.f0 = n then ⟨x.f0, v⟩ :: l else x :: setL n v l
theorem setL_length (n v : ByteArray) (l : List S28) : (setL n v l).length ≤ l.length + 1 := by
  induction l with
  | nil => simp [setL]
  | cons x l ih =>
    unfold setL
    split <;> simp <;> omega
theorem setL_get (n v : ByteArray) (l : List S28) : getOf (setL n v l) n = (v, true) := by
  induction l with
  | nil => simp [setL, getOf_cons]
  | cons x l ih =>
    unfold setL
    by_cases h : x.f0 = n
    · rw [if_pos h, getOf_cons, if_pos h]
    · rw [if_neg h, getOf_cons, if_neg h, ih]
theorem set_take {l : List S28} {i : Nat} (hi : i < l.length) (y : S28) : l.set i y = l.take i ++ y :: l.drop (i + 1) := by
  rw [List.set_eq_take_append_cons_drop, if_pos hi]
theorem set_l0 (l : List S28) (n v : ByteArray) (hn : l.length < 4398046511104) : ∀ (d k i : Nat), l.length - i = d → d < k → i ≤ l.length →
    token_Set.l0 k n v l (l.length : Int) (i : Int) = some (l.take i ++ setL n v (l.drop i)) := by
  intro d
  induction d with
  | zero =>
    intro k i hd hk hi
    obtain ⟨k, rfl⟩ : ∃ m, k = m + 1 := ⟨k - 1, by omega⟩
    simp only [token_Set.l0]
    rw [if_neg (by omega), if_pos hn, List.drop_eq_nil_of_le (by omega), List.take_of_length_le (by omega)]
    rfl
  | succ d ih =>
    intro k i hd hk hi
    obtain ⟨k, rfl⟩ : ∃ m, k = m + 1 := ⟨k - 1, by omega⟩
    have hlt : i < l.length := by omega
    simp only [token_Set.l0]
    rw [if_pos (by omega), if_pos (by omega), if_pos (by omega), rdT hlt, List.drop_eq_getElem_cons hlt]
    unfold setL
    by_cases he : l[i].f0 = n
    · rw [if_pos (bytes_inj.2 he), if_pos he, Int.toNat_natCast, set_take hlt]
    · rw [if_neg (fun e => he (bytes_inj.1 e)), if_neg he, wr2 hlt hn, ih k (i + 1) (by omega) (by omega) (by omega), List.take_succ_eq_append_getElem hlt, List.append_assoc]
      rfl
theorem set_f {l : List S28} (n v : ByteArray) (hn : l.length < 4398046511104) {k : Nat} (hk : l.length < k) : token_Set.f k l n v = some (setL n v l) := by
  unfold token_Set.f token_Attr_50.f
  rw [if_pos hn]
  simp only [Option.bind_some]
  have := set_l0 l n v hn l.length k 0 (by omega) hk (by omega)
  rwa [List.drop_zero, List.take_zero, List.nil_append] at this
theorem setL_some {l : List S28} {n v : ByteArray} : ∀ {k : Nat} {j : Nat} (hj : j < l.length), idxOf (fun a => decide (a.f0 = n)) l k = ((k + j : Nat) : Int) → setL n v l = l.set j ⟨l[j].f0, v⟩ := by
  induction l with
  | nil => intro k j hj; cases hj
  | cons x l ih =>
    intro k j hj h
    unfold idxOf at h
    unfold setL
    by_cases he : x.f0 = n
    · rw [if_pos (by simpa using he)] at h
      obtain rfl : j = 0 := by omega
      rw [if_pos he]
      rfl
    · rw [if_neg (by simpa using he)] at h
      rw [if_neg he]
      rcases j with _ | j
      · rcases idx_lo (fun a => decide (a.f0 = n)) l (k + 1) with h1 | h1 <;> omega
      · have := ih (k := k + 1) (j := j) (by simpa using hj) (by rw [h]; omega)
        rw [this]
        rfl
theorem setL_none {l : List S28} {n v : ByteArray} (h : hasName l n = false) : setL n v l = l ++ [⟨n, v⟩] := by
  induction l with
  | nil => rfl
  | cons x l ih =>
    unfold hasName at h ih
    rw [List.any_cons] at h
    simp only [Bool.or_eq_false_iff, decide_eq_false_iff_not] at h
    unfold setL
    rw [if_neg h.1, ih h.2]
    rfl

/-! ### Without -/
theorem without_f {l : List S28} (n : ByteArray) (hn : l.length < 4398046511104) : token_Without.f l n = some (l.filter fun a => !decide (a.f0 = n)) := by
  unfold token_Without.f
  rw [if_pos hn]
  congr 2
  funext a
  rw [bytes_beq]
theorem without_has (l : List S28) (n : ByteArray) : hasName (l.filter fun a => !decide (a.f0 = n)) n = false := by
  unfold hasName
  rw [List.any_eq_false]
  intro x hx
  rw [List.mem_filter] at hx
  simpa using hx.2

/-! ### Once -/
def onceL : List S28 → List S28 → List S28
  | acc, [] => acc
  | acc, x :: l => if hasName acc x.f0 = true then onceL acc l else onceL (acc ++ [x]) l
theorem onceL_length : ∀ (l acc : List S28), (onceL acc l).length ≤ acc.length + l.length
  | [], acc => by simp [onceL]
  | x :: l, acc => by
    unfold onceL
    split
    · have := onceL_length l acc
      simp
      omega
    · have := onceL_length l (acc ++ [x])
      simp at this ⊢
      omega
theorem once_l0 (l : List S28) (hn : l.length < 4398046511104) : ∀ (d k i : Nat) (acc : List S28), l.length - i = d → d < k → i ≤ l.length → acc.length ≤ i →
    token_Once.l0 k acc l (l.length : Int) (i : Int) = some (onceL acc (l.drop i)) := by
  intro d
  induction d with
  | zero =>
    intro k i acc hd hk hi ha
    obtain ⟨k, rfl⟩ : ∃ m, k = m + 1 := ⟨k - 1, by omega⟩
    simp only [token_Once.l0]
    rw [if_neg (by omega), List.drop_eq_nil_of_le (by omega)]
    rfl
  | succ d ih =>
    intro k i acc hd hk hi ha
    obtain ⟨k, rfl⟩ : ∃ m, k = m + 1 := ⟨k - 1, by omega⟩
    have hlt : i < l.length := by omega
    simp only [token_Once.l0]
    rw [if_pos (by omega), if_pos (by omega), if_pos (by omega), rdT hlt, List.drop_eq_getElem_cons hlt, get_f _ (by omega)]
    simp only [Option.bind_some]
    unfold onceL
    rw [getOf_has]
    by_cases h : hasName acc l[i].f0 = true
    · rw [if_pos h, if_pos h, wr2 hlt hn]
      exact ih k (i + 1) acc (by omega) (by omega) (by omega) (by omega)
    · rw [if_neg h, if_neg h, if_pos (by omega), wr2 hlt hn]
      exact ih k (i + 1) _ (by omega) (by omega) (by omega) (by simp; omega)
theorem once_f {l : List S28} (hn : l.length < 4398046511104) {k : Nat} (hk : l.length < k) : token_Once.f k l = some (onceL [] l) := by
  unfold token_Once.f
  have := once_l0 l hn l.length k 0 [] (by omega) hk (by omega) (by simp)
  rwa [List.drop_zero] at this
theorem hasName_append (a b : List S28) (n : ByteArray) : hasName (a ++ b) n = (hasName a n || hasName b n) := by
  unfold hasName
  rw [List.any_append]
theorem onceL_get : ∀ (l acc : List S28) (n : ByteArray), getOf (onceL acc l) n = getOf (acc ++ l) n
  | [], acc, n => by simp [onceL]
  | x :: l, acc, n => by
    unfold onceL
    by_cases h : hasName acc x.f0 = true
    · rw [if_pos h, onceL_get l acc n, getOf_append, getOf_append, getOf_cons]
      by_cases hx : x.f0 = n
      · rw [hx] at h
        rw [if_pos h, if_pos h]
      · rw [if_neg hx]
    · rw [if_neg h, onceL_get l (acc ++ [x]) n]
      simp
/-- No two of one name. -/
def Uniq (l : List S28) : Prop := l.Pairwise fun a b => a.f0 ≠ b.f0
theorem hasName_false {l : List S28} {n : ByteArray} (h : ¬ hasName l n = true) : ∀ a ∈ l, a.f0 ≠ n := by
  intro a ha e
  apply h
  unfold hasName
  rw [List.any_eq_true]
  exact ⟨a, ha, by simpa using e⟩
theorem onceL_uniq : ∀ (l acc : List S28), Uniq acc → Uniq (onceL acc l)
  | [], acc, h => h
  | x :: l, acc, h => by
    unfold onceL
    by_cases hx : hasName acc x.f0 = true
    · rw [if_pos hx]
      exact onceL_uniq l acc h
    · rw [if_neg hx]
      refine onceL_uniq l _ ?_
      refine List.pairwise_append.2 ⟨h, List.pairwise_singleton _ _, fun a ha b hb => ?_⟩
      rw [List.mem_singleton] at hb
      subst hb
      exact hasName_false hx a ha
theorem onceL_self : ∀ (l acc : List S28), Uniq (acc ++ l) → onceL acc l = acc ++ l
  | [], acc, _ => by simp [onceL]
  | x :: l, acc, h => by
    unfold onceL
    have hx : ¬ hasName acc x.f0 = true := by
      intro e
      unfold hasName at e
      rw [List.any_eq_true] at e
      obtain ⟨a, ha, e⟩ := e
      exact (List.pairwise_append.1 h).2.2 a ha x List.mem_cons_self (by simpa using e)
    rw [if_neg hx, onceL_self l (acc ++ [x]) (by simpa using h)]
    simp

/-! ### Alike -/
def alikeL (a b : List S28) : Bool := decide (a.length = b.length) && a.all fun x => decide (getOf b x.f0 = (x.f1, true))
theorem alike_l0 (a b : List S28) (hn : a.length < 4398046511104) (hb : b.length < 4398046511104) : ∀ (d k i : Nat), a.length - i = d → d < k → i ≤ a.length →
    token_Alike.l0 k b a (a.length : Int) (i : Int) = some ((a.drop i).all fun x => decide (getOf b x.f0 = (x.f1, true))) := by
  intro d
  induction d with
  | zero =>
    intro k i hd hk hi
    obtain ⟨k, rfl⟩ : ∃ m, k = m + 1 := ⟨k - 1, by omega⟩
    simp only [token_Alike.l0]
    rw [if_neg (by omega), List.drop_eq_nil_of_le (by omega)]
    rfl
  | succ d ih =>
    intro k i hd hk hi
    obtain ⟨k, rfl⟩ : ∃ m, k = m + 1 := ⟨k - 1, by omega⟩
    have hlt : i < a.length := by omega
    simp only [token_Alike.l0]
    rw [if_pos (by omega), if_pos (by omega), if_pos (by omega), rdT hlt, List.drop_eq_getElem_cons hlt, get_f _ hb]
    simp only [Option.bind_some]
    rw [List.all_cons]
    by_cases h1 : (getOf b a[i].f0).2 = true
    · rw [if_pos h1]
      by_cases h2 : (getOf b a[i].f0).1 = a[i].f1
      · rw [if_pos (bytes_inj.2 h2), wr2 hlt hn, ih k (i + 1) (by omega) (by omega) (by omega)]
        have : getOf b a[i].f0 = (a[i].f1, true) := Prod.ext h2 h1
        rw [this]
        simp
      · rw [if_neg (fun e => h2 (bytes_inj.1 e))]
        have : ¬ getOf b a[i].f0 = (a[i].f1, true) := fun e => h2 (by rw [e])
        rw [decide_eq_false this]
        rfl
    · rw [if_neg h1]
      have : ¬ getOf b a[i].f0 = (a[i].f1, true) := fun e => h1 (by rw [e])
      rw [decide_eq_false this]
      rfl
theorem alike_f {a b : List S28} (hn : a.length < 4398046511104) (hb : b.length < 4398046511104) {k : Nat} (hk : a.length < k) : token_Alike.f k a b = some (alikeL a b) := by
  unfold token_Alike.f alikeL
  by_cases h : a.length = b.length
  · rw [if_pos (by omega)]
    have := alike_l0 a b hn hb a.length k 0 (by omega) hk (by omega)
    rw [List.drop_zero] at this
    rw [show (0 : Int) = ((0 : Nat) : Int) from rfl, this, decide_eq_true h]
    rfl
  · rw [if_neg (by omega), decide_eq_false h]
    rfl
theorem uniq_eq {l : List S28} (h : Uniq l) {a b : S28} (ha : a ∈ l) (hb : b ∈ l) (e : a.f0 = b.f0) : a = b := by
  induction l with
  | nil => cases ha
  | cons x l ih =>
    have h' := List.pairwise_cons.1 h
    rcases List.mem_cons.1 ha with rfl | ha'
    · rcases List.mem_cons.1 hb with rfl | hb'
      · rfl
      · exact absurd e (h'.1 b hb')
    · rcases List.mem_cons.1 hb with rfl | hb'
      · exact absurd e.symm (h'.1 a ha')
      · exact ih h'.2 ha' hb'
/-- A list without doubles is like whatever list of the same length has all of its elements and no other. -/
theorem alike_of {a b : List S28} (hu : Uniq a) (hl : a.length = b.length) (h1 : ∀ y ∈ b, y ∈ a) (h2 : ∀ x ∈ a, x ∈ b) : alikeL a b = true := by
  unfold alikeL
  rw [decide_eq_true hl, Bool.true_and, List.all_eq_true]
  intro x hx
  rw [decide_eq_true_iff]
  exact getOf_of (fun y hy e => by rw [uniq_eq hu (h1 y hy) hx e]) ⟨x, h2 x hx, rfl⟩

end Go.Proofs.Ytccadgnbomgpcaa.Tk
