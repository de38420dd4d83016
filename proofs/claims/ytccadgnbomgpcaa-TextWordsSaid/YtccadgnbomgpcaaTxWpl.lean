-- TextWords: the plain law: what text.Trim and text.Words hand back, told by places of the text; no memory.
import Derived.Lib.Strings
import Derived.Test.YtccadgnbomgpcaaTxOne
import Derived.Test.YtccadgnbomgpcaaTx21
import Derived.Test.YtccadgnbomgpcaaTx22
namespace Go.Proofs.Ytccadgnbomgpcaa.Tx
open Go.RowKit Go.Proofs.YtccadgnbomgpcaaW.PrintWords Go.Proofs.YtccadgnbomgpcaaW.PrintLast Go.Proofs.YtccadgnbomgpcaaW.PrintMore
set_option linter.unusedVariables false
set_option linter.unusedSimpArgs false

def blankB (x : Int) : Bool := x == 9 || x == 10 || x == 12 || x == 13 || x == 32
theorem blank_f (x : Int) : text_Blank.f x = some (blankB x) := by
  unfold text_Blank.f blankB
  by_cases h9 : x = 9
  · subst h9; rfl
  by_cases h10 : x = 10
  · subst h10; rfl
  by_cases h12 : x = 12
  · subst h12; rfl
  by_cases h13 : x = 13
  · subst h13; rfl
  simp [h9, h10, h12, h13]
/-- The byte at a place is a blank. -/
def bl (s : ByteArray) (j : Nat) : Bool := blankB (bt s (j : Int))
theorem bt_bd (s : ByteArray) (i : Int) : 0 ≤ bt s i ∧ bt s i < 256 := by
  unfold bt
  split
  · have := (s[i.toNat]).toNat_lt; omega
  · omega
theorem bt_w (s : ByteArray) (i : Int) : wrap32 (bt s i) = bt s i := by
  have := bt_bd s i
  exact wrap32_id this.1 (by omega)
theorem bt_ext {s : ByteArray} {a b i : Nat} (h : a + i < b) (hb : b ≤ s.size) : bt (s.extract a b) (i : Int) = bt s ((a + i : Nat) : Int) := by
  have h1 : i < (s.extract a b).size := by rw [ByteArray.size_extract]; omega
  have h2 : a + i < s.size := by omega
  unfold bt
  rw [dif_pos (by rw [Int.toNat_natCast]; exact h1), dif_pos (by rw [Int.toNat_natCast]; exact h2)]
  simp only [Int.toNat_natCast, ByteArray.getElem_extract]
theorem ext_size {s : ByteArray} {a b : Nat} (h : b ≤ s.size) : (s.extract a b).size = b - a := by
  rw [ByteArray.size_extract]; omega
theorem ext_ext {s : ByteArray} {a b i j : Nat} (hj : a + j ≤ b) : (s.extract a b).extract i j = s.extract (a + i) (a + j) := by
  rw [ByteArray.extract_extract]; congr 1; omega
theorem nil_iff (s : ByteArray) : s.toList = ([] : List UInt8) ↔ s.size = 0 := by
  rw [ByteArray.toList_eq]
  constructor
  · intro h; have := congrArg List.length h; simpa using this
  · intro h; exact List.length_eq_zero_iff.1 (by simpa using h)

theorem trim_l0 {s : ByteArray} {f : Nat} (hs : s.size ≤ 500) (hf : f ≤ s.size) (hbl : ∀ j, j < f → bl s j = true) (hn : f < s.size → bl s f = false) :
    ∀ (m i k : Nat), i + m = f → text_Trim.l0 (k + 1 + m) (s.extract i s.size) = text_Trim.j1 k (s.extract f s.size) := by
  intro m
  induction m with
  | zero =>
    intro i k hi
    obtain rfl : i = f := by omega
    rw [text_Trim.l0]
    by_cases h0 : i = s.size
    · rw [if_pos ((nil_iff _).2 (by rw [ext_size (Nat.le_refl _)]; omega))]
    · rw [if_neg (fun h => by have := (nil_iff _).1 h; rw [ext_size (Nat.le_refl _)] at this; omega), if_pos (by rw [ext_size (Nat.le_refl _)]; omega), bt_w, show (0 : Int) = ((0 : Nat) : Int) from rfl, bt_ext (by omega) (Nat.le_refl _), blank_f, Option.bind_some]
      have := hn (by omega)
      unfold bl at this
      rw [Nat.add_zero, this, if_neg (by simp)]
  | succ m ih =>
    intro i k hi
    have := hbl i (by omega)
    unfold bl at this
    rw [show k + 1 + (m + 1) = (k + 1 + m) + 1 from rfl, text_Trim.l0, if_neg (fun h => by have := (nil_iff _).1 h; rw [ext_size (Nat.le_refl _)] at this; omega), if_pos (by rw [ext_size (Nat.le_refl _)]; omega), bt_w, show (0 : Int) = ((0 : Nat) : Int) from rfl, bt_ext (by omega) (Nat.le_refl _), blank_f, Option.bind_some,
      Nat.add_zero, this, if_pos rfl, if_pos (by rw [ext_size (Nat.le_refl _)]; omega)]
    rw [ext_size (Nat.le_refl _), ext_ext (by omega), show i + (s.size - i) = s.size by omega]
    exact ih (i + 1) k (by omega)
theorem trim_l1 {s : ByteArray} {f t : Nat} (hs : s.size ≤ 500) (hft : f ≤ t) (hbl : ∀ j, t ≤ j → j < s.size → bl s j = true) (hn : f < t → bl s (t - 1) = false) :
    ∀ (m u k : Nat), t + m = u → u ≤ s.size → text_Trim.l1 (k + 1 + m) (s.extract f u) = some (s.extract f t) := by
  intro m
  induction m with
  | zero =>
    intro u k hu hus
    obtain rfl : t = u := by omega
    rw [text_Trim.l1]
    by_cases h0 : f = t
    · rw [if_pos ((nil_iff _).2 (by rw [ext_size hus]; omega))]
    · have e : wrap64 (((s.extract f t).size : Int) - 1) = ((t - 1 - f : Nat) : Int) := by rw [ext_size hus, wrap64_id (by omega) (by omega)]; omega
      rw [if_neg (fun h => by have := (nil_iff _).1 h; rw [ext_size hus] at this; omega), e, if_pos (by omega), if_pos (by rw [ext_size hus]; omega), bt_w, bt_ext (by omega) hus, blank_f, Option.bind_some]
      have := hn (by omega)
      unfold bl at this
      rw [show f + (t - 1 - f) = t - 1 by omega, this, if_neg (by simp)]
  | succ m ih =>
    intro u k hu hus
    have hb := hbl (u - 1) (by omega) (by omega)
    unfold bl at hb
    have e : wrap64 (((s.extract f u).size : Int) - 1) = ((u - 1 - f : Nat) : Int) := by rw [ext_size hus, wrap64_id (by omega) (by omega)]; omega
    rw [show k + 1 + (m + 1) = (k + 1 + m) + 1 from rfl, text_Trim.l1, if_neg (fun h => by have := (nil_iff _).1 h; rw [ext_size hus] at this; omega), e, if_pos (by omega), if_pos (by rw [ext_size hus]; omega), bt_w, bt_ext (by omega) hus, blank_f, Option.bind_some,
      show f + (u - 1 - f) = u - 1 by omega, hb, if_pos rfl, if_pos (by rw [ext_size hus]; omega), Int.toNat_natCast, ext_ext (by omega), Nat.add_zero, show f + (u - 1 - f) = u - 1 by omega]
    exact ih (u - 1) k (by omega) (by omega)
theorem ext_all (s : ByteArray) : s.extract 0 s.size = s := by
  apply ByteArray.ext
  simp
/-- text.Trim: between the first sign that is no blank and the last. -/
theorem trim_eq {s : ByteArray} {f t : Nat} (hs : s.size ≤ 500) (hft : f ≤ t) (ht : t ≤ s.size) (h1 : ∀ j, j < f → bl s j = true) (h2 : f < s.size → bl s f = false)
    (h3 : ∀ j, t ≤ j → j < s.size → bl s j = true) (h4 : f < t → bl s (t - 1) = false) : text_Trim.f ((s.size - t + 2) + 1 + f) s = some (s.extract f t) := by
  have e := trim_l0 hs (Nat.le_trans hft ht) h1 h2 f 0 (s.size - t + 2) (by omega)
  rw [ext_all] at e
  rw [text_Trim.f, e, text_Trim.j1, show s.size - t + 1 = 0 + 1 + (s.size - t) by omega]
  exact trim_l1 hs hft h3 h4 (s.size - t) s.size 0 (by omega) (Nat.le_refl _)

/-- The words among the first i signs, and where the one that is under way begins. -/
def wst (s : ByteArray) : Nat → List ByteArray × Nat
  | 0 => ([], 0)
  | i + 1 => if i < s.size ∧ bl s i = false then wst s i else if (wst s i).2 < i then ((wst s i).1 ++ [s.extract (wst s i).2 i], i + 1) else ((wst s i).1, i + 1)
theorem wst_le (s : ByteArray) : ∀ i, (wst s i).2 ≤ i ∧ (wst s i).1.length ≤ i
  | 0 => ⟨Nat.le_refl _, Nat.le_refl _⟩
  | i + 1 => by
    have := wst_le s i
    rw [wst]
    split
    · omega
    · split
      · simp; omega
      · simp; omega
theorem wst_in {s : ByteArray} {i : Nat} (h1 : i < s.size) (h2 : bl s i = false) : wst s (i + 1) = wst s i := by rw [wst, if_pos ⟨h1, h2⟩]
theorem wst_out {s : ByteArray} {i : Nat} (h : ¬ (i < s.size ∧ bl s i = false)) (h3 : (wst s i).2 < i) : wst s (i + 1) = ((wst s i).1 ++ [s.extract (wst s i).2 i], i + 1) := by rw [wst, if_neg h, if_pos h3]
theorem wst_no {s : ByteArray} {i : Nat} (h : ¬ (i < s.size ∧ bl s i = false)) (h3 : ¬ (wst s i).2 < i) : wst s (i + 1) = ((wst s i).1, i + 1) := by rw [wst, if_neg h, if_neg h3]
/-- Where text.Words says that a word under way begins. -/
def frm (s : ByteArray) (i : Nat) : Int := if (wst s i).2 < i then ((wst s i).2 : Int) else -1
theorem words_l0 {s : ByteArray} (hs : s.size ≤ 500) : ∀ (m i k : Nat), i + m = s.size + 1 → text_Words.l0 (k + 1 + 3 * m) s (wst s i).1 (frm s i) ((s.size : Int) + 1) (i : Int) = some (wst s (s.size + 1)).1 := by
  intro m
  induction m with
  | zero =>
    intro i k hi
    obtain rfl : i = s.size + 1 := by omega
    rw [Nat.mul_zero, Nat.add_zero, text_Words.l0, if_neg (by omega)]
  | succ m ih =>
    intro i k hi
    have hle := wst_le s i
    have ihn := ih (i + 1) k (by omega)
    have e1 : wrap64 ((i : Int) + 1) = ((i + 1 : Nat) : Int) := by rw [wrap64_id (by omega) (by omega)]; omega
    rw [show k + 1 + 3 * (m + 1) = (k + 1 + 3 * m) + 1 + 1 + 1 by omega, text_Words.l0, if_pos (by omega)]
    by_cases h1 : i < s.size
    · rw [if_pos (by omega), if_pos (by omega), bt_w, blank_f, Option.bind_some, text_Words.j1]
      by_cases h2 : bl s i = false
      · have h2' := h2
        unfold bl at h2'
        have hw := wst_in h1 h2
        rw [h2', Bool.not_false, if_pos rfl, text_Words.j2]
        by_cases h3 : (wst s i).2 < i
        · have ef : frm s i = ((wst s i).2 : Int) := if_pos h3
          have ef' : frm s (i + 1) = frm s i := by rw [ef, frm, hw, if_pos (by omega)]
          rw [ef] at ef' ⊢
          rw [decide_eq_false (by omega), if_neg (by simp), if_pos rfl, e1, ← ef']
          rw [hw] at ihn
          exact ihn
        · have ef : frm s i = -1 := if_neg h3
          have ef' : frm s (i + 1) = (i : Int) := by rw [frm, hw, if_pos (by omega)]; omega
          rw [ef, decide_eq_true (by omega), if_pos rfl, e1, ← ef']
          rw [hw] at ihn
          exact ihn
      · have h2' : bl s i = true := by cases h : bl s i <;> simp_all
        unfold bl at h2'
        rw [h2', Bool.not_true, if_neg (by simp), text_Words.j2, if_neg (by simp), if_neg (by simp)]
        by_cases h3 : (wst s i).2 < i
        · have hw := wst_out (s := s) (i := i) (fun h => h2 h.2) h3
          have ef : frm s i = ((wst s i).2 : Int) := if_pos h3
          have ef' : frm s (i + 1) = -1 := by rw [frm, hw, if_neg (by simp)]
          rw [ef, if_pos (by omega), if_pos (by omega), if_pos (by omega), if_pos (by omega), if_pos (by omega), e1, ← ef', Int.toNat_natCast, Int.toNat_natCast]
          rw [hw] at ihn
          exact ihn
        · have hw := wst_no (s := s) (i := i) (fun h => h2 h.2) h3
          have ef : frm s i = -1 := if_neg h3
          have ef' : frm s (i + 1) = -1 := by rw [frm, hw, if_neg (by simp)]
          rw [ef, if_neg (by omega), e1]
          rw [hw, ef'] at ihn
          exact ihn
    · rw [if_neg (by omega), text_Words.j1, if_neg (by simp), text_Words.j2, if_neg (by simp), if_neg (by simp)]
      by_cases h3 : (wst s i).2 < i
      · have hw := wst_out (s := s) (i := i) (fun h => h1 h.1) h3
        have ef : frm s i = ((wst s i).2 : Int) := if_pos h3
        have ef' : frm s (i + 1) = -1 := by rw [frm, hw, if_neg (by simp)]
        rw [ef, if_pos (by omega), if_pos (by omega), if_pos (by omega), if_pos (by omega), if_pos (by omega), e1, ← ef', Int.toNat_natCast, Int.toNat_natCast]
        rw [hw] at ihn
        exact ihn
      · have hw := wst_no (s := s) (i := i) (fun h => h1 h.1) h3
        have ef : frm s i = -1 := if_neg h3
        have ef' : frm s (i + 1) = -1 := by rw [frm, hw, if_neg (by simp)]
        rw [ef, if_neg (by omega), e1]
        rw [hw, ef'] at ihn
        exact ihn
theorem words_eq {s : ByteArray} (hs : s.size ≤ 500) : text_Words.f (0 + 1 + 3 * (s.size + 1)) s = some (wst s (s.size + 1)).1 := by
  have := words_l0 hs (s.size + 1) 0 0 (by omega)
  rw [text_Words.f, wrap64_id (by omega) (by omega)]
  exact this

/-- The bytes of the word under way, as numbers. -/
def nowL (s : ByteArray) (a i : Nat) : List Int := ((s.extract a i).data.toList).map fun b => (b.toNat : Int)
theorem nowL_len {s : ByteArray} {a i : Nat} (h : i ≤ s.size) : (nowL s a i).length = i - a := by
  unfold nowL
  rw [List.length_map, Array.length_toList]
  exact ext_size h
theorem nowL_nil (s : ByteArray) (a : Nat) : nowL s a a = [] := by
  unfold nowL
  rw [List.map_eq_nil_iff, Array.toList_eq_nil_iff]
  have : (s.extract a a).size = 0 := by rw [ByteArray.size_extract]; omega
  exact Array.eq_empty_of_size_eq_zero this
theorem nowL_snoc {s : ByteArray} {a i : Nat} (ha : a ≤ i) (hi : i < s.size) : nowL s a (i + 1) = nowL s a i ++ [bt s (i : Int)] := by
  have e : (s.extract a (i + 1)).data.toList = (s.extract a i).data.toList ++ [s[i]] := by
    rw [Go.Lib.extract_data, Go.Lib.extract_data, show i + 1 - a = (i - a) + 1 by omega, List.take_add_one]
    congr 1
    rw [List.getElem?_drop, show a + (i - a) = i by omega, List.getElem?_eq_getElem (by simpa using hi)]
    rfl
  unfold nowL
  rw [e, List.map_append]
  congr 1
  simp [bt, hi]
theorem nowL_str (s : ByteArray) (a i : Nat) : strOfNums (nowL s a i) = s.extract a i := by
  unfold nowL strOfNums
  rw [List.map_map, show ((fun n : Int => UInt8.ofNat n.toNat) ∘ (fun b : UInt8 => (b.toNat : Int))) = id from funext fun b => by simp, List.map_id]
end Go.Proofs.Ytccadgnbomgpcaa.Tx
