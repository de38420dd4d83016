-- Plain words of the layer text: signs of bytes, bytes of signs; no program in sight.
import Derived.Laws.BitsLemmas
namespace Go.Proofs.Ytccadgnbomgpcaa.Tx

/-- A row of bytes. -/
def Bytes (l : List Int) : Prop := ∀ x ∈ l, 0 ≤ x ∧ x < 256
instance (l : List Int) : Decidable (Bytes l) := inferInstanceAs (Decidable (∀ x ∈ l, 0 ≤ x ∧ x < 256))
theorem Bytes.drop {l : List Int} (h : Bytes l) (n : Nat) : Bytes (l.drop n) := fun x hx => h x (List.mem_of_mem_drop hx)
theorem Bytes.append {a b : List Int} (h : Bytes a) (k : Bytes b) : Bytes (a ++ b) := fun x hx => (List.mem_append.1 hx).elim (h x) (k x)

/-- How many bytes follow, from where to where the second may go, what the first has on top. -/
def lead (a : Int) : Nat × Int × Int × Int :=
  if a < 194 then (0, 0, 0, 0) else if a ≤ 223 then (1, 128, 191, 192) else if a = 224 then (2, 160, 191, 224) else if a = 237 then (2, 128, 159, 224)
  else if a ≤ 239 then (2, 128, 191, 224) else if a = 240 then (3, 144, 191, 240) else if a ≤ 243 then (3, 128, 191, 240) else if a = 244 then (3, 128, 143, 240) else (0, 0, 0, 0)
/-- n bytes more, behind k. -/
def cnt : Nat → Int → Nat → Int → Int → List Int → Int × Nat
  | 0, x, k, _, _, _ => (x, k)
  | _ + 1, _, k, _, _, [] => (65533, k)
  | n + 1, x, k, lo, hi, c :: t => if c < lo then (65533, k) else if hi < c then (65533, k) else cnt n (x * 64 + (c - 128)) (k + 1) 128 191 t
/-- The sign with which bytes begin; how many they are. -/
def oneL : List Int → Int × Nat
  | [] => (65533, 1)
  | a :: t => if a < 128 then (a, 1) else if (lead a).1 = 0 then (65533, 1) else cnt (lead a).1 (a - (lead a).2.2.2) 1 (lead a).2.1 (lead a).2.2.1 t

theorem oneL_cons (a : Int) (t : List Int) : oneL (a :: t) = if a < 128 then (a, 1) else if (lead a).1 = 0 then (65533, 1) else cnt (lead a).1 (a - (lead a).2.2.2) 1 (lead a).2.1 (lead a).2.2.1 t := rfl
theorem lead_cases (a : Int) : (lead a = (0, 0, 0, 0) ∧ (a < 194 ∨ 244 < a)) ∨ (lead a = (1, 128, 191, 192) ∧ 194 ≤ a ∧ a ≤ 223) ∨ (lead a = (2, 160, 191, 224) ∧ a = 224) ∨ (lead a = (2, 128, 159, 224) ∧ a = 237)
    ∨ (lead a = (2, 128, 191, 224) ∧ 225 ≤ a ∧ a ≤ 239 ∧ a ≠ 237) ∨ (lead a = (3, 144, 191, 240) ∧ a = 240) ∨ (lead a = (3, 128, 191, 240) ∧ 241 ≤ a ∧ a ≤ 243) ∨ (lead a = (3, 128, 143, 240) ∧ a = 244) := by
  unfold lead
  repeat' split
  all_goals first | omega | (simp; omega)

theorem cnt_pos (n : Nat) : ∀ (x : Int) (k : Nat) (lo hi : Int) (t : List Int), k ≤ (cnt n x k lo hi t).2 ∧ (cnt n x k lo hi t).2 ≤ k + n ∧ (cnt n x k lo hi t).2 ≤ k + t.length := by
  induction n with
  | zero => intro x k lo hi t; simp [cnt]
  | succ n ih =>
    intro x k lo hi t
    cases t with
    | nil => simp [cnt]
    | cons c t =>
      unfold cnt
      split
      · simp
      · split
        · simp
        · have := ih (x * 64 + (c - 128)) (k + 1) 128 191 t
          simp only [List.length_cons]; omega

theorem oneL_pos (b : List Int) : 1 ≤ (oneL b).2 := by
  cases b with
  | nil => simp [oneL]
  | cons a t =>
    rw [oneL_cons]
    split
    · simp
    · split
      · simp
      · exact (cnt_pos _ _ _ _ _ _).1
theorem oneL_le {b : List Int} (h : b ≠ []) : (oneL b).2 ≤ b.length := by
  cases b with
  | nil => exact absurd rfl h
  | cons a t =>
    rw [oneL_cons]
    split
    · simp
    · split
      · simp
      · have := (cnt_pos (lead a).1 (a - (lead a).2.2.2) 1 (lead a).2.1 (lead a).2.2.1 t).2.2
        simp only [List.length_cons]; omega

/-- A sign that text may have. -/
def Scal (c : Int) : Prop := 0 ≤ c ∧ c ≤ 1114111 ∧ ¬ (55296 ≤ c ∧ c ≤ 57343)
instance (c : Int) : Decidable (Scal c) := inferInstanceAs (Decidable (0 ≤ c ∧ c ≤ 1114111 ∧ ¬ (55296 ≤ c ∧ c ≤ 57343)))

theorem oneL_scal {b : List Int} (h : Bytes b) : Scal (oneL b).1 := by
  have hr : Scal 65533 := by decide
  cases b with
  | nil => exact hr
  | cons a t =>
    have ha := h a (by simp)
    rw [oneL_cons]
    split
    · exact ⟨ha.1, by simp only; omega, by simp only; omega⟩
    · split
      · exact hr
      · rcases lead_cases a with ⟨e, h1⟩ | ⟨e, h1⟩ | ⟨e, h1⟩ | ⟨e, h1⟩ | ⟨e, h1⟩ | ⟨e, h1⟩ | ⟨e, h1⟩ | ⟨e, h1⟩ <;> rw [e] <;> rename_i hz <;> rw [e] at hz <;> (try exact absurd rfl hz) <;> clear e hz
        all_goals
          rcases t with _ | ⟨c1, _ | ⟨c2, _ | ⟨c3, t⟩⟩⟩ <;> simp only [cnt]
          all_goals
            repeat' split
            all_goals first | exact hr | (simp only [Scal]; omega)

/-- The signs that bytes are, each with the place where it begins. -/
def sg (o : Nat) (b : List Int) : List (Nat × Int) :=
  if _h : b = [] then [] else (o, (oneL b).1) :: sg (o + (oneL b).2) (b.drop (oneL b).2)
termination_by b.length
decreasing_by have := oneL_pos b; have := List.length_pos_iff.2 _h; simp only [List.length_drop]; omega
theorem sg_nil (o : Nat) : sg o [] = [] := by rw [sg]; simp
theorem sg_cons (o : Nat) {b : List Int} (h : b ≠ []) : sg o b = (o, (oneL b).1) :: sg (o + (oneL b).2) (b.drop (oneL b).2) := by rw [sg]; simp [h]
theorem sg_ind {P : Nat → List Int → Prop} (h0 : ∀ o, P o []) (h1 : ∀ o b, b ≠ [] → P (o + (oneL b).2) (b.drop (oneL b).2) → P o b) : ∀ (n o : Nat) (b : List Int), b.length ≤ n → P o b := by
  intro n
  induction n with
  | zero => intro o b hb; obtain rfl := List.length_eq_zero_iff.1 (Nat.le_zero.1 hb); exact h0 o
  | succ n ih =>
    intro o b hb
    by_cases hn : b = []
    · subst hn; exact h0 o
    · exact h1 o b hn (ih _ _ (by have := oneL_pos b; simp only [List.length_drop]; omega))
theorem sg_len (o : Nat) (b : List Int) : (sg o b).length ≤ b.length := by
  refine sg_ind (P := fun o b => (sg o b).length ≤ b.length) (fun o => by simp [sg_nil]) (fun o b hb ih => ?_) _ o b (Nat.le_refl _)
  rw [sg_cons o hb]
  have := oneL_pos b; have := List.length_pos_iff.2 hb
  simp only [List.length_cons, List.length_drop] at ih ⊢
  omega
theorem sg_scal (o : Nat) (b : List Int) (hb : Bytes b) : ∀ p ∈ sg o b, Scal p.2 := by
  refine sg_ind (P := fun o b => Bytes b → ∀ p ∈ sg o b, Scal p.2) (fun o _ => by simp [sg_nil]) (fun o b hn ih hb p hp => ?_) _ o b (Nat.le_refl _) hb
  rw [sg_cons o hn] at hp
  rcases List.mem_cons.1 hp with rfl | hp
  · exact oneL_scal hb
  · exact ih (hb.drop _) p hp
/-- The signs do not hang on where they are counted from. -/
theorem sg_off (o : Nat) (b : List Int) : (sg o b).map (·.2) = (sg 0 b).map (·.2) := by
  have : ∀ o', (sg o b).map (·.2) = (sg o' b).map (·.2) := by
    refine sg_ind (P := fun o b => ∀ o', (sg o b).map (·.2) = (sg o' b).map (·.2)) (fun o o' => by simp [sg_nil]) (fun o b hn ih o' => ?_) _ o b (Nat.le_refl _)
    rw [sg_cons o hn, sg_cons o' hn]
    simp only [List.map_cons, ih (o' + (oneL b).2)]
  exact this 0

/-- Each end of a line as one sign; p: the sign ahead. -/
def ln1 (p r : Int) : List Int := if r = 13 then [10] else if r = 10 ∧ p = 13 then [] else [r]
def lnL : Int → List Int → List Int
  | _, [] => []
  | p, r :: t => ln1 p r ++ lnL r t
def lastL : Int → List Int → Int
  | p, [] => p
  | _, r :: t => lastL r t
theorem lastL_snoc (p : Int) (xs : List Int) (r : Int) : lastL p (xs ++ [r]) = r := by
  induction xs generalizing p with
  | nil => rfl
  | cons x xs ih => exact ih x
theorem lnL_snoc (p : Int) (xs : List Int) (r : Int) : lnL p (xs ++ [r]) = lnL p xs ++ ln1 (lastL p xs) r := by
  induction xs generalizing p with
  | nil => simp [lnL, lastL]
  | cons x xs ih => simp [lnL, lastL, ih]
theorem ln1_len (p r : Int) : (ln1 p r).length ≤ 1 := by unfold ln1; repeat' split
                                                         all_goals simp
theorem lnL_len (p : Int) (xs : List Int) : (lnL p xs).length ≤ xs.length := by
  induction xs generalizing p with
  | nil => simp [lnL]
  | cons x xs ih => have := ln1_len p x; have := ih x; simp [lnL]; omega
theorem ln1_no13 (p r : Int) : ∀ x ∈ ln1 p r, x ≠ 13 := by
  unfold ln1
  split
  · simp
  · split
    · simp
    · simpa
theorem lnL_no13 (p : Int) (xs : List Int) : ∀ x ∈ lnL p xs, x ≠ 13 := by
  induction xs generalizing p with
  | nil => simp [lnL]
  | cons r t ih => intro x hx; rcases List.mem_append.1 hx with hx | hx
                   · exact ln1_no13 p r x hx
                   · exact ih r x hx
theorem lnL_id (xs : List Int) : ∀ p, p ≠ 13 → (∀ x ∈ xs, x ≠ 13) → lnL p xs = xs := by
  induction xs with
  | nil => intro p _ _; rfl
  | cons r t ih =>
    intro p hp h
    have hr := h r (by simp)
    rw [lnL, ih r hr (fun x hx => h x (by simp [hx]))]
    simp [ln1, hr, hp]
theorem lnL_scal (p : Int) (xs : List Int) (h : ∀ x ∈ xs, Scal x) : ∀ x ∈ lnL p xs, Scal x := by
  induction xs generalizing p with
  | nil => simp [lnL]
  | cons r t ih =>
    intro x hx
    rcases List.mem_append.1 hx with hx | hx
    · unfold ln1 at hx
      split at hx
      · simp at hx; subst hx; decide
      · split at hx
        · simp at hx
        · simp at hx; subst hx; exact h _ (by simp)
    · exact ih r (fun x hx => h x (by simp [hx])) x hx

/-- Without a mark of order in front. -/
def strip (b : List Int) : List Int := if b.take 3 = [239, 187, 191] then b.drop 3 else b
def decL (b : List Int) : List Int := lnL 0 ((sg 0 (strip b)).map (·.2))

/-- The bytes of a sign that text may have. -/
def encS (c : Int) : List Int :=
  if c < 128 then [c] else if c < 2048 then [192 + c / 64, 128 + c % 64] else if c < 65536 then [224 + c / 4096, 128 + c / 64 % 64, 128 + c % 64]
  else [240 + c / 262144, 128 + c / 4096 % 64, 128 + c / 64 % 64, 128 + c % 64]
def fixS (c : Int) : Int := if c < 0 ∨ c > 1114111 ∨ (55296 ≤ c ∧ c ≤ 57343) then 65533 else c
theorem fixS_scal (c : Int) : Scal (fixS c) := by unfold fixS; split; · decide
                                                  · exact ⟨by omega, by omega, by omega⟩
theorem fixS_id {c : Int} (h : Scal c) : fixS c = c := by unfold fixS; obtain ⟨h1, h2, h3⟩ := h; rw [if_neg (by omega)]
def encL (cs : List Int) : List Int := cs.flatMap fun c => encS (fixS c)

theorem encS_ne (c : Int) : encS c ≠ [] := by unfold encS; repeat' split
                                              all_goals simp
theorem encS_bytes {c : Int} (h : Scal c) : Bytes (encS c) := by
  obtain ⟨h1, h2, h3⟩ := h
  unfold encS
  repeat' split
  all_goals
    intro x hx
    simp only [List.mem_cons, List.not_mem_nil, or_false] at hx
    omega
theorem encS_len (c : Int) : (encS c).length ≤ 4 := by unfold encS; repeat' split
                                                       all_goals simp
theorem encL_bytes (cs : List Int) : Bytes (encL cs) := by
  intro x hx
  obtain ⟨c, _, hc⟩ := List.mem_flatMap.1 hx
  exact encS_bytes (fixS_scal c) x hc
theorem encL_len (cs : List Int) : (encL cs).length ≤ 4 * cs.length := by
  induction cs with
  | nil => simp [encL]
  | cons c t ih => have := encS_len (fixS c); simp only [encL, List.flatMap_cons, List.length_append, List.length_cons] at ih ⊢; omega

theorem oneL_enc {c : Int} (h : Scal c) (rest : List Int) : oneL (encS c ++ rest) = (c, (encS c).length) := by
  obtain ⟨h1, h2, h3⟩ := h
  unfold encS
  split
  · simp only [List.cons_append, List.nil_append, oneL, List.length_cons, List.length_nil]; rw [if_pos (by assumption)]
  split
  · obtain ⟨q, hq⟩ : ∃ q, q = c / 64 := ⟨_, rfl⟩
    obtain ⟨m, hm⟩ : ∃ m, m = c % 64 := ⟨_, rfl⟩
    rw [← hq, ← hm]
    simp only [List.cons_append, List.nil_append, oneL, List.length_cons, List.length_nil]
    rw [if_neg (by omega)]
    rcases lead_cases (192 + q) with ⟨e, h1⟩ | ⟨e, h1⟩ | ⟨e, h1⟩ | ⟨e, h1⟩ | ⟨e, h1⟩ | ⟨e, h1⟩ | ⟨e, h1⟩ | ⟨e, h1⟩ <;> rw [e] <;> first | omega | skip
    simp only [cnt]
    rw [if_neg (by omega), if_neg (by omega), if_neg (by omega)]
    simp only [Prod.mk.injEq, and_true]; omega
  split
  · obtain ⟨q, hq⟩ : ∃ q, q = c / 4096 := ⟨_, rfl⟩
    obtain ⟨s, hs⟩ : ∃ s, s = c / 64 % 64 := ⟨_, rfl⟩
    obtain ⟨m, hm⟩ : ∃ m, m = c % 64 := ⟨_, rfl⟩
    have hc : c = q * 4096 + s * 64 + m := by omega
    rw [← hq, ← hs, ← hm]
    simp only [List.cons_append, List.nil_append, oneL, List.length_cons, List.length_nil]
    rw [if_neg (by omega)]
    rcases lead_cases (224 + q) with ⟨e, h1⟩ | ⟨e, h1⟩ | ⟨e, h1⟩ | ⟨e, h1⟩ | ⟨e, h1⟩ | ⟨e, h1⟩ | ⟨e, h1⟩ | ⟨e, h1⟩ <;> rw [e] <;> first | omega | skip
    all_goals
      simp only [cnt]
      rw [if_neg (by omega), if_neg (by omega), if_neg (by omega), if_neg (by omega), if_neg (by omega)]
      simp only [Prod.mk.injEq, and_true]; omega
  · obtain ⟨q, hq⟩ : ∃ q, q = c / 262144 := ⟨_, rfl⟩
    obtain ⟨u, hu⟩ : ∃ u, u = c / 4096 % 64 := ⟨_, rfl⟩
    obtain ⟨s, hs⟩ : ∃ s, s = c / 64 % 64 := ⟨_, rfl⟩
    obtain ⟨m, hm⟩ : ∃ m, m = c % 64 := ⟨_, rfl⟩
    have hc : c = q * 262144 + u * 4096 + s * 64 + m := by omega
    rw [← hq, ← hu, ← hs, ← hm]
    simp only [List.cons_append, List.nil_append, oneL, List.length_cons, List.length_nil]
    rw [if_neg (by omega)]
    rcases lead_cases (240 + q) with ⟨e, h1⟩ | ⟨e, h1⟩ | ⟨e, h1⟩ | ⟨e, h1⟩ | ⟨e, h1⟩ | ⟨e, h1⟩ | ⟨e, h1⟩ | ⟨e, h1⟩ <;> rw [e] <;> first | omega | skip
    all_goals
      simp only [cnt]
      rw [if_neg (by omega), if_neg (by omega), if_neg (by omega), if_neg (by omega), if_neg (by omega), if_neg (by omega), if_neg (by omega)]
      simp only [Prod.mk.injEq, and_true]; omega

theorem sg_encS {cs : List Int} (h : ∀ c ∈ cs, Scal c) : ∀ o, (sg o (cs.flatMap encS)).map (·.2) = cs := by
  induction cs with
  | nil => intro o; simp [sg_nil]
  | cons c t ih =>
    intro o
    have hc := h c (by simp)
    rw [List.flatMap_cons, sg_cons o (by have := encS_ne c; simp [this]), oneL_enc hc]
    simp only [List.drop_left, List.map_cons, ih (fun x hx => h x (by simp [hx]))]
theorem sg_encL (cs : List Int) (o : Nat) : (sg o (encL cs)).map (·.2) = cs.map fixS := by
  have := sg_encS (cs := cs.map fixS) (fun c hc => by obtain ⟨d, _, rfl⟩ := List.mem_map.1 hc; exact fixS_scal d) o
  rw [List.flatMap_map] at this
  exact this

end Go.Proofs.Ytccadgnbomgpcaa.Tx
