-- The reference's One, All, Lines and the plain words oneL, sg, lnL are one.
import Derived.Test.YtccadgnbomgpcaaTx7
import Derived.Test.YtccadgnbomgpcaaTx8
import Derived.Test.YtccadgnbomgpcaaTxOne
namespace Go.Proofs.Ytccadgnbomgpcaa.Tx
open Go.RowKit Go.Proofs.YtccadgnbomgpcaaW.PrintWords Go.Proofs.YtccadgnbomgpcaaW.PrintLast Go.Proofs.YtccadgnbomgpcaaW.PrintMore
set_option linter.unusedVariables false
set_option linter.unusedSimpArgs false

def sizeL (a : Int) : Int := if a < 128 then 1 else if (lead a).1 = 0 then 0 else ((lead a).1 : Int) + 1
theorem size_eq (a : Int) (h : 0 ≤ a ∧ a < 256) : woodcutref01_size.f 3 a = some (sizeL a) := by
  obtain ⟨n, rfl⟩ := Int.eq_ofNat_of_zero_le h.1
  have all : (List.range 256).all (fun n => woodcutref01_size.f 3 (n : Int) == some (sizeL (n : Int))) = true := by kernel_rfl
  exact eq_of_beq (List.all_eq_true.1 all n (List.mem_range.2 (by omega)))
theorem second_eq (k : Nat) (a c : Int) (h : (lead a).1 ≠ 0) : woodcutref01_second.f (k + 2) a c = some (decide ((lead a).2.1 ≤ c ∧ c ≤ (lead a).2.2.1)) := by
  rcases lead_cases a with ⟨e, h1⟩ | ⟨e, h1⟩ | ⟨e, h1⟩ | ⟨e, h1⟩ | ⟨e, h1⟩ | ⟨e, h1⟩ | ⟨e, h1⟩ | ⟨e, h1⟩ <;> rw [e] at h ⊢ <;> (try exact absurd rfl h) <;> clear e h
  · rw [woodcutref01_second.f, if_neg (by omega), woodcutref01_second.j0, if_neg (by omega), woodcutref01_second.j1, if_neg (by omega), if_neg (by omega)]
    by_cases hc : c ≥ 128 <;> simp [hc] <;> omega
  · rw [woodcutref01_second.f, if_pos (by omega), woodcutref01_second.j0, if_neg (by omega), woodcutref01_second.j1, if_neg (by omega), if_neg (by omega)]
    by_cases hc : c ≥ 160 <;> simp [hc] <;> omega
  · rw [woodcutref01_second.f, if_neg (by omega), woodcutref01_second.j0, if_pos (by omega), woodcutref01_second.j1, if_neg (by omega), if_neg (by omega)]
    by_cases hc : c ≥ 128 <;> simp [hc] <;> omega
  · rw [woodcutref01_second.f, if_neg (by omega), woodcutref01_second.j0, if_neg (by omega), woodcutref01_second.j1, if_neg (by omega), if_neg (by omega)]
    by_cases hc : c ≥ 128 <;> simp [hc] <;> omega
  · rw [woodcutref01_second.f, if_neg (by omega), woodcutref01_second.j0, if_neg (by omega), woodcutref01_second.j1, if_pos (by omega), if_neg (by omega)]
    by_cases hc : c ≥ 144 <;> simp [hc] <;> omega
  · rw [woodcutref01_second.f, if_neg (by omega), woodcutref01_second.j0, if_neg (by omega), woodcutref01_second.j1, if_neg (by omega), if_neg (by omega)]
    by_cases hc : c ≥ 128 <;> simp [hc] <;> omega
  · rw [woodcutref01_second.f, if_neg (by omega), woodcutref01_second.j0, if_neg (by omega), woodcutref01_second.j1, if_neg (by omega), if_pos (by omega)]
    by_cases hc : c ≥ 128 <;> simp [hc] <;> omega

/-- The value of the first i bytes. -/
def pv (b : List Int) (base : Int) : Nat → Int
  | 0 => 0
  | 1 => rd b 0 - base
  | i + 2 => pv b base (i + 1) * 64 + (rd b ((i + 1 : Nat) : Int) - 128)
theorem pv_succ (b : List Int) (base : Int) (i : Nat) (h : 1 ≤ i) : pv b base (i + 1) = pv b base i * 64 + (rd b (i : Int) - 128) := by
  obtain ⟨j, rfl⟩ : ∃ j, i = j + 1 := ⟨i - 1, by omega⟩
  rfl
theorem l1_eq (b : List Int) (base : Int) (N : Nat) (hN : N ≤ b.length) (hN4 : N ≤ 4) (hc : ∀ j : Nat, 1 ≤ j → j < N → 128 ≤ rd b (j : Int) ∧ rd b (j : Int) ≤ 191) : ∀ (m i k : Nat), i + m = N → 1 ≤ i → m < k → 0 ≤ pv b base i → pv b base i + 1 ≤ bnd m →
    woodcutref01_One.l1 k b N (pv b base i) (i : Int) = some (pv b base N, (N : Int)) := by
  intro m
  induction m with
  | zero =>
    intro i k hi h1 hk h0 hb
    obtain ⟨k, rfl⟩ : ∃ j, k = j + 1 := ⟨k - 1, by omega⟩
    obtain rfl : i = N := by omega
    have b1 := (bnd_le 0).1
    rw [woodcutref01_One.l1, if_neg (by omega), wrap32_id h0 (by omega)]
  | succ m ih =>
    intro i k hi h1 hk h0 hb
    obtain ⟨k, rfl⟩ : ∃ j, k = j + 1 := ⟨k - 1, by omega⟩
    obtain ⟨b1, b2, b3⟩ := bnd_le m
    obtain ⟨c1, c2⟩ := hc i h1 (by omega)
    have e1 : wrap64 (pv b base i * 64) = pv b base i * 64 := wrap64_id (by omega) (by omega)
    have e2 : wrap64 (rd b (i : Int)) = rd b (i : Int) := wrap64_id (by omega) (by omega)
    have e3 : wrap64 (pv b base i * 64 + rd b (i : Int)) = pv b base i * 64 + rd b (i : Int) := by clear e1 e2; exact wrap64_id (by omega) (by omega)
    have e4 : wrap64 (pv b base i * 64 + rd b (i : Int) - 128) = pv b base (i + 1) := by clear e1 e2 e3; rw [wrap64_id (by omega) (by omega), pv_succ b base i h1]; omega
    have e5 : wrap64 ((i : Int) + 1) = ((i + 1 : Nat) : Int) := by clear e1 e2 e3 e4; rw [wrap64_id (by omega) (by omega)]; omega
    rw [woodcutref01_One.l1, if_pos (by clear e1 e2 e3 e4 e5; omega), if_pos (by clear e1 e2 e3 e4 e5; omega), if_pos (by clear e1 e2 e3 e4 e5; omega), e1, e2, e3, e4, e5]
    clear e1 e2 e3 e4 e5
    have e6 := pv_succ b base i h1
    exact ih (i + 1) k (by omega) (by omega) (by omega) (by omega) (by omega)
theorem j2_eq (b : List Int) (base : Int) (N k : Nat) (hN : N ≤ b.length) (hb : (N = 2 ∧ base = 192) ∨ (N = 3 ∧ base = 224) ∨ (N = 4 ∧ base = 240)) (hc : ∀ j : Nat, 1 ≤ j → j < N → 128 ≤ rd b (j : Int) ∧ rd b (j : Int) ≤ 191)
    (h0 : base ≤ rd b 0) (h1 : rd b 0 < 256) (h2 : rd b 0 - base + 1 ≤ bnd (N - 1)) : woodcutref01_One.j2 (k + 9) b N N = some (pv b base N, (N : Int)) := by
  have hl := l1_eq b base N hN (by omega) hc (N - 1) 1 (k + 5) (by omega) (by omega) (by omega) (by rw [pv]; omega) (by rw [pv]; exact h2)
  have e0 : wrap64 (rd b 0) = rd b 0 := wrap64_id (by omega) (by omega)
  have e1 : wrap64 (rd b 0 - base) = rd b 0 - base := by clear e0; exact wrap64_id (by omega) (by omega)
  rw [woodcutref01_One.j2, if_neg (by omega), if_pos (by omega), e0]
  clear e0
  rcases hb with ⟨rfl, rfl⟩ | ⟨rfl, rfl⟩ | ⟨rfl, rfl⟩
  · rw [if_pos (by rfl), e1, woodcutref01_One.j3, if_neg (by decide), woodcutref01_One.j4, if_neg (by decide), woodcutref01_One.j5]; exact hl
  · rw [if_neg (by decide), woodcutref01_One.j3, if_pos (by rfl), e1, woodcutref01_One.j4, if_neg (by decide), woodcutref01_One.j5]; exact hl
  · rw [if_neg (by decide), woodcutref01_One.j3, if_neg (by decide), woodcutref01_One.j4, if_pos (by rfl), e1, woodcutref01_One.j5]; exact hl

theorem l0ref_eq (b : List Int) (N : Nat) (lo hi base : Int) (hlead : lead (rd b 0) = (N - 1, lo, hi, base)) (hN2 : 2 ≤ N) (hlo : 128 ≤ lo) (hhi : hi ≤ 191) (hB : Bytes b)
    (hb : (N = 2 ∧ base = 192) ∨ (N = 3 ∧ base = 224) ∨ (N = 4 ∧ base = 240)) (h0 : base ≤ rd b 0) (h1 : rd b 0 < 256) (h2 : rd b 0 - base + 1 ≤ bnd (N - 1)) (hne : 0 < b.length) :
    ∀ (m i k : Nat) (lo' hi' : Int), i + m = N → 1 ≤ i → 2 * m + 12 ≤ k → i ≤ b.length → (∀ j : Nat, 1 ≤ j → j < i → 128 ≤ rd b (j : Int) ∧ rd b (j : Int) ≤ 191) → ((i = 1 ∧ lo' = lo ∧ hi' = hi) ∨ (1 < i ∧ lo' = 128 ∧ hi' = 191)) →
      woodcutref01_One.l0 k b N i = some ((cnt m (pv b base i) i lo' hi' (b.drop i)).1, ((cnt m (pv b base i) i lo' hi' (b.drop i)).2 : Int)) := by
  intro m
  induction m with
  | zero =>
    intro i k lo' hi' hi1 hi2 hk hil hc hl
    obtain ⟨k, rfl⟩ : ∃ j, k = j + 9 + 2 := ⟨k - 11, by omega⟩
    obtain rfl : i = N := by omega
    rw [woodcutref01_One.l0, if_neg (by omega), woodcutref01_One.j1, if_neg (by simp), j2_eq b base i k hil hb hc h0 h1 h2]
    rfl
  | succ m ih =>
    intro i k lo' hi' hi1 hi2 hk hil hc hl
    obtain ⟨k, rfl⟩ : ∃ j, k = j + 2 + 2 := ⟨k - 4, by omega⟩
    have fail : woodcutref01_One.j2 (k + 2) b N i = some (65533, (i : Int)) := by rw [woodcutref01_One.j2, if_pos (by omega)]
    rw [woodcutref01_One.l0, if_pos (by omega), woodcutref01_One.j1]
    cases hd : b.drop i with
    | nil =>
      have : b.length ≤ i := List.drop_eq_nil_iff.1 hd
      rw [decide_eq_false (by omega), if_neg (by simp), fail]
      rfl
    | cons c t =>
      obtain ⟨hcr, hlt⟩ := rd_nat hd
      have ht : b.drop (i + 1) = t := by rw [← List.drop_drop, hd]; rfl
      have e5 : wrap64 ((i : Int) + 1) = ((i + 1 : Nat) : Int) := by rw [wrap64_id (by omega) (by omega)]; omega
      have next : 128 ≤ c → c ≤ 191 → woodcutref01_One.l0 (k + 2) b N ((i + 1 : Nat) : Int) = some ((cnt m (pv b base i * 64 + (c - 128)) (i + 1) 128 191 t).1, ((cnt m (pv b base i * 64 + (c - 128)) (i + 1) 128 191 t).2 : Int)) := by
        clear e5
        intro g1 g2
        have := ih (i + 1) (k + 2) 128 191 (by omega) (by omega) (by omega) (by omega) (fun j hj1 hj2 => by
          by_cases hji : j = i
          · subst hji; rw [hcr]; exact ⟨g1, g2⟩
          · exact hc j hj1 (by omega)) (.inr ⟨by omega, rfl, rfl⟩)
        rw [pv_succ b base i hi2, hcr, ht] at this
        exact this
      rw [decide_eq_true hlt, if_pos rfl, hcr, e5]
      clear e5
      simp only [cnt]
      rcases hl with ⟨rfl, rfl, rfl⟩ | ⟨hi3, rfl, rfl⟩
      · have hs : woodcutref01_second.f (k + 2) (rd b 0) c = some (decide (lo' ≤ c ∧ c ≤ hi')) := by
          have := second_eq k (rd b 0) c (by rw [hlead]; show N - 1 ≠ 0; omega)
          rw [hlead] at this; exact this
        have hcr1 : rd b 1 = c := hcr
        rw [if_pos (show ((1 : Nat) : Int) = 1 from rfl), if_pos (by omega), if_pos (by omega), hcr1, hs, Option.bind_some]
        by_cases g1 : c < lo'
        · rw [if_pos g1, decide_eq_false (by omega), if_neg (by simp)]; exact fail
        · rw [if_neg g1]
          by_cases g2 : hi' < c
          · rw [if_pos g2, decide_eq_false (by omega), if_neg (by simp)]; exact fail
          · rw [if_neg g2, decide_eq_true (by omega), if_pos rfl, if_neg (by omega)]; exact next (by omega) (by omega)
      · rw [if_neg (by omega), if_pos (by omega), if_pos (by omega), if_pos hlt]
        by_cases g1 : c < 128
        · rw [if_pos g1, if_pos g1]; exact fail
        · rw [if_neg g1, if_neg g1]
          by_cases g2 : 191 < c
          · rw [if_pos g2, if_pos g2]; exact fail
          · rw [if_neg g2, if_neg g2]; exact next (by omega) (by omega)

theorem ref_one {b : List Int} (hB : Bytes b) (hne : b ≠ []) (k : Nat) (hk : 20 ≤ k) : woodcutref01_One.f k b = some ((oneL b).1, ((oneL b).2 : Int)) := by
  cases b with
  | nil => exact absurd rfl hne
  | cons a t =>
    have ha := hB a (by simp)
    have hr : rd (a :: t) 0 = a := rfl
    have hl : 0 < ((a :: t).length : Int) := by simp only [List.length_cons]; omega
    have hsz : woodcutref01_size.f k a = some (sizeL a) := by
      have : ∀ j, woodcutref01_size.f (3 + j) a = some (sizeL a) := by
        intro j
        induction j with
        | zero => exact size_eq a ha
        | succ j ih => exact woodcutref01_size.mono a _ _ ih
      have h3 := this (k - 3)
      rwa [show 3 + (k - 3) = k by omega] at h3
    rw [woodcutref01_One.f, if_pos hl, hr, hsz, Option.bind_some, oneL_cons]
    unfold sizeL
    by_cases h1 : a < 128
    · rw [if_pos h1, if_pos h1, if_neg (by omega)]
      obtain ⟨k, rfl⟩ : ∃ j, k = j + 20 := ⟨k - 20, by omega⟩
      have e0 : wrap64 a = a := wrap64_id ha.1 (by omega)
      have e1 : wrap32 a = a := wrap32_id ha.1 (by omega)
      rw [woodcutref01_One.l0, if_neg (by omega), woodcutref01_One.j1, if_neg (by simp), woodcutref01_One.j2, if_neg (by omega), if_pos hl, if_neg (by omega), hr, e0, woodcutref01_One.j3, if_neg (by omega), woodcutref01_One.j4, if_neg (by omega), woodcutref01_One.j5, woodcutref01_One.l1, if_neg (by omega), e1]
      rfl
    · rw [if_neg h1, if_neg h1]
      by_cases h2 : (lead a).1 = 0
      · rw [if_pos h2, if_pos h2, if_pos rfl]; rfl
      · rw [if_neg h2, if_neg h2, if_neg (by omega)]
        have go : ∀ (n : Nat) (lo hi base : Int), lead a = (n, lo, hi, base) → 1 ≤ n → 128 ≤ lo → hi ≤ 191 → ((n + 1 = 2 ∧ base = 192) ∨ (n + 1 = 3 ∧ base = 224) ∨ (n + 1 = 4 ∧ base = 240)) → base ≤ a → a - base + 1 ≤ bnd n →
            woodcutref01_One.l0 k (a :: t) ((n : Int) + 1) 1 = some ((cnt n (a - base) 1 lo hi t).1, ((cnt n (a - base) 1 lo hi t).2 : Int)) := by
          intro n lo hi base e hn hlo hhi hb h0 hbd
          have := l0ref_eq (a :: t) (n + 1) lo hi base (by rw [hr, e]; rfl) (by omega) hlo hhi hB hb h0 ha.2 hbd (by simp) n 1 k lo hi (by omega) (by omega) (by omega) (by simp) (fun j h1 h2 => by omega) (.inl ⟨rfl, rfl, rfl⟩)
          exact this
        rcases lead_cases a with ⟨e, h3⟩ | ⟨e, h3⟩ | ⟨e, h3⟩ | ⟨e, h3⟩ | ⟨e, h3⟩ | ⟨e, h3⟩ | ⟨e, h3⟩ | ⟨e, h3⟩
        · exact absurd (by rw [e]) h2
        all_goals
          have g := go _ _ _ _ e (by omega) (by omega) (by omega) (by omega) (by omega) (by simp only [bnd]; omega)
          rw [e]
          exact g
theorem all_l (b : List Int) (hB : Bytes b) (hlen : b.length < 1000000) : ∀ (n o k : Nat) (acc at_ : List Int), b.length - o ≤ n → o ≤ b.length → n + 22 ≤ k → acc.length ≤ o → at_.length ≤ o →
    woodcutref01_All.l0 k b acc at_ (o : Int) = some (acc ++ (sg o (b.drop o)).map (·.2), at_ ++ (sg o (b.drop o)).map (fun p => (p.1 : Int))) := by
  intro n
  induction n with
  | zero =>
    intro o k acc at_ hn ho hk _ _
    obtain ⟨k, rfl⟩ : ∃ j, k = j + 1 := ⟨k - 1, by omega⟩
    obtain rfl : o = b.length := by omega
    rw [woodcutref01_All.l0, if_neg (by omega), List.drop_length, sg_nil]
    simp
  | succ n ih =>
    intro o k acc at_ hn ho hk ha1 ha2
    by_cases hlt : o < b.length
    · obtain ⟨k, rfl⟩ : ∃ j, k = j + 1 := ⟨k - 1, by omega⟩
      have hne : b.drop o ≠ [] := by simpa using hlt
      have h1 := ref_one (hB.drop o) hne k (by omega)
      have hp := oneL_pos (b.drop o)
      have hle := oneL_le hne
      rw [List.length_drop] at hle
      rw [woodcutref01_All.l0, if_pos (by omega), if_pos (by omega), if_pos (by omega), show ((o : Int)).toNat = o from rfl, h1, Option.bind_some]
      obtain ⟨q, hq⟩ : ∃ q, q = (oneL (b.drop o)).1 := ⟨_, rfl⟩
      obtain ⟨m, hm⟩ : ∃ m, m = (oneL (b.drop o)).2 := ⟨_, rfl⟩
      rw [← hm] at hp hle
      have e5 : wrap64 ((o : Int) + (m : Int)) = ((o + m : Nat) : Int) := by rw [wrap64_id (by omega) (by omega)]; omega
      dsimp only
      rw [← hq, ← hm, if_pos (by clear e5; omega), if_pos (by clear e5; omega), e5]
      clear e5
      rw [ih (o + m) k (acc ++ [q]) (at_ ++ [(o : Int)]) (by omega) (by omega) (by omega) (by rw [List.length_append]; simp only [List.length_cons, List.length_nil]; omega) (by rw [List.length_append]; simp only [List.length_cons, List.length_nil]; omega)]
      rw [sg_cons o hne, ← hq, ← hm, List.drop_drop]
      simp only [List.map_cons, List.append_assoc, List.singleton_append]
    · obtain rfl : o = b.length := by omega
      exact ih b.length k acc at_ (by omega) ho (by omega) ha1 ha2
theorem all_eq {b : List Int} (hB : Bytes b) (hlen : b.length < 1000000) (k : Nat) (hk : b.length + 22 ≤ k) : woodcutref01_All.f k b = some ((sg 0 b).map (·.2), (sg 0 b).map (fun p => (p.1 : Int))) := by
  unfold woodcutref01_All.f
  have := all_l b hB hlen b.length 0 k [] [] (by omega) (by omega) hk (by simp) (by simp)
  simpa using this

def prevL (rs : List Int) (i : Nat) : Int := if i = 0 then 0 else rd rs ((i - 1 : Nat) : Int)
theorem lines_l (rs : List Int) (hlen : rs.length < 1000000) : ∀ (n i k : Nat) (acc : List Int), i + n = rs.length → n + 1 ≤ k → acc.length ≤ i →
    woodcutref01_Lines.l0 k rs acc rs (rs.length : Int) (i : Int) = some (acc ++ lnL (prevL rs i) (rs.drop i)) := by
  intro n
  induction n with
  | zero =>
    intro i k acc hi hk ha
    obtain ⟨k, rfl⟩ : ∃ j, k = j + 1 := ⟨k - 1, by omega⟩
    rw [woodcutref01_Lines.l0, if_neg (by omega), List.drop_eq_nil_of_le (by omega)]
    simp [lnL]
  | succ n ih =>
    intro i k acc hi hk ha
    obtain ⟨k, rfl⟩ : ∃ j, k = j + 1 := ⟨k - 1, by omega⟩
    have hlt : i < rs.length := by omega
    have hd := (List.getElem_cons_drop hlt).symm
    obtain ⟨hr, _⟩ := rd_nat hd
    obtain ⟨c, hc⟩ : ∃ c, c = rs[i] := ⟨_, rfl⟩
    rw [← hc] at hd hr
    have hpv : prevL rs (i + 1) = c := by rw [prevL, if_neg (by omega)]; exact hr
    have e5 : wrap64 ((i : Int) + 1) = ((i + 1 : Nat) : Int) := by rw [wrap64_id (by omega) (by omega)]; omega
    have step : ∀ acc' : List Int, acc'.length ≤ i + 1 → woodcutref01_Lines.l0 k rs acc' rs (rs.length : Int) ((i + 1 : Nat) : Int) = some (acc' ++ lnL c (rs.drop (i + 1))) := by
      intro acc' h
      have := ih (i + 1) k acc' (by omega) (by omega) h
      rwa [hpv] at this
    have l1 : ∀ x : Int, (acc ++ [x]).length ≤ i + 1 := fun x => by rw [List.length_append]; simp only [List.length_cons, List.length_nil]; omega
    have a1 : acc.length < 35184372088832 := by clear e5; omega
    rw [woodcutref01_Lines.l0, if_pos (by clear e5; omega), if_pos (by clear e5; omega), if_pos (by clear e5; omega), hr, e5, if_pos a1, hd, lnL]
    clear e5
    by_cases h13 : c = 13
    · rw [if_pos h13, step _ (l1 _), show ln1 (prevL rs i) c = [10] from if_pos h13, List.append_assoc]
    · rw [if_neg h13]
      by_cases h10 : c = 10
      · rw [if_pos h10]
        by_cases h0 : i = 0
        · rw [if_pos (by omega), step _ (l1 _), show ln1 (prevL rs i) c = [c] from by rw [ln1, if_neg h13, if_neg]; rw [prevL, if_pos h0]; omega, List.append_assoc, if_pos a1]
        · have e6 : wrap64 ((i : Int) - 1) = ((i - 1 : Nat) : Int) := by rw [wrap64_id (by omega) (by omega)]; omega
          rw [if_neg (by clear e6; omega), e6]
          clear e6
          have hp : prevL rs i = rd rs ((i - 1 : Nat) : Int) := if_neg h0
          rw [if_pos (by omega), if_pos (by omega)]
          by_cases hq : rd rs ((i - 1 : Nat) : Int) = 13
          · rw [if_pos hq, step acc (by omega), show ln1 (prevL rs i) c = [] from by rw [ln1, if_neg h13, if_pos ⟨h10, by rw [hp]; exact hq⟩]]; rfl
          · rw [if_neg hq, step _ (l1 _), show ln1 (prevL rs i) c = [c] from by rw [ln1, if_neg h13, if_neg]; rw [hp]; omega, List.append_assoc, if_pos a1]
      · rw [if_neg h10, step _ (l1 _), show ln1 (prevL rs i) c = [c] from by rw [ln1, if_neg h13, if_neg (by omega)], List.append_assoc, if_pos a1]
theorem lines_eq (rs : List Int) (hlen : rs.length < 1000000) (k : Nat) (hk : rs.length + 1 ≤ k) : woodcutref01_Lines.f k rs = some (lnL 0 rs) := by
  unfold woodcutref01_Lines.f
  have := lines_l rs hlen rs.length 0 k [] (by omega) hk (by simp)
  simpa [prevL] using this
end Go.Proofs.Ytccadgnbomgpcaa.Tx
