-- text.Put, text.Encode and the plain words encS, encL are one.
import Derived.Test.YtccadgnbomgpcaaTx11
import Derived.Test.YtccadgnbomgpcaaTxOne
namespace Go.Proofs.Ytccadgnbomgpcaa.Tx
open Go.RowKit Go.Proofs.YtccadgnbomgpcaaW.PrintWords Go.Proofs.YtccadgnbomgpcaaW.PrintLast Go.Proofs.YtccadgnbomgpcaaW.PrintMore

theorem wf_u8 {x : Int} (h : (Lit.int .u8 x).wf = true) : 0 ≤ x ∧ x < 256 := by
  simp [Lit.wf, IntKind.min, IntKind.max, IntKind.signed, IntKind.bits] at h
  omega
theorem i32_and63 {x : Int} (h0 : 0 ≤ x) (h1 : x < 2147483648) : Go.bits .and .i32 x 63 = x % 64 := bits_mask .i32 31 (by decide) wraps_i32 6 (by decide) x h0 (by omega)
theorem put_j (k : Nat) (l : List Int) (r : Int) (h : Scal r) (hl : l.length < 100000000) : text_Put.j0 (k + 1) l r false = some (l ++ encS r) := by
  obtain ⟨h1, h2, h3⟩ := h
  have e1 : Go.bits .and .i32 r 63 = r % 64 := i32_and63 h1 (by omega)
  have e2 : Go.bits .and .i32 (r / 64) 63 = r / 64 % 64 := i32_and63 (by omega) (by omega)
  have e3 : Go.bits .and .i32 (r / 4096) 63 = r / 4096 % 64 := i32_and63 (by omega) (by omega)
  have f1 : Go.bits .or .u8 128 (r % 64 % 256) = 128 + r % 64 := by rw [show r % 64 % 256 = r % 64 by omega]; exact u8_or128 _ (by omega) (by omega)
  have f2 : Go.bits .or .u8 128 (r / 64 % 64 % 256) = 128 + r / 64 % 64 := by rw [show r / 64 % 64 % 256 = r / 64 % 64 by omega]; exact u8_or128 _ (by omega) (by omega)
  have f3 : Go.bits .or .u8 128 (r / 4096 % 64 % 256) = 128 + r / 4096 % 64 := by rw [show r / 4096 % 64 % 256 = r / 4096 % 64 by omega]; exact u8_or128 _ (by omega) (by omega)
  rw [text_Put.j0, if_neg (by simp), e1, e2, e3, f1, f2, f3]
  clear e1 e2 e3 f1 f2 f3
  unfold encS
  by_cases c1 : r < 128
  · rw [if_pos c1, if_pos c1, if_pos (by omega), show r % 256 = r by omega]
  · rw [if_neg c1, if_neg c1]
    by_cases c2 : r < 2048
    · rw [if_pos c2, if_pos c2]
      have g : Go.bits .or .u8 192 (r / 64 % 256) = 192 + r / 64 := by rw [show r / 64 % 256 = r / 64 by omega]; exact u8_or192 _ (by omega) (by omega)
      rw [g, Option.bind_some, if_pos (by simp only [List.length_cons, List.length_nil]; omega)]
    · rw [if_neg c2, if_neg c2]
      by_cases c3 : r < 65536
      · rw [if_pos c3, if_pos c3]
        have g : Go.bits .or .u8 224 (r / 4096 % 256) = 224 + r / 4096 := by rw [show r / 4096 % 256 = r / 4096 by omega]; exact u8_or224 _ (by omega) (by omega)
        rw [g, Option.bind_some, if_pos (by simp only [List.length_cons, List.length_nil]; omega)]
      · rw [if_neg c3, if_neg c3]
        have g : Go.bits .or .u8 240 (r / 262144 % 256) = 240 + r / 262144 := by rw [show r / 262144 % 256 = r / 262144 by omega]; exact u8_or240 _ (by omega) (by omega)
        rw [g, Option.bind_some, if_pos (by simp only [List.length_cons, List.length_nil]; omega)]
theorem put_scal (k : Nat) (l : List Int) (r : Int) (h : Scal r) (hl : l.length < 100000000) : text_Put.f (k + 2) l r = some (l ++ encS r) := by
  have h' := h
  obtain ⟨h1, h2, h3⟩ := h
  rw [text_Put.f, if_neg (by omega), if_neg (by omega)]
  by_cases c : r ≥ 55296
  · rw [if_pos c, decide_eq_false (by omega)]; exact put_j k l r h' hl
  · rw [if_neg c]; exact put_j k l r h' hl
theorem put_eq (k : Nat) (l : List Int) (r : Int) (hl : l.length < 100000000) : text_Put.f (k + 4) l r = some (l ++ encS (fixS r)) := by
  by_cases hs : Scal r
  · rw [fixS_id hs]; exact put_scal (k + 2) l r hs hl
  · have hf : fixS r = 65533 := by unfold fixS; rw [if_pos]; simp only [Scal] at hs; omega
    have hj : text_Put.j0 (k + 3) l r true = some (l ++ encS 65533) := by
      rw [text_Put.j0, if_pos rfl, put_scal k l 65533 (by decide) hl]; rfl
    rw [hf, text_Put.f]
    by_cases a1 : r < 0
    · rw [if_pos a1]; exact hj
    · rw [if_neg a1]
      by_cases a2 : r > 1114111
      · rw [if_pos a2]; exact hj
      · rw [if_neg a2]
        have a3 : r ≥ 55296 ∧ r ≤ 57343 := by simp only [Scal] at hs; omega
        rw [if_pos a3.1, decide_eq_true a3.2]; exact hj
theorem encode_l (cs : List Int) : ∀ (m i k : Nat) (acc : List Int), i + m = cs.length → m + 5 ≤ k → acc.length + 4 * m < 100000000 → cs.length < 100000000 → text_Encode.l0 k acc cs (cs.length : Int) (i : Int) = some (acc ++ encL (cs.drop i)) := by
  intro m
  induction m with
  | zero =>
    intro i k acc hi hk ha hc
    obtain ⟨k, rfl⟩ : ∃ j, k = j + 1 := ⟨k - 1, by omega⟩
    rw [text_Encode.l0, if_neg (by omega), List.drop_eq_nil_of_le (by omega)]
    simp [encL]
  | succ m ih =>
    intro i k acc hi hk ha hc
    obtain ⟨k, rfl⟩ : ∃ j, k = j + 4 + 1 := ⟨k - 5, by omega⟩
    have hlt : i < cs.length := by omega
    have hd := (List.getElem_cons_drop hlt).symm
    obtain ⟨hr, _⟩ := rd_nat hd
    have e : wrap64 ((i : Int) + 1) = ((i + 1 : Nat) : Int) := by rw [wrap64_id (by omega) (by omega)]; omega
    have hlen := encS_len (fixS cs[i])
    rw [text_Encode.l0, if_pos (by omega), if_pos (by omega), if_pos (by omega), hr, put_eq k acc _ (by omega), Option.bind_some, e]
    clear e
    rw [ih (i + 1) (k + 4) _ (by omega) (by omega) (by rw [List.length_append]; omega) hc, hd]
    rw [encL, encL, List.flatMap_cons, List.append_assoc]
theorem encode_eq (cs : List Int) (k : Nat) (hk : cs.length + 5 ≤ k) (hc : cs.length < 10000000) : text_Encode.f k cs = some (encL cs) := by
  unfold text_Encode.f
  have := encode_l cs cs.length 0 k [] (by omega) hk (by simp; omega) (by omega)
  simpa using this
end Go.Proofs.Ytccadgnbomgpcaa.Tx
