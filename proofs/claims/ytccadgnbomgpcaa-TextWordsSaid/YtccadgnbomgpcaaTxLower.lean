-- text.Lower (function 38).
import Derived.Lib.ConvBytes
import Derived.Laws.IdiomStrings
import Derived.Test.YtccadgnbomgpcaaTxSig
namespace Go.Proofs.Ytccadgnbomgpcaa.Tx
open Go.RowKit Go.Shelf Go.Proofs.YtccadgnbomgpcaaW.PrintWords Go.Proofs.YtccadgnbomgpcaaW.PrintLast Go.Proofs.YtccadgnbomgpcaaW.PrintMore
attribute [local go_sem] Oper.semAt_some
set_option linter.unusedVariables false
set_option linter.unusedSimpArgs false

def lowU (b : UInt8) : UInt8 := if 65 ≤ b.toNat ∧ b.toNat ≤ 90 then UInt8.ofNat (b.toNat + 32) else b
def lowS (s : ByteArray) : ByteArray := ⟨(s.data.toList.map lowU).toArray⟩
def byteN (s : ByteArray) (j : Nat) : Nat := (s.data.toList.getD j 0).toNat
def lowN (n : Nat) : Nat := if 65 ≤ n ∧ n ≤ 90 then n + 32 else n
/-- The row behind []byte(s), of which the first k bytes are in small letters. -/
def LowRow (s : ByteArray) (g k : Nat) (W : World) : Prop := ∀ j, j < s.size → W.cell? ⟨g, j, none⟩ = some (.int .u8 ((if j < k then lowN (byteN s j) else byteN s j : Nat) : Int)) ∧ W.frozen? ⟨g, j, none⟩ = false

theorem lowRow_zero (w : World) (s : ByteArray) : LowRow s w.heap.size 0 (Lib.bytesWorld w 5 s) := by
  intro j hj
  refine ⟨by rw [Lib.bytesWorld_cell w 5 s j hj]; simp [byteN], ?_⟩
  unfold World.frozen?
  rw [Lib.bytesWorld_at_new]
  have : j < (Lib.bytesCells w 5 s).size := by
    have hd : s.data.size = s.size := rfl
    simp only [Lib.bytesCells, Array.size_append, Array.size_map]; omega
  simp; omega
theorem freeze_os (w : World) (a : Addr) (n : Nat) : (w.freeze a n).os = w.os ∧ (w.freeze a n).tape = w.tape ∧ (w.freeze a n).output = w.output := by
  unfold World.freeze
  split
  · exact ⟨rfl, rfl, rfl⟩
  · exact ⟨rfl, rfl, rfl⟩
theorem bytes_below (w : World) (s : ByteArray) : Below w.heap.size w (Lib.bytesWorld w 5 s) :=
  ⟨(freeze_os _ _ _).1, (freeze_os _ _ _).2.1, (freeze_os _ _ _).2.2, by rw [Lib.bytesWorld_size]; omega, fun k hk => Lib.bytesWorld_at_old w 5 s k hk⟩
theorem lowU_toNat (b : UInt8) : (lowU b).toNat = lowN b.toNat := by
  unfold lowU lowN
  have := b.toNat_lt
  split
  · simp; omega
  · rfl
theorem lowRow_back {W : World} {s : ByteArray} {g : Nat} (h : ∀ j, j < s.size → W.cell? ⟨g, j, none⟩ = some (.int .u8 ((lowN (byteN s j) : Nat) : Int))) (cap : Nat) : (convert 37 9 (.slice (some ⟨g, 0, none⟩) s.size cap)).run Try.prog W = .ok (.string (lowS s)) W := by
  have hl : (s.data.toList.map lowU).length = s.size := by simp
  have := run_convert_bytes_back (P := Try.prog) W 37 9 5 ⟨g, 0, none⟩ cap (s.data.toList.map lowU) Try.underlying37 Try.underlying5 Try.underlying9 (fun j hj => by
    have hj' : j < s.size := by rw [← hl]; exact hj
    have hc := h j hj'
    rw [Addr.add_lit, Nat.zero_add, hc]
    have hd : j < s.data.toList.length := by simpa using hj
    have e : (s.data.toList.map lowU)[j] = lowU (s.data.toList[j]) := by simp
    rw [e, lowU_toNat, byteN, List.getD_eq_getElem?_getD, List.getElem?_eq_getElem hd]
    rfl)
  rw [hl] at this
  exact this
theorem lowRow_skip {W : World} {s : ByteArray} {g k : Nat} (h : LowRow s g k W) (hx : ¬ (65 ≤ byteN s k ∧ byteN s k ≤ 90)) : LowRow s g (k + 1) W := by
  intro j hj
  obtain ⟨h1, h2⟩ := h j hj
  refine ⟨h1.trans ?_, h2⟩
  by_cases e : j = k
  · subst e
    rw [if_neg (Nat.lt_irrefl j), if_pos (Nat.lt_succ_self j), lowN, if_neg hx]
  · by_cases l : j < k
    · rw [if_pos l, if_pos (by omega)]
    · rw [if_neg l, if_neg (by omega)]
theorem lowRow_set {W : World} {s : ByteArray} {g k : Nat} (h : LowRow s g k W) (hk : k < s.size) (hx : 65 ≤ byteN s k ∧ byteN s k ≤ 90) : LowRow s g (k + 1) (W.setCell ⟨g, k, none⟩ (.int .u8 ((byteN s k : Int) + 32))) := by
  intro j hj
  obtain ⟨h1, h2⟩ := h j hj
  refine ⟨?_, by rw [World.frozen?_setCell]; exact h2⟩
  by_cases e : j = k
  · subst e
    rw [World.cell?_setCell_same' _ _ _ (by rw [h1]; rfl), if_pos (Nat.lt_succ_self j), lowN, if_pos hx]
    rfl
  · rw [World.cell?_setCell_other _ _ _ _ (by intro h; simp only [Addr.mk.injEq] at h; omega), h1]
    by_cases l : j < k
    · rw [if_pos l, if_pos (by omega)]
    · rw [if_neg l, if_neg (by omega)]

set_option maxRecDepth 100000 in
set_option maxHeartbeats 8000000 in
theorem lower_in (n : Nat) (s : ByteArray) (hs : s.size ≤ 500) (w : World) :
    CallsIn Fence.wide n Try.prog 38 #[.string s] w fun e w' => e = .returned (.string (lowS s)) ∧ Below w.heap.size w w' := by
  have hconv := Lib.run_convert_string_bytes (P := Try.prog) w 9 37 5 s Try.underlying9 Try.underlying37 Try.underlying5
  refine callsIn_of_wp Try.func38 rfl trivial ?_ rfl
  simp only [Try.ntmps38, List.size_toArray, List.length_cons, List.length_nil, Nat.reduceAdd, Nat.reduceSub, Array.replicate_succ, Array.replicate_zero, List.push_toArray, List.append_toArray, List.nil_append, List.cons_append]
  have row0 : LowRow s w.heap.size 0 (Lib.bytesWorld w 5 s) := lowRow_zero w s
  have hb0 : Below w.heap.size w (Lib.bytesWorld w 5 s) := bytes_below w s
  gi_wp2
  gi_loopw [10] (fun idx wr => ∃ k : Nat, idx = .int .i64 k ∧ k ≤ s.size ∧ LowRow s w.heap.size k wr ∧ Below w.heap.size w wr)
    (fun idx _ => s.size - (intOf idx).toNat)
  case atStart => exact ⟨0, rfl, Nat.zero_le _, row0, hb0⟩
  case round =>
    obtain ⟨k, rfl, hk, hrow, hB⟩ := hrel
    by_cases hlt : k < s.size
    · obtain ⟨hc, hf⟩ := hrow k hlt
      rw [if_neg (Nat.lt_irrefl k)] at hc
      obtain ⟨x, hx⟩ : ∃ x, x = byteN s k := ⟨_, rfl⟩
      rw [← hx] at hc
      have hrow' := Aside0.mk hrow
      have hx' := Aside0.mk hx
      have hx256 : x < 256 := by rw [hx]; exact (s.data.toList.getD k 0).toNat_lt
      clear hrow hx
      by_cases h65 : 65 ≤ x
      · by_cases h90 : x ≤ 90
        · gi_wp2
          go_roundw
          case rel => exact ⟨k + 1, by simp, hlt, by have := lowRow_set hrow'.out hlt (by rw [← hx'.out]; omega); rw [← hx'.out] at this; exact this, hB.setCell (p := ⟨w.heap.size, k, none⟩) (Nat.le_refl _) _⟩
          case measure => simp only [intOf]; omega
        · gi_wp2
          go_roundw
          case rel => exact ⟨k + 1, by simp, hlt, lowRow_skip hrow'.out (by rw [← hx'.out]; omega), hB⟩
          case measure => simp only [intOf]; omega
      · gi_wp2
        go_roundw
        case rel => exact ⟨k + 1, by simp, hlt, lowRow_skip hrow'.out (by rw [← hx'.out]; omega), hB⟩
        case measure => simp only [intOf]; omega
    · obtain rfl : k = s.size := by omega
      have hback := lowRow_back (fun j hj => by have := (hrow j hj).1; rwa [if_pos hj] at this) (grownCap w s.size 0 5)
      gi_wp2
      first
        | (go_ret; exact ⟨rfl, hB⟩)
        | (refine bodyPost_ret (results_tmp rfl _ _ _) rfl ?_; exact ⟨rfl, hB⟩)
end Go.Proofs.Ytccadgnbomgpcaa.Tx
