import Derived.Test.YtccadgnbomgpcaaTx12
import Derived.Test.YtccadgnbomgpcaaTxHead
import Derived.Test.YtccadgnbomgpcaaTxEnc
import Derived.Test.YtccadgnbomgpcaaTxRound
namespace Go.Proofs.Ytccadgnbomgpcaa.Pure
open Go.RowKit Go.Proofs.Ytccadgnbomgpcaa.Tx Go.Proofs.YtccadgnbomgpcaaW.PrintWords Go.Proofs.YtccadgnbomgpcaaW.PrintLast

theorem TextRound : woodcutlaw01_TextRound.Pure := by
  intro l0 _ _ hw
  have hB : Bytes l0 := fun x hx => wf_u8 (hw x hx)
  by_cases hl : (l0.length : Int) > 500
  · refine ⟨0, ?_⟩
    unfold woodcutlaw01_TextRound.f
    rw [head_true, Option.bind_some, if_pos rfl, if_pos hl]
  · have hB1 : Bytes (120 :: l0) := fun x hx => (List.mem_cons.1 hx).elim (fun e => by subst e; decide) (hB x)
    obtain ⟨u, hu⟩ := dec_x l0
    have hs := dec_bytes_scal hB1
    have hn : ∀ c ∈ decL (120 :: l0), c ≠ 13 := lnL_no13 _ _
    have hde := dec_enc hu hs hn
    have hlen := decL_len (120 :: l0)
    obtain ⟨d, hd⟩ : ∃ d, d = decL (120 :: l0) := ⟨_, rfl⟩
    rw [← hd] at hde hu hlen
    have hel := encL_len d
    simp only [List.length_cons] at hlen
    refine ⟨d.length + 5, ?_⟩
    unfold woodcutlaw01_TextRound.f
    rw [head_true, Option.bind_some, if_pos rfl, if_neg hl, Option.bind_some, if_pos (by simp only [List.length_cons, List.length_nil]; omega)]
    rw [show ([120] : List Int) ++ l0 = 120 :: l0 from rfl, decode_of (by simp only [List.length_cons]; omega) hB1, Option.bind_some, ← hd, encode_eq d _ (Nat.le_refl _) (by omega), Option.bind_some,
      decode_of (by omega) (encL_bytes d), Option.bind_some, hde, encode_eq d _ (Nat.le_refl _) (by omega), Option.bind_some, if_pos rfl]
    rw [hu, enc_x]
    have hp : 0 < ((120 :: encL u).length : Int) := by simp only [List.length_cons]; omega
    rw [if_pos hp, if_pos hp]
    rfl

end Go.Proofs.Ytccadgnbomgpcaa.Pure
