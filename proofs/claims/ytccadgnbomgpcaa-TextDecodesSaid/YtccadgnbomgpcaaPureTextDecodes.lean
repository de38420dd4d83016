import Derived.Test.YtccadgnbomgpcaaTx9
import Derived.Test.YtccadgnbomgpcaaTxHead
import Derived.Test.YtccadgnbomgpcaaTxEnc
import Derived.Test.YtccadgnbomgpcaaTxRef
import Derived.Test.YtccadgnbomgpcaaTxRound
namespace Go.Proofs.Ytccadgnbomgpcaa.Pure
open Go.RowKit Go.Proofs.Ytccadgnbomgpcaa.Tx Go.Proofs.YtccadgnbomgpcaaW.PrintWords Go.Proofs.YtccadgnbomgpcaaW.PrintLast

theorem cmp_l (ws : List Int) (hlen : ws.length < 1000000) (h13 : ∀ c ∈ ws, c ≠ 13) : ∀ (n i k : Nat), i + n = ws.length → n + 1 ≤ k → woodcutlaw01_TextDecodes.l0 k ws ws (ws.length : Int) (i : Int) = some true := by
  intro n
  induction n with
  | zero =>
    intro i k hi hk
    obtain ⟨k, rfl⟩ : ∃ j, k = j + 1 := ⟨k - 1, by omega⟩
    rw [woodcutlaw01_TextDecodes.l0, if_neg (by omega)]
  | succ n ih =>
    intro i k hi hk
    obtain ⟨k, rfl⟩ : ∃ j, k = j + 1 := ⟨k - 1, by omega⟩
    have hlt : i < ws.length := by omega
    obtain ⟨hr, _⟩ := rd_nat (List.getElem_cons_drop hlt).symm
    have hne : rd ws (i : Int) ≠ 13 := by rw [hr]; exact h13 _ (List.getElem_mem hlt)
    have e5 : wrap64 ((i : Int) + 1) = ((i + 1 : Nat) : Int) := by rw [wrap64_id (by omega) (by omega)]; omega
    rw [woodcutlaw01_TextDecodes.l0, if_pos (by clear e5; omega), if_pos (by clear e5; omega), if_pos (by clear e5; omega), if_pos (by clear e5; omega), if_pos rfl, if_neg hne, e5]
    exact ih (i + 1) k (by clear e5; omega) (by clear e5; omega)
theorem strip_no {l : List Int} (h : l.take 3 ≠ [239, 187, 191]) : strip l = l := if_neg h

theorem TextDecodes : woodcutlaw01_TextDecodes.Pure := by
  intro l0 _ _ hw
  have hB : Bytes l0 := fun x hx => wf_u8 (hw x hx)
  by_cases hl : (l0.length : Int) > 1000
  · refine ⟨0, ?_⟩
    unfold woodcutlaw01_TextDecodes.f
    rw [head_true, Option.bind_some, if_pos rfl, if_pos hl]
  · have hdec : text_Decode.f l0 = some (decL l0) := decode_of (by omega) hB
    have hBs : Bytes (strip l0) := by unfold strip; split; · exact hB.drop 3
                                      · exact hB
    have hls : (strip l0).length ≤ l0.length := by unfold strip; split; · simp
                                                   · simp
    have hdl := decL_len l0
    obtain ⟨K, hK⟩ : ∃ K, K = l0.length + 30 := ⟨_, rfl⟩
    have hall : ∀ b, b = strip l0 → woodcutref01_All.f K b = some ((sg 0 b).map (·.2), (sg 0 b).map (fun p => (p.1 : Int))) := fun b e => by subst e; exact all_eq hBs (by omega) K (by omega)
    have hsl := sg_len 0 (strip l0)
    have hlin : woodcutref01_Lines.f K ((sg 0 (strip l0)).map (·.2)) = some (decL l0) := lines_eq _ (by rw [List.length_map]; omega) K (by rw [List.length_map]; omega)
    have hcmp : woodcutlaw01_TextDecodes.l0 K (decL l0) (decL l0) ((decL l0).length : Int) 0 = some true := cmp_l (decL l0) (by omega) (lnL_no13 _ _) (decL l0).length 0 K (by omega) (by omega)
    have tail : ∀ b, b = strip l0 → ((woodcutref01_All.f K b).bind fun bt => ((woodcutref01_Lines.f K bt.1).bind fun t1 => ((text_Decode.f l0).bind fun t2 => (if (t2.length : Int) = (t1.length : Int) then (woodcutlaw01_TextDecodes.l0 K t1 t2 (t2.length : Int) 0) else (some false))))) = some true := by
      intro b e
      rw [hall b e, Option.bind_some]
      subst e
      dsimp only
      rw [hlin, Option.bind_some, hdec, Option.bind_some, if_pos rfl]
      exact hcmp
    refine ⟨K, ?_⟩
    unfold woodcutlaw01_TextDecodes.f
    rw [head_true, Option.bind_some, if_pos rfl, if_neg hl]
    by_cases h3 : (l0.length : Int) ≥ 3
    · have h3' : 3 ≤ l0.length := by omega
      have htk := take3 h3' rfl rfl rfl
      rw [if_pos h3, if_pos (by omega)]
      by_cases q0 : rd l0 0 = 239
      · rw [if_pos q0, if_pos (by omega)]
        by_cases q1 : rd l0 1 = 187
        · rw [if_pos q1, if_pos (by omega)]
          by_cases q2 : rd l0 2 = 191
          · rw [if_pos q2, if_pos (by omega)]
            exact tail _ (by rw [strip, htk, q0, q1, q2, if_pos rfl])
          · rw [if_neg q2]
            exact tail _ (by rw [strip, htk, if_neg (by simp [q2])])
        · rw [if_neg q1]
          exact tail _ (by rw [strip, htk, if_neg (by simp [q1])])
      · rw [if_neg q0]
        exact tail _ (by rw [strip, htk, if_neg (by simp [q0])])
    · rw [if_neg h3]
      exact tail _ (by rw [strip_short (by omega)])

end Go.Proofs.Ytccadgnbomgpcaa.Pure
