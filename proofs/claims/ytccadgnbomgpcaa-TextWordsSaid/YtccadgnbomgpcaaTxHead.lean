-- The law's head at its example: true.
import Derived.Test.YtccadgnbomgpcaaTx3
namespace Go.Proofs.Ytccadgnbomgpcaa.Tx
open Go.RowKit Go.Proofs.YtccadgnbomgpcaaW.PrintWords Go.Proofs.YtccadgnbomgpcaaW.PrintLast Go.Proofs.YtccadgnbomgpcaaW.PrintMore

theorem decode_of {l : List Int} (h : l.length < 1000000) (hB : Bytes l) : text_Decode.f l = some (decL l) := if_pos ⟨h, hB⟩
theorem head_true : woodcutlaw01_head.f = some true := by
  have h1 : oneL [226, 130, 65] = (65533, 2) := by decide
  have h2 : oneL [65] = (65, 1) := by decide
  have h3 : sg 0 [226, 130, 65] = [(0, 65533), (2, 65)] := by
    rw [sg_cons 0 (by simp), h1]
    simp only [List.drop_succ_cons, List.drop_zero, Nat.zero_add]
    rw [sg_cons 2 (by simp), h2]
    simp [sg_nil]
  have h4 : decL [226, 130, 65] = [65533, 65] := by
    have h5 : strip [226, 130, 65] = [226, 130, 65] := by decide
    rw [decL, h5, h3]
    decide
  unfold woodcutlaw01_head.f
  rw [decode_of (by decide) (by decide), h4]
  decide
end Go.Proofs.Ytccadgnbomgpcaa.Tx
