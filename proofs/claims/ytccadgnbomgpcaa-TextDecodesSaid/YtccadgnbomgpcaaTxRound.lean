-- Whatever bytes, as signs and as bytes again, are from then on the same.
import Derived.Test.YtccadgnbomgpcaaTxPl
namespace Go.Proofs.Ytccadgnbomgpcaa.Tx
theorem dec_bytes_scal {b : List Int} (h : Bytes b) : ∀ c ∈ decL b, Scal c := by
  have hs : Bytes (strip b) := by unfold strip; split; · exact h.drop 3
                                  · exact h
  refine lnL_scal 0 _ fun x hx => ?_
  obtain ⟨p, hp, rfl⟩ := List.mem_map.1 hx
  exact sg_scal 0 _ hs p hp
theorem strip_x (t : List Int) : strip (120 :: t) = 120 :: t := by
  unfold strip
  rw [if_neg]
  intro e
  rw [List.take_succ_cons] at e
  injection e with e1 _
  exact absurd e1 (by decide)
theorem dec_x (t : List Int) : ∃ u, decL (120 :: t) = 120 :: u := by
  rw [decL, strip_x, sg_cons 0 (by simp), show oneL (120 :: t) = (120, 1) from by rw [oneL_cons, if_pos (by decide)]]
  exact ⟨_, rfl⟩
theorem enc_x (u : List Int) : encL (120 :: u) = 120 :: encL u := by
  rw [encL, List.flatMap_cons, show encS (fixS 120) = [120] by decide]; rfl
theorem dec_enc {d : List Int} {u : List Int} (hd : d = 120 :: u) (hs : ∀ c ∈ d, Scal c) (hn : ∀ c ∈ d, c ≠ 13) : decL (encL d) = d := by
  have h1 : strip (encL d) = encL d := by rw [hd, enc_x, strip_x]
  rw [decL, h1, sg_encL]
  have h2 : d.map fixS = d := by
    conv => rhs; rw [← List.map_id d]
    exact List.map_congr_left fun c hc => fixS_id (hs c hc)
  rw [h2]
  exact lnL_id d 0 (by decide) hn
theorem decL_len (b : List Int) : (decL b).length ≤ b.length := by
  have h1 := lnL_len 0 ((sg 0 (strip b)).map (·.2))
  have h2 := sg_len 0 (strip b)
  have h3 : (strip b).length ≤ b.length := by unfold strip; split; · simp
                                              · simp
  rw [List.length_map] at h1
  unfold decL
  omega
end Go.Proofs.Ytccadgnbomgpcaa.Tx
