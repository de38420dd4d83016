-- text.Put at a marked literal of one byte; the reference's Bytes is encS.
import Derived.Lib.SlBytesConst
import Derived.RangeFuncRecord
import Derived.Maps.AppendAt
import Derived.Deep.DeepMust
import Derived.Test.YtccadgnbomgpcaaTx23
import Derived.Test.YtccadgnbomgpcaaTxEnc
namespace Go.Proofs.Ytccadgnbomgpcaa.Tx
open Go.RowKit Go.Proofs.YtccadgnbomgpcaaW.PrintWords Go.Proofs.YtccadgnbomgpcaaW.PrintLast Go.Proofs.YtccadgnbomgpcaaW.PrintMore
set_option linter.unusedVariables false
set_option linter.unusedSimpArgs false

theorem ownsRow_succ2 {W : World} {base : Nat} {e : TypeId} {size : Nat} {v : Value} {k : Nat} {xs : List Value} (h : W.ownsRow base e size v (1 + k) xs) : ∃ g cap, v = .slice (some ⟨g, 0, none⟩) (1 + k) cap := by
  rcases h.2 with ⟨_, h0⟩ | ⟨g, cap, _, rfl, _⟩
  · omega
  · exact ⟨g, cap, rfl⟩
theorem own_weak2 {W : World} {base base' e size k : Nat} {v : Value} {xs : List Value} (hr : W.ownsRow base e size v k xs) (h : base' ≤ base) : W.ownsRow base' e size v k xs := by
  obtain ⟨h0, h1 | ⟨g, cap, cur, h1, hb, h2⟩⟩ := hr
  · exact ⟨h0, .inl h1⟩
  · exact ⟨h0, .inr ⟨g, cap, cur, h1, Nat.le_trans h hb, h2⟩⟩
theorem marked_a (W0 : World) : (W0.alloc (.cells #[.int .u8 97] 5 (1, 2))).cell? ⟨W0.heap.size, 0, none⟩ = some (.int .u8 97) := by
  have h := World.alloc_heap_new W0 (.cells #[.int .u8 97] 5 (1, 2))
  unfold World.cell?
  rw [h]
  rfl
set_option maxRecDepth 100000 in
set_option maxHeartbeats 4000000 in
theorem put_a (W0 : World) : Calls Try.prog 32 #[.slice (some ⟨W0.heap.size, 0, none⟩) 1 1, .int .i32 98] (W0.alloc (.cells #[.int .u8 97] 5 (1, 2))) fun e w' =>
    ∃ v, e = .returned v ∧ w'.ownsRow W0.heap.size 5 1 v 2 [.int .u8 97, .int .u8 98] ∧ Below W0.heap.size W0 w' := by
  obtain ⟨i, hi, hz0, hz1, hz2⟩ := info_parts info5
  have hb0 : Below W0.heap.size W0 (W0.alloc (.cells #[.int .u8 97] 5 (1, 2))) := (Below.refl _ W0).alloc (Nat.le_refl _) _
  have hm := marked_a W0
  obtain ⟨W1, hW1⟩ : ∃ W1, W0.alloc (.cells #[.int .u8 97] 5 (1, 2)) = W1 := ⟨_, rfl⟩
  rw [hW1] at hb0 hm ⊢
  have hs := hb0.size
  have hlt : W0.heap.size < W1.heap.size := by rw [← hW1]; simp
  clear hW1
  have hm2 : ∀ b : Addr, (some ⟨W0.heap.size, 0, none⟩ : Option Addr) = some b → ∀ j u, [Value.int .u8 97][j]? = some u → (W1.alloc (.cells #[.int .u8 98] 5)).cell? (b.add j) = some u := by
    rintro b e j u hj
    cases e
    have hj0 : j = 0 := by
      have := (List.getElem?_eq_some_iff.1 hj).1
      simp at this; exact this
    subst hj0
    simp at hj
    subst hj
    rw [Addr.add_zero']
    exact (((Below.refl W1.heap.size W1).alloc (Nat.le_refl _) (.cells #[.int .u8 98] 5)).cell (p := ⟨W0.heap.size, 0, none⟩) hlt).trans hm
  have hm2' := Aside0.mk hm2
  have hb0' := Aside0.mk hb0
  clear hm2 hm hb0
  go_enter Try.func32, Try.ntmps32
  go_wp2_with ((with_reducible refine gate_builtin (b := .append) (xs := #[.tmp 25, .tmp 28]) rfl ?_); at_builtin; refine wpList_append_grows _ rfl (.tmp 25) (.tmp 28) 37 rfl 5 i (.int .u8 0) 1 1 Try.underlying37 hi hz0 hz1 hz2 rfl (by decide) (some ⟨W0.heap.size, 0, none⟩) 1 1 [.int .u8 97] rfl (by simp) rfl hm2'.out ⟨W1.heap.size, 0, none⟩ 1 1 [.int .u8 98] rfl rfl (cell_one_new _ _ _) (by simp [Value.oneCell']) (by omega) (by decide) (by decide) ?_; intro v' w' hown hgrow; obtain ⟨g', cap', rfl⟩ := ownsRow_succ2 hown)
  go_ret
  refine ⟨_, rfl, own_weak2 hown (by simp; omega), ?_⟩
  exact (hb0'.out.alloc (by omega) _).grown hgrow (by simp; omega) (by simp)
end Go.Proofs.Ytccadgnbomgpcaa.Tx
