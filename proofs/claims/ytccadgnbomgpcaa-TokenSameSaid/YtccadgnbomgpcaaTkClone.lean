/-
  slices.Clone at []token.Attr hands back a new row with the same elements: for every slice of attributes that reads as a list of less than 2^42 elements.
-/
import Derived.Test.YtccadgnbomgpcaaTk0
import Derived.Lib.SliceRun
namespace Go.Proofs.Ytccadgnbomgpcaa.Tk
open Go.RowKit Go.Proofs.YtccadgnbomgpcaaW.PrintWords Go.Proofs.YtccadgnbomgpcaaW.PrintLast Go.Proofs.YtccadgnbomgpcaaW.PrintMore

def token_Attr_50.f (l0 : List S28) : Option (List S28) := if l0.length < 4398046511104 then some l0 else none

theorem clone_reads {w : World} {l0 : List S28} (h : Kd.C k28 w none l0.length l0) : l0 = [] := by
  rcases Nat.eq_zero_or_pos l0.length with h0 | h0
  · exact List.length_eq_zero_iff.1 h0
  · obtain ⟨ad, e, _⟩ := at_T28 h 0 (by omega) (by omega)
    cases e

set_option maxHeartbeats 1000000 in
set_option maxRecDepth 100000 in
theorem token_Attr_50.calls (A0 : Option Addr) (c0 : Nat) (l0 : List S28) (r : List S28) (w : World) (hr0 : Kd.C k28 w A0 l0.length l0) (hc0 : l0.length ≤ c0) (h : token_Attr_50.f l0 = some r) :
    Calls Try.prog 50 #[.slice A0 l0.length c0] w fun e w' => ∃ v0_ : Value, e = .returned (v0_) ∧ Kd.R k28 28 w' w.heap.size (fun _ => True) v0_ r ∧ Below w.heap.size w w' := by
  unfold token_Attr_50.f at h
  by_cases hl : l0.length < 4398046511104
  · rw [if_pos hl] at h
    obtain rfl := Option.some.inj h
    have LM := Aside0.mk hl
    have HR0 := Aside0.mk hr0
    clear h hl
    cases A0 with
    | none =>
      obtain rfl := clone_reads hr0
      clear hr0 hc0 HR0 LM
      have heq := fun w => Lib.run_eql_slice_nil (P := Try.prog) w 22 28 none 0 c0 0 0 Try.underlying22
      go_enter Try.func50, Try.ntmps50
      go_wp2
      go_ret
      exact ⟨_, rfl, Kd.R_nil _ _ _ _ _, Below.refl _ _⟩
    | some a =>
      clear hr0 hc0
      have heq := fun w => Lib.run_eql_slice_nil (P := Try.prog) w 22 28 (some a) l0.length c0 0 0 Try.underlying22
      have HB := Aside0.mk (Below.refl w.heap.size w)
      go_enter Try.func50, Try.ntmps50
      go_wp2_with (first | ((with_reducible refine gate_dst (N := 5) rfl ?_); refine Kd.R_lit k28 _ 28 ?hg (N := 5) ?hd (xs := ([] : List (S28))) (inner := []) (ok := fun _ => True) (okp := fun _ => True) ?hr ?hp (fun _ hk => hk) trivial (Below.refl _ _) (Nat.le_refl _) (by simp) ?_; (case hd => rfl); (case hg => rfl); (case hr => first | (go_simp; done) | (go_simp; rfl)); (case hp => exact (Reps.none _ _)); intro v202 w13 ho14 hb hg_ hnew_; clear hg_ hnew_; have n0_ := Aside0.mk (Kd.R_lower ho14 (Nat.le_refl _)); have n1_ := Aside0.mk (below_step HB.out hb); clear HB; have HO203 := n0_; have HB := n1_; clear n0_ n1_; clear hb ho14) | ((with_reducible refine gate_builtin (b := .append) (xs := #[.tmp 5, .tmp 6]) rfl ?_); at_builtin; refine Kd.R_append_rows k28 (w0 := w) w.heap.size rfl (.tmp 5) (.tmp 6) 22 28 (.agg #[(.string ⟨#[]⟩), (.string ⟨#[]⟩)]) 32 rfl Try.underlying22 info28 rfl (by decide) (by omega) v202 [] l0 _ _ _ (fun _ => True) (fun _ => False) rfl rfl ?aO ?aR (fun _ _ h => h) (fun _ h => h.elim) ?aF ?aB ?aS ?aL ?_; (case aR => exact (Kd.C_below HR0.out HB.out)); (case aB => exact HB.out); (case aF => exact (fun _ _ => trivial)); (case aO => exact HO203.out); (case aS => exact (below_size HB.out)); (case aL => have := LM.out; simp; omega); intro v205 w15 ho hb hg hat; rw [List.nil_append] at ho; have n0_ := Aside0.mk (hb); have n1_ := Aside0.mk (ho); clear HB; clear HO203; have HB := n0_; have HO206 := n1_; clear n0_ n1_; clear ho hb hg hat))
      go_ret
      exact ⟨_, rfl, HO206.out, HB.out⟩
  · rw [if_neg hl] at h
    cases h

end Go.Proofs.Ytccadgnbomgpcaa.Tk
