-- Written by a program of this session (wip/inj.py) over the kit's own print; Lean checks it.
import Derived.Test.YtccadgnbomgpcaaTk0
import Derived.Test.YtccadgnbomgpcaaTkGet
namespace Go.Proofs.Ytccadgnbomgpcaa.Tk
open Go.RowKit Go.Proofs.YtccadgnbomgpcaaW.PrintWords Go.Proofs.YtccadgnbomgpcaaW.PrintLast Go.Proofs.YtccadgnbomgpcaaW.PrintMore
attribute [local go_sem] max2_int min2_int max_two min_two max_three min_three max_four min_four   -- for this text's walks alone
set_option linter.unusedVariables false
set_option linter.unusedSimpArgs false

/-! ### token_Token_Get: function 26 -/
def token_Token_Get.f (a0_0 : Int) (a0_1 : ByteArray) (l0_2 : List (S28)) (a0_3 : Bool) (a0_4 : ByteArray) (a0_5 : ByteArray) (a0_6 : ByteArray) (a0_7 : Bool) (a0_8 : Bool) (a0_9 : Bool) (a1 : ByteArray) : Option (ByteArray × Bool) := (token_Get.f l0_2 a1).bind fun bt188 => (some (bt188.1, bt188.2))
set_option maxHeartbeats 8000000 in
set_option maxRecDepth 100000 in
theorem token_Token_Get.calls (a0_0 : Int) (a0_1 : ByteArray) (A0_2 : Option Addr) (c0_2 : Nat) (l0_2 : List (S28)) (a0_3 : Bool) (a0_4 : ByteArray) (a0_5 : ByteArray) (a0_6 : ByteArray) (a0_7 : Bool) (a0_8 : Bool) (a0_9 : Bool) (a1 : ByteArray) (r1 : ByteArray) (r2 : Bool) (w : World) (hr0_2 : Kd.C k28 w A0_2 l0_2.length l0_2) (hc0_2 : l0_2.length ≤ c0_2) (h : token_Token_Get.f a0_0 a0_1 l0_2 a0_3 a0_4 a0_5 a0_6 a0_7 a0_8 a0_9 a1 = some (r1, r2)) :
    Calls Try.prog 26 #[.agg #[.int .i64 a0_0, .string a0_1, .slice A0_2 l0_2.length c0_2, .bool a0_3, .string a0_4, .string a0_5, .string a0_6, .bool a0_7, .bool a0_8, .bool a0_9], .string a1] w fun e w' => e = .returned (.tuple #[.string r1, .bool r2]) ∧ Below w.heap.size w w' := by
  have hu24 := Try.underlying24
  have HR0_2 := Aside0.mk hr0_2
  have HC0_2 := Aside0.mk hc0_2
  clear hr0_2 hc0_2
  have HB := Aside0.mk (Below.refl w.heap.size w)
  have H : ((token_Get.f l0_2 a1).bind fun bt188 => (some (bt188.1, bt188.2))) = some (r1, r2) := h
  clear h
  replace H := Option.bind_eq_some_iff.mp H
  obtain ⟨⟨t188, t189⟩, A30, H⟩ := H
  replace H : (some (t188, t189)) = some (r1, r2) := H
  have A3 := Aside0.mk A30
  clear A30
  simp only [Option.some.injEq, Prod.mk.injEq] at H
  obtain ⟨rfl, rfl⟩ := H
  go_enter Try.func26, Try.ntmps26
  go_wp2_with (first | ((with_reducible refine gate_dst (N := 2) rfl ?_); refine box_event ?hg (N := 2) ?hd (cs := #[.int .i64 a0_0, .string a0_1, .slice A0_2 l0_2.length c0_2, .bool a0_3, .string a0_4, .string a0_5, .string a0_6, .bool a0_7, .bool a0_8, .bool a0_9]) (t := 24) ?hr ?_; (case hd => rfl); (case hg => rfl); (case hr => first | (go_simp; done) | (go_simp; rfl)); intro gb187 hg w4 hbox hb; have n0_ := Aside0.mk (below_step (by repeat (first | (with_reducible first | exact HB.out | apply below_alloc | apply pw_below_drewN | apply below_drew1) | exact HB.out)) hb); have n1_ := Aside0.mk (hbox); have n2_ := Aside0.mk ((by rw [hg]; exact (below_size (by repeat (first | (with_reducible first | exact HB.out | apply below_alloc | apply pw_below_drewN | apply below_drew1) | exact HB.out))) : w.heap.size ≤ gb187)); have n3_ := Aside0.mk ((by rw [hg]; exact (below_size (by repeat (first | (with_reducible first | exact HB.out | apply below_alloc | apply pw_below_drewN | apply below_drew1) | exact HB.out))) : w.heap.size ≤ gb187)); clear HB; have HB := n0_; have BK187 := n1_; have GW187 := n2_; have GE187 := n3_; clear n0_ n1_ n2_ n3_; clear hb hbox hg; have hcz5_0 : w4.cell? ⟨gb187, 0, none⟩ = some (.int .i64 a0_0) := (blk_cell BK187.out 0).trans rfl; have hcz5_1 : w4.cell? ⟨gb187, 1, none⟩ = some (.string a0_1) := (blk_cell BK187.out 1).trans rfl; have hcz5_2 : w4.cell? ⟨gb187, 2, none⟩ = some (.slice A0_2 l0_2.length c0_2) := (blk_cell BK187.out 2).trans rfl; have hcz5_3 : w4.cell? ⟨gb187, 3, none⟩ = some (.bool a0_3) := (blk_cell BK187.out 3).trans rfl; have hcz5_4 : w4.cell? ⟨gb187, 4, none⟩ = some (.string a0_4) := (blk_cell BK187.out 4).trans rfl; have hcz5_5 : w4.cell? ⟨gb187, 5, none⟩ = some (.string a0_5) := (blk_cell BK187.out 5).trans rfl; have hcz5_6 : w4.cell? ⟨gb187, 6, none⟩ = some (.string a0_6) := (blk_cell BK187.out 6).trans rfl; have hcz5_7 : w4.cell? ⟨gb187, 7, none⟩ = some (.bool a0_7) := (blk_cell BK187.out 7).trans rfl; have hcz5_8 : w4.cell? ⟨gb187, 8, none⟩ = some (.bool a0_8) := (blk_cell BK187.out 8).trans rfl; have hcz5_9 : w4.cell? ⟨gb187, 9, none⟩ = some (.bool a0_9) := (blk_cell BK187.out 9).trans rfl; have hfz5_0 := blk_frozen BK187.out 0; have hfz5_1 := blk_frozen BK187.out 1; have hfz5_2 := blk_frozen BK187.out 2; have hfz5_3 := blk_frozen BK187.out 3; have hfz5_4 := blk_frozen BK187.out 4; have hfz5_5 := blk_frozen BK187.out 5; have hfz5_6 := blk_frozen BK187.out 6; have hfz5_7 := blk_frozen BK187.out 7; have hfz5_8 := blk_frozen BK187.out 8; have hfz5_9 := blk_frozen BK187.out 9) | ((with_reducible refine gate_callee (f := 25) rfl ?_); refine goesL_ (some 9) rfl rfl Try.func25 (by kernel_rfl) rfl #[.slice A0_2 l0_2.length c0_2, .string a1] rfl (by (try simp only [List.map_toArray, List.map_cons, List.map_nil]); first | done | rfl | (simp only [List.length_drop, List.length_take]; rfl)) ?_; (with_reducible refine (token_Get.calls _ _ l0_2 a1 t188 t189 _ ?side1 ?side2 A3.out).mono ?_); (case side1 => repeat (first | exact (Kd.C_below HR0_2.out HB.out) | (with_reducible refine Kd.C_alloc ?_ _) | (with_reducible refine Kd.C_drewN ?_ _) | (with_reducible refine Kd.C_drew ?_))); (case side2 => exact HC0_2.out); rintro e w6 ⟨rfl, hb⟩; refine ⟨_, rfl, ?_⟩; have n0_ := Aside0.mk (blk_below (g := gb187) (o := .cells #[.int .i64 a0_0, .string a0_1, .slice A0_2 l0_2.length c0_2, .bool a0_3, .string a0_4, .string a0_5, .string a0_6, .bool a0_7, .bool a0_8, .bool a0_9] 24 (0, 0)) (by (with_reducible repeat (first | refine blk_drewN ?_ _ | refine blk_drew ?_ | refine blk_alloc ?_ _)); exact BK187.out) hb); have n1_ := Aside0.mk (below_step (by repeat (first | (with_reducible first | exact HB.out | apply below_alloc | apply pw_below_drewN | apply below_drew1 | refine below_set ?_ GE187.out) | exact HB.out)) hb); clear BK187; clear HB; have BK187 := n0_; have HB := n1_; clear n0_ n1_; (try clear hb); (try clear hb2); (try clear hk); (try clear hi)))
  go_ret2
  exact ⟨by first | rfl | (simp [errW_none, errW_some] <;> rfl) | (simp [*, errW_none, errW_some] <;> rfl), by repeat (first | (with_reducible first | exact HB.out | apply below_alloc | apply pw_below_drewN | apply below_drew1 | refine below_set ?_ GE187.out) | exact HB.out)⟩

end Go.Proofs.Ytccadgnbomgpcaa.Tk
